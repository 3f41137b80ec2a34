/- Lemmas for the claim, part 4. -/
import Derived.Test.YtaholidehobiiaaGreatDoorQ3
set_option maxRecDepth 100000
set_option maxHeartbeats 8000000
namespace Go.Proofs.YtaholidehobiiaaGreatDoor
open Go.RowKit Go.Eng Go.Nw Go.Rt
variable {A:Option Addr}{cap B:Nat}{w0 w:World}{H:List HP}
theorem Vj(l:List Int)(hlen:l.length<=1000)(hr:Rd B w0 H A (l.flatMap numF))(hw:St B w0 H w):
 Calls Tryz.prog 167 [.slice A l.length cap].toArray w (Post B w0 λv K=>∃A' cap',v=.slice A' l.length cap'/\K=sl 3 1 A' l.length cap' (l.flatMap numF)::H):=by
 cases A with
 |none=>
  have hl:l=[]:=by
   cases l with
   |nil=>rfl
   |cons x l=>
    obtain⟨g,o,e,_⟩:=hr w hw 0 _ rfl
    cases e
  subst hl
  refine Yc Tryz.func167 Tryz.ntmps167 rfl rfl hw ?_
  repeat'(first|(apply YW;(iterate 3 exact rfl))|refine zgb ?_|fail)
  apply XT 3 1;apply Yd;exact rfl;exact rfl;exact⟨none,0,rfl,rfl⟩
 |some a=>
  refine Yc Tryz.func167 Tryz.ntmps167 rfl rfl hw ?_
  repeat'(first|(apply YW;(iterate 3 exact rfl))|(apply Xe T;exact rfl;exact rfl;intro g2)|refine zgb ?_|fail)
  apply XA T (f:=numF) (l2:=l) (e:=3) (size:=1) (xs:=[]);(iterate 3 exact rfl);exact hr.cons;exact(λ_=>rfl);exact(λ_=>rfl);exact rfl;(intro _ _;exact zd);omega;intro A' cap'
  repeat'(first|refine zga ?_|fail)
  rw[Ry,TK]
  apply Yd;exact rfl;exact rfl;exact⟨A',cap',rfl,rfl⟩
theorem WI(l:List Int)(hlen:l.length<=1000)(hr:Rd B w0 H A (l.flatMap numF))(hw:St B w0 H w):
 Calls Tryz.prog 164 [.slice A l.length cap].toArray w (Post B w0 λv K=>∃A' cap',v=.slice A' l.length cap'/\K=sl 3 1 A' l.length cap' (l.flatMap numF)::H):=by
 cases A with
 |none=>
  have hl:l=[]:=by
   cases l with
   |nil=>rfl
   |cons x l=>
    obtain⟨g,o,e,_⟩:=hr w hw 0 _ rfl
    cases e
  subst hl
  refine Yc Tryz.func164 Tryz.ntmps164 rfl rfl hw ?_
  repeat'(first|(apply YW;(iterate 3 exact rfl))|refine zgb ?_|fail)
  apply XT 3 1;apply Yd;exact rfl;exact rfl;exact⟨none,0,rfl,rfl⟩
 |some a=>
  refine Yc Tryz.func164 Tryz.ntmps164 rfl rfl hw ?_
  repeat'(first|(apply YW;(iterate 3 exact rfl))|(apply Xe T;exact rfl;exact rfl;intro g2)|refine zgb ?_|fail)
  apply XA T (f:=numF) (l2:=l) (e:=3) (size:=1) (xs:=[]);(iterate 3 exact rfl);exact hr.cons;exact(λ_=>rfl);exact(λ_=>rfl);exact rfl;(intro _ _;exact zd);omega;intro A' cap'
  repeat'(first|refine zga ?_|fail)
  rw[Ry,TK]
  apply Yd;exact rfl;exact rfl;exact⟨A',cap',rfl,rfl⟩
theorem YbP(l:List RowM)(hlen:l.length<=1000)(hr:Rd B w0 H A (l.flatMap rowF))(hw:St B w0 H w):
 Calls Tryz.prog 165 [.slice A l.length cap].toArray w (Post B w0 λv K=>∃A' cap',v=.slice A' l.length cap'/\K=sl 24 1 A' l.length cap' (l.flatMap rowF)::H):=by
 cases A with
 |none=>
  have hl:l=[]:=by
   cases l with
   |nil=>rfl
   |cons x l=>
    obtain⟨g,o,e,_⟩:=hr w hw 0 _ rfl
    cases e
  subst hl
  refine Yc Tryz.func165 Tryz.ntmps165 rfl rfl hw ?_
  repeat'(first|(apply YW;(iterate 3 exact rfl))|refine zgb ?_|fail)
  apply XT 24 1;apply Yd;exact rfl;exact rfl;exact⟨none,0,rfl,rfl⟩
 |some a=>
  refine Yc Tryz.func165 Tryz.ntmps165 rfl rfl hw ?_
  repeat'(first|(apply YW;(iterate 3 exact rfl))|(apply Xe T;exact rfl;exact rfl;intro g2)|refine zgb ?_|fail)
  apply XA T (f:=rowF) (l2:=l) (e:=24) (size:=1) (xs:=[]);(iterate 3 exact rfl);exact hr.cons;exact(λ_=>rfl);exact(λ_=>rfl);exact rfl;(intro _ _;exact zd);omega;intro A' cap'
  repeat'(first|refine zga ?_|fail)
  rw[Ry,TK]
  apply Yd;exact rfl;exact rfl;exact⟨A',cap',rfl,rfl⟩
abbrev clA(g:Nat)(c:ClM):HP:=blk g (.cells #[.int .i64 c.flow,.slice c.rA c.rs.length c.rcap,.slice c.bA c.bs.length c.bcap,.slice c.wA c.ws.length c.wcap,.slice c.sA c.ss.length c.scap] 132 (0,0))
theorem YiJ(e:Nat)(A:Option Addr)(cap:Nat)(l:List RowM)(r:RowM):sl e 1 A (l.length+1) cap (l.flatMap rowF++#[Value.slice r.A r.xs.length r.cap].toList)=sl e 1 A (l++[r]).length cap ((l++[r]).flatMap rowF):=by simp[List.flatMap_append,rowF]
theorem OI(f:RowM->HP)(l:List RowM)(r:RowM)(H:List HP):Perm (f r::many (l.map f)::H) (many ((l++[r]).map f)::H):=by
 have:=Perm.push (f r) (l.map f) [] H
 rw[TM]at this
 rw[T8]
 exact this
theorem Yho{S:Int->Option (List Int)}{len per:Int}{N:Nat}(hS:∀a l,S a=some l->l.length<=N):∀{k:Nat}{rel:Int}{b0 b:Int×Int×List Int},b0.2.2.length<=N->UN S len per k rel b0=some b->b.2.2.length<=N
 |0,rel,b0,b,h0,h=>by
  unfold UN at h
  rw[<-Tz h];exact h0
 |k+1,rel,b0,b,h0,h=>by
  unfold UN at h
  split at h
  ·rw[<-Tz h];exact h0
  cases hs:S rel with
  |none=>rw[hs]at h;cases h
  |some l=>
   rw[hs]at h
   refine Yho hS ?_ h
   split
   ·show(l.map _).length<=N
    rw[Tv];exact hS _ _ hs
   ·exact h0
theorem Ymu{x:WayM}(hok:UK x){b:Int×Int×List Int}(h:ZG x.n.net x.s.sch x.f x.r=some b):b.2.2.length<=72:=by
 have hl:=hok.len
 refine Yho (λa l hs=>?_) (Tu _) h
 rw[YaX]at hs
 split at hs
 ·cases hs
 rw[<-Tz hs,Tv]
 have h1:(runW x a).length<=X0 (Yr x.n.net x.r):=Ygv _ _ _ _ _
 have h2:=YbZ hok (Yr x.n.net x.r).length
 rw[TY,Wr]at h2
 omega
structure M8(xs:List Int) where
 A1:Option Addr
 c1:Nat
 r:RowM
 hr:r.xs=xs
 A3:Option Addr
 c3:Nat
structure CkM where
 i:Nat
 c:ClM
def ClM.lens(c:ClM):Prop:=(c.rs.length<=1000/\c.bs.length<=1000/\c.ws.length<=1000/\c.ss.length<=1000)/\(∀r∈c.rs,r.xs.length<=1000)/\∀r∈c.ss,r.xs.length<=1000
theorem Yjv(n:NetM)(s:SchM)(x:RqM)(ht:TabsB B w0)(hin:n.In B w0 H)(hrs:Rd B w0 H s.A (s.cells.flatMap celF))(hsl:s.cells.length<=1000000000000)(hx:x.In B w0 H)(hr9:x.rows.length<=9)(hw:St B w0 H w):
 Calls Tryz.prog 177 [n.val,s.val,rqV x].toArray w (Post B w0 λv K=>∃c:ClM,v=.tuple #[clV c,.bool (!(JC n.net s.sch x.rq))]/\(JC n.net s.sch x.rq=false->c.clm=clmE n.net s.sch x.rq/\c.lens)/\K=clQ c::H):=by
 refine Yc Tryz.func177 Tryz.ntmps177 rfl rfl hw ?_
 have e1:x.rq.1=x.f:=rfl
 have p1:=λ{H':List HP}{w:World}(r:RowM) (hr:r∈x.rows) (hin:n.In B w0 H') (hrs:Rd B w0 H' s.A (s.cells.flatMap celF)) (hx:x.In B w0 H') (hw:St B w0 H' w)=>Ydt ⟨n,s,x.f,r.A,r.cap,r.xs⟩ ht ⟨hin,hrs,hx.rw_ r hr,hsl,(hx.rl r hr).1,(hx.rl r hr).2⟩ hw
 unfold NetM.val SchM.val rqV
 repeat'(first|refine zgd ?_|(refine zgh ?_;intro _)|fail)
 rename_i g3 g4 g5 g6 g8
 have hln:x.rq.2=x.rows.map (·.xs):=rfl
 obtain⟨P,hP⟩:∃P,badR n.net s.sch x.f=P:=⟨_,rfl⟩
 have hla:JC n.net s.sch x.rq=(x.rows.map (·.xs)).any P:=by unfold JC;rw[hln,e1,hP]
 rw[hla]
 refine Yi (λz:CkM=>[(22,.int .i64 (z.i:Nat)),(21,.int .i64 x.rows.length),(20,.slice x.A x.rows.length x.cap),(8,.pointer (some ⟨g8,0,none⟩)),(6,.pointer (some ⟨g6,0,none⟩)),(5,.pointer (some ⟨g5,0,none⟩)),(4,.pointer (some ⟨g4,0,none⟩)),(3,.pointer (some ⟨g3,0,none⟩))]) (λz=>clA g8 z.c::clQ z.c::clA g6 (nilC 0)::rqA g5 x::schA g4 s::netA g3 n::H)
  (λz=>z.i<=x.rows.length/\z.c.clm=YhA n.net s.sch x.rq ((x.rows.take z.i).map (·.xs))/\z.c.lens/\((x.rows.take z.i).map (·.xs)).any P=false) (λz=>x.rows.length-z.i) ⟨0,nilC x.f.1⟩ ⟨Tu _,rfl,⟨by unfold nilC;simp,by unfold nilC;simp,by unfold nilC;simp⟩,by simp⟩ ?_ ?_ ?_
 ·exact zu
 ·intro w hw
  have h1:=Yio x.f.1 hw
  have h2:St B w0 (clQ (nilC x.f.1)::clA g8 (nilC x.f.1)::clA g6 (nilC 0)::rqA g5 x::schA g4 s::netA g3 n::H) w:=h1
  clear hw h1
  revert w
  exact zk
 rintro⟨i,c⟩ ⟨hi,hcm,hlen,hno⟩ K hK
 dsimp only at hi hcm hlen hno⊢
 have hrt:Rd B w0 (clA g8 c::clQ c::clA g6 (nilC 0)::rqA g5 x::schA g4 s::netA g3 n::H) x.A (x.rows.flatMap rowF):=hx.rt.cons.cons.cons.cons.cons.cons
 by_cases hlt:i<x.rows.length
 rotate_left
 ·obtain rfl:i=x.rows.length:=by omega
  rw[TY]at hcm hno
  rw[hno]
  clear hK
  repeat'(first|refine zgc ?_|(refine zge ?_ ?_<;>intro _<;>try exact zo)|fail)
  apply Yv T (H2:=clQ c::H);(iterate 3 exact rfl);exact zm;exact rfl;exact rfl;exact zk
  exact⟨c,rfl,λ_=>⟨hcm,hlen⟩,rfl⟩
 obtain⟨r,hr⟩:∃r,x.rows[i]? =some r:=⟨_,Ta hlt⟩
 have hrm:=Tf hr
 have hri:=hx.rw_ r hrm
 have p2:=λ{H':List HP}{w:World}(hin:n.In B w0 H') (hrs:Rd B w0 H' s.A (s.cells.flatMap celF)) (hx:x.In B w0 H') (hw:St B w0 H' w)=>p1 r hrm hin hrs hx hw
 dsimp only at p2
 obtain⟨⟨⟨m,wst,sx⟩,e⟩,hRt⟩:∃z,YV n.net s.sch x.f r.xs=z:=⟨_,rfl⟩
 rw[hRt]at p2
 dsimp only at p2
 unfold flwV at p2
 repeat'(first|(apply Ye T;exact rfl;exact zm;exact rfl;exact zv;exact rfl;exact rfl)|refine zgd ?_|(refine zge ?_ ?_<;>intro _<;>try exact zo)|fail)
 apply Yh _ YrZ
 exact za
 exact rfl
 exactλ_ hw=>(p2 (hin.mono zk) (hrs.mono zk) (hx.mono zk) (hw))
 rintro _ _ ⟨A2,cap2,rfl,rfl⟩
 have hPr:P r.xs=decide (e≠0\/x.f.2.2.2.2.2<m):=by rw[<-hP];unfold badR;rw[hRt]
 by_cases hbad:e≠0\/x.f.2.2.2.2.2<m
 ·rw[Tc hbad]at hPr
  have hany:(x.rows.map (·.xs)).any P=true:=Rk.2 ⟨r.xs,SO hrm,hPr⟩
  rw[hany]
  clear hK
  by_cases he0:e=0
  all_goals(
   repeat'(first|refine zgd ?_|(refine zgf ?_ ?_<;>intro _<;>try exact zo)|fail)
   apply Yv T (H2:=clQ (nilC 0)::H);(iterate 3 exact rfl);exact zm;exact rfl;exact rfl
   ·intro w hw
    have h5:St B w0 H w:=by
     revert w
     exact zk
    exact Yio 0 h5
   exact⟨nilC 0,rfl,(λh=>by cases h),rfl⟩)
 rw[Tn hbad]at hPr
 have he0:e=0:=Np λh=>hbad (.inl h)
 have hml:m<=x.f.2.2.2.2.2:=by omega
 subst he0
 obtain⟨hri9,hsx9⟩:r.xs.length<=9/\sx.length<=72:=by
  have h0:(YV n.net s.sch x.f r.xs).2=0:=by rw[hRt]
  obtain⟨h1,b,h2,h3⟩:=Yag h0
  have hok:=Yb5 (x:=⟨n,s,x.f,r.A,r.cap,r.xs⟩) h1
  have h4:=Ymu hok h2
  rw[hRt]at h3
  injection h3 with h3 _
  rw[<-h3]at h4
  exact⟨hok.len.2,h4⟩
 have hinv:∀(A1:Option Addr) (c1:Nat) (r8:RowM) (_:r8.xs=r.xs) (A3:Option Addr) (c3:Nat) (A4:Option Addr) (c4:Nat) (A5:Option Addr) (c5:Nat),(i+1<=x.rows.length/\(ClM.mk c.flow A1 c1 (c.rs++[r8]) A3 c3 (c.bs++[m]) A4 c4 (c.ws++[wst]) A5 c5 (c.ss++[⟨A2,cap2,sx⟩])).clm=YhA n.net s.sch x.rq ((x.rows.take (i+1)).map (·.xs))/\(ClM.mk c.flow A1 c1 (c.rs++[r8]) A3 c3 (c.bs++[m]) A4 c4 (c.ws++[wst]) A5 c5 (c.ss++[⟨A2,cap2,sx⟩])).lens/\((x.rows.take (i+1)).map (·.xs)).any P=false):=by
  intro A1 c1 r8 hr8 A3 c3 A4 c4 A5 c5
  have hst:(x.rows.take (i+1)).map (·.xs)=(x.rows.take i).map (·.xs)++[r.xs]:=by
   rw[TF,hr,RI,T8];rfl
  have hli:((x.rows.take i).map (·.xs)).length=i:=by rw[Tv,TD];omega
  rw[hst]
  unfold ClM.clm YhA at hcm
  injection hcm with f1 f2 f3 f4 f5
  have l1:c.rs.length=i:=by rw[<-hli,<-f2,Tv]
  have l2:c.bs.length=i:=by rw[f3,Tv,hli]
  have l3:c.ws.length=i:=by rw[f4,Tv,hli]
  have l4:c.ss.length=i:=by
   have:=TU List.length f5
   rw[Tv,Tv,hli]at this
   exact this
  refine⟨by omega,?_,⟨?_,?_,?_⟩,?_⟩
  ·unfold ClM.clm YhA
   simp only[T8,Re,N5,hr8,f1,f2,f3,f4,f5,e1,hRt]
  ·simp only[Tj,TS,RD,l1,l2,l3,l4]
   omega
  ·intro q hq
   rcases TT.1 hq with h|h
   ·exact hlen.2.1 q h
   ·rw[TJ.1 h,hr8];omega
  ·intro q hq
   rcases TT.1 hq with h|h
   ·exact hlen.2.2 q h
   ·rw[TJ.1 h];show sx.length<=1000;omega
  ·rw[SV,hno]
   simp[hPr]
 repeat'(first|refine zgc ?_|(refine zgf ?_ ?_<;>intro _<;>try exact zo)|fail)
 refine Jf (nrs A2 cap2 sx::clA g8 c::sl 93 1 c.rA c.rs.length c.rcap (c.rs.flatMap rowF)::many (c.rs.map rowQ)::nrs c.bA c.bcap c.bs::nrs c.wA c.wcap c.ws::sl 24 1 c.sA c.ss.length c.scap (c.ss.flatMap rowF)::many (c.ss.map rowQ)::clA g6 (nilC 0)::rqA g5 x::schA g4 s::netA g3 n::H) (λw hw=>hw.perm (.cons _ (.cons _ (.open_ (clP c) _)))) ?_
 have hl1:=hlen.1
 refine J4 (λz:M8 r.xs=>[(22,.int .i64 (i:Nat)),(21,.int .i64 x.rows.length),(20,.slice x.A x.rows.length x.cap),(8,.pointer (some ⟨g8,0,none⟩)),(6,.pointer (some ⟨g6,0,none⟩)),(5,.pointer (some ⟨g5,0,none⟩)),(4,.pointer (some ⟨g4,0,none⟩)),(3,.pointer (some ⟨g3,0,none⟩)),(13,.slice A2 sx.length cap2),(12,.int .i64 wst)])
  (λz=>nrs A2 cap2 sx::blk g8 (.cells #[.int .i64 c.flow,.slice z.A1 (c.rs++[z.r]).length z.c1,.slice z.A3 (c.bs++[m]).length z.c3,.slice c.wA c.ws.length c.wcap,.slice c.sA c.ss.length c.scap] 132 (0,0))::sl 93 1 z.A1 (c.rs++[z.r]).length z.c1 ((c.rs++[z.r]).flatMap rowF)::many ((c.rs++[z.r]).map rowQ)::nrs z.A3 z.c3 (c.bs++[m])::nrs c.wA c.wcap c.ws::sl 24 1 c.sA c.ss.length c.scap (c.ss.flatMap rowF)::many (c.ss.map rowQ)::clA g6 (nilC 0)::rqA g5 x::schA g4 s::netA g3 n::H) ?_ ?_
 ·intro K8 hK8
  apply Qx (.n1 0 (.n1 1 (.n1 2 (.n1 6 (.n1 7 (.n1 8 (.n2 3 (.n2 4 (.n2 5 (.n1 11 (.n1 9 (.n1 10 .done))) 9 (.n1 5 (.n1 11 (.n1 10 .done)))) 9 (.n1 4 (.n1 5 (.n1 11 (.n1 10 .done))))) 9 (.n1 3 (.n1 4 (.n1 5 (.n1 11 (.n1 10 .done)))))))))))) [12,13,14] [false,true]
  kernel_rfl
  kernel_rfl
  exact zy
  (simp only[Yg,nthO];rfl)
  repeat'(first|((apply Yh _ YoV);exact za;exact rfl;exactλ_ hw=>Vj r.xs (by omega) (hri.mono zk) hw;rintro _ _ ⟨A8,cap8,rfl,rfl⟩)|(apply YkT;(simp only[nthO];rfl);(simp only[nthO];rfl))|(apply YkS;(simp only[nthO];rfl))|(apply QD;try exact zl)|(apply Yk;try exact zl)|refine zgd ?_|(refine zgh ?_;intro _)|(refine zgi ?_;intro _ _)|fail)
  all_goals(
   first
    |(rename_i A1 c1 g A3 c3;guard_hyp g:Nat;guard_hyp A1:Option Addr)
    |(rename_i A1 c1 A3 c3;guard_hyp A1:Option Addr)
   refine hK8 ⟨A1,c1,⟨A8,cap8,r.xs⟩,rfl,A3,c3⟩ _ _ zu ?_
   intro w hw
   have q1:sl 93 1 A1 (c.rs.length+1) c1 (c.rs.flatMap rowF++#[Value.slice A8 r.xs.length cap8].toList)=sl 93 1 A1 (c.rs++[(⟨A8,cap8,r.xs⟩:RowM)]).length c1 ((c.rs++[(⟨A8,cap8,r.xs⟩:RowM)]).flatMap rowF):=YiJ _ _ _ _ ⟨A8,cap8,r.xs⟩
   rw[q1,Q7,show c.rs.length+1=(c.rs++[(⟨A8,cap8,r.xs⟩:RowM)]).length by simp,show c.bs.length+1=(c.bs++[m]).length by simp]at hw
   have h5:St B w0 (nrs A2 cap2 sx::blk g8 (.cells #[.int .i64 c.flow,.slice A1 (c.rs++[(⟨A8,cap8,r.xs⟩:RowM)]).length c1,.slice A3 (c.bs++[m]).length c3,.slice c.wA c.ws.length c.wcap,.slice c.sA c.ss.length c.scap] 132 (0,0))::sl 93 1 A1 (c.rs++[(⟨A8,cap8,r.xs⟩:RowM)]).length c1 ((c.rs++[(⟨A8,cap8,r.xs⟩:RowM)]).flatMap rowF)::sl 3 1 A8 r.xs.length cap8 (r.xs.flatMap numF)::many (c.rs.map rowQ)::nrs A3 c3 (c.bs++[m])::nrs c.wA c.wcap c.ws::sl 24 1 c.sA c.ss.length c.scap (c.ss.flatMap rowF)::many (c.ss.map rowQ)::clA g6 (nilC 0)::rqA g5 x::schA g4 s::netA g3 n::H) w:=by
    clear q1
    revert w
    exact zk
   exact h5.perm (.cons _ (.cons _ (.cons _ (OI rowQ c.rs ⟨A8,cap8,r.xs⟩ _)))))
 rintro⟨A1,c1,r8,hr8,A3,c3⟩
 dsimp only
 repeat'(first|fail)
 apply Qx (.n1 0 (.n1 1 (.n1 2 (.n1 5 (.n1 6 (.n1 7 (.n2 3 (.n2 4 (.n1 10 (.n1 8 (.n1 9 .done))) 8 (.n1 4 (.n1 10 (.n1 9 .done)))) 8 (.n1 3 (.n1 4 (.n1 10 (.n1 9 .done))))))))))) [11,12,13] [false,true]
 kernel_rfl
 kernel_rfl
 exact zy
 (simp only[Yg,nthO];rfl)
 repeat'(first|(apply YkT;(simp only[nthO];rfl);(simp only[nthO];rfl))|(apply YkS;(simp only[nthO];rfl))|(apply QD;try exact zl)|(apply Yk;try exact zl)|refine zgd ?_|(refine zgh ?_;intro _)|(refine zgi ?_;intro _ _)|fail)
 all_goals(
  first
   |(rename_i A4 c4 g A5 c5;guard_hyp g:Nat;guard_hyp A4:Option Addr)
   |(rename_i A4 c4 A5 c5;guard_hyp A4:Option Addr)
  refine hK ⟨i+1,⟨c.flow,A1,c1,c.rs++[r8],A3,c3,c.bs++[m],A4,c4,c.ws++[wst],A5,c5,c.ss++[⟨A2,cap2,sx⟩]⟩⟩ ?_ ?_ _ _ zu ?_
  ·exact hinv A1 c1 r8 hr8 A3 c3 A4 c4 A5 c5
  ·dsimp only;omega
  intro w hw
  have q1:sl 24 1 A5 (c.ss.length+1) c5 (c.ss.flatMap rowF++#[Value.slice A2 sx.length cap2].toList)=sl 24 1 A5 (c.ss++[(⟨A2,cap2,sx⟩:RowM)]).length c5 ((c.ss++[(⟨A2,cap2,sx⟩:RowM)]).flatMap rowF):=YiJ _ _ _ _ ⟨A2,cap2,sx⟩
  rw[q1,Q7,show c.ss.length+1=(c.ss++[(⟨A2,cap2,sx⟩:RowM)]).length by simp,show c.ws.length+1=(c.ws++[wst]).length by simp]at hw
  have h5:St B w0 (blk g8 (.cells #[.int .i64 c.flow,.slice A1 (c.rs++[r8]).length c1,.slice A3 (c.bs++[m]).length c3,.slice A4 (c.ws++[wst]).length c4,.slice A5 (c.ss++[(⟨A2,cap2,sx⟩:RowM)]).length c5] 132 (0,0))::sl 93 1 A1 (c.rs++[r8]).length c1 ((c.rs++[r8]).flatMap rowF)::many ((c.rs++[r8]).map rowQ)::nrs A3 c3 (c.bs++[m])::nrs A4 c4 (c.ws++[wst])::sl 24 1 A5 (c.ss++[(⟨A2,cap2,sx⟩:RowM)]).length c5 ((c.ss++[(⟨A2,cap2,sx⟩:RowM)]).flatMap rowF)::nrs A2 cap2 sx::many (c.ss.map rowQ)::clA g6 (nilC 0)::rqA g5 x::schA g4 s::netA g3 n::H) w:=by
   clear q1
   revert w
   exact zk
  have h6:=h5.perm (.cons _ (.cons _ (.cons _ (.cons _ (.cons _ (.cons _ (OI rowQ c.ss ⟨A2,cap2,sx⟩ _)))))))
  exact h6.perm (.cons _ (.close [_,_,_,_,_,_] _)))
theorem Yhy{n:Net}{q:List Rqs}{s:Sch}(h:(YT n q s).2.2=0):chkE n q s (YT n q s).1=(-1,0):=by
 unfold chkE
 rw[Td (λe=>e h),Td (λe=>e rfl)]
 exact ZS λk _ _=>Tm rfl
structure AttM where
 slot:Int
 frame:Int
 c:Cel
 o:Int
structure StM where
 frame:Int
 since:Int->Option Int
 acked:Int->Int->Option Int
 done:Bool
structure PlM where
 st:List StM
 atts:List AttM
 dels:List (Int×Int×Int)
def perF(f:Flw):Int:=f.2.2.2.1
def phaF(f:Flw):Int:=f.2.2.2.2.1
def dstF(f:Flw):Int:=f.2.2.1
def YsS(f:Flw)(k:Int):Int:=phaF f+k*perF f
def newS(f:Flw)(n k:Int):StM:=⟨k,λv=>if v=f.2.1 then some n else none,λ_ _=>none,false⟩
def relS(f:Flw)(n:Int)(x:StM):StM:=if n<phaF f then x else if(n-phaF f)/perF f=x.frame then x else newS f n ((n-phaF f)/perF f)
def canT(f:Flw)(x:StM)(c:Cel)(n:Int):Prop:=0<=x.frame/\(∃a,x.since (Yx c)=some a/\a<=n)/\Yx c≠dstF f/\∀t,x.acked (Yx c) (toC c)=some t->n<=t
def Yuk(f:Flw)(x:StM)(c:Cel)(n o:Int):StM:=
 ⟨x.frame,if o=3\/(x.since (toC c)).isSome then x.since elseλv=>if v=toC c then some (n+1)else x.since v,
  if o=1/\x.acked (Yx c) (toC c)=none thenλu v=>if u=Yx c/\v=toC c then some n else x.acked u v else x.acked,
  x.done||(decide (o≠3)&&decide (toC c=dstF f))⟩
def delS(f:Flw)(x:StM)(c:Cel)(n o:Int):List (Int×Int×Int):=if o≠3/\toC c=dstF f/\x.done=false then [(f.1,x.frame,n)]else []
def Ytm:StM:=⟨-1,λ_=>none,λ_ _=>none,false⟩
inductive Pl (l:List Flw) (s:Sch):Int->Nat->PlM->Prop
 |start:Pl l s 0 0 ⟨l.map λ_=>Ytm,[],[]⟩
 |rel {n:Int}{p:PlM}(st:List StM):Pl l s n 0 p->st.length=l.length->(∀(i:Nat) f x,l[i]? =some f->p.st[i]? =some x->st[i]? =some (relS f n x))->Pl l s n 1 ⟨st,p.atts,p.dels⟩
 |skip {n:Int}{j:Nat}{p:PlM}{c:Cel}:Pl l s n (j+1) p->(atE s n)[j]? =some c->(∀(i:Nat) f x,l[i]? =some f->p.st[i]? =some x->f.1=Xy c->¬canT f x c n)->Pl l s n (j+2) p
 |att {n:Int}{j i:Nat}{p:PlM}{c:Cel}{f:Flw}{x:StM}(o:Int):Pl l s n (j+1) p->(atE s n)[j]? =some c->l[i]? =some f->p.st[i]? =some x->f.1=Xy c->canT f x c n->
  Pl l s n (j+2) ⟨p.st.set i (Yuk f x c n o),p.atts++[⟨n,x.frame,c,o⟩],p.dels++delS f x c n o⟩
 |next {n:Int}{p:PlM}(ds:List (Int×Int×Int)):Pl l s n ((atE s n).length+1) p->ds.Perm p.dels->Pl l s (n+1) 0 ⟨p.st,p.atts,ds⟩
def onK(id k u v:Int)(a:AttM):Bool:=decide (Xy a.c=id/\a.frame=k/\Yx a.c=u/\toC a.c=v)
def keyL(atts:List AttM)(id k u v:Int):List AttM:=atts.filter (onK id k u v)
def cntL(s:Sch)(q:Cel->Bool):Nat->Int->Nat
 |0,_=>0
 |m+1,a=>((atE s a).filter q).length+cntL s q m (a+1)
def YlJ(s:Sch)(q:Cel->Bool)(b:Option Int)(a0 n:Int)(j:Nat):Nat:=
 match b with
 |some b=>cntL s q (b-1-a0).toNat a0
 |none=>cntL s q (n-a0).toNat a0+if a0<=n then(((atE s n).take j).filter q).length else 0
def Hop(s:Sch)(f:Flw)(k:Int)(atts:List AttM)(since:Int->Option Int)(n:Int)(j:Nat):Prop:=
 ∀u v a0,u≠dstF f->since u=some a0->∃K1,K1<+:keyL atts f.1 k u v/\(∀a∈K1,a.o=3)/\YlJ s (onP f.1 u v) (since v) a0 n j<=K1.length
def Dlv(f:Flw)(k:Int)(dels:List (Int×Int×Int))(since:Int->Option Int):Prop:=
 (∀d∈dels,d.1=f.1->d.2.1=k->since (dstF f)=some (d.2.2+1))/\∀b,since (dstF f)=some b->(f.1,k,b-1)∈dels
structure Arch(s:Sch)(f:Flw)(k n:Int)(j:Nat)(p:PlM)(since:Int->Option Int):Prop where
 src:since f.2.1=some (YsS f k)
 hop:Hop s f k p.atts since n j
 dlv:Dlv f k p.dels since
variable {s:Sch}{f:Flw}{k n:Int}{j:Nat}{p:PlM}{since:Int->Option Int}
theorem Arch.mono{p':PlM}(h:Arch s f k n j p since)
 (ha:∀u v,keyL p.atts f.1 k u v<+:keyL p'.atts f.1 k u v) (hd:∀d,d.1=f.1->d.2.1=k->(d∈p'.dels↔d∈p.dels)):Arch s f k n j p' since:=by
 refine⟨h.src,λu v a0 hu hs=>?_,?_,?_⟩
 ·obtain⟨K1,h1,h2,h3⟩:=h.hop u v a0 hu hs
  exact⟨K1,h1.trans (ha u v),h2,h3⟩
 ·intro d hm h1 h2
  exact h.dlv.1 d ((hd d h1 h2).1 hm) h1 h2
 ·intro b hb
  exact(hd (f.1,k,b-1) rfl rfl).2 (h.dlv.2 b hb)
theorem YkA{α:Type}{L:List α}{c:α}(h:L[j]? =some c):L.take (j+1)=L.take j++[c]:=by
 rw[TF,h];rfl
variable {c:Cel}
theorem YmQ{L:List Cel}(h:L[j]? =some c)(q:Cel->Bool):((L.take (j+1)).filter q).length=((L.take j).filter q).length+if q c then 1 else 0:=by
 rw[YkA h,Rj,Tj]
 by_cases hq:q c=true<;>simp[hq]
theorem Ypz{a0:Int}(h:(atE s n)[j]? =some c){q:Cel->Bool}(hq:q c=false)(b:Option Int):YlJ s q b a0 n (j+1)=YlJ s q b a0 n j:=by
 unfold YlJ
 cases b with
 |some b=>rfl
 |none=>simp only[YmQ h,hq,SA,N8,SQ]
theorem Yrg{id u v:Int}:onP id u v c=true↔Xy c=id/\Yx c=u/\toC c=v:=by simp[onP]
theorem Arch.offs(h:Arch s f k n j p since)(hc:(atE s n)[j]? =some c)(hf:Xy c≠f.1):Arch s f k n (j+1) p since:=by
 refine⟨h.src,λu v a0 hu hs=>?_,h.dlv⟩
 obtain⟨K1,h1,h2,h3⟩:=h.hop u v a0 hu hs
 refine⟨K1,h1,h2,?_⟩
 rw[Ypz hc]
 ·exact h3
 ·cases hq:onP f.1 u v c with
  |false=>rfl
  |true=>exact absurd (Yrg.1 hq).1 hf
def Chain(d:Int):Int->List Lk->Prop
 |u,[]=>u=d
 |u,l::ls=>u=l.1/\u≠d/\Chain d l.2.1 ls
theorem YjV{x:List (Cel×Int)}{a:Int}(hx:x≠[]):JB (x.map Prod.snd)+1=XI x a:=by
 unfold JB XI
 rw[Tt,<-List.getLast?_eq_getElem?,List.getLast?_map]
 cases h:x.getLast? with
 |none=>exact absurd (List.getLast?_eq_none_iff.1 h) hx
 |some y=>rfl
def slC(len:Int)(cs:List Cel)(a:Int):Nat:=(cs.filter λc=>decide (c.1=a.tmod len)).length
def cntS(len:Int)(cs:List Cel):Nat->Int->Nat
 |0,_=>0
 |m+1,a=>slC len cs a+cntS len cs m (a+1)
theorem Yp0(len:Int)(c:Cel)(cs:List Cel)(a:Int):slC len (c::cs) a=(if c.1=a.tmod len then 1 else 0)+slC len cs a:=by
 unfold slC
 rw[Su]
 by_cases h:c.1=a.tmod len
 ·rw[Tm (Tc h),Tm h,TS];omega
 ·rw[Td (by simpa using h),Td h];omega
theorem Qp(len a:Int):∀(cs:List Cel) (k:Nat),(XE len a cs k).length=min k (slC len cs a)
 |[],k=>by simp[XE,slC]
 |c::cs,k=>by
  rw[Yp0]
  unfold XE
  by_cases h:c.1=a.tmod len
  ·by_cases hk:k=0
   ·subst hk
    rw[Td (λe=>e.2 rfl),YnE];simp
   ·rw[Tm ⟨h,hk⟩,Tm h,TS,Qp len a cs (k-1)];omega
  ·rw[Td (λe=>h e.1),Td h,Qp len a cs k];omega
theorem YhB(len:Int)(cs:List Cel):∀(m k:Nat) (a:Int),cntS len cs (m+k) a=cntS len cs m a+cntS len cs k (a+m)
 |0,k,a=>by simp[cntS]
 |m+1,k,a=>by
  rw[show m+1+k=(m+k)+1 by omega,cntS,YhB len cs m k (a+1),cntS]
  rw[show a+1+(m:Int)=a+((m+1:Nat):Int) by omega]
  omega
variable {a b y len:Int}
theorem Ymz(len:Int)(cs:List Cel){z:Int}(h1:a<=b)(h2:b<=z):cntS len cs (z-b).toNat b<=cntS len cs (z-a).toNat a:=by
 obtain⟨x,hx⟩:∃x:Nat,b=a+x:=⟨(b-a).toNat,by omega⟩
 obtain⟨y,hy⟩:∃y:Nat,z=b+y:=⟨(z-b).toNat,by omega⟩
 rw[show(z-b).toNat=y by omega,show(z-a).toNat=x+y by omega,YhB,hx]
 omega
theorem QE(x r:List (Cel×Int))(a:Int):XI (x++r) a=XI r (XI x a):=by
 unfold XI
 rw[List.getLast?_append]
 cases r.getLast?<;>rfl
theorem YoA{x:List (Cel×Int)}(h:XI x a<=y)(hb:b<=y):XI x b<=y:=by
 unfold XI at h⊢
 cases hx:x.getLast? with
 |none=>exact hb
 |some z=>rw[hx]at h;exact h
theorem Yh0{len:Int}{cs:List Cel}:∀(f k:Nat) (a y:Int),a<=y->y<=a+f->k<=cntS len cs (y-a).toNat a->(hopP len cs f k a).length=k/\XI (hopP len cs f k a) a<=y
 |0,k,a,y,h1,h2,h3=>by
  obtain rfl:y=a:=by omega
  rw[show(y-y).toNat=0 by omega]at h3
  obtain rfl:k=0:=by simpa [cntS]using h3
  exact⟨rfl,h1⟩
 |f+1,k,a,y,h1,h2,h3=>by
  by_cases hk:k=0
  ·subst hk
   rw[Yh1]
   exact⟨rfl,h1⟩
  have hlt:a<y:=by
   by_cases e:a=y
   ·subst e
    rw[show(a-a).toNat=0 by omega]at h3
    simp[cntS]at h3
    omega
   ·omega
  rw[show(y-a).toNat=(y-(a+1)).toNat+1 by omega,cntS]at h3
  have hs:=Qp len a cs k
  obtain⟨e1,e2⟩:=Yh0 (len:=len) (cs:=cs) f (k-(XE len a cs k).length) (a+1) y (by omega) (by omega) (by omega)
  rw[hopP,Tj,e1,QE]
  refine⟨by omega,YoA e2 ?_⟩
  unfold XI
  cases hx:(XE len a cs k).getLast? with
  |none=>exact h1
  |some z=>have:=Ou (List.mem_of_getLast? hx);simp only[];omega
def WayT(len:Int)(C:Lk->List Cel):List Lk->Int->Int->Prop
 |[],a,y=>a<=y
 |l::ls,a,y=>∃z,a<=z/\Xg l<=cntS len (C l) (z-a).toNat a/\WayT len C ls z y
variable {C:Lk->List Cel}
theorem WayT.le:∀{ls:List Lk}{a y:Int},WayT len C ls a y->a<=y
 |[],_,_,h=>h
 |_::_,_,_,⟨_,h1,_,h3⟩=>Int.le_trans h1 h3.le
theorem YlY{len:Int}{C:Lk->List Cel}{endd:Int}:∀{ls:List Lk}{a a' y:Int},WayT len C ls a y->a'<=a->y<=endd->(runP len C endd ls a').length=X0 ls/\XI (runP len C endd ls a') a'<=y
 |[],a,a',y,h,h1,_=>⟨rfl,Int.le_trans h1 h⟩
 |l::ls,a,a',y,⟨z,h1,h2,h3⟩,h4,h5=>by
  have hz:=h3.le
  obtain⟨e1,e2⟩:=Yh0 (len:=len) (cs:=C l) (endd-a').toNat (Xg l) a' z (by omega) (by omega) (RE h2 (Ymz len (C l) h4 h1))
  obtain⟨i1,i2⟩:=YlY (endd:=endd) h3 e2 h5
  unfold runP
  rw[Td (by omega),Tj,QE,e1,i1]
  exact⟨by unfold X0;rw[Re,NJ],i2⟩
theorem WayT.mono{D:Lk->List Cel}(h:∀l a,slC len (C l) a<=slC len (D l) a):∀{ls:List Lk}{a y:Int},WayT len C ls a y->WayT len D ls a y
 |[],_,_,hw=>hw
 |l::ls,a,y,⟨z,h1,h2,h3⟩=>by
  refine⟨z,h1,RE h2 ?_,h3.mono h⟩
  have:∀(m:Nat) (a:Int),cntS len (C l) m a<=cntS len (D l) m a:=λm=>by
   induction m with
   |zero=>exactλ_=>TL _
   |succ m ih=>intro a;have:=ih (a+1);have:=h l a;rw[cntS,cntS];omega
  exact this _ _
theorem Yk0{S:Int->Option (List Int)}{len per d:Int}(hp:1<=per):∀{fuel:Nat}{rel:Int}{b:Int×Int×List Int},b.1<=d->(∀i:Nat,rel+i*per<len->∃l,S (rel+i*per)=some l/\JB l-(rel+i*per)+1<=d)->∃r,UN S len per fuel rel b=some r/\r.1<=d
 |0,rel,b,hb,_=>⟨b,rfl,hb⟩
 |fuel+1,rel,b,hb,h=>by
  rw[UN]
  by_cases hle:len<=rel
  ·rw[Tm hle];exact⟨b,rfl,hb⟩
  rw[Td hle]
  obtain⟨l,h1,h2⟩:=h 0 (by simp;omega)
  have h1:S rel=some l:=by simpa using h1
  have h2:JB l-rel+1<=d:=by simpa using h2
  rw[h1]
  refine Yk0 hp ?_ λi hi=>?_
  ·split
   ·exact h2
   ·exact hb
  ·have e:rel+((i+1:Nat):Int)*per=rel+per+(i:Int)*per:=by
    rw[show((i+1:Nat):Int)=(i:Int)+1 by omega,Int.add_mul];omega
   have:=h (i+1) (by rw[e];exact hi)
   rw[e]at this
   exact this
theorem YnY{n:Net}{s:Sch}{f:Flw}{r:List Int}{rel:Int}(hne:Yr n r≠[])(hloss:∀x∈Yr n r,0<=x.2.2)(hy:y<=rel+f.2.2.2.1)(h:WayT s.len (XN s f.1) (Yr n r) rel y):
 ∃l,Ua n s f r rel=some l/\JB l-rel+1<=y-rel:=by
 obtain⟨h1,h2⟩:=YlY (endd:=rel+f.2.2.2.1) h (SD _) hy
 refine⟨(runP s.len (XN s f.1) (rel+f.2.2.2.1) (Yr n r) rel).map Prod.snd,?_,?_⟩
 ·unfold Ua
  rw[Ygw,Td (by omega)]
 ·have hn:1<=X0 (Yr n r):=by
   cases hl:Yr n r with
   |nil=>exact absurd hl hne
   |cons x xs=>
    have:=hloss x (by rw[hl];simp)
    unfold X0
    rw[Re,NJ]
    unfold Xg
    omega
  have:=YjV (x:=runP s.len (XN s f.1) (rel+f.2.2.2.1) (Yr n r) rel) (a:=rel) (λe=>by rw[e]at h1;simp at h1;omega)
  omega
structure Sm(n:Net)(l:List Flw)(s:Sch):Prop where
 ck:Yq n=0
 fl:(YE n.nodes l).2=0
 per:∀f∈l,s.len.tmod f.2.2.2.1=0
 sized:ZO s=true
 formed:∀c∈s.cells,ZT s c=true
 ord:Ord s.cells
 good:∀c∈s.cells,YA n (Yx c) (toC c)=true/\0<=Z8 l (Xy c)
 once:s.cells.Pairwise λa b=>a.1=b.1->YC a b=false
 clear:∀c∈s.cells,Vi n s.cells c=true
variable {n:Net}{l:List Flw}{s:Sch}
theorem Sem.sm(h:Sem n l s):Sm n l s:=⟨h.ck,h.fl,h.per,h.frm.sized,h.frm.formed,h.frm.ord,h.good,h.once,h.clear⟩
theorem Sm.sem(h:Sm n l s)(hl:s.cells.length<=512):Sem n l s:=⟨h.ck,h.fl,h.per,⟨h.sized,hl,h.formed,h.ord⟩,h.good,h.once,h.clear⟩
theorem Yft{node:Int}{l m:List Cel}(h:l.Perm m):Go.Proofs.YtaholidehobiiaaGreatDoor.sumC n node l=Go.Proofs.YtaholidehobiiaaGreatDoor.sumC n node m:=by
 induction h with
 |nil=>rfl
 |cons a _ ih=>rw[XR,XR,ih]
 |swap a b l=>rw[XR,XR,XR,XR];omega
 |trans _ _ h1 h2=>rw[h1,h2]
variable {slot o a b:Int}
theorem YhQ{l:List Cel}(h:fitE n l slot o a b=true)(id:Int):(∀d∈l,d.1=slot->YC d (slot,o,a,b,id)=false)/\Jz n (l.filter (atP slot o)++[(slot,o,a,b,id)])=true:=by
 unfold fitE at h
 rw[To]at h
 obtain⟨h1,h2⟩:=h
 refine⟨λd hd e=>?_,?_⟩
 ·rw[Si,RY]at h1
  have:=h1 d hd
  rw[Tc e,RS,Bool.not_eq_true]at this
  rw[<-this]
  exact(Ow (c:=(slot,o,a,b,id)) (c':=(0,0,a,b,0)) rfl rfl).2
 ·rw[<-h2,YcX (c':=(slot,o,a,b,id)) rfl rfl,YcX (c:=(0,0,a,b,0)) (c':=(slot,o,a,b,id)) rfl rfl]
theorem YqV{l:List Cel}(h:fitE n l slot o a b=true)(id:Int):(slot,o,a,b,id)∉l:=λhm=>by
 have:=(YhQ h id).1 _ hm rfl
 unfold YC at this
 exact of_decide_eq_false this (.inl rfl)
theorem Ybm{m d:Int}(h:Zl n m d=true):Z4 n m d=true:=by
 unfold Zl at h
 simp only[To]at h
 exact h.2.2
theorem Sm.ins(h:Sm n l s){id:Int}(hs:0<=slot/\slot<s.len)(ho:0<=o/\o<s.off)(hg:YA n a b=true)(hid:0<=Z8 l id)(hib:0<=id/\id<256)(hfit:fitE n s.cells slot o a b=true):
 Sm n l ⟨s.len,s.off,insC s.cells (slot,o,a,b,id)⟩:=by
 have hok:=YM h.ck
 have hgn:=Xu hok hg
 have hn:=hok.n1
 obtain⟨ht,hgl⟩:=YhQ hfit id
 have hnew:=YqV hfit id
 have hperm:=Yh5 s.cells (slot,o,a,b,id)
 refine⟨h.ck,h.fl,h.per,h.sized,λc hc=>?_,Yq5 h.ord hnew,λc hc=>?_,?_,λc hc=>?_⟩
 ·rcases OH.1 hc with rfl|hc
  ·unfold ZT ZC insE
   rw[Tc hs,Tc ho,Tc (show 0<=a/\a<32 by omega),Tc (show 0<=b/\b<32 by omega),Tc hib]
   rfl
  ·exact h.formed c hc
 ·rcases OH.1 hc with rfl|hc
  ·exact⟨hg,hid⟩
  ·exact h.good c hc
 ·refine(hperm.pairwise_iff (λ{x y} hxy e=>by rw[J1];exact hxy e.symm)).2 (.cons (λd hd e=>?_) h.once)
  rw[J1]
  exact ht d hd e.symm
 ·by_cases hp:c.1=slot/\c.2.1=o
  ·have hX:(s.cells.filter (atP slot o)++[(slot,o,a,b,id)]).Nodup:=by
    rw[Ri]
    refine⟨(Yfd h.ord).sublist NB,by simp,λx hx y hy e=>?_⟩
    rw[TJ.1 hy]at e
    subst e
    exact hnew (Rr.1 hx).1
   generalize hXe:s.cells.filter (atP slot o)++[(slot,o,a,b,id)]=X at hX hgl
   have hcX:c∈X:=by
    rw[<-hXe]
    rcases OH.1 hc with rfl|hc
    ·simp
    ·exact Ss _ (Rr.2 ⟨hc,Tc hp⟩)
   obtain⟨j,hj⟩:=T9.1 hcX
   have hjl:=(Ti.1 hj).1
   have hd:∀node,Yu n X j node X.length=Um n (insC s.cells (slot,o,a,b,id)) c node:=λnode=>by
    rw[YcG hX hj node _ (TL _),TY]
    unfold Um
    refine Yft ?_
    have e1:(insC s.cells (slot,o,a,b,id)).filter (λd=>Xq c d&&decide (d≠c))=((insC s.cells (slot,o,a,b,id)).filter (Xq c)).filter λd=>decide (d≠c):=by
     rw[NR]
     exact Ni λx _=>Bool.and_comm _ _
    rw[e1]
    refine List.Perm.filter _ ?_
    have e2:Xq c=atP slot o:=by
     obtain⟨c1,c2,c3⟩:=c
     obtain⟨rfl,rfl⟩:=hp
     rfl
    rw[e2,<-hXe]
    refine List.Perm.trans ?_ (hperm.filter _).symm
    rw[Su,Tm (show atP slot o (slot,o,a,b,id)=true from Tc ⟨rfl,rfl⟩)]
    exact NY
   unfold Jz at hgl
   rw[To]at hgl
   have hpf:=TI.1 hgl.2 j (TO.2 hjl)
   have hcl:celL X j=c:=by unfold celL;rw[Tt,hj];rfl
   unfold ZB at hpf
   rw[hcl,hd,hd]at hpf
   simp only[Bool.not_or,MF,To]at hpf
   unfold Vi
   rw[Ybm hpf.2.1,Ybm hpf.2.2];rfl
  ·have hcs:c∈s.cells:=by
    rcases OH.1 hc with rfl|hc
    ·exact absurd ⟨rfl,rfl⟩ hp
    ·exact hc
   have hd:∀node,Um n (insC s.cells (slot,o,a,b,id)) c node=Um n s.cells c node:=λnode=>by
    unfold Um
    refine(Yft (hperm.filter _)).trans ?_
    rw[Su,Td]
    rw[To]
    rintro⟨h1,-⟩
    exact hp (by have:=Rm h1;exact⟨this.1.symm,this.2.symm⟩)
   have:=h.clear c hcs
   unfold Vi at this⊢
   rw[hd,hd]
   exact this
open Go.RowKit Go.Eng Go.Nw
def netN(g:Nat)(n:NetM):HP:=blk g (.cells #[.int .i64 n.nodes,.slice n.pA n.rows.length n.pcap,.int .i64 n.noise,.int .i64 n.thr,.slice n.lA n.links.length n.lcap,.slice n.mA n.margin.length n.mcap] 26 (0,0))
theorem YbN(n:NetM)(l:List Flw)(s:SchM)(hck:Yq n.net=0)(hlen:l.length<=1000)(hl:s.cells.length<=1000000000000){A:Option Addr}{cap B:Nat}{w0:World}{H:List HP}{w:World}(hin:n.In B w0 H)(hrf:Rd B w0 H A (l.flatMap flwF))(hr:Rd B w0 H s.A (s.cells.flatMap celF))(hw:St B w0 H w):
 Calls Tryz.prog 85 [n.val,.slice A l.length cap,s.val].toArray w (Post B w0 λv K=>v=.tuple #[.int .i64 (JT n.net l s.sch).1,.int .i64 (JT n.net l s.sch).2]/\K=H):=by
 refine Yc Tryz.func85 Tryz.ntmps85 rfl rfl hw ?_
 have e4:s.sch.cells.length=s.cells.length:=rfl
 have hE:JT n.net l s.sch=YH (VX n.net l s.sch) s.cells.length 0:=rfl
 rw[hE]
 repeat'(first|refine zgb ?_|(refine zgh ?_;intro _)|fail)
 rename_i gn gs
 refine Yi (λ(i:Nat)=>[(13,.int .i64 i),(12,.int .i64 s.cells.length),(11,.slice s.A s.cells.length s.cap),(3,.pointer (some ⟨gn,0,none⟩)),(5,.pointer (some ⟨gs,0,none⟩)),(1,.slice A l.length cap)])
  (λ_=>blk gs (.cells #[.int .i64 s.len,.int .i64 s.off,.slice s.A s.cells.length s.cap] 37 (0,0))::netN gn n::H) (λi=>i<=s.cells.length/\∀k,k<i->VX n.net l s.sch k=0) (λi=>s.cells.length-i) 0 ⟨Tu _,λk hk=>absurd hk (Sv _)⟩ ?_ (λw hw=>hw) ?_
 ·exact zu
 rintro i ⟨hi,hall⟩ K hK
 unfold netN
 have hrc:=λ(X:HP)=>((hr.cons (X:=netN gn n)).cons (X:=blk gs (.cells #[.int .i64 s.len,.int .i64 s.off,.slice s.A s.cells.length s.cap] 37 (0,0)))).cons (X:=X)
 by_cases hlt:i<s.cells.length
 ·have hget:s.cells[i]? =some (Yo s.sch i):=Y2 (s:=s.sch) hlt
  have hbad:VX n.net l s.sch i≠0->YH (VX n.net l s.sch) s.cells.length 0=((i:Int),VX n.net l s.sch i):=λh=>Zt (λk _ hk=>hall k hk) (Tu _) (by omega) h
  have hstep:VX n.net l s.sch i=0->∀k,k<i+1->VX n.net l s.sch k=0:=λh k hk=>by
   by_cases e:k=i
   ·rw[e];exact h
   ·exact hall k (by omega)
  obtain⟨c,hc⟩:∃c,Yo s.sch i=c:=⟨_,rfl⟩
  have hce:VX n.net l s.sch i=if ZC s.sch c=false then 2 else if YA n.net (Yx c) (toC c)=false\/Z8 l (Xy c)<0 then 7 else if 0<i/\Y8 (Yo s.sch (i-1)) c=false then 5 else 0:=by
   unfold VX
   rw[hc]
  rw[hc]at hget
  have hplc:=λ{H':List HP}{w:World}(hw:St B w0 H' w)=>Ybx s c hw
  cases hp:ZC s.sch c with
  |false=>
   rw[hp]at hplc
   rw[hp,Tm rfl]at hce
   rw[hbad (by rw[hce];decide),hce]
   repeat'(first|((first|apply Ya Uo|apply Yb Uo);exact za;exact rfl;exactλ_ hw=>(hplc hw))|refine zgd ?_|(refine zge ?_ ?_<;>intro _<;>try exact zo)|(refine zgh ?_;intro _)|fail)
   apply Yj H
   ·exact zk
   apply Yp;(iterate 3 exact rfl);exact⟨rfl,rfl⟩
  |true=>
  rw[hp]at hplc
  rw[hp,Td (by decide)]at hce
  have hix:=λ{H':List HP}{w:World}(hin:n.In B w0 H') (hw:St B w0 H' w)=>XZ n c.2.2.1 c.2.2.2.1 hin hw
  have hus:=λ{H':List HP}{w:World}(hin:n.In B w0 H') (hw:St B w0 H' w)=>Uf n (Zd n.net c.2.2.1 c.2.2.2.1) hin hw
  rw[Yi2 hck]at hus
  have hfi:=λ{H':List HP}{w:World}(hr:Rd B w0 H' A (l.flatMap flwF)) (hw:St B w0 H' w)=>YjI l c.2.2.2.2 hlen (cap:=cap) hr hw
  have hgf:YA n.net (Yx c) (toC c)=YA n.net c.2.2.1 c.2.2.2.1:=rfl
  have hff:Z8 l (Xy c)=Z8 l c.2.2.2.2:=rfl
  by_cases hg:YA n.net c.2.2.1 c.2.2.2.1=false\/Z8 l c.2.2.2.2<0
  ·rw[hgf,hff,Tm hg]at hce
   rw[hbad (by rw[hce];decide),hce]
   cases hgd:YA n.net c.2.2.1 c.2.2.2.1 with
   |false=>
    rw[hgd]at hus
    repeat'(first|((first|apply Ya Uo|apply Yb Uo);exact za;exact rfl;exactλ_ hw=>(hplc hw))|((first|apply Ya Xc|apply Yb Xc);exact za;exact rfl;exactλ_ hw=>(hix hin.cons.cons.cons hw))|((first|apply Ya ZZ|apply Yb ZZ);exact za;exact rfl;exactλ_ hw=>(hus hin.cons.cons.cons hw))|(apply zg28;refine zs84 ?_)|refine zgd ?_|(refine zge ?_ ?_<;>intro _<;>try exact zo)|(refine zgh ?_;intro _)|fail)
    apply Yj H
    ·exact zk
    apply Yp;(iterate 3 exact rfl);exact⟨rfl,rfl⟩
   |true=>
    have hneg:Z8 l c.2.2.2.2<0:=hg.elim (λh=>by rw[hgd]at h;cases h) id
    rw[hgd]at hus
    repeat'(first|((first|apply Ya Uo|apply Yb Uo);exact za;exact rfl;exactλ_ hw=>(hplc hw))|((first|apply Ya Xc|apply Yb Xc);exact za;exact rfl;exactλ_ hw=>(hix hin.cons.cons.cons hw))|((first|apply Ya ZZ|apply Yb ZZ);exact za;exact rfl;exactλ_ hw=>(hus hin.cons.cons.cons hw))|((first|apply Ya en31|apply Yb en31);exact za;exact rfl;exactλ_ hw=>(hfi hrf.cons.cons.cons hw))|(apply zg28;refine zs84 ?_)|refine zgd ?_|(refine zge ?_ ?_<;>intro _<;>try exact zo)|(refine zgh ?_;intro _)|fail)
    apply Yj H
    ·exact zk
    apply Yp;(iterate 3 exact rfl);exact⟨rfl,rfl⟩
  have hgd:YA n.net c.2.2.1 c.2.2.2.1=true:=by
   cases h:YA n.net c.2.2.1 c.2.2.2.1 with
   |true=>rfl
   |false=>exact absurd (.inl h) hg
  have hpos:¬Z8 l c.2.2.2.2<0:=λh=>hg (.inr h)
  rw[hgf,hff,Td hg]at hce
  rw[hgd]at hus
  rcases NQ i with h0|h0
  ·subst h0
   rw[Td (by omega)]at hce
   repeat'(first|((first|apply Ya Uo|apply Yb Uo);exact za;exact rfl;exactλ_ hw=>(hplc hw))|((first|apply Ya Xc|apply Yb Xc);exact za;exact rfl;exactλ_ hw=>(hix hin.cons.cons.cons hw))|((first|apply Ya ZZ|apply Yb ZZ);exact za;exact rfl;exactλ_ hw=>(hus hin.cons.cons.cons hw))|((first|apply Ya en31|apply Yb en31);exact za;exact rfl;exactλ_ hw=>(hfi hrf.cons.cons.cons hw))|(apply zg28;refine zs84 ?_)|refine zgd ?_|(refine zgf ?_ ?_<;>intro _<;>try exact zo)|(refine zgh ?_;intro _)|fail)
   apply hK (0+1)
   ·exact⟨by omega,hstep hce⟩
   ·omega
   ·exact zu
   ·unfold netN
    exact zk
  have hget2:s.cells[((i:Int)-1).toNat]? =some (Yo s.sch (i-1)):=by
   rw[show((i:Int)-1).toNat=i-1 by omega]
   exact Y2 (s:=s.sch) (show i-1<s.cells.length by omega)
  obtain⟨p,hpv⟩:∃p,Yo s.sch (i-1)=p:=⟨_,rfl⟩
  rw[hpv]at hce hget2
  have hcl:=Yaz p c
  have hcm:=λ{H':List HP}{w:World}(hw:St B w0 H' w)=>OS p c hw
  obtain⟨q,hq⟩:∃q,cmpV (nums p) (nums c)=q:=⟨_,rfl⟩
  rw[hq]at hcl hcm
  by_cases hlt2:q<0
  ·rw[hcl.1 hlt2,Td (by simp)]at hce
   repeat'(first|((first|apply Ya Uo|apply Yb Uo);exact za;exact rfl;exactλ_ hw=>(hplc hw))|((first|apply Ya Xc|apply Yb Xc);exact za;exact rfl;exactλ_ hw=>(hix hin.cons.cons.cons hw))|((first|apply Ya ZZ|apply Yb ZZ);exact za;exact rfl;exactλ_ hw=>(hus hin.cons.cons.cons hw))|((first|apply Ya en31|apply Yb en31);exact za;exact rfl;exactλ_ hw=>(hfi hrf.cons.cons.cons hw))|((first|apply Ya YeG|apply Yb YeG);exact za;exact rfl;exactλ_ hw=>(hcm hw))|(apply zg28;refine zs84 ?_)|refine zgd ?_|(refine zgf ?_ ?_<;>intro _<;>try exact zo)|(refine zgh ?_;intro _)|fail)
   apply hK (i+1)
   ·exact⟨by omega,hstep hce⟩
   ·omega
   ·exact zu
   ·unfold netN
    exact zk
  ·have hnl:Y8 p c=false:=by
    cases h:Y8 p c with
    |false=>rfl
    |true=>exact absurd (hcl.2 h) hlt2
   rw[hnl,Tm ⟨h0,rfl⟩]at hce
   rw[hbad (by rw[hce];decide),hce]
   repeat'(first|((first|apply Ya Uo|apply Yb Uo);exact za;exact rfl;exactλ_ hw=>(hplc hw))|((first|apply Ya Xc|apply Yb Xc);exact za;exact rfl;exactλ_ hw=>(hix hin.cons.cons.cons hw))|((first|apply Ya ZZ|apply Yb ZZ);exact za;exact rfl;exactλ_ hw=>(hus hin.cons.cons.cons hw))|((first|apply Ya en31|apply Yb en31);exact za;exact rfl;exactλ_ hw=>(hfi hrf.cons.cons.cons hw))|((first|apply Ya YeG|apply Yb YeG);exact za;exact rfl;exactλ_ hw=>(hcm hw))|(apply zg28;refine zs84 ?_)|refine zgd ?_|(refine zgf ?_ ?_<;>intro _<;>try exact zo)|(refine zgh ?_;intro _)|fail)
   apply Yj H
   ·exact zk
   apply Yp;(iterate 3 exact rfl);exact⟨rfl,rfl⟩
 ·repeat'(first|refine zgc ?_|(refine zge ?_ ?_<;>intro _<;>try exact zo)|fail)
  rw[show i=s.cells.length by omega]at hall
  rw[ZS λk _ hk=>hall k (by omega)]
  apply Yj H
  ·exact zk
  apply Yp;(iterate 3 exact rfl);exact⟨rfl,rfl⟩
end Go.Proofs.YtaholidehobiiaaGreatDoor
namespace Go.Eng
open Go.RowKit
variable {B:Nat}{w0:World}{H:List HP}
theorem YkQ{P:Program}{env:Env}{n:Nat}(T:Tab P){fn:Func}{Φ:Value->List HP->Prop}{p g rt:Nat}{v:Value}{cs:Array Value}{tt:TypeId}{fr:Nat×Nat}(hr:fn.results=#[.cell p rt])(hp:get env p=some (.pointer (some ⟨g,0,none⟩)))
 (hm:Eng.blk g (.cells cs tt fr)∈H) (hv:nth cs.toList 0=some v) (ht:Eng.look T.sc rt=some ()) {H2:List HP}(hH:∀w,St B w0 H w->St B w0 H2 w) (h:Φ v H2):VQ ⟨n,[],none⟩ B w0 (bodyPost P fn (Post B w0 Φ)) .ret env H:=by
 refine⟨λa w ha hw=>bodyPost_ret (v:=v) ?_ ha.defers ⟨_,H2,rfl,hH w hw,h⟩⟩
 have hp':=ha.slot p _ hp
 rw[Ygf]at hv
 have hc:=Y3 (i:=0) (hw.blk hm).1
 simp[results,hr,Array.getD_eq_getD_getElem?,hp',asAddr,loadVar,Xi (T.scal ht).1,hc,hv]
end Go.Eng
namespace Go.Proofs.YtaholidehobiiaaGreatDoor
open Go.RowKit Go.Eng Go.Nw
variable {s:Sch}{i B:Nat}
theorem YnR(hi:i<s.cells.length)(h:∀j∈inI s (Yo s i).1 s.cells.length,j<i->YC (Yo s i) (Yo s j)=false):Jc s i=false:=by
 unfold Jc
 rw[RY]
 intro j hj
 have hj:=TO.1 hj
 rw[To,Tq]
 rintro⟨h1,h2⟩
 rw[h j (OF.2 ⟨by omega,h1⟩) hj]at h2
 cases h2
theorem YnS{j:Nat}(hji:j<i)(hs:(Yo s j).1=(Yo s i).1)(ht:YC (Yo s i) (Yo s j)=true):Jc s i=true:=by
 unfold Jc
 rw[Rk]
 exact⟨j,TO.2 hji,by rw[Tc hs,ht];rfl⟩
variable {w0:World}{H:List HP}
theorem YkC(s:SchM)(i:Nat)(hi:i<s.cells.length)(hl:s.cells.length<=1000){w:World}(hr:Rd B w0 H s.A (s.cells.flatMap celF))(hw:St B w0 H w):
 Calls Tryz.prog 86 [s.val,.int .i64 i].toArray w (Post B w0 λv K=>v=.bool (Jc s.sch i)/\K=H):=by
 refine Zi Tryz.func86 Tryz.ntmps86 rfl rfl hw ?_
 have hget:s.cells[i]? =some (Yo s.sch i):=Y2 (s:=s.sch) hi
 obtain⟨c,hc⟩:∃c,Yo s.sch i=c:=⟨_,rfl⟩
 rw[hc]at hget
 repeat'(first|(apply zg23;first|(refine zs52 ?_;intro _)|(refine zs53 ?_;intro _))|refine zgd ?_|(refine zgh ?_;intro _)|fail)
 rename_i gs gi gr gc
 apply Yh _ YrT
 exact za
 exact rfl
 exactλ_ hw=>(Yh3 s c.1 (hw))
 rintro _ _ ⟨g1,g2,rfl,rfl⟩
 repeat'(first|refine zgb ?_|fail)
 have hr6:Rd B w0 (intB g2 c.1::schB g1 s::blk gc (.cells (celF c).toArray 64 (0,0))::blk gi (.cells #[.int .i64 i] 3 (0,0))::schB gs s::H) s.A (s.cells.flatMap celF):=hr.cons.cons.cons.cons.cons
 refine Zj (gf:=265) (lb:=[.pointer (some ⟨g1,0,none⟩),.pointer (some ⟨g2,0,none⟩)]) (xs:=inXs s.sch c.1) (intB g2 c.1::schB g1 s::blk gc (.cells (celF c).toArray 64 (0,0))::blk gi (.cells #[.int .i64 i] 3 (0,0))::schB gs s::H) (λ_:Unit=>[blk gr (.cells #[.bool false] 4 (0,0))])
  (λk _=>∀m j,m<k->(inI s.sch c.1 s.cells.length)[m]? =some j->j<i->YC c (Yo s.sch j)=false) (λe K=>e=.ret/\Jc s.sch i=true/\K=[blk gr (.cells #[.bool true] 4 (0,0))]) () rfl Yr3 (Yh2 s c.1 g1 g2 hr6 (by omega) (.tail _ (.head _)) (.head _)) rfl ?_ (by kernel_rfl) (by kernel_rfl) ?_ (λm j h=>absurd h (Sv _)) ?_ ?_ ?_
 ·intro args h
  obtain⟨k,hk⟩:=T9.1 h
  obtain⟨i,_,_,rfl⟩:=QU hk
  rfl
 ·exactλw hw=>hw.perm (.trans (.cons _ (.cons _ (.swap _ _ _))) (.trans (.cons _ (.swap _ _ _)) (.swap _ _ _)))
 ·rintro l k args R ⟨⟩ hk hI
  obtain⟨j,hj,hlt,rfl⟩:=QU hk
  have hlt2:j<s.cells.length:=hlt
  dsimp only[UG,List.cons_append,List.nil_append]
  have hgj:s.cells[j]? =some (Yo s.sch j):=Y2 (s:=s.sch) hlt
  have hjs:(Yo s.sch j).1=c.1:=(OF.1 (Tf hj)).2
  obtain⟨d,hd⟩:∃d,Yo s.sch j=d:=⟨_,rfl⟩
  rw[hd]at hgj
  have htc:YC c d=true↔(c.2.2.1=d.2.2.1\/c.2.2.1=d.2.2.2.1\/c.2.2.2.1=d.2.2.1\/c.2.2.2.1=d.2.2.2.1):=by unfold YC Yx toC;rw[Tq]
  repeat'(first|refine zga ?_|fail)
  apply JO Yt
  intro R'
  unfold intB schB
  have hr7:Rd B w0 (R'::blk gr (.cells #[.bool false] 4 (0,0))::intB g2 c.1::schB g1 s::blk gc (.cells (celF c).toArray 64 (0,0))::blk gi (.cells #[.int .i64 i] 3 (0,0))::schB gs s::H) s.A (s.cells.flatMap celF):=hr6.cons.cons
  unfold intB schB at hr7
  clear hr6
  repeat'(first|refine zgd ?_|(refine zge ?_ ?_<;>intro _<;>try exact zo)|(refine zgh ?_;intro _)|fail)
  all_goals first
   |(refine QB [blk gr (.cells #[.bool true] 4 (0,0))] ⟨rfl,?_,rfl⟩ ?_
     ·exact YnS (j:=j) (by omega) (by rw[hc];exact hjs) (by rw[hc,hd];exact htc.2 (by omega))
     ·dsimp only[List.cons_append,List.nil_append]
      exact zk
     done)
   |(refine Ug () ?_ ?_
     ·intro m j2 hm hj2 hji
      rcases RU.1 hm with h|h
      ·exact hI m j2 h hj2 hji
      ·subst h
       obtain rfl:=Tz (hj.symm.trans hj2)
       rw[hd]
       exact S7.2 λh=>by have:=htc.1 h;omega
     ·dsimp only[List.cons_append,List.nil_append]
      exact zk
     done)
 ·rintro D ⟨⟩ hI
  have htw:Jc s.sch i=false:=YnR hi λj hj hji=>by
   rw[hc]at hj⊢
   obtain⟨m,hm⟩:=T9.1 hj
   refine hI m j ?_ hm hji
   rw[inXs,Tv]
   exact(Ti.1 hm).1
  rw[htw]
  dsimp only[List.cons_append,List.nil_append]
  unfold intB schB
  repeat'(first|refine zgd ?_|fail)
  apply ZR Yt
  apply VQ_m
  apply YkQ T (H2:=H);exact rfl;exact rfl;exact zm;exact rfl;exact rfl;exact zk;exact⟨rfl,rfl⟩
 ·rintro D e K ⟨rfl,htw,rfl⟩ hjmp
  rw[htw]
  dsimp only[List.cons_append,List.nil_append]
  unfold intB schB
  repeat'(first|refine zgd ?_|fail)
  apply ZR Yt
  apply VQ_m
  apply YkQ T (H2:=H);exact rfl;exact rfl;exact zm;exact rfl;exact rfl;exact zk;exact⟨rfl,rfl⟩
variable {B cap m:Nat}{w0 w:World}{H:List HP}
theorem Qa(n:NetM)(v:Int)(hw:St B w0 H w):
 Calls Tryz.prog 268 [n.val,.int .i64 v].toArray w (Post B w0 λu K=>u=.bool (insE v n.net.nodes)/\K=H):=by
 have e1:n.net.nodes=n.nodes:=rfl
 refine Yc Tryz.func268 Tryz.ntmps268 rfl rfl hw ?_
 repeat'(first|refine zgc ?_|(refine zgf ?_ ?_<;>intro _<;>try exact zo)|(refine zgh ?_;intro _)|fail)
 all_goals(
  apply Yj H
  ·exact zk
  apply Yd;exact rfl;exact rfl
  first
   |exact⟨by rw[show insE v n.net.nodes=true from Tc (by omega)],rfl⟩
   |exact⟨by rw[show insE v n.net.nodes=false from Tn (by omega)],rfl⟩)
theorem Yjz(n:NetM)(c:Cel)(gn:Nat)(hm:blk gn (.cells #[.int .i64 n.nodes,.slice n.pA n.rows.length n.pcap,.int .i64 n.noise,.int .i64 n.thr,.slice n.lA n.links.length n.lcap,.slice n.mA n.margin.length n.mcap] 26 (0,0))∈H)(hw:St B w0 H w):
 Calls Tryz.prog 267 [celV c,.pointer (some ⟨gn,0,none⟩)].toArray w (Post B w0 λv K=>v=.bool (UD n.net c)/\K=H):=by
 refine Yc Tryz.func267 Tryz.ntmps267 rfl rfl hw ?_
 obtain⟨b,hb⟩:∃b,UD n.net c=b:=⟨_,rfl⟩
 rw[hb]
 unfold UD Yx toC at hb
 repeat'(first|((first|apply Jh Ybe|apply Jg Ybe);exact za;exact rfl;exactλ_ hw=>(Qa n _ hw);all_goals(intro hB;(try simp only[Tq,Rl]at hB);try exact zo))|refine zgd ?_|(refine zgh ?_;intro _)|fail)
 all_goals(
  apply Yj H
  ·exact zk
  apply Yd;exact rfl;exact rfl
  refine⟨?_,rfl⟩
  rw[<-hb]
  simp[*])
variable {A:Option Addr}
theorem W5(p:Cel->Bool)(l:List Cel)(f:Nat)(cs:List Value)(hen:∀xs w,(callFunc f xs).run Tryz.prog w=.ok (.enter f xs) w)(hlen:l.length<=1000)(hr:Rd B w0 H A (l.flatMap celF))
 (hp:∀a∈l,∀w,St B w0 H w->Calls Tryz.prog f ([celV a]++cs).toArray w (Post B w0 λv K=>v=.bool (p a)/\K=H)) (hw:St B w0 H w):
 Calls Tryz.prog 32 [.slice A l.length cap,.func (.func f) #[] cs.toArray].toArray w (Post B w0 λv K=>v=.bool (l.any p)/\K=H):=by
 refine Yc Tryz.func32 Tryz.ntmps32 rfl rfl hw ?_
 rw[<-Yc3]
 repeat'(first|refine zga ?_|fail)
 first|apply Ya YeC|apply Yb YeC
 exact za
 exact rfl
 exactλ_ hw=>(Yc4 p l f cs hen hlen hr hp hw)
 by_cases h0:0<=Yn p l 0
 ·rw[Tc h0]
  repeat'(first|refine zga ?_|(refine zgf ?_ ?_<;>intro _<;>try exact zo)|fail)
  apply Yd;exact rfl;exact rfl
  exact⟨rfl,rfl⟩
 ·rw[Tn h0]
  repeat'(first|refine zga ?_|(refine zgf ?_ ?_<;>intro _<;>try exact zo)|fail)
  apply Yd;exact rfl;exact rfl
  exact⟨rfl,rfl⟩
def WQ(n:Net)(c:Cel)(node:Int)(m:Nat):Int:=(([c.2.2.1,c.2.2.2.1].take m).map λe=>powN n e node).sum
variable {n:Net}
theorem Ynq{c:Cel}{node e:Int}(h:[c.2.2.1,c.2.2.2.1][m]? =some e):WQ n c node (m+1)=WQ n c node m+powN n e node:=by
 unfold WQ
 rw[TF,h,RI,T8,List.sum_append]
 simp
theorem Yrn(hok:Ok n)(c:Cel)(node:Int)(h:m<=2):0<=WQ n c node m/\WQ n c node m<=137438953472:=by
 have h1:=Ww hok c.2.2.1 node
 have h2:=Ww hok c.2.2.2.1 node
 match m,h with
 |0,_=>simp[WQ]
 |1,_=>simp[WQ];omega
 |2,_=>simp[WQ];omega
theorem YcH(n:NetM)(l:List Cel)(j:Nat)(node:Int)(hok:Ok n.net)(hnode:0<=node/\node<n.nodes)(hlen:l.length<=1000)(hin:n.In B w0 H)(hr:Rd B w0 H A (l.flatMap celF))(hw:St B w0 H w):
 Calls Tryz.prog 269 [n.val,.slice A l.length cap,.int .i64 j,.int .i64 node].toArray w (Post B w0 λv K=>v=.int .i64 (Yu n.net l j node l.length)/\K=H):=by
 refine Yc Tryz.func269 Tryz.ntmps269 rfl rfl hw ?_
 have e1:n.net.nodes=n.nodes:=rfl
 repeat'(first|refine zgb ?_|(refine zgh ?_;intro _)|fail)
 rename_i gn
 refine Yi (λ(k:Nat)=>[(16,.int .i64 k),(15,.int .i64 l.length),(14,.slice A l.length cap),(9,.int .i64 (Yu n.net l j node k)),(4,.pointer (some ⟨gn,0,none⟩)),(2,.int .i64 j),(3,.int .i64 node)]) (λ_=>netN gn n::H) (λk=>k<=l.length) (λk=>l.length-k) 0 (Tu _) ?_ (λw hw=>hw) ?_
 ·exact zu
 rintro k hk K hK
 have hbd:=YfX hok l j node k
 have hrc:=hr.cons (X:=netN gn n)
 by_cases hlt:k<l.length
 ·obtain⟨c,hc⟩:∃c,l[k]? =some c:=⟨_,Ta hlt⟩
  have hcl:celL l k=c:=by unfold celL;rw[Tt,hc];rfl
  have hst:Yu n.net l j node (k+1)=Yu n.net l j node k+if k=j then 0 else powN n.net c.2.2.1 node+powN n.net c.2.2.2.1 node:=by
   rw[Yu,hcl];rfl
  by_cases hkj:k=j
  ·rw[Tm hkj,ME]at hst
   repeat'(first|refine zgd ?_|(refine zge ?_ ?_<;>intro _<;>try exact zo)|(refine zgh ?_;intro _)|fail)
   apply hK (k+1)
   ·show k+1<=_
    omega
   ·omega
   ·rw[hst]
    exact zu
   ·exact zk
  rw[Td hkj]at hst
  repeat'(first|refine zgd ?_|(refine zge ?_ ?_<;>intro _<;>try exact zo)|(refine zgh ?_;intro _)|fail)
  rename_i gc _ ge
  refine Yi (λ(m:Nat)=>[(30,.int .i64 m),(29,.int .i64 ((2:Nat):Int)),(28,.slice (some ⟨ge,0,none⟩) ([c.2.2.1,c.2.2.2.1]:List Int).length 2),(9,.int .i64 (Yu n.net l j node k+WQ n.net c node m)),(16,.int .i64 k),(15,.int .i64 l.length),(14,.slice A l.length cap),(4,.pointer (some ⟨gn,0,none⟩)),(2,.int .i64 j),(3,.int .i64 node)]) (λ_=>blk ge (.cells #[.int .i64 c.2.2.1,.int .i64 c.2.2.2.1] 3 (0,0))::netN gn n::H) (λm=>m<=2) (λm=>2-m) 0 (Tu _) ?_ ?_ ?_
  ·rw[show WQ n.net c node 0=0 from rfl,ME]
   exact zu
  ·exact zk
  rintro m hm K2 hK2
  have hpb:=Yrn hok c node hm
  have hre:Rd B w0 (blk ge (.cells #[.int .i64 c.2.2.1,.int .i64 c.2.2.2.1] 3 (0,0))::netN gn n::H) (some ⟨ge,0,none⟩) (([c.2.2.1,c.2.2.2.1]:List Int).flatMap numF):=Rd.blk (cs:=#[.int .i64 c.2.2.1,.int .i64 c.2.2.2.1]) (.head _)
  clear hrc
  unfold netN at hre⊢
  by_cases hlt2:m<2
  ·obtain⟨e,he⟩:∃e,[c.2.2.1,c.2.2.2.1][m]? =some e:=⟨_,Ta hlt2⟩
   have hst2:=Ynq (n:=n.net) (node:=node) he
   have hcn:=λ{H':List HP}{w:World}(hw:St B w0 H' w)=>Qa n e hw
   have hl2:([c.2.2.1,c.2.2.2.1]:List Int).length=2:=rfl
   cases hie:insE e n.net.nodes with
   |false=>
    rw[hie]at hcn
    rw[show powN n.net e node=0 by unfold powN;rw[hie];simp,ME]at hst2
    repeat'(first|((first|apply Ya Ybe|apply Yb Ybe);exact za;exact rfl;exactλ_ hw=>(hcn hw))|refine zgd ?_|(refine zge ?_ ?_<;>intro _<;>try exact zo)|fail)
    apply hK2 (m+1)
    ·show m+1<=2
     omega
    ·omega
    ·rw[hst2]
     exact zu
    ·unfold netN
     exact zk
   |true=>
    rw[hie]at hcn
    have he2:0<=e/\e<n.net.nodes:=Rm hie
    have hp0:(n.rows.length:Int)=n.net.nodes:=by
     have:=hok.p0
     rwa [show n.net.power=n.rows.map RowM.xs from rfl,Tv]at this
    obtain⟨r,hrw⟩:∃r,n.rows[e.toNat]? =some r:=⟨_,Ta (by omega)⟩
    have hrm:=Tf hrw
    have hrl:(r.xs.length:Int)=n.net.nodes:=hok.p1 r.xs (TG.2 ⟨r,hrm,rfl⟩)
    obtain⟨q,hq⟩:∃q,r.xs[node.toNat]? =some q:=⟨_,Ta (by omega)⟩
    have hpw:powN n.net e node=q:=by
     unfold powN
     rw[Tm ⟨hie,Tc (by omega)⟩]
     exact YiC (n:=n.net) (r:=r.xs) (by simp[NetM.net,hrw]) hq
    have hqb:=Ww hok e node
    rw[hpw]at hqb hst2
    have hpd:=hin.pw
    have hrd:=hin.rw_ r hrm
    have hs1:=hin.s1
    have hs2:=hin.s2 r hrm
    repeat'(first|((first|apply Ya Ybe|apply Yb Ybe);exact za;exact rfl;exactλ_ hw=>(hcn hw))|refine zgd ?_|(refine zge ?_ ?_<;>intro _<;>try exact zo)|fail)
    apply hK2 (m+1)
    ·show m+1<=2
     omega
    ·omega
    ·rw[hst2]
     exact zu
    ·unfold netN
     exact zk
  ·obtain rfl:m=2:=by omega
   have hp2:Yu n.net l j node (k+1)=Yu n.net l j node k+WQ n.net c node 2:=by
    rw[hst]
    simp[WQ]
   repeat'(first|refine zgc ?_|(refine zge ?_ ?_<;>intro _<;>try exact zo)|fail)
   apply hK (k+1)
   ·show k+1<=_
    omega
   ·omega
   ·rw[hp2]
    exact zu
   ·unfold netN
    exact zk
 ·repeat'(first|refine zgc ?_|(refine zge ?_ ?_<;>intro _<;>try exact zo)|fail)
  apply Yj H
  ·exact zk
  apply Yd;exact rfl;exact rfl
  rw[show k=l.length by omega]
  exact⟨rfl,rfl⟩
theorem UV(n:NetM)(l:List Cel)(j:Nat)(node:Int)(hck:Yq n.net=0)(hnode:0<=node/\node<n.nodes)(hj:j<l.length)(hlen:l.length<=1000)(hno:l.any (UD n.net)=false)(hin:n.In B w0 H)(hr:Rd B w0 H A (l.flatMap celF))(hw:St B w0 H w):
 Calls Tryz.prog 191 [n.val,.slice A l.length cap,.int .i64 j,.int .i64 node].toArray w (Post B w0 λv K=>v=.int .i64 (UU n.net l j node)/\K=H):=by
 refine Yc Tryz.func191 Tryz.ntmps191 rfl rfl hw ?_
 have e1:n.net.nodes=n.nodes:=rfl
 have hins:insE node n.net.nodes=true:=Tc hnode
 have hd:UU n.net l j node=Yu n.net l j node l.length:=by
  unfold UU
  rw[Td (by rw[hck,hins,hno];simp;omega),RZ]
 rw[hd]
 have hchk:=λ{H':List HP}{w:World}(hin:n.In B w0 H') (hw:St B w0 H' w)=>YY n hin hw
 rw[hck]at hchk
 have hcn:=λ{H':List HP}{w:World}(hw:St B w0 H' w)=>Qa n node hw
 rw[hins]at hcn
 (apply Xt;apply Y0;apply YR;exact rfl;exact rfl;intro g)
 have hct:=λ{H':List HP}{w:World}(hm:blk g (.cells #[.int .i64 n.nodes,.slice n.pA n.rows.length n.pcap,.int .i64 n.noise,.int .i64 n.thr,.slice n.lA n.links.length n.lcap,.slice n.mA n.margin.length n.mcap] 26 (0,0))∈H') (hr:Rd B w0 H' A (l.flatMap celF)) (hw:St B w0 H' w)=>W5 (UD n.net) l 267 [.pointer (some ⟨g,0,none⟩)] YtQ hlen (cap:=cap) hr (λc _ w hw=>Yjz n c g hm hw) hw
 rw[hno]at hct
 repeat'(first|((first|apply Ya en82|apply Yb en82);exact za;exact rfl;exactλ_ hw=>(hchk hin.cons hw))|((first|apply Ya Ybe|apply Yb Ybe);exact za;exact rfl;exactλ_ hw=>(hcn hw))|((first|apply Ya en32|apply Yb en32);exact za;exact rfl;exactλ_ hw=>(hct zm hr.cons hw))|((first|apply Ya Ylp|apply Yb Ylp);exact za;exact rfl;exactλ_ hw=>(YcH n l j node (YM hck) hnode hlen hin.cons hr.cons hw))|(apply zg29;(apply Ym;exact za;exact rfl))|refine zgd ?_|(refine zgf ?_ ?_<;>intro _<;>try exact zo)|fail)
 apply Yj H
 ·exact zk
 apply Yd;exact rfl;exact rfl;exact⟨rfl,rfl⟩
variable {s:Sch}{slot:Int}{j n:Nat}
theorem Ym0(h:(Yo s j).1=slot)(hj:j<n):∃R,inI s slot n=inI s slot j++j::R/\∀x∈R,j<x:=by
 obtain⟨m,rfl⟩:∃m,n=j+(m+1):=⟨n-j-1,by omega⟩
 have e:inI s slot (j+(m+1))=inI s slot j++((List.range (m+1)).map (j+·)).filter λi=>decide ((Yo s i).1=slot):=by
  unfold inI;rw[List.range_add,Rj]
 rw[e,Nj,Re,Su,Tm (by simpa using h)]
 refine⟨_,rfl,λx hx=>?_⟩
 obtain⟨y,hy,rfl⟩:=TG.1 (Rr.1 hx).1
 obtain⟨z,_,rfl⟩:=TG.1 hy
 omega
theorem Ypf{k:Nat}(h:(inI s slot n)[k]? =some j):(inI s slot n).take k=inI s slot j:=by
 have hm:=OF.1 (Tf h)
 obtain⟨R,hR,hRx⟩:=Ym0 hm.2 hm.1
 rw[hR]at h⊢
 have hk:k=(inI s slot j).length:=by
  rcases N1 k (inI s slot j).length with h1|h1|h1
  ·rw[Sl h1]at h
   have:=(OF.1 (Tf h)).1
   omega
  ·exact h1
  ·rw[Ro (by omega)]at h
   obtain⟨q,hq⟩:∃q,k-(inI s slot j).length=q+1:=⟨k-(inI s slot j).length-1,by omega⟩
   rw[hq,NA]at h
   have:=hRx j (Tf h)
   omega
 rw[hk,List.take_left' rfl]
theorem Yf2{α:Type}{p:α->Bool}{l:List α}{i:Nat}{x:α}(h:l[i]? =some x):(l.take (i+1)).filter p=(l.take i).filter p++if p x=true then [x]else []:=by
 rw[TF,h,RI,Rj]
 cases hp:p x<;>simp[hp]
def On(s:Sch)(c:Cel)(l:List Nat):List Cel:=(l.filter λj=>decide ((Yo s j).2.1=c.2.1)).map (Yo s)
theorem YaR{s:Sch}{c:Cel}:∀{m:Nat},m<=s.cells.length->On s c (inI s c.1 m)=(s.cells.take m).filter (Xq c)
 |0,_=>by simp[On,inI]
 |m+1,h=>by
  have ih:=YaR (s:=s) (c:=c) (m:=m) (by omega)
  have hg:=Y2 (s:=s) (i:=m) (by omega)
  rw[Yf2 hg,<-ih]
  have hp:Xq c (Yo s m)=true↔(Yo s m).1=c.1/\(Yo s m).2.1=c.2.1:=by unfold Xq;rw[Tq]
  by_cases h1:(Yo s m).1=c.1
  ·rw[YlE h1]
   unfold On
   rw[Rj,T8]
   by_cases h2:(Yo s m).2.1=c.2.1
   ·rw[Tm (hp.2 ⟨h1,h2⟩)]
    simp[h2]
   ·rw[Td λh=>h2 (hp.1 h).2]
    simp[h2]
  ·rw[Ype h1,Td λh=>h1 (hp.1 h).1,TM]
theorem Yiy(s:Sch)(c:Cel)(l:List Nat)(j:Nat):On s c (l++[j])=On s c l++if(Yo s j).2.1=c.2.1 then [Yo s j]else []:=by
 unfold On
 rw[Rj,T8]
 by_cases h:(Yo s j).2.1=c.2.1
 ·rw[Tm h];simp[h]
 ·rw[Td h];simp[h]
structure DsM where
 A:Option Addr
 cap:Nat
 M:List Cel
 a:Int
theorem YcI(n:NetM)(s:SchM)(i:Nat)(hck:Yq n.net=0)(hgood:∀c∈s.cells,YA n.net (Yx c) (toC c)=true)(hi:i<s.cells.length)(hl:s.cells.length<=1000){B:Nat}{w0:World}{H:List HP}{w:World}(hin:n.In B w0 H)(hr:Rd B w0 H s.A (s.cells.flatMap celF))(hw:St B w0 H w):
 Calls Tryz.prog 87 [n.val,s.val,.int .i64 i].toArray w (Post B w0 λv K=>v=.bool (Z7 n.net s.sch i)/\K=H):=by
 refine Zi Tryz.func87 Tryz.ntmps87 rfl rfl hw ?_
 have hget:s.cells[i]? =some (Yo s.sch i):=Y2 (s:=s.sch) hi
 obtain⟨c,hc⟩:∃c,Yo s.sch i=c:=⟨_,rfl⟩
 rw[hc]at hget
 have hrm:Rd B w0 [many H] s.A (s.cells.flatMap celF):=hr.tail
 clear hr
 refine Jf [many H] (λw hw=>hw.perm (.closeT H)) ?_
 repeat'(first|(apply zg23;first|(refine zs52 ?_;intro _)|(refine zs53 ?_;intro _))|refine zgd ?_|(refine zgh ?_;intro _)|fail)
 rename_i gn gs gi g7 g8
 apply YU [0,1,2,3,4,5,6] [7] [false,false,true,true,false,true]
 kernel_rfl
 kernel_rfl
 exact zy
 (simp only[Yg,nthO];rfl)
 (simp only[Yg,nthO];rfl)
 repeat'(first|refine zgd ?_|fail)
 apply Yh _ YrT
 exact za
 exact rfl
 exactλ_ hw=>(Yh3 s c.1 (hw))
 rintro _ _ ⟨g1,g2,rfl,rfl⟩
 repeat'(first|refine zgd ?_|fail)
 obtain⟨L,hL⟩:∃L,inI s.sch c.1 s.cells.length=L:=⟨_,rfl⟩
 have hiL:i∈L:=by
  rw[<-hL]
  exact OF.2 ⟨hi,by rw[hc]⟩
 have hr7:Rd B w0 (intB g2 c.1::schB g1 s::blk gi (.cells #[.int .i64 i] 3 (0,0))::schB gs s::netN gn n::[many H]) s.A (s.cells.flatMap celF):=hrm.cons.cons.cons.cons.cons
 rw[show(Value.slice none 0 0).cells=#[Value.slice none 0 0] from rfl]
 refine Je 64 5 ?_
 refine Zj (gf:=265) (lb:=[.pointer (some ⟨g1,0,none⟩),.pointer (some ⟨g2,0,none⟩)]) (xs:=inXs s.sch c.1) (intB g2 c.1::schB g1 s::blk gi (.cells #[.int .i64 i] 3 (0,0))::schB gs s::netN gn n::[many H]) (λx:DsM=>[blk g7 (.cells #[.slice x.A x.M.length x.cap] 35 (0,0)),cels x.A x.cap x.M,blk g8 (.cells #[.int .i64 x.a] 3 (0,0))])
  (λk x=>x.M=On s.sch c (L.take k)/\x.a=if i∈L.take k then(YI s.sch i:Int)else 0) (λ_ _=>False) ⟨none,0,[],0⟩ rfl Yr3 (Yh2 s c.1 g1 g2 hr7 (by omega) (.tail _ (.head _)) (.head _)) rfl ?_ (by kernel_rfl) (by kernel_rfl) ?_ ⟨by simp[On],by simp⟩ ?_ ?_ (λ_ _ _ h=>h.elim)
 ·intro args h
  obtain⟨k,hk⟩:=T9.1 h
  obtain⟨i,_,_,rfl⟩:=QU hk
  rfl
 ·unfold schB intB cels netN
  simp only[TC,TK,RD,SZ]
  exact zk
 ·rintro l k args R ⟨A,cap,M,a⟩ hk ⟨hM,ha⟩
  obtain⟨j,hj,hlt,rfl⟩:=QU hk
  have hlt2:j<s.cells.length:=hlt
  have hj:L[k]? =some j:=by rw[<-hL];exact hj
  dsimp only at hM ha⊢
  dsimp only[UG,List.cons_append,List.nil_append]
  have hgj:s.cells[j]? =some (Yo s.sch j):=Y2 (s:=s.sch) hlt
  have htj:L.take k=inI s.sch c.1 j:=by
   rw[<-hL]at hj⊢
   exact Ypf hj
  have htk:L.take (k+1)=L.take k++[j]:=by rw[TF,hj,RI]
  have hMf:M=(s.cells.take j).filter (Xq c):=by
   rw[hM,htj]
   exact YaR (s:=s.sch) (by show j<=s.cells.length;omega)
  have hMl:M.length<=s.cells.length:=by
   rw[hMf]
   have h1:=Rn (Xq c) (s.cells.take j)
   rw[TD]at h1
   omega
  have hps:=Yiy s.sch c (L.take k) j
  rw[<-htk,<-hM]at hps
  obtain⟨d,hd⟩:∃d,Yo s.sch j=d:=⟨_,rfl⟩
  rw[hd]at hgj hps
  repeat'(first|refine zga ?_|fail)
  apply JO Yt
  intro R'
  unfold intB schB netN cels
  clear hr7
  by_cases hoff:d.2.1=c.2.1
  rotate_left
  ·have hij:i≠j:=by
    rintro rfl
    rw[hc]at hd
    subst hd
    exact hoff rfl
   repeat'(first|refine zgd ?_|(refine zge ?_ ?_<;>intro _<;>try exact zo)|fail)
   all_goals(
    apply Ug ⟨A,cap,M,a⟩
    ·refine⟨?_,?_⟩
     ·show M=_
      rw[hps,Td hoff,TM]
     ·show a=_
      rw[ha,htk]
      simp[hij]
    ·dsimp only[List.cons_append,List.nil_append]
     exact zk)
  by_cases hji:j=i
  ·obtain rfl:=hji
   obtain rfl:d=c:=hd.symm.trans hc
   have hsa:(M.length:Int)=(YI s.sch j:Int):=by
    rw[hMf]
    unfold YI
    rw[hc]
    rfl
   repeat'(first|refine zgd ?_|(refine zge ?_ ?_<;>intro _<;>try exact zo)|fail)
   apply YgR [0,1,2,3,4,5,6] [7,8] [false,true,false,false,false,false,false,true,false,true]
   kernel_rfl
   kernel_rfl
   exact zy
   (simp only[Yg,nthO];rfl)
   (simp only[Yg,nthO];rfl)
   repeat'(first|(apply Yce T;exact rfl;exact zm;(iterate 3 exact rfl))|(apply Yk;try exact zl)|refine zgd ?_|(refine zgh ?_;intro _)|(refine zgi ?_;intro _ _)|fail)
   rename_i A9 cap9
   apply Ug ⟨A9,cap9,M++[d],(M.length:Int)⟩
   ·refine⟨?_,?_⟩
    ·show M++[d]=_
     rw[hps,Tm hoff]
    ·show(M.length:Int)=_
     rw[htk,Tm (by simp),hsa]
   ·dsimp only[List.cons_append,List.nil_append]
    intro w hw
    rw[Wi,Yic M d]at hw
    unfold cels at hw
    revert w
    exact zk
  ·have hji2:i≠j:=λe=>hji e.symm
   repeat'(first|refine zgd ?_|(refine zge ?_ ?_<;>intro _<;>try exact zo)|fail)
   apply YgR [0,1,2,3,4,5,6] [7,8] [false,true,false,false,false,false,false,true,false,true]
   kernel_rfl
   kernel_rfl
   exact zy
   (simp only[Yg,nthO];rfl)
   (simp only[Yg,nthO];rfl)
   repeat'(first|(apply Yce T;exact rfl;exact zm;(iterate 3 exact rfl))|(apply Yk;try exact zl)|refine zgd ?_|(refine zgh ?_;intro _)|(refine zgi ?_;intro _ _)|fail)
   rename_i A9 cap9
   apply Ug ⟨A9,cap9,M++[d],a⟩
   ·refine⟨?_,?_⟩
    ·show M++[d]=_
     rw[hps,Tm hoff]
    ·show a=_
     rw[ha,htk]
     simp[hji2]
   ·dsimp only[List.cons_append,List.nil_append]
    intro w hw
    rw[Wi,Yic M d]at hw
    unfold cels at hw
    revert w
    exact zk
 ·rintro D ⟨A,cap,M,a⟩ ⟨hM,ha⟩
  have hLl:(inXs s.sch c.1).length=L.length:=by rw[inXs,Tv];exact TU List.length hL
  dsimp only at hM ha⊢
  rw[hLl,TY]at hM ha
  rw[Tm hiL]at ha
  subst ha
  have hMS:M=YF s.sch i:=by
   rw[hM,<-hL]
   have h1:=YaR (s:=s.sch) (c:=c) (TL _)
   rw[TY]at h1
   rw[show s.cells.length=s.sch.cells.length from rfl,h1]
   unfold YF
   rw[hc]
  have hMl:M.length<=1000:=by
   rw[hMS]
   have h1:=Rn (Xq (Yo s.sch i)) s.sch.cells
   exact RE h1 hl
  have hgM:M[((YI s.sch i:Nat):Int).toNat]? =some c:=by rw[hMS,RZ,YdA (s:=s.sch) hi,hc]
  have hal:YI s.sch i<M.length:=(Ti.1 hgM).1
  have hok:=YM hck
  have hcm:c∈s.cells:=Tf hget
  have hgd:=hgood c hcm
  obtain⟨⟨f0,f1⟩,⟨t0,t1⟩,_,k1,k2⟩:(0<=c.2.2.1/\c.2.2.1<n.net.nodes)/\(0<=c.2.2.2.1/\c.2.2.2.1<n.net.nodes)/\c.2.2.1≠c.2.2.2.1/\0<=Yw n.net c.2.2.1 c.2.2.2.1/\0<=Yw n.net c.2.2.2.1 c.2.2.1:=Xu hok hgd
  have hno:M.any (UD n.net)=false:=by
   rw[RY]
   intro x hx
   have hxm:x∈s.cells:=by
    rw[hMS]at hx
    exact(Rr.1 hx).1
   obtain⟨h1,h2,_⟩:=Xu hok (hgood x hxm)
   unfold UD
   rw[show insE (Yx x) n.net.nodes=true from Tc h1,show insE (toC x) n.net.nodes=true from Tc h2]
   simp
  have hinm:n.In B w0 [many H]:=⟨hin.pw.tail,λr hr=>(hin.rw_ r hr).tail,hin.lk.tail,hin.mg.tail,hin.s1,hin.s2,hin.s3,hin.s4⟩
  have hmg:=hinm.mg
  have hs4:=hin.s4
  have hml:n.margin.length=n.net.links.length:=hok.k1
  have x1:=ZA k1
  have x2:=ZA k2
  have hix:∀u v:Int,Zd n.net u v=Yw n.net u v:=λu v=>by unfold Zd;rw[Td (by omega)]
  have p1:=λ{H':List HP}{w:World}(hin:n.In B w0 H') (hw:St B w0 H' w)=>XZ n c.2.2.1 c.2.2.2.1 hin hw
  have p2:=λ{H':List HP}{w:World}(hin:n.In B w0 H') (hw:St B w0 H' w)=>XZ n c.2.2.2.1 c.2.2.1 hin hw
  rw[hix]at p1 p2
  obtain⟨i1,hi1⟩:∃z,Yw n.net c.2.2.1 c.2.2.2.1=z:=⟨_,rfl⟩
  obtain⟨i2,hi2⟩:∃z,Yw n.net c.2.2.2.1 c.2.2.1=z:=⟨_,rfl⟩
  rw[hi1]at p1 k1 x1
  rw[hi2]at p2 k2 x2
  have hm1:n.margin[i1.toNat]? =some (mar n.net i1.toNat):=by
   unfold mar
   rw[Tt,show n.net.margin=n.margin from rfl,Ta (by omega)];rfl
  have hm2:n.margin[i2.toNat]? =some (mar n.net i2.toNat):=by
   unfold mar
   rw[Tt,show n.net.margin=n.margin from rfl,Ta (by omega)];rfl
  have q1:=λ{H':List HP}{w:World}(hin:n.In B w0 H') (hr:Rd B w0 H' A (M.flatMap celF)) (hw:St B w0 H' w)=>UV n M (YI s.sch i) c.2.2.2.1 hck ⟨t0,t1⟩ hal hMl hno (cap:=cap) hin hr hw
  have q2:=λ{H':List HP}{w:World}(hin:n.In B w0 H') (hr:Rd B w0 H' A (M.flatMap celF)) (hw:St B w0 H' w)=>UV n M (YI s.sch i) c.2.2.1 hck ⟨f0,f1⟩ hal hMl hno (cap:=cap) hin hr hw
  have r1:=λ{H':List HP}{w:World}(hin:n.In B w0 H') (hw:St B w0 H' w)=>O7 n (mar n.net i1.toNat) (UU n.net M (YI s.sch i) c.2.2.2.1) hin hw
  have r2:=λ{H':List HP}{w:World}(hin:n.In B w0 H') (hw:St B w0 H' w)=>O7 n (mar n.net i2.toNat) (UU n.net M (YI s.sch i) c.2.2.1) hin hw
  have hres:Z7 n.net s.sch i=(!(Zl n.net (mar n.net i1.toNat) (UU n.net M (YI s.sch i) c.2.2.2.1))||!(Zl n.net (mar n.net i2.toNat) (UU n.net M (YI s.sch i) c.2.2.1))):=by
   unfold Z7
   rw[hc,<-hMS]
   unfold Yx toC
   rw[hi1,hi2]
  obtain⟨b1,hb1⟩:∃b,Zl n.net (mar n.net i1.toNat) (UU n.net M (YI s.sch i) c.2.2.2.1)=b:=⟨_,rfl⟩
  obtain⟨b2,hb2⟩:∃b,Zl n.net (mar n.net i2.toNat) (UU n.net M (YI s.sch i) c.2.2.1)=b:=⟨_,rfl⟩
  rw[hb1]at r1 hres
  rw[hb2]at r2 hres
  rw[hres]
  dsimp only[List.cons_append,List.nil_append]
  unfold cels intB schB netN
  cases b1 with
  |false=>
   repeat'(first|(apply zg28;refine zs84 ?_)|refine zgd ?_|(refine zgh ?_;intro _)|fail)
   first|apply Ya Xc|apply Yb Xc
   exact za
   exact rfl
   exactλ_ hw=>(p1 (by repeat(first|exact hinm|apply NetM.In.cons)) hw)
   repeat'(first|refine zgb ?_|fail)
   first|apply Ya Xc|apply Yb Xc
   exact za
   exact rfl
   exactλ_ hw=>(p2 (by repeat(first|exact hinm|apply NetM.In.cons)) hw)
   repeat'(first|(apply zg28;refine zs84 ?_)|refine zgd ?_|fail)
   first|apply Ya OW|apply Yb OW
   exact za
   exact rfl
   exactλ_ hw=>(q1 (by repeat(first|exact hinm|apply NetM.In.cons)) (Rd.sl zm) hw)
   repeat'(first|fail)
   first|apply Ya WL|apply Yb WL
   exact za
   exact rfl
   exactλ_ hw=>(r1 (by repeat(first|exact hinm|apply NetM.In.cons)) hw)
   repeat'(first|refine zgd ?_|fail)
   apply ZR
   ·(repeat(first|with_reducible exact Yt|with_reducible apply YD))
   apply VQ_m
   apply Yj H
   ·intro w hw
    have h5:St B w0 [many H] w:=by
     revert w
     exact zk
    exact h5.perm (.openT H)
   apply Yd;exact rfl;exact rfl;exact⟨rfl,rfl⟩
  |true=>
   cases b2 with
   |false=>
    repeat'(first|(apply zg28;refine zs84 ?_)|refine zgd ?_|(refine zgh ?_;intro _)|fail)
    first|apply Ya Xc|apply Yb Xc
    exact za
    exact rfl
    exactλ_ hw=>(p1 (by repeat(first|exact hinm|apply NetM.In.cons)) hw)
    repeat'(first|refine zgb ?_|fail)
    first|apply Ya Xc|apply Yb Xc
    exact za
    exact rfl
    exactλ_ hw=>(p2 (by repeat(first|exact hinm|apply NetM.In.cons)) hw)
    repeat'(first|(apply zg28;refine zs84 ?_)|refine zgd ?_|fail)
    first|apply Ya OW|apply Yb OW
    exact za
    exact rfl
    exactλ_ hw=>(q1 (by repeat(first|exact hinm|apply NetM.In.cons)) (Rd.sl zm) hw)
    repeat'(first|fail)
    first|apply Ya WL|apply Yb WL
    exact za
    exact rfl
    exactλ_ hw=>(r1 (by repeat(first|exact hinm|apply NetM.In.cons)) hw)
    repeat'(first|refine zgd ?_|fail)
    first|apply Ya OW|apply Yb OW
    exact za
    exact rfl
    exactλ_ hw=>(q2 (by repeat(first|exact hinm|apply NetM.In.cons)) (Rd.sl zm) hw)
    repeat'(first|refine zgc ?_|fail)
    first|apply Ya WL|apply Yb WL
    exact za
    exact rfl
    exactλ_ hw=>(r2 (by repeat(first|exact hinm|apply NetM.In.cons)) hw)
    repeat'(first|refine zgd ?_|fail)
    apply ZR
    ·(repeat(first|with_reducible exact Yt|with_reducible apply YD))
    apply VQ_m
    apply Yj H
    ·intro w hw
     have h5:St B w0 [many H] w:=by
      revert w
      exact zk
     exact h5.perm (.openT H)
    apply Yd;exact rfl;exact rfl;exact⟨rfl,rfl⟩
   |true=>
    repeat'(first|(apply zg28;refine zs84 ?_)|refine zgd ?_|(refine zgh ?_;intro _)|fail)
    first|apply Ya Xc|apply Yb Xc
    exact za
    exact rfl
    exactλ_ hw=>(p1 (by repeat(first|exact hinm|apply NetM.In.cons)) hw)
    repeat'(first|refine zgb ?_|fail)
    first|apply Ya Xc|apply Yb Xc
    exact za
    exact rfl
    exactλ_ hw=>(p2 (by repeat(first|exact hinm|apply NetM.In.cons)) hw)
    repeat'(first|(apply zg28;refine zs84 ?_)|refine zgd ?_|fail)
    first|apply Ya OW|apply Yb OW
    exact za
    exact rfl
    exactλ_ hw=>(q1 (by repeat(first|exact hinm|apply NetM.In.cons)) (Rd.sl zm) hw)
    repeat'(first|fail)
    first|apply Ya WL|apply Yb WL
    exact za
    exact rfl
    exactλ_ hw=>(r1 (by repeat(first|exact hinm|apply NetM.In.cons)) hw)
    repeat'(first|refine zgd ?_|fail)
    first|apply Ya OW|apply Yb OW
    exact za
    exact rfl
    exactλ_ hw=>(q2 (by repeat(first|exact hinm|apply NetM.In.cons)) (Rd.sl zm) hw)
    repeat'(first|refine zgc ?_|fail)
    first|apply Ya WL|apply Yb WL
    exact za
    exact rfl
    exactλ_ hw=>(r2 (by repeat(first|exact hinm|apply NetM.In.cons)) hw)
    repeat'(first|refine zgd ?_|fail)
    apply ZR
    ·(repeat(first|with_reducible exact Yt|with_reducible apply YD))
    apply VQ_m
    apply Yj H
    ·intro w hw
     have h5:St B w0 [many H] w:=by
      revert w
      exact zk
     exact h5.perm (.openT H)
    apply Yd;exact rfl;exact rfl;exact⟨rfl,rfl⟩
variable {l:List Flw}
theorem Yjq{n:Net}{s:Sch}(h1:(JT n l s).2=0):∀c∈s.cells,YA n (Yx c) (toC c)=true:=by
 have k1:=YL.1 h1
 intro c hc
 obtain⟨i,hi⟩:=T9.1 hc
 have hl:=(Ti.1 hi).1
 have:=k1 i (Tu _) (by omega)
 unfold VX at this
 rw[XF hi]at this
 cases hg:YA n (Yx c) (toC c)with
 |true=>rfl
 |false=>
  rw[hg]at this
  split at this
  ·omega
  ·rw[Tm (.inl rfl)]at this;omega
theorem YmU{nodes:Int}(h:(YE nodes l).2=0):l.length<=16:=by
 unfold YE at h
 split at h
 ·cases h
 split at h
 ·cases h
 ·omega
theorem O3(n:NetM)(l:List Flw)(s:SchM)(hlf:l.length<=9223372036854775807)(hl:s.cells.length<=1000000000000){A:Option Addr}{cap B:Nat}{w0:World}{H:List HP}{w:World}(hin:n.In B w0 H)(hrf:Rd B w0 H A (l.flatMap flwF))(hr:Rd B w0 H s.A (s.cells.flatMap celF))(hw:St B w0 H w):
 Calls Tryz.prog 20 [n.val,.slice A l.length cap,s.val].toArray w (Post B w0 λv K=>v=.tuple #[.int .i64 (schE n.net l s.sch).1,.int .i64 (schE n.net l s.sch).2]/\K=H):=by
 refine Yc Tryz.func20 Tryz.ntmps20 rfl rfl hw ?_
 have e4:s.sch.cells.length=s.cells.length:=rfl
 have e5:s.sch.len=s.len:=rfl
 have hchk:=λ{H':List HP}{w:World}(hin:n.In B w0 H') (hw:St B w0 H' w)=>YY n hin hw
 have hsz:=λ{H':List HP}{w:World}(hw:St B w0 H' w)=>YdB s hw
 by_cases h1:Yq n.net=0
 rotate_left
 ·have hS:schE n.net l s.sch=(-1,1):=by
   have hw1:Zy n.net l s.sch=1:=by unfold Zy;rw[Tm h1]
   unfold schE;rw[hw1];rfl
  rw[hS]
  repeat'(first|((first|apply Ya en82|apply Yb en82);exact za;exact rfl;exactλ_ hw=>(hchk hin.cons.cons hw))|refine zgb ?_|(refine zge ?_ ?_<;>intro _<;>try exact zo)|(refine zgh ?_;intro _)|fail)
  apply Yj H
  ·exact zk
  apply Yp;(iterate 3 exact rfl);exact⟨rfl,rfl⟩
 rw[h1]at hchk
 by_cases h2:(YE n.nodes l).2=0
 rotate_left
 ·have hS:schE n.net l s.sch=(-1,1):=by
   have hw1:Zy n.net l s.sch=1:=by unfold Zy;rw[Td (by omega)];exact Tm h2
   unfold schE;rw[hw1];rfl
  rw[hS]
  repeat'(first|((first|apply Ya en82|apply Yb en82);exact za;exact rfl;exactλ_ hw=>(hchk hin.cons.cons hw))|((first|apply Ya en59|apply Yb en59);exact za;exact rfl;exactλ_ hw=>(Y5 n.nodes l hlf hrf.cons.cons hw))|refine zgc ?_|(refine zge ?_ ?_<;>intro _<;>try exact zo)|(refine zgh ?_;intro _)|fail)
  apply Yj H
  ·exact zk
  apply Yp;(iterate 3 exact rfl);exact⟨rfl,rfl⟩
 have hl16:=YmU h2
 have hper:=YeV h2
 cases h3:ZO s.sch with
 |false=>
  rw[h3]at hsz
  have hS:schE n.net l s.sch=(-1,2):=by
   have hw1:Zy n.net l s.sch=2:=by unfold Zy;rw[Td (by omega),Td (λh=>h h2),Tm h3]
   unfold schE;rw[hw1];rfl
  rw[hS]
  repeat'(first|((first|apply Ya en82|apply Yb en82);exact za;exact rfl;exactλ_ hw=>(hchk hin.cons.cons hw))|((first|apply Ya en59|apply Yb en59);exact za;exact rfl;exactλ_ hw=>(Y5 n.nodes l hlf hrf.cons.cons hw))|((first|apply Ya en83|apply Yb en83);exact za;exact rfl;exactλ_ hw=>(hsz hw))|refine zgd ?_|(refine zge ?_ ?_<;>intro _<;>try exact zo)|(refine zgh ?_;intro _)|fail)
  apply Yj H
  ·exact zk
  apply Yp;(iterate 3 exact rfl);exact⟨rfl,rfl⟩
 |true=>
 rw[h3]at hsz
 have hsl:1<=s.len/\s.len<=512:=by
  have:=Rm h3
  exact⟨this.1,this.2.1⟩
 obtain⟨b,hb⟩:∃b,(l.any λf=>decide (s.len.tmod f.2.2.2.1≠0))=b:=⟨_,rfl⟩
 have hw0:Zy n.net l s.sch=if b=true then 11 else if 512<s.cells.length then 8 else 0:=by
  unfold Zy
  rw[Td (by omega),Td (λh=>h h2),h3,Td (by decide),e5,hb]
  rfl
 have hcf:=λ{H':List HP}{w:World}(gs:Nat) (hm:blk gs (.cells #[.int .i64 s.len,.int .i64 s.off,.slice s.A s.cells.length s.cap] 37 (0,0))∈H') (hr:Rd B w0 H' A (l.flatMap flwF)) (hw:St B w0 H' w)=>W6 (λf=>decide (s.len.tmod f.2.2.2.1≠0)) l 84 [.pointer (some ⟨gs,0,none⟩)] en84 (by omega) (cap:=cap) hr (λf hf w hw=>Ygm s f gs hsl ⟨(hper f hf).2.2.1,(hper f hf).2.2.2⟩ hm hw) hw
 rw[hb]at hcf
 cases b with
 |true=>
  rw[Tm rfl]at hw0
  have hS:schE n.net l s.sch=(-1,11):=by unfold schE;rw[hw0];rfl
  rw[hS]
  repeat'(first|((first|apply Ya en82|apply Yb en82);exact za;exact rfl;exactλ_ hw=>(hchk hin.cons.cons hw))|((first|apply Ya en59|apply Yb en59);exact za;exact rfl;exactλ_ hw=>(Y5 n.nodes l hlf hrf.cons.cons hw))|((first|apply Ya en83|apply Yb en83);exact za;exact rfl;exactλ_ hw=>(hsz hw))|((first|apply Ya en66|apply Yb en66);exact za;exact rfl;exactλ_ hw=>(hcf _ zm hrf.cons.cons hw))|(apply zg29;(apply Ym;exact za;exact rfl))|refine zgd ?_|(refine zge ?_ ?_<;>intro _<;>try exact zo)|(refine zgh ?_;intro _)|fail)
  apply Yj H
  ·exact zk
  apply Yp;(iterate 3 exact rfl);exact⟨rfl,rfl⟩
 |false=>
 rw[Td (by decide)]at hw0
 by_cases h5:512<s.cells.length
 ·rw[Tm h5]at hw0
  have hS:schE n.net l s.sch=(-1,8):=by unfold schE;rw[hw0];rfl
  rw[hS]
  repeat'(first|((first|apply Ya en82|apply Yb en82);exact za;exact rfl;exactλ_ hw=>(hchk hin.cons.cons hw))|((first|apply Ya en59|apply Yb en59);exact za;exact rfl;exactλ_ hw=>(Y5 n.nodes l hlf hrf.cons.cons hw))|((first|apply Ya en83|apply Yb en83);exact za;exact rfl;exactλ_ hw=>(hsz hw))|((first|apply Ya en66|apply Yb en66);exact za;exact rfl;exactλ_ hw=>(hcf _ zm hrf.cons.cons hw))|(apply zg29;(apply Ym;exact za;exact rfl))|refine zgd ?_|(refine zgf ?_ ?_<;>intro _<;>try exact zo)|(refine zgh ?_;intro _)|fail)
  apply Yj H
  ·exact zk
  apply Yp;(iterate 3 exact rfl);exact⟨rfl,rfl⟩
 rw[Td h5]at hw0
 have hS:schE n.net l s.sch=if(JT n.net l s.sch).2≠0 then JT n.net l s.sch else if(Ud s.sch).2≠0 then Ud s.sch else YeA n.net s.sch:=by
  unfold schE;rw[hw0];rfl
 rw[hS]
 have hcc:=λ{H':List HP}{w:World}(hin:n.In B w0 H') (hrf:Rd B w0 H' A (l.flatMap flwF)) (hr:Rd B w0 H' s.A (s.cells.flatMap celF)) (hw:St B w0 H' w)=>YbN n l s h1 (by omega) hl (cap:=cap) hin hrf hr hw
 obtain⟨⟨c1,c2⟩,hcv⟩:∃R,JT n.net l s.sch=R:=⟨_,rfl⟩
 rw[hcv]at hcc⊢
 dsimp only at hcc⊢
 by_cases h6:c2≠0
 ·rw[Tm h6]
  repeat'(first|((first|apply Ya en82|apply Yb en82);exact za;exact rfl;exactλ_ hw=>(hchk hin.cons.cons hw))|((first|apply Ya en59|apply Yb en59);exact za;exact rfl;exactλ_ hw=>(Y5 n.nodes l hlf hrf.cons.cons hw))|((first|apply Ya en83|apply Yb en83);exact za;exact rfl;exactλ_ hw=>(hsz hw))|((first|apply Ya en66|apply Yb en66);exact za;exact rfl;exactλ_ hw=>(hcf _ zm hrf.cons.cons hw))|((first|apply Ya en85|apply Yb en85);exact za;exact rfl;exactλ_ hw=>(hcc hin.cons.cons hrf.cons.cons hr.cons.cons hw))|(apply zg29;(apply Ym;exact za;exact rfl))|refine zgd ?_|(refine zgf ?_ ?_<;>intro _<;>try exact zo)|(refine zgh ?_;intro _)|fail)
  apply Yj H
  ·exact zk
  apply Yp;(iterate 3 exact rfl);exact⟨rfl,rfl⟩
 obtain rfl:c2=0:=RL.1 h6
 rw[Td h6]
 have hgood:=Yjq (n:=n.net) (l:=l) (s:=s.sch) (by rw[hcv])
 repeat'(first|((first|apply Ya en82|apply Yb en82);exact za;exact rfl;exactλ_ hw=>(hchk hin.cons.cons hw))|((first|apply Ya en59|apply Yb en59);exact za;exact rfl;exactλ_ hw=>(Y5 n.nodes l hlf hrf.cons.cons hw))|((first|apply Ya en83|apply Yb en83);exact za;exact rfl;exactλ_ hw=>(hsz hw))|((first|apply Ya en66|apply Yb en66);exact za;exact rfl;exactλ_ hw=>(hcf _ zm hrf.cons.cons hw))|((first|apply Ya en85|apply Yb en85);exact za;exact rfl;exactλ_ hw=>(hcc hin.cons.cons hrf.cons.cons hr.cons.cons hw))|(apply zg29;(apply Ym;exact za;exact rfl))|refine zgd ?_|(refine zgf ?_ ?_<;>intro _<;>try exact zo)|(refine zgh ?_;intro _)|fail)
 first|(rename_i gn gs;guard_hyp gn:Nat;guard_hyp gs:Nat)|(rename_i gn gs _;guard_hyp gn:Nat;guard_hyp gs:Nat)|(rename_i gn gs _ _;guard_hyp gn:Nat;guard_hyp gs:Nat)|(rename_i gn gs _ _ _;guard_hyp gn:Nat;guard_hyp gs:Nat)|(rename_i gn gs _ _ _ _;guard_hyp gn:Nat;guard_hyp gs:Nat)|(rename_i gn gs _ _ _ _ _;guard_hyp gn:Nat;guard_hyp gs:Nat)|(rename_i gn gs _ _ _ _ _ _;guard_hyp gn:Nat;guard_hyp gs:Nat)
 refine Yi (λ(k:Nat)=>[(53,.int .i64 k),(52,.int .i64 s.cells.length),(51,.slice s.A s.cells.length s.cap),(3,.pointer (some ⟨gn,0,none⟩)),(5,.pointer (some ⟨gs,0,none⟩))]) (λ_=>blk gs (.cells #[.int .i64 s.len,.int .i64 s.off,.slice s.A s.cells.length s.cap] 37 (0,0))::netN gn n::H) (λk=>k<=s.cells.length/\∀j,j<k->Jc s.sch j=false) (λk=>s.cells.length-k) 0 ⟨Tu _,λj hj=>absurd hj (Sv _)⟩ ?_ (λw hw=>hw) ?_
 ·exact zu
 rintro k ⟨hk,hall⟩ K hK
 have hF:Ud s.sch=YH (λi=>if Jc s.sch i=true then 6 else 0) s.cells.length 0:=rfl
 unfold netN
 by_cases hlt:k<s.cells.length
 ·have htc:=λ{H':List HP}{w:World}(hr:Rd B w0 H' s.A (s.cells.flatMap celF)) (hw:St B w0 H' w)=>YkC s k hlt (by omega) hr hw
  cases htw:Jc s.sch k with
  |true=>
   rw[htw]at htc
   have hT:Ud s.sch=((k:Int),6):=by
    rw[hF,Zt (i:=k) (λj _ hj=>by simp only[hall j hj];rfl) (Tu _) (by omega) (by simp only[htw];decide)]
    simp[htw]
   rw[hT,Tm (show(6:Int)≠0 by decide)]
   repeat'(first|((first|apply Ya en86|apply Yb en86);exact za;exact rfl;exactλ_ hw=>(htc hr.cons.cons hw))|refine zgd ?_|(refine zge ?_ ?_<;>intro _<;>try exact zo)|fail)
   apply Yj H
   ·exact zk
   apply Yp;(iterate 3 exact rfl);exact⟨rfl,rfl⟩
  |false=>
   rw[htw]at htc
   repeat'(first|((first|apply Ya en86|apply Yb en86);exact za;exact rfl;exactλ_ hw=>(htc hr.cons.cons hw))|refine zgc ?_|(refine zge ?_ ?_<;>intro _<;>try exact zo)|fail)
   apply hK (k+1)
   ·refine⟨by omega,λj hj=>?_⟩
    by_cases e:j=k
    ·rw[e];exact htw
    ·exact hall j (by omega)
   ·omega
   ·exact zu
   ·unfold netN
    exact zk
 have hT:(Ud s.sch).2=0:=by
  rw[hF,YL]
  intro j _ hj
  simp only[hall j (by omega)]
  rfl
 rw[Td (λh=>h hT)]
 clear hK
 repeat'(first|refine zgc ?_|(refine zge ?_ ?_<;>intro _<;>try exact zo)|fail)
 refine Yi (λ(k:Nat)=>[(64,.int .i64 k),(63,.int .i64 s.cells.length),(62,.slice s.A s.cells.length s.cap),(3,.pointer (some ⟨gn,0,none⟩)),(5,.pointer (some ⟨gs,0,none⟩))]) (λ_=>blk gs (.cells #[.int .i64 s.len,.int .i64 s.off,.slice s.A s.cells.length s.cap] 37 (0,0))::netN gn n::H) (λk=>k<=s.cells.length/\∀j,j<k->Z7 n.net s.sch j=false) (λk=>s.cells.length-k) 0 ⟨Tu _,λj hj=>absurd hj (Sv _)⟩ ?_ (λw hw=>hw) ?_
 ·exact zu
 rintro k ⟨hk,hall⟩ K2 hK
 have hF:YeA n.net s.sch=YH (λi=>if Z7 n.net s.sch i=true then 16 else 0) s.cells.length 0:=rfl
 unfold netN
 by_cases hlt:k<s.cells.length
 ·have htc:=λ{H':List HP}{w:World}(hin:n.In B w0 H') (hr:Rd B w0 H' s.A (s.cells.flatMap celF)) (hw:St B w0 H' w)=>YcI n s k h1 hgood hlt (by omega) hin hr hw
  cases htw:Z7 n.net s.sch k with
  |true=>
   rw[htw]at htc
   have hT:YeA n.net s.sch=((k:Int),16):=by
    rw[hF,Zt (i:=k) (λj _ hj=>by simp only[hall j hj];rfl) (Tu _) (by omega) (by simp only[htw];decide)]
    simp[htw]
   rw[hT]
   repeat'(first|((first|apply Ya en87|apply Yb en87);exact za;exact rfl;exactλ_ hw=>(htc hin.cons.cons hr.cons.cons hw))|refine zgd ?_|(refine zge ?_ ?_<;>intro _<;>try exact zo)|fail)
   apply Yj H
   ·exact zk
   apply Yp;(iterate 3 exact rfl);exact⟨rfl,rfl⟩
  |false=>
   rw[htw]at htc
   repeat'(first|((first|apply Ya en87|apply Yb en87);exact za;exact rfl;exactλ_ hw=>(htc hin.cons.cons hr.cons.cons hw))|refine zgc ?_|(refine zge ?_ ?_<;>intro _<;>try exact zo)|fail)
   apply hK (k+1)
   ·refine⟨by omega,λj hj=>?_⟩
    by_cases e:j=k
    ·rw[e];exact htw
    ·exact hall j (by omega)
   ·omega
   ·exact zu
   ·unfold netN
    exact zk
 ·have hT:YeA n.net s.sch=(-1,0):=by
   rw[hF]
   exact ZS λj _ hj=>by simp only[hall j (by omega)];rfl
  rw[hT]
  repeat'(first|refine zgc ?_|(refine zge ?_ ?_<;>intro _<;>try exact zo)|fail)
  apply Yj H
  ·exact zk
  apply Yp;(iterate 3 exact rfl);exact⟨rfl,rfl⟩
open Go.RowKit Go.Eng Go.Nw Go.Rt
theorem YjZ{α:Type}(f:α->HP)(l:List α)(r:α)(H:List HP):Perm (f r::many (l.map f)::H) (many ((l++[r]).map f)::H):=by
 have:=Perm.push (f r) (l.map f) [] H
 rw[TM]at this
 rw[T8]
 exact this
abbrev clsP(A:Option Addr)(cap:Nat)(C:List ClM):HP:=sl 132 5 A C.length cap (C.flatMap clF)
theorem YoF(A:Option Addr)(cap:Nat)(l:List ClM)(c:ClM):sl 132 5 A (l.length+1) cap (l.flatMap clF++#[Value.int .i64 c.flow,.slice c.rA c.rs.length c.rcap,.slice c.bA c.bs.length c.bcap,.slice c.wA c.ws.length c.wcap,.slice c.sA c.ss.length c.scap].toList)=clsP A cap (l++[c]):=by simp[clsP,List.flatMap_append,clF]
def OutC(H:List HP)(R:List Clm×(Int×Int))(v:Value)(K:List HP):Prop:=∃A cap C,v=.tuple #[.slice A (C:List ClM).length cap,.int .i64 R.2.1,.int .i64 R.2.2]/\C.map ClM.clm=R.1/\(∀c∈C,c.lens)/\K=clsP A cap C::many (C.map clQ)::H
variable {B:Nat}{w0 w:World}{H:List HP}
theorem Ygd(h:St B w0 H w):St B w0 (clsP none 0 []::many (([]:List ClM).map clQ)::H) w:=(h.perm (.noMany H)).nilSlice _ _
theorem Ygl{R:List Clm×(Int×Int)}{v:Value}(h1:R.1=[])(hv:v=.tuple #[.slice none 0 0,.int .i64 R.2.1,.int .i64 R.2.2]):OutC H R v (clsP none 0 []::many (([]:List ClM).map clQ)::H):=⟨none,0,[],hv,h1.symm,(λc hc=>by cases hc),rfl⟩
structure MkM where
 i:Nat
 A:Option Addr
 cap:Nat
 C:List ClM
theorem U3(n:NetM)(q:List RqM)(s:SchM){A:Option Addr}{cap:Nat}(ht:TabsB B w0)(hin:n.In B w0 H)(hq:QIn B w0 H A q)(hrs:Rd B w0 H s.A (s.cells.flatMap celF))(hsl:s.cells.length<=1000000000000)(hw:St B w0 H w):
 Calls Tryz.prog 80 [n.val,.slice A q.length cap,s.val].toArray w (Post B w0 (OutC H (YT n.net (q.map RqM.rq) s.sch))):=by
 refine Yc Tryz.func80 Tryz.ntmps80 rfl rfl hw ?_
 have hql:=hq.ln
 have hqr:=hq.rd
 have p1:=λ{H':List HP}{w:World}(hin:n.In B w0 H') (hq:QIn B w0 H' A q) (hw:St B w0 H' w)=>Yec n q (cap:=cap) hin hq hw
 have p2:=λ{H':List HP}{w:World}(hq:QIn B w0 H' A q) (hw:St B w0 H' w)=>Ya7 q (cap:=cap) hql hq.rd hw
 have p3:=λ{A2:Option Addr}{cap2:Nat}{H':List HP}{w:World}(hin:n.In B w0 H') (hf:Rd B w0 H' A2 ((RqM.fl q).flatMap flwF)) (hrs:Rd B w0 H' s.A (s.cells.flatMap celF)) (hw:St B w0 H' w)=>O3 n (RqM.fl q) s (by unfold RqM.fl;rw[Tv];omega) hsl (cap:=cap2) hin hf hrs hw
 have p4:=λ{H':List HP}{w:World}(x:RqM) (h9:x.rows.length<=9) (hin:n.In B w0 H') (hrs:Rd B w0 H' s.A (s.cells.flatMap celF)) (hx:x.In B w0 H') (hw:St B w0 H' w)=>Yjv n s x ht hin hrs hsl hx h9 hw
 obtain⟨R,hR⟩:∃R,YT n.net (q.map RqM.rq) s.sch=R:=⟨_,rfl⟩
 rw[hR]
 unfold YT at hR
 rw[Tv]at hR
 have hrq:(rqsE n.net (q.map RqM.rq)).2=0->∀x∈q,x.rows.length<=9:=λh x hx=>by
  unfold rqsE at h
  split at h
  ·cases h
  split at h
  ·exact absurd h (by assumption)
  obtain⟨k,hk⟩:=T9.1 hx
  have h1:=YL.1 h k (Tu _) (by rw[Tv];have:=(Ti.1 hk).1;omega)
  rw[Ydu hk]at h1
  have h2:=Yai h1
  have h3:x.rq.2.length=x.rows.length:=by unfold RqM.rq;rw[Tv]
  omega
 obtain⟨⟨ri,re⟩,hr⟩:∃r,rqsE n.net (q.map RqM.rq)=r:=⟨_,rfl⟩
 obtain⟨⟨ci,ce⟩,hc⟩:∃r,schE n.net (YB (q.map RqM.rq)) s.sch=r:=⟨_,rfl⟩
 obtain⟨F,hF⟩:∃F:Nat->Int,(λi=>if JC n.net s.sch (rqAt (q.map RqM.rq) i)=true then 15 else 0)=F:=⟨_,rfl⟩
 rw[hr]at p1 hR hrq
 rw[Ypa]at p3
 rw[hc]at p3 hR
 rw[hF]at hR
 have hFv:∀{k:Nat}{x:RqM},q[k]? =some x->F k=if JC n.net s.sch x.rq=true then 15 else 0:=λh=>by rw[<-hF];show(if JC _ _ _=true then _ else _)=_;rw[Ydu h]
 rw[<-Ypa]at p3
 dsimp only at p1 p3 hR hrq
 unfold NetM.val SchM.val
 by_cases h0:re=0
 rotate_left
 ·rw[Tm h0]at hR
  subst hR
  repeat'(first|((first|apply Ya YeE|apply Yb YeE);exact za;exact rfl;exactλ_ hw=>(p1 (hin.mono zk) (hq.mono zk) hw))|refine zgc ?_|(refine zge ?_ ?_<;>intro _<;>try exact zo)|(refine zgh ?_;intro _)|fail)
  apply Yj (clsP none 0 []::many (([]:List ClM).map clQ)::H)
  ·intro w hw
   have h5:St B w0 H w:=by
    revert w
    exact zk
   exact Ygd h5
  apply Jr;(iterate 4 exact rfl)
  exact Ygl rfl rfl
 subst h0
 rw[Td (λe=>e rfl)]at hR
 have hrq:=hrq rfl
 by_cases h1:ce=0
 rotate_left
 ·rw[Tm h1]at hR
  subst hR
  repeat'(first|((first|apply Ya YeE|apply Yb YeE);exact za;exact rfl;exactλ_ hw=>(p1 (hin.mono zk) (hq.mono zk) hw))|refine zgc ?_|(refine zge ?_ ?_<;>intro _<;>try exact zo)|(refine zgh ?_;intro _)|fail)
  apply YU [0,1,3,2,4,5,6,7,8,9] [] [true,true]
  kernel_rfl
  kernel_rfl
  exact zy
  (simp only[Yg,nthO];rfl)
  exact rfl
  repeat'(first|refine zgd ?_|fail)
  apply Yh _ Ylg
  exact za
  exact rfl
  exactλ_ hw=>(p2 (hq.mono zk) (hw))
  rintro _ _ ⟨A2,cap2,rfl,rfl⟩
  repeat'(first|(apply Yk;try exact zl)|refine zgd ?_|fail)
  first|apply Ya en20|apply Yb en20
  exact za
  exact rfl
  exactλ_ hw=>(p3 (hin.mono zk) (Rd.sl zm) (hrs.mono zk) hw)
  repeat'(first|(apply Yk;try exact zl)|refine zgd ?_|(refine zge ?_ ?_<;>intro _<;>try exact zo)|fail)
  apply Yj (clsP none 0 []::many (([]:List ClM).map clQ)::H)
  ·intro w hw
   have h5:St B w0 H w:=by
    revert w
    exact zk
   exact Ygd h5
  apply Jr;(iterate 4 exact rfl)
  exact Ygl rfl rfl
 subst h1
 rw[Td (λe=>e rfl)]at hR
 repeat'(first|((first|apply Ya YeE|apply Yb YeE);exact za;exact rfl;exactλ_ hw=>(p1 (hin.mono zk) (hq.mono zk) hw))|refine zgc ?_|(refine zge ?_ ?_<;>intro _<;>try exact zo)|(refine zgh ?_;intro _)|fail)
 first|(rename_i g3 g5;guard_hyp g3:Nat;guard_hyp g5:Nat)|(rename_i g3 g5 _;guard_hyp g3:Nat;guard_hyp g5:Nat)|(rename_i g3 g5 _ _;guard_hyp g3:Nat;guard_hyp g5:Nat)
 apply YU [0,1,3,2,4,5,6,7,8,9] [] [true,true]
 kernel_rfl
 kernel_rfl
 exact zy
 (simp only[Yg,nthO];rfl)
 exact rfl
 repeat'(first|refine zgd ?_|fail)
 apply Yh _ Ylg
 exact za
 exact rfl
 exactλ_ hw=>(p2 (hq.mono zk) (hw))
 rintro _ _ ⟨A2,cap2,rfl,rfl⟩
 repeat'(first|(apply Yk;try exact zl)|refine zgd ?_|fail)
 first|apply Ya en20|apply Yb en20
 exact za
 exact rfl
 exactλ_ hw=>(p3 (hin.mono zk) (Rd.sl zm) (hrs.mono zk) hw)
 repeat'(first|(apply Yk;try exact zl)|refine zgd ?_|(refine zge ?_ ?_<;>intro _<;>try exact zo)|fail)
 refine Yi (λz:MkM=>[(40,.int .i64 (z.i:Nat)),(39,.int .i64 q.length),(38,.slice A q.length cap),(13,.slice z.A z.C.length z.cap),(5,.pointer (some ⟨g5,0,none⟩)),(3,.pointer (some ⟨g3,0,none⟩))]) (λz=>clsP z.A z.cap z.C::many (z.C.map clQ)::schA g5 s::netA g3 n::H)
  (λz=>z.i<=q.length/\z.C.map ClM.clm=(q.take z.i).map (λx=>clmE n.net s.sch x.rq)/\(∀c∈z.C,c.lens)/\∀j,0<=j->j<z.i->F j=0) (λz=>q.length-z.i) ⟨0,none,0,[]⟩ ⟨Tu _,rfl,(λc hc=>by cases hc),λj _ h=>absurd h (Sv _)⟩ ?_ ?_ ?_
 ·exact zu
 ·intro w hw
  have h5:St B w0 (schA g5 s::netA g3 n::H) w:=by
   revert w
   exact zk
  exact Ygd h5
 rintro⟨i,A3,cap3,C⟩ ⟨hi,hC,hCl,hz⟩ K hK
 dsimp only at hi hC hCl hz⊢
 have hqr':Rd B w0 (clsP A3 cap3 C::many (C.map clQ)::schA g5 s::netA g3 n::H) A (q.flatMap rqF):=hqr.cons.cons.cons.cons
 have hCn:C.length<=q.length:=by
  have:=TU List.length hC
  rw[Tv,Tv,TD]at this
  omega
 by_cases hlt:i<q.length
 rotate_left
 ·obtain rfl:i=q.length:=by omega
  have hfe:=ZS (f:=F) (r:=q.length) (i0:=0) λj h1 h2=>hz j h1 (by omega)
  rw[hfe,Td (λe=>e rfl)]at hR
  subst hR
  rw[TY]at hC
  clear hK
  repeat'(first|refine zgc ?_|(refine zge ?_ ?_<;>intro _<;>try exact zo)|fail)
  apply Yj (clsP A3 cap3 C::many (C.map clQ)::H)
  ·exact zk
  apply Jr;(iterate 4 exact rfl)
  exact⟨A3,cap3,C,rfl,by rw[hC,NS];rfl,hCl,rfl⟩
 obtain⟨x,hx⟩:∃x,q[i]? =some x:=⟨_,Ta hlt⟩
 have hxm:=Tf hx
 have hFx:=hFv hx
 have p5:=λ{H':List HP}{w:World}(hin:n.In B w0 H') (hrs:Rd B w0 H' s.A (s.cells.flatMap celF)) (hxi:x.In B w0 H') (hw:St B w0 H' w)=>p4 x (hrq x hxm) hin hrs hxi hw
 have hxi:=hq.x x hxm
 cases hlb:JC n.net s.sch x.rq with
 |true=>
  rw[hlb,Tm rfl]at hFx
  rw[hlb]at p5
  have hfe:=Zt (f:=F) (r:=q.length) (i0:=0) (i:=i) (λj h1 h2=>hz j h1 h2) (Tu _) (by omega) (by rw[hFx];decide)
  rw[hfe,hFx]at hR
  rw[Tm (show(15:Int)≠0 from by decide)]at hR
  subst hR
  clear hK
  repeat'(first|refine zgd ?_|(refine zge ?_ ?_<;>intro _<;>try exact zo)|(refine zgh ?_;intro _)|fail)
  apply Yh _ YrN
  exact za
  exact rfl
  exactλ_ hw=>(p5 (hin.mono zk) (hrs.mono zk) (hxi.mono zk) (hw))
  rintro _ _ ⟨c,rfl,_,rfl⟩
  unfold clV
  repeat'(first|refine zgd ?_|(refine zgh ?_;intro _)|fail)
  apply Yj (clsP none 0 []::many (([]:List ClM).map clQ)::H)
  ·intro w hw
   have h5:St B w0 H w:=by
    revert w
    exact zk
   exact Ygd h5
  apply Jr;(iterate 4 exact rfl)
  exact Ygl rfl rfl
 |false=>
  rw[hlb,Td (by decide)]at hFx
  rw[hlb]at p5
  repeat'(first|refine zgd ?_|(refine zge ?_ ?_<;>intro _<;>try exact zo)|(refine zgh ?_;intro _)|fail)
  apply Yh _ YrN
  exact za
  exact rfl
  exactλ_ hw=>(p5 (hin.mono zk) (hrs.mono zk) (hxi.mono zk) (hw))
  rintro _ _ ⟨c,rfl,hcc,rfl⟩
  obtain⟨hcm,hcl⟩:=hcc rfl
  unfold clV
  repeat'(first|refine zgd ?_|(refine zgh ?_;intro _)|(refine zgi ?_;intro _ _)|fail)
  first|(rename_i A4 cap4;guard_hyp A4:Option Addr)
  rw[YoF,show C.length+1=(C++[c]).length by simp]
  apply hK ⟨i+1,A4,cap4,C++[c]⟩
  ·refine⟨by show i+1<=_;omega,?_,λy hy=>?_,λj h1 h2=>?_⟩
   ·show(C++[c]).map ClM.clm=_
    rw[TF,hx,RI,T8,T8,hC]
    simp[hcm]
   ·rcases TT.1 hy with h|h
    ·exact hCl y h
    ·rw[TJ.1 h];exact hcl
   ·rcases RU.1 h2 with h|rfl
    ·exact hz j h1 h
    ·exact hFx
  ·dsimp only;omega
  ·exact zu
  ·intro w hw
   have h5:St B w0 (clsP A4 cap4 (C++[c])::clQ c::many (C.map clQ)::schA g5 s::netA g3 n::H) w:=by
    revert w
    exact zk
   exact h5.perm (.cons _ (YjZ clQ C c _))
variable {A A2:Option Addr}{cap cap2 B:Nat}{w0 w:World}{H:List HP}
theorem W9(l m:List Int)(hlen:l.length<=9223372036854775807)(_hlen2:m.length<=9223372036854775807)(hr:Rd B w0 H A (l.flatMap numF))(hr2:Rd B w0 H A2 (m.flatMap numF))(hw:St B w0 H w):
 Calls Tryz.prog 181 [.slice A l.length cap,.slice A2 m.length cap2].toArray w (Post B w0 λu K=>u=.bool (decide (l=m))/\K=H):=by
 refine Yc Tryz.func181 Tryz.ntmps181 rfl rfl hw ?_
 by_cases hll:l.length=m.length
 rotate_left
 ·repeat'(first|refine zgb ?_|(refine zge ?_ ?_<;>intro _<;>try exact zo)|fail)
  apply Yd;exact rfl;exact rfl
  exact⟨by rw[Tn λe=>hll (by rw[e])],rfl⟩
 repeat'(first|refine zgb ?_|(refine zge ?_ ?_<;>intro _<;>try exact zo)|fail)
 refine Yi (λ(k:Nat)=>[(13,.int .i64 k),(12,.int .i64 l.length),(0,.slice A l.length cap),(1,.slice A2 m.length cap2)]) (λ_=>H) (λk=>k<=l.length/\l.take k=m.take k) (λk=>l.length-k) 0 ⟨Tu _,by simp⟩ ?_ (λw hw=>hw) ?_
 ·exact zu
 rintro k ⟨hk,hi⟩ K hK
 by_cases hlt:k<l.length
 ·obtain⟨a,ha⟩:∃a,l[k]? =some a:=⟨_,Ta hlt⟩
  obtain⟨b,hb⟩:∃b,m[k]? =some b:=⟨_,Ta (by omega)⟩
  repeat'(first|refine zgd ?_|(refine zge ?_ ?_<;>intro _<;>try exact zo)|fail)
  ·rename_i h
   apply Yd;exact rfl;exact rfl
   exact⟨by rw[Tn λe=>by rw[e,hb]at ha;exact h (Tz ha).symm],rfl⟩
  ·rename_i h
   apply hK (k+1)
   ·exact⟨by omega,by rw[ON ha,ON hb,hi,h]⟩
   ·omega
   ·exact zu
   ·exactλw hw=>hw
 ·repeat'(first|refine zgc ?_|(refine zge ?_ ?_<;>intro _<;>try exact zo)|fail)
  apply Yd;exact rfl;exact rfl
  rw[TQ (by omega),TQ (by omega)]at hi
  exact⟨by rw[Tc hi],rfl⟩
theorem Ydx(a b:RowM)(hl:a.xs.length<=1000000000000/\b.xs.length<=1000000000000)(hr:Rd B w0 H a.A (a.xs.flatMap numF))(hr2:Rd B w0 H b.A (b.xs.flatMap numF))(hw:St B w0 H w):
 Calls Tryz.prog 178 [.slice a.A a.xs.length a.cap,.slice b.A b.xs.length b.cap].toArray w (Post B w0 λu K=>u=.bool (decide (a.xs=b.xs))/\K=H):=by
 refine Yc Tryz.func178 Tryz.ntmps178 rfl rfl hw ?_
 repeat'(first|((first|apply Ya YeF|apply Yb YeF);exact za;exact rfl;exactλ_ hw=>(Ybf a.xs b.xs (by omega) (by omega) hr hr2 hw))|refine zga ?_|fail)
 apply Yd;exact rfl;exact rfl;exact⟨rfl,rfl⟩
theorem YaB(l m:List RowM)(hlen:l.length<=1000000000000)(_hlen2:m.length<=1000000000000)(hl2:∀r∈l,r.xs.length<=1000000000000)(hm2:∀r∈m,r.xs.length<=1000000000000)(hr:Rd B w0 H A (l.flatMap rowF))(hr2:Rd B w0 H A2 (m.flatMap rowF))(hrl:∀r∈l,Rd B w0 H r.A (r.xs.flatMap numF))(hrm:∀r∈m,Rd B w0 H r.A (r.xs.flatMap numF))(hw:St B w0 H w):
 Calls Tryz.prog 182 [.slice A l.length cap,.slice A2 m.length cap2,.func (.func 178) #[] #[]].toArray w (Post B w0 λu K=>u=.bool (decide (l.map (·.xs)=m.map (·.xs)))/\K=H):=by
 refine Yc Tryz.func182 Tryz.ntmps182 rfl rfl hw ?_
 by_cases hll:l.length=m.length
 rotate_left
 ·repeat'(first|refine zgb ?_|(refine zge ?_ ?_<;>intro _<;>try exact zo)|fail)
  apply Yd;exact rfl;exact rfl
  exact⟨by rw[Tn λe=>hll (by have:=TU List.length e;simpa using this)],rfl⟩
 repeat'(first|refine zgb ?_|(refine zge ?_ ?_<;>intro _<;>try exact zo)|fail)
 refine Yi (λ(k:Nat)=>[(17,.int .i64 k),(16,.int .i64 l.length),(15,.slice A l.length cap),(0,.slice A l.length cap),(1,.slice A2 m.length cap2),(2,.func (.func 178) #[] #[])]) (λ_=>H) (λk=>k<=l.length/\(l.take k).map (·.xs)=(m.take k).map (·.xs)) (λk=>l.length-k) 0 ⟨Tu _,by simp⟩ ?_ (λw hw=>hw) ?_
 ·exact zu
 rintro k ⟨hk,hi⟩ K hK
 by_cases hlt:k<l.length
 ·obtain⟨a,ha⟩:∃a,l[k]? =some a:=⟨_,Ta hlt⟩
  obtain⟨b,hb⟩:∃b,m[k]? =some b:=⟨_,Ta (by omega)⟩
  have ham:=Tf ha
  have hbm:=Tf hb
  have hss:=λ{w:World}(hw:St B w0 H w)=>Ydx a b ⟨hl2 a ham,hm2 b hbm⟩ (hrl a ham) (hrm b hbm) hw
  by_cases hab:a.xs=b.xs
  ·rw[Tc hab]at hss
   repeat'(first|((first|apply Yz (cs:=[])|apply Y4 (cs:=[]));exact rfl;exact YrO;exact za;exact rfl;exactλ_ hw=>(hss hw))|refine zgd ?_|(refine zge ?_ ?_<;>intro _<;>try exact zo)|fail)
   apply hK (k+1)
   ·exact⟨by omega,by rw[TF,TF,ha,hb,T8,T8,hi];simp[hab]⟩
   ·omega
   ·exact zu
   ·exactλw hw=>hw
  ·rw[Tn hab]at hss
   repeat'(first|((first|apply Yz (cs:=[])|apply Y4 (cs:=[]));exact rfl;exact YrO;exact za;exact rfl;exactλ_ hw=>(hss hw))|refine zgd ?_|(refine zge ?_ ?_<;>intro _<;>try exact zo)|fail)
   apply Yd;exact rfl;exact rfl
   have hne:¬(l.map (·.xs)=m.map (·.xs)):=λe=>by
    have h1:(l.map (·.xs))[k]? =(m.map (·.xs))[k]? :=by rw[e]
    rw[TE,TE,ha,hb]at h1
    exact hab (Tz h1)
   exact⟨by rw[Tn hne],rfl⟩
 ·repeat'(first|refine zgc ?_|(refine zge ?_ ?_<;>intro _<;>try exact zo)|fail)
  apply Yd;exact rfl;exact rfl
  rw[TQ (by omega),TQ (by omega)]at hi
  exact⟨by rw[Tc hi],rfl⟩
theorem Yef(a b:RowM)(hl:a.xs.length<=1000000000000/\b.xs.length<=1000000000000)(hr:Rd B w0 H a.A (a.xs.flatMap numF))(hr2:Rd B w0 H b.A (b.xs.flatMap numF))(hw:St B w0 H w):
 Calls Tryz.prog 180 [.slice a.A a.xs.length a.cap,.slice b.A b.xs.length b.cap].toArray w (Post B w0 λu K=>u=.bool (decide (a.xs=b.xs))/\K=H):=by
 refine Yc Tryz.func180 Tryz.ntmps180 rfl rfl hw ?_
 repeat'(first|((first|apply Ya WK|apply Yb WK);exact za;exact rfl;exactλ_ hw=>(W9 a.xs b.xs (by omega) (by omega) hr hr2 hw))|refine zga ?_|fail)
 apply Yd;exact rfl;exact rfl;exact⟨rfl,rfl⟩
theorem YbQ(l m:List RowM)(hlen:l.length<=1000000000000)(_hlen2:m.length<=1000000000000)(hl2:∀r∈l,r.xs.length<=1000000000000)(hm2:∀r∈m,r.xs.length<=1000000000000)(hr:Rd B w0 H A (l.flatMap rowF))(hr2:Rd B w0 H A2 (m.flatMap rowF))(hrl:∀r∈l,Rd B w0 H r.A (r.xs.flatMap numF))(hrm:∀r∈m,Rd B w0 H r.A (r.xs.flatMap numF))(hw:St B w0 H w):
 Calls Tryz.prog 183 [.slice A l.length cap,.slice A2 m.length cap2,.func (.func 180) #[] #[]].toArray w (Post B w0 λu K=>u=.bool (decide (l.map (·.xs)=m.map (·.xs)))/\K=H):=by
 refine Yc Tryz.func183 Tryz.ntmps183 rfl rfl hw ?_
 by_cases hll:l.length=m.length
 rotate_left
 ·repeat'(first|refine zgb ?_|(refine zge ?_ ?_<;>intro _<;>try exact zo)|fail)
  apply Yd;exact rfl;exact rfl
  exact⟨by rw[Tn λe=>hll (by have:=TU List.length e;simpa using this)],rfl⟩
 repeat'(first|refine zgb ?_|(refine zge ?_ ?_<;>intro _<;>try exact zo)|fail)
 refine Yi (λ(k:Nat)=>[(17,.int .i64 k),(16,.int .i64 l.length),(15,.slice A l.length cap),(0,.slice A l.length cap),(1,.slice A2 m.length cap2),(2,.func (.func 180) #[] #[])]) (λ_=>H) (λk=>k<=l.length/\(l.take k).map (·.xs)=(m.take k).map (·.xs)) (λk=>l.length-k) 0 ⟨Tu _,by simp⟩ ?_ (λw hw=>hw) ?_
 ·exact zu
 rintro k ⟨hk,hi⟩ K hK
 by_cases hlt:k<l.length
 ·obtain⟨a,ha⟩:∃a,l[k]? =some a:=⟨_,Ta hlt⟩
  obtain⟨b,hb⟩:∃b,m[k]? =some b:=⟨_,Ta (by omega)⟩
  have ham:=Tf ha
  have hbm:=Tf hb
  have hss:=λ{w:World}(hw:St B w0 H w)=>Yef a b ⟨hl2 a ham,hm2 b hbm⟩ (hrl a ham) (hrm b hbm) hw
  by_cases hab:a.xs=b.xs
  ·rw[Tc hab]at hss
   repeat'(first|((first|apply Yz (cs:=[])|apply Y4 (cs:=[]));exact rfl;exact YrP;exact za;exact rfl;exactλ_ hw=>(hss hw))|refine zgd ?_|(refine zge ?_ ?_<;>intro _<;>try exact zo)|fail)
   apply hK (k+1)
   ·exact⟨by omega,by rw[TF,TF,ha,hb,T8,T8,hi];simp[hab]⟩
   ·omega
   ·exact zu
   ·exactλw hw=>hw
  ·rw[Tn hab]at hss
   repeat'(first|((first|apply Yz (cs:=[])|apply Y4 (cs:=[]));exact rfl;exact YrP;exact za;exact rfl;exactλ_ hw=>(hss hw))|refine zgd ?_|(refine zge ?_ ?_<;>intro _<;>try exact zo)|fail)
   apply Yd;exact rfl;exact rfl
   have hne:¬(l.map (·.xs)=m.map (·.xs)):=λe=>by
    have h1:(l.map (·.xs))[k]? =(m.map (·.xs))[k]? :=by rw[e]
    rw[TE,TE,ha,hb]at h1
    exact hab (Tz h1)
   exact⟨by rw[Tn hne],rfl⟩
 ·repeat'(first|refine zgc ?_|(refine zge ?_ ?_<;>intro _<;>try exact zo)|fail)
  apply Yd;exact rfl;exact rfl
  rw[TQ (by omega),TQ (by omega)]at hi
  exact⟨by rw[Tc hi],rfl⟩
theorem YsP{c d:ClM}:c.clm=d.clm↔c.flow=d.flow/\c.rs.map (·.xs)=d.rs.map (·.xs)/\c.bs=d.bs/\c.ws=d.ws/\c.ss.map (·.xs)=d.ss.map (·.xs):=by
 unfold ClM.clm
 constructor
 ·intro h
  injection h with h1 h2 h3 h4 h5
  exact⟨h1,h2,h3,h4,h5⟩
 ·rintro⟨h1,h2,h3,h4,h5⟩
  rw[h1,h2,h3,h4,h5]
theorem Ykv(c d:ClM)(hc:c.In B w0 H)(hd:d.In B w0 H)(hw:St B w0 H w):
 Calls Tryz.prog 81 [clV c,clV d].toArray w (Post B w0 λu K=>u=.bool (decide (c.clm=d.clm))/\K=H):=by
 refine Yc Tryz.func81 Tryz.ntmps81 rfl rfl hw ?_
 have hcl:=hc.ln
 have hdl:=hd.ln
 have p1:=λ{H':List HP}{w:World}(hc:c.In B w0 H') (hd:d.In B w0 H') (hw:St B w0 H' w)=>YaB c.rs d.rs (cap:=c.rcap) (cap2:=d.rcap) hcl.1 hdl.1 hc.rl hd.rl hc.rt hd.rt hc.rw_ hd.rw_ hw
 have p2:=λ{H':List HP}{w:World}(hc:c.In B w0 H') (hd:d.In B w0 H') (hw:St B w0 H' w)=>W9 c.bs d.bs (cap:=c.bcap) (cap2:=d.bcap) (by omega) (by omega) hc.bd hd.bd hw
 have p3:=λ{H':List HP}{w:World}(hc:c.In B w0 H') (hd:d.In B w0 H') (hw:St B w0 H' w)=>W9 c.ws d.ws (cap:=c.wcap) (cap2:=d.wcap) (by omega) (by omega) hc.ws hd.ws hw
 have p4:=λ{H':List HP}{w:World}(hc:c.In B w0 H') (hd:d.In B w0 H') (hw:St B w0 H' w)=>YbQ c.ss d.ss (cap:=c.scap) (cap2:=d.scap) hcl.2.2.2 hdl.2.2.2 hc.sl hd.sl hc.st hd.st hc.sw hd.sw hw
 have hce:=@YsP c d
 unfold clV
 by_cases h1:c.flow=d.flow
 rotate_left
 ·rw[Tn (λh=>h1 (hce.1 h).1)]
  repeat'(first|refine zgc ?_|(refine zge ?_ ?_<;>intro _<;>try exact zo)|(refine zgh ?_;intro _)|fail)
  apply Yj H
  ·exact zk
  apply Yd;exact rfl;exact rfl;exact⟨rfl,rfl⟩
 by_cases h2:c.rs.map (·.xs)=d.rs.map (·.xs)
 rotate_left
 ·rw[Tn (λh=>h2 (hce.1 h).2.1)]
  rw[Tn h2]at p1
  repeat'(first|refine zgc ?_|(refine zge ?_ ?_<;>intro _<;>try exact zo)|(refine zgh ?_;intro _)|fail)
  first|apply Ya Ybb|apply Yb Ybb
  exact za
  exact rfl
  exactλ_ hw=>(p1 (hc.mono zk) (hd.mono zk) hw)
  repeat'(first|refine zgc ?_|fail)
  apply Yj H
  ·exact zk
  apply Yd;exact rfl;exact rfl;exact⟨rfl,rfl⟩
 rw[Tc h2]at p1
 by_cases h3:c.bs=d.bs
 rotate_left
 ·rw[Tn (λh=>h3 (hce.1 h).2.2.1)]
  rw[Tn h3]at p2
  repeat'(first|refine zgc ?_|(refine zge ?_ ?_<;>intro _<;>try exact zo)|(refine zgh ?_;intro _)|fail)
  first|apply Ya Ybb|apply Yb Ybb
  exact za
  exact rfl
  exactλ_ hw=>(p1 (hc.mono zk) (hd.mono zk) hw)
  repeat'(first|refine zgc ?_|fail)
  first|apply Ya WK|apply Yb WK
  exact za
  exact rfl
  exactλ_ hw=>(p2 (hc.mono zk) (hd.mono zk) hw)
  repeat'(first|refine zgc ?_|fail)
  apply Yj H
  ·exact zk
  apply Yd;exact rfl;exact rfl;exact⟨rfl,rfl⟩
 rw[Tc h3]at p2
 by_cases h4:c.ws=d.ws
 rotate_left
 ·rw[Tn (λh=>h4 (hce.1 h).2.2.2.1)]
  rw[Tn h4]at p3
  repeat'(first|refine zgc ?_|(refine zge ?_ ?_<;>intro _<;>try exact zo)|(refine zgh ?_;intro _)|fail)
  first|apply Ya Ybb|apply Yb Ybb
  exact za
  exact rfl
  exactλ_ hw=>(p1 (hc.mono zk) (hd.mono zk) hw)
  repeat'(first|refine zgc ?_|fail)
  first|apply Ya WK|apply Yb WK
  exact za
  exact rfl
  exactλ_ hw=>(p2 (hc.mono zk) (hd.mono zk) hw)
  repeat'(first|refine zgc ?_|fail)
  first|apply Ya WK|apply Yb WK
  exact za
  exact rfl
  exactλ_ hw=>(p3 (hc.mono zk) (hd.mono zk) hw)
  repeat'(first|refine zgc ?_|fail)
  apply Yj H
  ·exact zk
  apply Yd;exact rfl;exact rfl;exact⟨rfl,rfl⟩
 rw[Tc h4]at p3
 have h5:decide (c.clm=d.clm)=decide (c.ss.map (·.xs)=d.ss.map (·.xs)):=decide_eq_decide.2 ⟨λh=>(hce.1 h).2.2.2.2,λh=>hce.2 ⟨h1,h2,h3,h4,h⟩⟩
 rw[h5]
 repeat'(first|refine zgc ?_|(refine zge ?_ ?_<;>intro _<;>try exact zo)|(refine zgh ?_;intro _)|fail)
 first|apply Ya Ybb|apply Yb Ybb
 exact za
 exact rfl
 exactλ_ hw=>(p1 (hc.mono zk) (hd.mono zk) hw)
 repeat'(first|refine zgc ?_|fail)
 first|apply Ya WK|apply Yb WK
 exact za
 exact rfl
 exactλ_ hw=>(p2 (hc.mono zk) (hd.mono zk) hw)
 repeat'(first|refine zgc ?_|fail)
 first|apply Ya WK|apply Yb WK
 exact za
 exact rfl
 exactλ_ hw=>(p3 (hc.mono zk) (hd.mono zk) hw)
 repeat'(first|refine zgc ?_|fail)
 first|apply Ya YrQ|apply Yb YrQ
 exact za
 exact rfl
 exactλ_ hw=>(p4 (hc.mono zk) (hd.mono zk) hw)
 repeat'(first|refine zgc ?_|fail)
 apply Yj H
 ·exact zk
 apply Yd;exact rfl;exact rfl;exact⟨rfl,rfl⟩
theorem OD{c:List ClM}{i:Nat}{x:ClM}(h:c[i]? =some x):UP (c.map ClM.clm) i=x.clm:=by
 have h2:(c.map ClM.clm)[i]? =some x.clm:=by rw[TE,h];rfl
 unfold UP
 rw[Tt,h2];rfl
variable {B:Nat}{w0:World}{H:List HP}
theorem Ykc{C:List ClM}{c:ClM}(hm:many (C.map clQ)∈H)(hc:c∈C)(hl:c.lens):c.In B w0 H:=by
 have hb:∀w,St B w0 H w->St B w0 (C.map clQ) w:=λw hw=>hw.inM hm
 refine ClM.In.mono (H:=C.map clQ) (YsO (SO hc) ⟨⟨?_,?_,?_,?_⟩,?_,?_⟩) hb
 ·have:=hl.1.1;omega
 ·have:=hl.1.2.1;omega
 ·have:=hl.1.2.2.1;omega
 ·have:=hl.1.2.2.2;omega
 ·exactλr hr=>RE (hl.2.1 r hr) (by decide)
 ·exactλr hr=>RE (hl.2.2 r hr) (by decide)
theorem QJ(n:NetM)(q:List RqM)(s:SchM)(c:List ClM){A A1:Option Addr}{cap cap1:Nat}{w:World}(ht:TabsB B w0)(hin:n.In B w0 H)(hq:QIn B w0 H A q)(hrs:Rd B w0 H s.A (s.cells.flatMap celF))(hsl:s.cells.length<=1000000000000)(hc:CIn B w0 H A1 c)(hw:St B w0 H w):
 Calls Tryz.prog 19 [n.val,.slice A q.length cap,s.val,.slice A1 c.length cap1].toArray w (Post B w0 λv K=>v=.tuple #[.int .i64 (chkE n.net (q.map RqM.rq) s.sch (c.map ClM.clm)).1,.int .i64 (chkE n.net (q.map RqM.rq) s.sch (c.map ClM.clm)).2]/\K=H):=by
 refine Yc Tryz.func19 Tryz.ntmps19 rfl rfl hw ?_
 have hcl:=hc.ln
 have hcr:=hc.rd
 have p1:=λ{H':List HP}{w:World}(hin:n.In B w0 H') (hq:QIn B w0 H' A q) (hrs:Rd B w0 H' s.A (s.cells.flatMap celF)) (hw:St B w0 H' w)=>U3 n q s (cap:=cap) ht hin hq hrs hsl hw
 obtain⟨⟨RC,ri,re⟩,hR⟩:∃R,YT n.net (q.map RqM.rq) s.sch=R:=⟨_,rfl⟩
 unfold chkE
 rw[Tv]
 rw[hR]at p1⊢
 unfold OutC at p1
 dsimp only at p1⊢
 unfold NetM.val SchM.val
 by_cases h0:re=0
 rotate_left
 ·rw[Tm h0]
  repeat'(first|refine zgb ?_|(refine zgh ?_;intro _)|fail)
  apply Yh _ en80
  exact za
  exact rfl
  exactλ_ hw=>(p1 (hin.mono zk) (hq.mono zk) (hrs.mono zk) (hw))
  rintro _ _ ⟨A2,cap2,C,rfl,hC,hCl,rfl⟩
  repeat'(first|refine zgc ?_|(refine zge ?_ ?_<;>intro _<;>try exact zo)|fail)
  apply Yj H
  ·exact zk
  apply Yp;(iterate 3 exact rfl);exact⟨rfl,rfl⟩
 subst h0
 rw[Td (λe=>e rfl)]
 repeat'(first|refine zgb ?_|(refine zgh ?_;intro _)|fail)
 apply Yh _ en80
 exact za
 exact rfl
 exactλ_ hw=>(p1 (hin.mono zk) (hq.mono zk) (hrs.mono zk) (hw))
 rintro _ _ ⟨A2,cap2,C,rfl,hC,hCl,rfl⟩
 subst hC
 rw[Tv]
 by_cases h1:c.length=C.length
 rotate_left
 ·rw[Tm h1]
  repeat'(first|refine zgc ?_|(refine zge ?_ ?_<;>intro _<;>try exact zo)|fail)
  apply Yj H
  ·exact zk
  apply Yp;(iterate 3 exact rfl);exact⟨rfl,rfl⟩
 rw[Td (λe=>e h1)]
 obtain⟨F,hF⟩:∃F:Nat->Int,(λi=>if UP (c.map ClM.clm) i=UP (C.map ClM.clm) i then(0:Int)else 20)=F:=⟨_,rfl⟩
 rw[hF]
 have hFv:∀{k:Nat}{x y:ClM},c[k]? =some x->C[k]? =some y->F k=if x.clm=y.clm then 0 else 20:=λhx hy=>by rw[<-hF];show(if _=_ then _ else _)=_;rw[OD hx,OD hy]
 repeat'(first|refine zgc ?_|(refine zge ?_ ?_<;>intro _<;>try exact zo)|fail)
 refine Yi (λk:Nat=>[(33,.int .i64 (k:Nat)),(32,.int .i64 C.length),(10,.slice A2 C.length cap2),(3,.slice A1 c.length cap1)]) (λ_=>clsP A2 cap2 C::many (C.map clQ)::H) (λk=>k<=C.length/\∀j,0<=j->j<k->F j=0) (λk=>C.length-k) 0 ⟨Tu _,λj _ h=>absurd h (Sv _)⟩ ?_ ?_ ?_
 ·exact zu
 ·exact zk
 rintro k ⟨hk,hz⟩ K hK
 have hcr':Rd B w0 (clsP A2 cap2 C::many (C.map clQ)::H) A1 (c.flatMap clF):=hcr.cons.cons
 have hCr':Rd B w0 (clsP A2 cap2 C::many (C.map clQ)::H) A2 (C.flatMap clF):=.sl (.head _)
 by_cases hlt:k<C.length
 ·obtain⟨x,hx⟩:∃x,c[k]? =some x:=⟨_,Ta (by omega)⟩
  obtain⟨y,hy⟩:∃y,C[k]? =some y:=⟨_,Ta hlt⟩
  have hym:=Tf hy
  have hFk:=hFv hx hy
  have hxi:=hc.x x (Tf hx)
  have p2:=λ{H':List HP}{w:World}(hx:x.In B w0 H') (hy:y.In B w0 H') (hw:St B w0 H' w)=>Ykv x y hx hy hw
  by_cases he:x.clm=y.clm
  ·rw[Tm he]at hFk
   rw[Tc he]at p2
   repeat'(first|refine zgb ?_|(refine zge ?_ ?_<;>intro _<;>try exact zo)|fail)
   apply Xv [0,1,2,3,4,5,6,7,8,9] []
   kernel_rfl
   kernel_rfl
   (simp only[Yg,nthO];rfl)
   exact rfl
   repeat'(first|refine zgd ?_|fail)
   first|apply Ya en81|apply Yb en81
   exact za
   exact rfl
   exactλ_ hw=>(p2 (hxi.mono zk) (Ykc zm hym (hCl y hym)) hw)
   repeat'(first|(apply Yk;(repeat(first|with_reducible exact Y6|(with_reducible apply YX;(repeat(first|with_reducible exact Yt|with_reducible apply YD))))))|refine zgd ?_|fail)
   ·show Perm H (H++[])
    rw[TM];exact Perm.refl _
   repeat'(first|fail)
   apply hK (k+1)
   ·exact⟨by omega,λj h1 h2=>by
     rcases RU.1 h2 with h|rfl
     ·exact hz j h1 h
     ·exact hFk⟩
   ·omega
   ·exact zu
   ·exact zk
  ·rw[Td he]at hFk
   rw[Tn he]at p2
   have hfe:=Zt (f:=F) (r:=c.length) (i0:=0) (i:=k) (λj h1 h2=>hz j h1 h2) (Tu _) (by omega) (by rw[hFk];decide)
   rw[hfe,hFk]
   clear hK
   repeat'(first|refine zgb ?_|(refine zge ?_ ?_<;>intro _<;>try exact zo)|fail)
   apply Xv [0,1,2,3,4,5,6,7,8,9] []
   kernel_rfl
   kernel_rfl
   (simp only[Yg,nthO];rfl)
   exact rfl
   repeat'(first|refine zgd ?_|fail)
   first|apply Ya en81|apply Yb en81
   exact za
   exact rfl
   exactλ_ hw=>(p2 (hxi.mono zk) (Ykc zm hym (hCl y hym)) hw)
   repeat'(first|(apply Yk;(repeat(first|with_reducible exact Y6|(with_reducible apply YX;(repeat(first|with_reducible exact Yt|with_reducible apply YD))))))|refine zgd ?_|fail)
   ·show Perm H (H++[])
    rw[TM];exact Perm.refl _
   repeat'(first|fail)
   apply Yj H
   ·exact zk
   apply Yp;(iterate 3 exact rfl);exact⟨rfl,rfl⟩
 ·obtain rfl:k=C.length:=by omega
  have hfe:=ZS (f:=F) (r:=c.length) (i0:=0) λj h1 h2=>hz j h1 (by omega)
  rw[hfe]
  clear hK
  repeat'(first|refine zgc ?_|(refine zge ?_ ?_<;>intro _<;>try exact zo)|fail)
  apply Yj H
  ·exact zk
  apply Yp;(iterate 3 exact rfl);exact⟨rfl,rfl⟩
def wordF:List UInt8:=[102,108,111,119]
def wordR:List UInt8:=[114,111,117,116,101]
def wordB:List UInt8:=[98,111,117,110,100]
def wordL:List UInt8:=[115,108,111,116,115]
def inL(l:List Int)(a b:Int):Bool:=l.all λx=>decide (a<=x/\x<=b)
def rtOk(r l:List Int):Bool:=decide (2<=r.length/\r.length<=9)&&inL r 0 31&&decide (1<=l.length/\l.length<=64)&&inL l 0 511
def Us(c:Clm):Bool:=decide (0<=c.flow/\c.flow<=255/\1<=c.routes.length/\c.routes.length<=2/\c.bounds.length=c.routes.length/\c.worst.length=c.routes.length/\c.slots.length=c.routes.length)&&
 inL c.bounds 1 512&&inL c.worst 0 511&&(List.range c.routes.length).all λi=>rtOk (rtAt c.routes i) (rtAt c.slots i)
def Yk2(c:List Clm)(i:Nat):Bool:=Us (UP c i)&&(decide (i=0)||decide ((UP c (i-1)).flow<(UP c i).flow))
def Ybj(c:List Clm):Bool:=decide (c.length<=16)&&(List.range c.length).all (Yk2 c)
def YlQ(c:Clm)(i:Nat):List (List UInt8):=
 X8 wordR (rtAt c.routes i)::((if i<c.bounds.length then [X8 wordB [c.bounds.getD i 0,c.worst.getD i 0]]else [])++(if i<c.slots.length then [X8 wordL (rtAt c.slots i)]else []))
def YlP(c:Clm):List (List UInt8):=X8 wordF [c.flow]::(List.range c.routes.length).flatMap (YlQ c)
def YiZ(c:List Clm):List UInt8:=(c.flatMap YlP).flatMap λp=>p++[10]
def V4(c:List Clm):List UInt8×Int:=if Ybj c=false then([],1)else(YiZ c,0)
structure Pst where
 c:List Clm
 last:Nat
def Ykz:Pst:=⟨[],3⟩
structure YaZ(c:Clm):Prop where
 f:0<=c.flow/\c.flow<=255
 n:1<=c.routes.length/\c.routes.length<=2
 b:c.bounds.length=c.routes.length
 w:c.worst.length=c.routes.length
 s:c.slots.length=c.routes.length
 bs:∀x∈c.bounds,1<=x/\x<=512
 ws:∀x∈c.worst,0<=x/\x<=511
 rs:∀i,i<c.routes.length->2<=(rtAt c.routes i).length/\(rtAt c.routes i).length<=9/\∀x∈rtAt c.routes i,0<=x/\x<=31
 ls:∀i,i<c.routes.length->1<=(rtAt c.slots i).length/\(rtAt c.slots i).length<=64/\∀x∈rtAt c.slots i,0<=x/\x<=511
variable {l:List Int}
theorem YbY{a b:Int}:inL l a b=true↔∀x∈l,a<=x/\x<=b:=by
 unfold inL;rw[TI];simp
theorem YjM{c:Clm}:Us c=true↔YaZ c:=by
 unfold Us
 simp only[To,Tq,YbY,TI,TO]
 constructor
 ·rintro⟨⟨⟨⟨h1,h2,h3,h4,h5,h6,h7⟩,h8⟩,h9⟩,h10⟩
  have hr:∀i,i<c.routes.length->_:=λi hi=>h10 i hi
  refine⟨⟨h1,h2⟩,⟨h3,h4⟩,h5,h6,h7,h8,h9,λi hi=>?_,λi hi=>?_⟩
  ·have:=hr i hi
   unfold rtOk at this
   simp only[To,Tq,YbY]at this
   exact⟨this.1.1.1.1,this.1.1.1.2,this.1.1.2⟩
  ·have:=hr i hi
   unfold rtOk at this
   simp only[To,Tq,YbY]at this
   exact⟨this.1.2.1,this.1.2.2,this.2⟩
 ·intro h
  refine⟨⟨⟨⟨h.f.1,h.f.2,h.n.1,h.n.2,h.b,h.w,h.s⟩,h.bs⟩,h.ws⟩,λi hi=>?_⟩
  have h1:=h.rs i hi
  have h2:=h.ls i hi
  unfold rtOk
  simp only[To,Tq,YbY]
  exact⟨⟨⟨⟨h1.1,h1.2.1⟩,h1.2.2⟩,h2.1,h2.2.1⟩,h2.2.2⟩
variable {c:List Clm}{i:Nat}
theorem Yjw(h:i<c.length):c[i]? =some (UP c i):=by
 unfold UP;rw[Tt,Ta h];rfl
theorem YhX(h:Ybj c=true):c.length<=16/\∀x∈c,YaZ x:=by
 unfold Ybj at h
 rw[To,Tq]at h
 refine⟨h.1,λx hx=>?_⟩
 obtain⟨i,hi⟩:=T9.1 hx
 have hl:=(Ti.1 hi).1
 have:=TI.1 h.2 i (TO.2 hl)
 unfold Yk2 at this
 rw[To]at this
 have e:UP c i=x:=Tz ((Yjw hl).symm.trans hi)
 rw[e]at this
 exact YjM.1 this.1
theorem YeZ(h:i<l.length):l.getD i 0∈l:=by
 rw[Tt,Ta h];exact List.getElem_mem h
structure Rdr(p:Pst):Prop where
 full:∀i x,p.c[i]? =some x->i+1<p.c.length->x.bounds.length=x.routes.length/\x.worst.length=x.routes.length/\x.slots.length=x.routes.length/\1<=x.routes.length/\x.routes.length<=2
 some_:p.c=[]->p.last=3
 at_:∀cs x,p.c=cs++[x]->
  (p.last=0/\x.routes=[]/\x.bounds=[]/\x.worst=[]/\x.slots=[])\/
  (p.last=1/\1<=x.routes.length/\x.routes.length<=2/\x.bounds.length+1=x.routes.length/\x.worst.length+1=x.routes.length/\x.slots.length+1=x.routes.length)\/
  (p.last=2/\1<=x.routes.length/\x.routes.length<=2/\x.bounds.length=x.routes.length/\x.worst.length=x.routes.length/\x.slots.length+1=x.routes.length)\/
  (p.last=3/\1<=x.routes.length/\x.routes.length<=2/\x.bounds.length=x.routes.length/\x.worst.length=x.routes.length/\x.slots.length=x.routes.length)
theorem Rdr.start:Rdr Ykz:=⟨λi x h=>by simp[Ykz]at h,λ_=>rfl,λcs x h=>by simp[Ykz]at h⟩
variable {B:Nat}{w0 w:World}{H:List HP}
theorem Yd2(z a b:Int)(ga gb:Nat)(h1:blk ga (.cells #[.int .i64 a] 3 (0,0))∈H)(h2:blk gb (.cells #[.int .i64 b] 3 (0,0))∈H)(hw:St B w0 H w):
 Calls Tryz.prog 359 [.int .i64 z,.pointer (some ⟨ga,0,none⟩),.pointer (some ⟨gb,0,none⟩)].toArray w (Post B w0 λv K=>v=.bool (!decide (a<=z/\z<=b))/\K=H):=by
 refine Yc Tryz.func359 Tryz.ntmps359 rfl rfl hw ?_
 by_cases h:a<=z/\z<=b
 ·rw[Tc h]
  repeat'(first|refine zgc ?_|(refine zgf ?_ ?_<;>intro _<;>try exact zo)|fail)
  apply Yd;exact rfl;exact rfl;exact⟨rfl,rfl⟩
 ·rw[Tn h]
  repeat'(first|refine zgc ?_|(refine zgf ?_ ?_<;>intro _<;>try exact zo)|fail)
  all_goals(apply Yd;exact rfl;exact rfl;exact⟨rfl,rfl⟩)
theorem Vv(l:List Int)(a b:Int)(hl:l.length<=1000000000000){A:Option Addr}{cap:Nat}(hr:Rd B w0 H A (l.flatMap numF))(hw:St B w0 H w):
 Calls Tryz.prog 293 [.slice A l.length cap,.int .i64 a,.int .i64 b].toArray w (Post B w0 λv K=>v=.bool (inL l a b)/\K=H):=by
 refine Yc Tryz.func293 Tryz.ntmps293 rfl rfl hw ?_
 have e1:inL l a b=!(l.any λz=>!decide (a<=z/\z<=b)):=by
  unfold inL
  rw[List.not_any_eq_all_not]
  exact TU _ (funext λz=>(MF _).symm)
 rw[e1]
 obtain⟨o,ho⟩:∃o,(l.any λz=>!decide (a<=z/\z<=b))=o:=⟨_,rfl⟩
 rw[ho]
 repeat'(first|(apply zg29;(apply Ym;exact za;exact rfl))|refine zga ?_|(refine zgh ?_;intro _)|fail)
 rename_i ga gb
 have p1:∀w,St B w0 (blk gb (.cells #[.int .i64 b] 3 (0,0))::blk ga (.cells #[.int .i64 a] 3 (0,0))::H) w->Calls Tryz.prog 259 [.slice A l.length cap,.func (.func 359) #[] [Value.pointer (some ⟨ga,0,none⟩),Value.pointer (some ⟨gb,0,none⟩)].toArray].toArray w (Post B w0 λv K=>v=.bool o/\K=blk gb (.cells #[.int .i64 b] 3 (0,0))::blk ga (.cells #[.int .i64 a] 3 (0,0))::H):=λw hw=>by
  have h:=US (λz=>Value.int .i64 z) (λz=>!decide (a<=z/\z<=b)) l 359 [.pointer (some ⟨ga,0,none⟩),.pointer (some ⟨gb,0,none⟩)] YtY (by omega) (cap:=cap) (show Rd B w0 _ A (l.flatMap numF) from hr.cons.cons) (λz _ w hw=>Yd2 z a b ga gb (.tail _ (.head _)) (.head _) hw) hw
  rw[ho]at h
  exact h
 cases o<;>(
  first|apply Ya Yll|apply Yb Yll
  exact za
  exact rfl
  exactλ_ hw=>(p1 _ hw)
  repeat'(first|refine zgd ?_|fail)
  apply Yj H
  ·exact zk
  apply Yd;exact rfl;exact rfl;exact⟨rfl,rfl⟩)
theorem U9{rs:List RowM}{k:Nat}{r:RowM}(h:rs[k]? =some r):rtAt (rs.map (·.xs)) k=r.xs:=by
 have h2:(rs.map (·.xs))[k]? =some r.xs:=by rw[TE,h];rfl
 exact Tz ((YaU (Ti.1 h2).1).symm.trans h2)
theorem YfT(c:ClM)(hc:c.In B w0 H)(hw:St B w0 H w):
 Calls Tryz.prog 225 [clV c].toArray w (Post B w0 λv K=>v=.bool (Us c.clm)/\K=H):=by
 refine Yc Tryz.func225 Tryz.ntmps225 rfl rfl hw ?_
 obtain⟨hl1,hl2,hl3,hl4⟩:=hc.ln
 have q1:=λ{H':List HP}{w:World}(hc:c.In B w0 H') (hw:St B w0 H' w)=>Vv c.bs 1 512 hl2 (cap:=c.bcap) hc.bd hw
 have q2:=λ{H':List HP}{w:World}(hc:c.In B w0 H') (hw:St B w0 H' w)=>Vv c.ws 0 511 hl3 (cap:=c.wcap) hc.ws hw
 obtain⟨F,hF⟩:∃F,Us c.clm=F:=⟨_,rfl⟩
 have hFe:F=(decide (0<=c.flow/\c.flow<=255/\1<=c.rs.length/\c.rs.length<=2/\c.bs.length=c.rs.length/\c.ws.length=c.rs.length/\c.ss.length=c.rs.length)&&inL c.bs 1 512&&inL c.ws 0 511&&(List.range c.rs.length).all λi=>rtOk (rtAt (c.rs.map (·.xs)) i) (rtAt (c.ss.map (·.xs)) i)):=by
  rw[<-hF]
  unfold Us ClM.clm
  simp only[Tv]
 rw[hF]
 unfold clV
 obtain⟨b1,hb1⟩:∃b,inL c.bs 1 512=b:=⟨_,rfl⟩
 obtain⟨b2,hb2⟩:∃b,inL c.ws 0 511=b:=⟨_,rfl⟩
 rw[hb1]at q1 hFe
 rw[hb2]at q2 hFe
 by_cases hP:0<=c.flow/\c.flow<=255/\1<=c.rs.length/\c.rs.length<=2/\c.bs.length=c.rs.length/\c.ws.length=c.rs.length/\c.ss.length=c.rs.length
 rotate_left
 ·rw[Tn hP]at hFe
  simp only[SI]at hFe
  subst hFe
  repeat'(first|refine zgc ?_|(refine zgf ?_ ?_<;>intro _<;>try exact zo)|(refine zgh ?_;intro _)|fail)
  all_goals(
   apply Yj H
   ·exact zk
   apply Yd;exact rfl;exact rfl;exact⟨rfl,rfl⟩)
 rw[Tc hP,RS]at hFe
 obtain⟨f0,f1,n1,n2,e1,e2,e3⟩:=hP
 cases b1 with
 |false=>
  simp only[SI]at hFe
  subst hFe
  repeat'(first|refine zgc ?_|(refine zgf ?_ ?_<;>intro _<;>try exact zo)|(refine zgh ?_;intro _)|fail)
  first|apply Ya Z0|apply Yb Z0
  exact za
  exact rfl
  exactλ_ hw=>(q1 (hc.mono zk) hw)
  repeat'(first|refine zgd ?_|fail)
  apply Yj H
  ·exact zk
  apply Yd;exact rfl;exact rfl;exact⟨rfl,rfl⟩
 |true=>
 cases b2 with
 |false=>
  simp only[SI,Bool.and_false]at hFe
  subst hFe
  repeat'(first|refine zgc ?_|(refine zgf ?_ ?_<;>intro _<;>try exact zo)|(refine zgh ?_;intro _)|fail)
  first|apply Ya Z0|apply Yb Z0
  exact za
  exact rfl
  exactλ_ hw=>(q1 (hc.mono zk) hw)
  repeat'(first|refine zgd ?_|fail)
  first|apply Ya Z0|apply Yb Z0
  exact za
  exact rfl
  exactλ_ hw=>(q2 (hc.mono zk) hw)
  repeat'(first|refine zgd ?_|fail)
  apply Yj H
  ·exact zk
  apply Yd;exact rfl;exact rfl;exact⟨rfl,rfl⟩
 |true=>
 simp only[RS]at hFe
 repeat'(first|refine zgc ?_|(refine zgf ?_ ?_<;>intro _<;>try exact zo)|(refine zgh ?_;intro _)|fail)
 rename_i g _ _ _ _ _ _ _
 first|apply Ya Z0|apply Yb Z0
 exact za
 exact rfl
 exactλ_ hw=>(q1 (hc.mono zk) hw)
 repeat'(first|refine zgd ?_|fail)
 first|apply Ya Z0|apply Yb Z0
 exact za
 exact rfl
 exactλ_ hw=>(q2 (hc.mono zk) hw)
 repeat'(first|refine zgd ?_|fail)
 obtain⟨ok,hok⟩:∃ok:Nat->Bool,(λi=>rtOk (rtAt (c.rs.map (·.xs)) i) (rtAt (c.ss.map (·.xs)) i))=ok:=⟨_,rfl⟩
 rw[hok]at hFe
 refine Yi (λk:Nat=>[(61,.int .i64 (k:Nat)),(60,.int .i64 c.rs.length),(59,.slice c.rA c.rs.length c.rcap),(1,.pointer (some ⟨g,0,none⟩))]) (λ_=>clA g c::H) (λk=>k<=c.rs.length/\∀j,j<k->ok j=true) (λk=>c.rs.length-k) 0 ⟨Tu _,λj h=>absurd h (Sv _)⟩ ?_ (λw hw=>hw) ?_
 ·exact zu
 rintro k ⟨hk,hz⟩ K hK
 have hcr:Rd B w0 (clA g c::H) c.rA (c.rs.flatMap rowF):=hc.rt.cons
 have hcs:Rd B w0 (clA g c::H) c.sA (c.ss.flatMap rowF):=hc.st.cons
 by_cases hlt:k<c.rs.length
 rotate_left
 ·obtain rfl:k=c.rs.length:=by omega
  have hFt:F=true:=by
   rw[hFe,TI]
   exactλj hj=>hz j (TO.1 hj)
  subst hFt
  clear hK
  repeat'(first|refine zgc ?_|(refine zge ?_ ?_<;>intro _<;>try exact zo)|fail)
  apply Yj H
  ·exact zk
  apply Yd;exact rfl;exact rfl;exact⟨rfl,rfl⟩
 obtain⟨r,hr⟩:∃r,c.rs[k]? =some r:=⟨_,Ta hlt⟩
 obtain⟨z,hzz⟩:∃z,c.ss[k]? =some z:=⟨_,Ta (by omega)⟩
 have hrm:=Tf hr
 have hzm:=Tf hzz
 have hkk:ok k=rtOk r.xs z.xs:=by rw[<-hok];show rtOk (rtAt _ _) (rtAt _ _)=_;rw[U9 hr,U9 hzz]
 unfold rtOk at hkk
 have hrl:=hc.rl r hrm
 have hzl:=hc.sl z hzm
 have q3:=λ{H':List HP}{w:World}(hc:c.In B w0 H') (hw:St B w0 H' w)=>Vv r.xs 0 31 hrl (cap:=r.cap) (hc.rw_ r hrm) hw
 have q4:=λ{H':List HP}{w:World}(hc:c.In B w0 H') (hw:St B w0 H' w)=>Vv z.xs 0 511 hzl (cap:=z.cap) (hc.sw z hzm) hw
 obtain⟨b3,hb3⟩:∃b,inL r.xs 0 31=b:=⟨_,rfl⟩
 obtain⟨b4,hb4⟩:∃b,inL z.xs 0 511=b:=⟨_,rfl⟩
 rw[hb3]at q3 hkk
 rw[hb4]at q4 hkk
 have hno:ok k=false->F=false:=λh=>by
  rw[hFe,List.all_eq_false]
  exact⟨k,TO.2 hlt,by rw[h];decide⟩
 by_cases hA:2<=r.xs.length/\r.xs.length<=9
 rotate_left
 ·rw[Tn hA]at hkk
  have hFf:=hno (by rw[hkk];rfl)
  subst hFf
  clear hK
  repeat'(first|refine zgd ?_|(refine zgf ?_ ?_<;>intro _<;>try exact zo)|fail)
  all_goals(
   apply Yj H
   ·exact zk
   apply Yd;exact rfl;exact rfl;exact⟨rfl,rfl⟩)
 rw[Tc hA]at hkk
 cases b3 with
 |false=>
  have hFf:=hno (by rw[hkk];rfl)
  subst hFf
  clear hK
  repeat'(first|refine zgd ?_|(refine zgf ?_ ?_<;>intro _<;>try exact zo)|fail)
  first|apply Ya Z0|apply Yb Z0
  exact za
  exact rfl
  exactλ_ hw=>(q3 (hc.mono zk) hw)
  repeat'(first|refine zgd ?_|fail)
  all_goals(
   apply Yj H
   ·exact zk
   apply Yd;exact rfl;exact rfl;exact⟨rfl,rfl⟩)
 |true=>
 by_cases hB:1<=z.xs.length/\z.xs.length<=64
 rotate_left
 ·rw[Tn hB]at hkk
  have hFf:=hno (by rw[hkk];rfl)
  subst hFf
  clear hK
  repeat'(first|refine zgd ?_|(refine zgf ?_ ?_<;>intro _<;>try exact zo)|fail)
  first|apply Ya Z0|apply Yb Z0
  exact za
  exact rfl
  exactλ_ hw=>(q3 (hc.mono zk) hw)
  repeat'(first|refine zgd ?_|(refine zgf ?_ ?_<;>intro _<;>try exact zo)|fail)
  all_goals(
   apply Yj H
   ·exact zk
   apply Yd;exact rfl;exact rfl;exact⟨rfl,rfl⟩)
 rw[Tc hB]at hkk
 cases b4 with
 |false=>
  have hFf:=hno (by rw[hkk];rfl)
  subst hFf
  clear hK
  repeat'(first|refine zgd ?_|(refine zgf ?_ ?_<;>intro _<;>try exact zo)|fail)
  first|apply Ya Z0|apply Yb Z0
  exact za
  exact rfl
  exactλ_ hw=>(q3 (hc.mono zk) hw)
  repeat'(first|refine zgd ?_|(refine zgf ?_ ?_<;>intro _<;>try exact zo)|fail)
  first|apply Ya Z0|apply Yb Z0
  exact za
  exact rfl
  exactλ_ hw=>(q4 (hc.mono zk) hw)
  repeat'(first|refine zgd ?_|fail)
  all_goals(
   apply Yj H
   ·exact zk
   apply Yd;exact rfl;exact rfl;exact⟨rfl,rfl⟩)
 |true=>
  have hkt:ok k=true:=hkk
  repeat'(first|refine zgd ?_|(refine zgf ?_ ?_<;>intro _<;>try exact zo)|fail)
  first|apply Ya Z0|apply Yb Z0
  exact za
  exact rfl
  exactλ_ hw=>(q3 (hc.mono zk) hw)
  repeat'(first|refine zgd ?_|(refine zgf ?_ ?_<;>intro _<;>try exact zo)|fail)
  first|apply Ya Z0|apply Yb Z0
  exact za
  exact rfl
  exactλ_ hw=>(q4 (hc.mono zk) hw)
  repeat'(first|refine zgd ?_|fail)
  apply hK (k+1)
  ·exact⟨by omega,λj h2=>by
    rcases RU.1 h2 with h|rfl
    ·exact hz j h
    ·exact hkt⟩
  ·omega
  ·exact zu
  ·exact zk
theorem Yjt(c:List ClM){A:Option Addr}{cap B:Nat}{w0:World}{H:List HP}{w:World}(hc:CIn B w0 H A c)(hw:St B w0 H w):
 Calls Tryz.prog 129 [.slice A c.length cap].toArray w (Post B w0 λv K=>v=.bool (Ybj (c.map ClM.clm))/\K=H):=by
 refine Yc Tryz.func129 Tryz.ntmps129 rfl rfl hw ?_
 have hcl:=hc.ln
 have hcr:=hc.rd
 obtain⟨ok,hok⟩:∃ok:Nat->Bool,Yk2 (c.map ClM.clm)=ok:=⟨_,rfl⟩
 obtain⟨F,hF⟩:∃F,Ybj (c.map ClM.clm)=F:=⟨_,rfl⟩
 have hFe:F=(decide (c.length<=16)&&(List.range c.length).all ok):=by
  rw[<-hF];unfold Ybj;rw[Tv,hok]
 rw[hF]
 repeat'(first|apply(zs1 ?_)|apply(zs2 ?_)|(apply zg4;refine zs9 ?_)|apply(zs65 ?_)|apply(zs68 ?_)|apply(zs69 ?_)|apply(zs70 ?_)|apply(zs73 ?_)|fail)
 refine Yi (λk:Nat=>[(7,.int .i64 (k:Nat)),(6,.int .i64 c.length),(5,.slice A c.length cap),(0,.slice A c.length cap)]) (λ_=>H) (λk=>k<=c.length/\∀j,j<k->ok j=true) (λk=>c.length-k) 0 ⟨Tu _,λj h=>absurd h (Sv _)⟩ ?_ (λw hw=>hw) ?_
 ·exact zu
 rintro k ⟨hk,hz⟩ K hK
 by_cases hlt:k<c.length
 rotate_left
 ·obtain rfl:k=c.length:=by omega
  have hFt:(List.range c.length).all ok=true:=by
   rw[TI]
   exactλj hj=>hz j (TO.1 hj)
  rw[hFt,Bool.and_true]at hFe
  clear hK
  by_cases h16:c.length<=16
  ·rw[Tc h16]at hFe
   subst hFe
   repeat'(first|apply(zs1 ?_)|apply(zs2 ?_)|(apply zg4;refine zs9 ?_)|(apply(zs17 ?_ ?_)<;>intro _<;>try exact zo)|(apply(zs18 ?_ ?_)<;>intro _<;>try exact zo)|apply(zs65 ?_)|apply(zs68 ?_)|apply(zs69 ?_)|apply(zs70 ?_)|(apply zg27;refine zs72 ?_)|apply(zs74 ?_)|apply(zs75 ?_)|apply(zs80 ?_)|apply(zs81 ?_)|fail)
   apply Yd;exact rfl;exact rfl;exact⟨rfl,rfl⟩
  ·rw[Tn h16]at hFe
   subst hFe
   repeat'(first|apply(zs1 ?_)|apply(zs2 ?_)|(apply zg4;refine zs9 ?_)|(apply(zs17 ?_ ?_)<;>intro _<;>try exact zo)|(apply(zs18 ?_ ?_)<;>intro _<;>try exact zo)|apply(zs65 ?_)|apply(zs68 ?_)|apply(zs69 ?_)|apply(zs70 ?_)|(apply zg27;refine zs72 ?_)|apply(zs74 ?_)|apply(zs75 ?_)|apply(zs80 ?_)|apply(zs81 ?_)|fail)
   apply Yd;exact rfl;exact rfl;exact⟨rfl,rfl⟩
 obtain⟨x,hx⟩:∃x,c[k]? =some x:=⟨_,Ta hlt⟩
 have hxi:=hc.x x (Tf hx)
 have q1:=λ{H':List HP}{w:World}(hx:x.In B w0 H') (hw:St B w0 H' w)=>YfT x hx hw
 have hok1:ok k=(Us x.clm&&(decide (k=0)||decide ((UP (c.map ClM.clm) (k-1)).flow<x.flow))):=by
  rw[<-hok];unfold Yk2;rw[OD hx];rfl
 have hno:ok k=false->F=false:=λh=>by
  rw[hFe,Bool.and_eq_false_iff]
  exact .inr (List.all_eq_false.2 ⟨k,TO.2 hlt,by rw[h];decide⟩)
 obtain⟨b,hb⟩:∃b,Us x.clm=b:=⟨_,rfl⟩
 rw[hb]at q1 hok1
 cases b with
 |false=>
  have hFf:=hno hok1
  subst hFf
  clear hK
  repeat'(first|apply(zs1 ?_)|apply(zs2 ?_)|(apply zg3;refine zs61 ?_)|(apply zg5;refine zs57 ?_)|(apply(zs17 ?_ ?_)<;>intro _<;>try exact zo)|(apply zg22;refine zs51 ?_)|(apply zg24;(refine zs54 ?_;intro _))|apply(zs65 ?_)|apply(zs68 ?_)|apply(zs69 ?_)|apply(zs70 ?_)|(apply zg27;refine zs71 ?_)|apply(zs73 ?_)|apply(zs76 ?_)|fail)
  apply Xv [0,1,2,3,4,5,6,7,8,9,10,11,12,13,14,15,16,17] []
  kernel_rfl
  kernel_rfl
  (simp only[Yg,nthO];rfl)
  exact rfl
  repeat'(first|(apply zg3;refine zs8 ?_)|apply(zs87 ?_)|fail)
  first|apply Ya Ybc|apply Yb Ybc
  exact za
  exact rfl
  exactλ_ hw=>(q1 (hxi.mono zk) hw)
  repeat'(first|apply(zs1 ?_)|apply(zs2 ?_)|(apply zg1;refine zs3 ?_)|(apply zg6;refine zs11 ?_)|(apply zg20;refine zs48 ?_)|apply(zs65 ?_)|(apply X5;exact zp)|apply(zs68 ?_)|apply(zs69 ?_)|apply(zs70 ?_)|(apply zg27;refine zs71 ?_)|apply(zs74 ?_)|apply(zs77 ?_)|apply(zs78 ?_)|(apply Yk;(repeat(first|with_reducible exact Y6|(with_reducible apply YX;(repeat(first|with_reducible exact Yt|with_reducible apply YD))))))|apply(zs93 ?_)|apply(zs94 ?_)|fail)
  ·show Perm H (H++[])
   rw[TM];exact Perm.refl _
  repeat'(first|fail)
  apply Yj H
  ·exact zk
  apply Yd;exact rfl;exact rfl;exact⟨rfl,rfl⟩
 |true=>
  rw[RS]at hok1
  by_cases hk0:k=0
  ·have hkt:ok k=true:=by rw[hok1,Tc hk0];rfl
   repeat'(first|apply(zs1 ?_)|apply(zs2 ?_)|(apply zg3;refine zs61 ?_)|(apply zg5;refine zs57 ?_)|(apply(zs17 ?_ ?_)<;>intro _<;>try exact zo)|(apply zg22;refine zs51 ?_)|(apply zg24;(refine zs54 ?_;intro _))|apply(zs65 ?_)|apply(zs68 ?_)|apply(zs69 ?_)|apply(zs70 ?_)|(apply zg27;refine zs71 ?_)|apply(zs73 ?_)|apply(zs76 ?_)|fail)
   apply Xv [0,1,2,3,4,5,6,7,8,9,10,11,12,13,14,15,16,17] []
   kernel_rfl
   kernel_rfl
   (simp only[Yg,nthO];rfl)
   exact rfl
   repeat'(first|(apply zg3;refine zs8 ?_)|apply(zs87 ?_)|fail)
   first|apply Ya Ybc|apply Yb Ybc
   exact za
   exact rfl
   exactλ_ hw=>(q1 (hxi.mono zk) hw)
   repeat'(first|apply(zs1 ?_)|(apply zg1;refine zs4 ?_)|(apply zg20;refine zs47 ?_)|apply(zs65 ?_)|(apply Yk;(repeat(first|with_reducible exact Y6|(with_reducible apply YX;(repeat(first|with_reducible exact Yt|with_reducible apply YD))))))|fail)
   ·show Perm H (H++[])
    rw[TM];exact Perm.refl _
   repeat'(first|apply(zs1 ?_)|(apply zg1;first|refine zs3 ?_|refine zs4 ?_)|(apply zg6;refine zs12 ?_)|(apply(zs19 ?_ ?_)<;>intro _<;>try exact zo)|(apply zg13;refine zs30 ?_)|apply(zs65 ?_)|(apply X5;exact zp)|apply(zs68 ?_)|apply(zs70 ?_)|(apply zg27;refine zs72 ?_)|apply(zs76 ?_)|apply(zs79 ?_)|apply(zs93 ?_)|apply(zs94 ?_)|fail)
   apply hK (k+1)
   ·exact⟨by omega,λj h2=>by
     rcases RU.1 h2 with h|rfl
     ·exact hz j h
     ·exact hkt⟩
   ·omega
   ·exact zu
   ·exact zk
  obtain⟨y,hy⟩:∃y,c[k-1]? =some y:=⟨_,Ta (by omega)⟩
  have hy2:c[((k:Int)-1).toNat]? =some y:=by rw[show((k:Int)-1).toNat=k-1 by omega];exact hy
  rw[Tn hk0,ND,OD hy]at hok1
  have hok1:ok k=decide (y.flow<x.flow):=hok1
  by_cases hfl:y.flow<x.flow
  ·rw[Tc hfl]at hok1
   repeat'(first|apply(zs1 ?_)|apply(zs2 ?_)|(apply zg3;refine zs61 ?_)|(apply zg5;refine zs57 ?_)|(apply(zs17 ?_ ?_)<;>intro _<;>try exact zo)|(apply zg22;refine zs51 ?_)|(apply zg24;(refine zs54 ?_;intro _))|apply(zs65 ?_)|apply(zs68 ?_)|apply(zs69 ?_)|apply(zs70 ?_)|(apply zg27;refine zs71 ?_)|apply(zs73 ?_)|apply(zs76 ?_)|fail)
   apply Xv [0,1,2,3,4,5,6,7,8,9,10,11,12,13,14,15,16,17] []
   kernel_rfl
   kernel_rfl
   (simp only[Yg,nthO];rfl)
   exact rfl
   repeat'(first|(apply zg3;refine zs8 ?_)|apply(zs87 ?_)|fail)
   first|apply Ya Ybc|apply Yb Ybc
   exact za
   exact rfl
   exactλ_ hw=>(q1 (hxi.mono zk) hw)
   repeat'(first|apply(zs1 ?_)|(apply zg1;refine zs4 ?_)|(apply zg20;refine zs47 ?_)|apply(zs65 ?_)|(apply Yk;(repeat(first|with_reducible exact Y6|(with_reducible apply YX;(repeat(first|with_reducible exact Yt|with_reducible apply YD))))))|fail)
   ·show Perm H (H++[])
    rw[TM];exact Perm.refl _
   repeat'(first|apply(zs1 ?_)|(apply zg1;refine zs4 ?_)|(apply zg2;first|refine zs6 ?_|refine zs58 ?_)|(apply zg3;first|refine zs7 ?_|refine zs59 ?_)|(apply zg5;refine zs57 ?_)|(apply zg6;first|refine zs11 ?_|refine zs12 ?_)|(apply(zs19 ?_ ?_)<;>intro _<;>try exact zo)|(apply(zs20 ?_ ?_)<;>intro _<;>try exact zo)|(apply zg13;refine zs30 ?_)|(apply zg14;refine zs31 ?_)|apply(zs65 ?_)|(apply X5;exact zp)|apply(zs68 ?_)|apply(zs70 ?_)|(apply zg27;refine zs72 ?_)|apply(zs76 ?_)|apply(zs79 ?_)|apply(zs93 ?_)|apply(zs94 ?_)|fail)
   apply hK (k+1)
   ·exact⟨by omega,λj h2=>by
     rcases RU.1 h2 with h|rfl
     ·exact hz j h
     ·exact hok1⟩
   ·omega
   ·exact zu
   ·exact zk
  ·rw[Tn hfl]at hok1
   have hFf:=hno hok1
   subst hFf
   clear hK
   repeat'(first|apply(zs1 ?_)|apply(zs2 ?_)|(apply zg3;refine zs61 ?_)|(apply zg5;refine zs57 ?_)|(apply(zs17 ?_ ?_)<;>intro _<;>try exact zo)|(apply zg22;refine zs51 ?_)|(apply zg24;(refine zs54 ?_;intro _))|apply(zs65 ?_)|apply(zs68 ?_)|apply(zs69 ?_)|apply(zs70 ?_)|(apply zg27;refine zs71 ?_)|apply(zs73 ?_)|apply(zs76 ?_)|fail)
   apply Xv [0,1,2,3,4,5,6,7,8,9,10,11,12,13,14,15,16,17] []
   kernel_rfl
   kernel_rfl
   (simp only[Yg,nthO];rfl)
   exact rfl
   repeat'(first|(apply zg3;refine zs8 ?_)|apply(zs87 ?_)|fail)
   first|apply Ya Ybc|apply Yb Ybc
   exact za
   exact rfl
   exactλ_ hw=>(q1 (hxi.mono zk) hw)
   repeat'(first|apply(zs1 ?_)|(apply zg1;refine zs4 ?_)|(apply zg20;refine zs47 ?_)|apply(zs65 ?_)|(apply Yk;(repeat(first|with_reducible exact Y6|(with_reducible apply YX;(repeat(first|with_reducible exact Yt|with_reducible apply YD))))))|fail)
   ·show Perm H (H++[])
    rw[TM];exact Perm.refl _
   repeat'(first|apply(zs1 ?_)|apply(zs2 ?_)|(apply zg1;refine zs4 ?_)|(apply zg2;first|refine zs6 ?_|refine zs58 ?_)|(apply zg3;first|refine zs7 ?_|refine zs59 ?_)|(apply zg5;refine zs57 ?_)|(apply zg6;first|refine zs11 ?_|refine zs12 ?_)|(apply(zs19 ?_ ?_)<;>intro _<;>try exact zo)|(apply(zs20 ?_ ?_)<;>intro _<;>try exact zo)|(apply zg14;refine zs31 ?_)|apply(zs65 ?_)|(apply X5;exact zp)|apply(zs68 ?_)|apply(zs69 ?_)|apply(zs70 ?_)|(apply zg27;refine zs71 ?_)|apply(zs74 ?_)|apply(zs77 ?_)|apply(zs78 ?_)|apply(zs93 ?_)|apply(zs94 ?_)|fail)
   apply Yj H
   ·exact zk
   apply Yd;exact rfl;exact rfl;exact⟨rfl,rfl⟩
theorem Wj(word:List UInt8)(l:List Int)(h:∀n∈l,0<=n/\n<10000)(h5:l.length<=100)(hwd:word.length<=100){A:Option Addr}{cap B:Nat}{w0:World}{H:List HP}{w:World}(ht:TabsB B w0)(hr:Rd B w0 H A (l.flatMap numF))(hw:St B w0 H w):
 Calls Tryz.prog 130 [strV word,.slice A l.length cap].toArray w (Post B w0 λv K=>v=strV (XM word l)/\K=H):=by
 refine Yc Tryz.func130 Tryz.ntmps130 rfl rfl hw ?_
 repeat'(first|apply(zs1 ?_)|apply(zs2 ?_)|(apply zg4;refine zs9 ?_)|apply(zs65 ?_)|apply(zs68 ?_)|apply(zs69 ?_)|apply(zs70 ?_)|apply(zs73 ?_)|fail)
 refine Yi (λ(i:Nat)=>[(9,.int .i64 i),(8,.int .i64 l.length),(7,.slice A l.length cap),(0,strV (X8 word (l.take i)))]) (λ_=>H) (λi=>i<=l.length) (λi=>l.length-i) 0 (Tu _) ?_ (λw hw=>hw) ?_
 ·have e0:X8 word (l.take 0)=word:=by simp[X8]
  rw[e0]
  exact zu
 intro i hi K hK
 have hbl:=WZ (w:=word) (l:=l.take i) λn hn=>h n (SU hn)
 have hlt0:(l.take i).length<=100:=by rw[TD];omega
 by_cases hlt:i<l.length
 ·obtain⟨n,hn⟩:∃n,l[i]? =some n:=⟨_,Ta hlt⟩
  have hnb:=h n (Tf hn)
  have hil:=QV hnb
  repeat'(first|((first|apply Ya YeJ|apply Yb YeJ);exact za;exact rfl;exactλ_ hw=>(YaK n (by omega) (by omega) ht hw))|(apply JN [32] (Lib.itoa n);(iterate 3 exact rfl);(show 1+_<=_;omega))|(apply JN (X8 word (l.take i)) ([32]++Lib.itoa n);(iterate 3 exact rfl);(rw[Tj];show _+(1+_)<=_;omega))|apply(zs1 ?_)|apply(zs2 ?_)|(apply zg3;refine zs60 ?_)|(apply zg5;refine zs57 ?_)|(apply(zs17 ?_ ?_)<;>intro _<;>try exact zo)|(apply zg13;refine zs30 ?_)|apply(zs65 ?_)|apply(zs68 ?_)|apply(zs69 ?_)|apply(zs70 ?_)|(apply zg27;refine zs71 ?_)|apply(zs73 ?_)|apply(zs76 ?_)|apply(zs79 ?_)|fail)
  apply hK (i+1)
  ·show i+1<=l.length
   omega
  ·omega
  ·rw[TF,hn,RI,Yat]
   exact zu
  ·exactλw hw=>hw
 ·skip
  repeat'(first|(apply JN (X8 word (l.take i)) [10];(iterate 3 exact rfl);(show _+1<=_;omega))|apply(zs1 ?_)|apply(zs2 ?_)|(apply(zs17 ?_ ?_)<;>intro _<;>try exact zo)|apply(zs65 ?_)|apply(zs68 ?_)|apply(zs69 ?_)|apply(zs70 ?_)|(apply zg27;refine zs72 ?_)|apply(zs74 ?_)|apply(zs75 ?_)|apply(zs80 ?_)|apply(zs81 ?_)|fail)
  apply Yd;exact rfl;exact rfl
  rw[show i=l.length by omega,TY]
  exact⟨rfl,rfl⟩
def rt3(x:Clm)(i:Nat):List UInt8:=XM wordR (rtAt x.routes i)++XM wordB [x.bounds.getD i 0,x.worst.getD i 0]++XM wordL (rtAt x.slots i)
def clT(x:Clm)(k:Nat):List UInt8:=XM wordF [x.flow]++(List.range k).flatMap (rt3 x)
def JM(c:List Clm)(k:Nat):List UInt8:=(c.take k).flatMap λx=>clT x x.routes.length
variable {x:Clm}
theorem Yny(h:YaZ x):((YlP x).flatMap λp=>p++[10])=clT x x.routes.length:=by
 have e:∀ks:List Nat,(∀i∈ks,i<x.routes.length)->(ks.flatMap (YlQ x)).flatMap (λp=>p++[10])=ks.flatMap (rt3 x):=by
  intro ks
  induction ks with
  |nil=>intro _;rfl
  |cons i ks ih=>
   intro hk
   rw[TR,TV,TR,ih λj hj=>hk j (TB _ hj)]
   have hi:=hk i TA
   unfold YlQ rt3 XM
   rw[Tm (by rw[h.b];exact hi),Tm (by rw[h.s];exact hi)]
   simp
 unfold YlP clT
 rw[TR,e _ λi hi=>TO.1 hi]
 rfl
variable {c:List Clm}
theorem Yfu(h:∀x∈c,YaZ x):YiZ c=JM c c.length:=by
 unfold YiZ JM
 rw[TY]
 induction c with
 |nil=>rfl
 |cons x c ih=>
  rw[TR,TV,TR,Yny (h x (by simp)),ih λy hy=>h y (by simp[hy])]
theorem Yev{k:Nat}(h:c[k]? =some x):JM c (k+1)=JM c k++clT x x.routes.length:=by
 unfold JM
 rw[TF,h,RI,TV]
 simp
theorem Yhz(x:Clm)(k:Nat):clT x (k+1)=clT x k++rt3 x k:=by
 unfold clT
 rw[RA,TV,TX]
 simp
variable {b:Int}
theorem Ws{l:List Int}(hb:b<10000)(h:∀x∈l,0<=x/\x<=b):∀n∈l,0<=n/\n<10000:=λn hn=>by have:=h n hn;omega
theorem Yfv{a:Int}(ha:0<=a/\a<10000)(hb:0<=b/\b<10000):∀n∈[a,b],0<=n/\n<10000:=λn hn=>by
 simp only[TN,R7,N2]at hn
 rcases hn with rfl|rfl
 ·exact ha
 ·exact hb
variable {i B cap:Nat}
theorem Yet(h:YaZ x)(hi:i<x.routes.length):(0<=x.bounds.getD i 0/\x.bounds.getD i 0<10000)/\(0<=x.worst.getD i 0/\x.worst.getD i 0<10000):=by
 have h1:=h.bs _ (YeZ (l:=x.bounds) (i:=i) (by rw[h.b];exact hi))
 have h2:=h.ws _ (YeZ (l:=x.worst) (i:=i) (by rw[h.w];exact hi))
 omega
theorem YlS(h:YaZ x)(hi:i<x.routes.length):(rt3 x i).length<=500:=by
 have h1:=h.rs i hi
 have h2:=h.ls i hi
 have h3:=Yet h hi
 have k1:=Zq (w:=wordR) (Ws (by decide) h1.2.2)
 have k2:=Zq (w:=wordB) (Yfv h3.1 h3.2)
 have k3:=Zq (w:=wordL) (Ws (by decide) h2.2.2)
 have e1:wordR.length=5:=rfl
 have e2:wordB.length=5:=rfl
 have e3:wordL.length=5:=rfl
 simp only[TS,RD]at k2
 unfold rt3
 rw[Tj,Tj]
 omega
theorem YfV{x:Clm}(h:YaZ x):∀k,k<=x.routes.length->(clT x k).length<=20+500*k
 |0,_=>by
  have k1:=Zq (w:=wordF) (l:=[x.flow]) λn hn=>by have:=h.f;rw[TJ.1 hn];omega
  have e1:wordF.length=4:=rfl
  simp only[TS,RD]at k1
  unfold clT
  simp only[List.range_zero,SZ,TM]
  omega
 |k+1,hk=>by
  have ih:=YfV h k (by omega)
  have h1:=YlS h (i:=k) (by omega)
  rw[Yhz,Tj]
  omega
theorem Yax{c:List Clm}(h:∀x∈c,YaZ x):∀k,k<=c.length->(JM c k).length<=1100*k
 |0,_=>by unfold JM;simp
 |k+1,hk=>by
  have ih:=Yax h k (by omega)
  obtain⟨x,hx⟩:∃x,c[k]? =some x:=⟨_,Ta (by omega)⟩
  have hf:=h x (Tf hx)
  have h1:=YfV hf x.routes.length (TL _)
  have:=hf.n
  rw[Yev hx,Tj]
  omega
variable {w0 w:World}{H:List HP}
theorem ClM.In.here{c:ClM}(h:c.In B w0 H)(hw:St B w0 H w):c.In w.heap.size w []:=
 ⟨h.rt.here hw,λr hr=>(h.rw_ r hr).here hw,h.bd.here hw,h.ws.here hw,h.st.here hw,λr hr=>(h.sw r hr).here hw,h.ln,h.rl,h.sl⟩
variable {A:Option Addr}
theorem CIn.here{c:List ClM}(h:CIn B w0 H A c)(hw:St B w0 H w):CIn w.heap.size w [] A c:=⟨h.rd.here hw,λx hx=>(h.x x hx).here hw,h.ln⟩
structure PrM where
 i:Nat
 A:Option Addr
 cap:Nat
theorem YmC(c:List ClM)(ht:TabsB B w0)(hc:CIn B w0 [] A c)(hw:St B w0 [] w):
 Calls Tryz.prog 41 [.slice A c.length cap].toArray w (Post B w0 λv _=>v=.tuple #[strV (V4 (c.map ClM.clm)).1,.int .i64 (V4 (c.map ClM.clm)).2]):=by
 refine Yc Tryz.func41 Tryz.ntmps41 rfl rfl hw ?_
 have p1:=λ{H':List HP}{w:World}(hc:CIn B w0 H' A c) (hw:St B w0 H' w)=>Yjt c (cap:=cap) hc hw
 have hcr:=hc.rd
 cases hf:Ybj (c.map ClM.clm)with
 |false=>
  rw[hf]at p1
  repeat'(first|((first|apply Ya Ylb|apply Yb Ylb);exact za;exact rfl;exactλ_ hw=>(p1 (hc.mono zk) hw))|apply(zs1 ?_)|apply(zs2 ?_)|(apply zg20;refine zs48 ?_)|apply(zs65 ?_)|apply(zs68 ?_)|apply(zs69 ?_)|apply(zs70 ?_)|(apply zg27;refine zs71 ?_)|apply(zs74 ?_)|apply(zs77 ?_)|fail)
  apply Yp;(iterate 3 exact rfl)
  rw[V4,Tm hf]
 |true=>
  rw[hf]at p1
  obtain⟨h16,hfd⟩:=YhX hf
  rw[Tv]at h16
  repeat'(first|((first|apply Ya Ylb|apply Yb Ylb);exact za;exact rfl;exactλ_ hw=>(p1 (hc.mono zk) hw))|apply(zs1 ?_)|apply(zs2 ?_)|(apply zg4;refine zs9 ?_)|(apply zg20;refine zs47 ?_)|(apply zg24;(refine zs54 ?_;intro _))|apply(zs65 ?_)|apply(zs68 ?_)|apply(zs69 ?_)|apply(zs70 ?_)|(apply zg27;refine zs72 ?_)|apply(zs73 ?_)|apply(zs76 ?_)|fail)
  rename_i gb
  refine Yi (λz:PrM=>[(14,.int .i64 (z.i:Nat)),(13,.int .i64 c.length),(12,.slice A c.length cap),(4,.pointer (some ⟨gb,0,none⟩))]) (λz=>bdP gb (if z.i=0 then .pointer none else .pointer (some ⟨gb,0,none⟩)) z.A z.cap (JM (c.map ClM.clm) z.i) []) (λz=>z.i<=c.length) (λz=>c.length-z.i) ⟨0,none,0⟩ (Tu _) ?_ ?_ ?_
  ·exact zu
  ·intro w hw
   have h5:St B w0 [blk gb (.cells (Value.agg #[.pointer none,.slice none 0 0]).cells 163 (0,0))] w:=hw
   exact(h5.nilSlice 5 1).perm (.swap _ _ _)
  rintro⟨k,A1,cap1⟩ hk K hK
  dsimp only at hk⊢
  have htl:=Yax hfd k (by rw[Tv];exact hk)
  by_cases hlt:k<c.length
  rotate_left
  ·obtain rfl:k=c.length:=by omega
   obtain⟨p,hp⟩:∃p,(if c.length=0 then Value.pointer none else .pointer (some ⟨gb,0,none⟩))=p:=⟨_,rfl⟩
   have hp2:p=.pointer none\/p=.pointer (some ⟨gb,0,none⟩):=by rw[<-hp];split<;>simp
   rw[hp]
   clear hK
   repeat'(first|(apply(zs17 ?_ ?_)<;>intro _<;>try exact zo)|apply(zs65 ?_)|apply(zs68 ?_)|apply(zs69 ?_)|apply(zs70 ?_)|(apply zg27;refine zs72 ?_)|apply(zs75 ?_)|apply(zs80 ?_)|apply(zs81 ?_)|fail)
   apply Yh _ YoR
   exact za
   exact rfl
   exactλ_ hw=>(Ov (l:=JM (c.map ClM.clm) c.length) hp2 (hw))
   rintro _ _ ⟨rfl,rfl⟩
   repeat'(first|apply(zs2 ?_)|apply(zs65 ?_)|apply(zs68 ?_)|apply(zs74 ?_)|fail)
   apply Yp;(iterate 3 exact rfl)
   rw[V4,Td (by rw[hf];decide),Yfu hfd,Tv]
  obtain⟨x,hx⟩:∃x,c[k]? =some x:=⟨_,Ta hlt⟩
  have hxm:=Tf hx
  have hxd:=hfd x.clm (SO hxm)
  have hxi:=hc.x x hxm
  obtain⟨p,hp⟩:∃p,(if k=0 then Value.pointer none else .pointer (some ⟨gb,0,none⟩))=p:=⟨_,rfl⟩
  have hp2:p=.pointer none\/p=.pointer (some ⟨gb,0,none⟩):=by rw[<-hp];split<;>simp
  rw[hp]
  unfold bdP
  repeat'(first|(apply zg2;refine zs6 ?_)|(apply zg3;first|refine zs7 ?_|refine zs61 ?_)|(apply zg5;refine zs57 ?_)|(apply(zs17 ?_ ?_)<;>intro _<;>try exact zo)|(apply zg22;refine zs51 ?_)|(apply zg24;(refine zs54 ?_;intro _))|(apply zg26;(refine zs56 ?_;intro _))|apply(zs65 ?_)|apply(zs68 ?_)|apply(zs69 ?_)|apply(zs70 ?_)|(apply zg27;refine zs71 ?_)|apply(zs73 ?_)|apply(zs76 ?_)|fail)
  rename_i gx gl
  have hlen1:x.clm.routes.length=x.rs.length:=by show(x.rs.map (·.xs)).length=_;rw[Tv]
  have hxn:=hxd.n
  rw[hlen1]at hxn
  have hbl:x.bs.length=x.rs.length:=by have:=hxd.b;rw[hlen1]at this;exact this
  have hwl:x.ws.length=x.rs.length:=by have:=hxd.w;rw[hlen1]at this;exact this
  have hsl:x.ss.length=x.rs.length:=by have:=hxd.s;rw[hlen1]at this;rw[<-this];show _=(x.ss.map (·.xs)).length;rw[Tv]
  have hrl:∀X,Rd B w0 (blk gl (.cells #[.int .i64 x.flow] 3 (0,0))::X) (some ⟨gl,0,none⟩) ([x.flow].flatMap numF):=λX=>Rd.blk (cs:=#[.int .i64 x.flow]) (.head _)
  have hfl:∀n∈[x.flow],0<=n/\n<10000:=λn hn=>by
   have:=hxd.f
   rw[TJ.1 hn]
   exact⟨this.1,by have:=this.2;show x.clm.flow<_;omega⟩
  have hfl2:=Zq (w:=wordF) hfl
  have e1:wordF.length=4:=rfl
  simp only[TS,RD]at hfl2
  first|apply Ya Ya9|apply Yb Ya9
  exact za
  exact rfl
  exactλ_ hw=>(Wj wordF [x.flow] hfl (by show 1<=100;decide) (by decide) ht (hrl _) hw)
  apply XL (bdP gb p A1 cap1 (JM (c.map ClM.clm) k) [clA gx x])
  ·unfold bdP
   exact zk
  apply Yh _ YeD
  exact za
  exact rfl
  exactλ_ hw=>(J2 gb p hp2 A1 cap1 (JM (c.map ClM.clm) k) (XM wordF [x.flow]) (by omega) (hw))
  rintro _ _ ⟨rfl,A2,cap2,rfl⟩
  unfold bdP
  repeat'(first|apply(zs1 ?_)|(apply zg2;refine zs6 ?_)|(apply zg3;refine zs7 ?_)|(apply zg4;refine zs9 ?_)|apply(zs65 ?_)|apply(zs68 ?_)|apply(zs69 ?_)|apply(zs70 ?_)|apply(zs73 ?_)|fail)
  refine Yi (λz:PrM=>[(26,.int .i64 (z.i:Nat)),(25,.int .i64 x.rs.length),(24,.slice x.rA x.rs.length x.rcap),(6,.pointer (some ⟨gx,0,none⟩)),(14,.int .i64 (k:Nat)),(13,.int .i64 c.length),(12,.slice A c.length cap),(4,.pointer (some ⟨gb,0,none⟩))]) (λz=>bdP gb (.pointer (some ⟨gb,0,none⟩)) z.A z.cap (JM (c.map ClM.clm) k++clT x.clm z.i) [clA gx x]) (λz=>z.i<=x.rs.length) (λz=>x.rs.length-z.i) ⟨0,A2,cap2⟩ (Tu _) ?_ ?_ ?_
  ·exact zu
  ·have e0:clT x.clm 0=XM wordF [x.flow]:=by unfold clT;simp;rfl
   rw[e0]
   unfold bdP
   exactλw hw=>hw
  rintro⟨j,A3,cap3⟩ hj K2 hK2
  dsimp only at hj⊢
  have hcl2:=YfV hxd j (by rw[hlen1];exact hj)
  unfold bdP
  by_cases hjl:j<x.rs.length
  rotate_left
  ·obtain rfl:j=x.rs.length:=by omega
   clear hK2
   have hst:JM (c.map ClM.clm) (k+1)=JM (c.map ClM.clm) k++clT x.clm x.rs.length:=by
    rw[Yev (x:=x.clm) (by rw[TE,hx];rfl),hlen1]
   rw[<-hst]
   repeat'(first|apply(zs1 ?_)|(apply(zs17 ?_ ?_)<;>intro _<;>try exact zo)|(apply zg13;refine zs30 ?_)|apply(zs65 ?_)|apply(zs68 ?_)|apply(zs69 ?_)|apply(zs70 ?_)|(apply zg27;refine zs72 ?_)|apply(zs75 ?_)|apply(zs79 ?_)|apply(zs80 ?_)|apply(zs81 ?_)|fail)
   apply hK ⟨k+1,A3,cap3⟩
   ·show k+1<=c.length
    omega
   ·dsimp only;omega
   ·exact zu
   ·dsimp only
    rw[Td (Nat.succ_ne_zero k)]
    unfold bdP
    exact zk
  obtain⟨r,hr⟩:∃r,x.rs[j]? =some r:=⟨_,Ta hjl⟩
  obtain⟨z,hz⟩:∃z,x.ss[j]? =some z:=⟨_,Ta (by omega)⟩
  obtain⟨bv,hbv⟩:∃b,x.bs[j]? =some b:=⟨_,Ta (by omega)⟩
  obtain⟨wv,hwv⟩:∃b,x.ws[j]? =some b:=⟨_,Ta (by omega)⟩
  have hrm:=Tf hr
  have hzm:=Tf hz
  have hjc:j<x.clm.routes.length:=by omega
  have g1:rtAt x.clm.routes j=r.xs:=U9 hr
  have g2:rtAt x.clm.slots j=z.xs:=U9 hz
  have g3:x.clm.bounds.getD j 0=bv:=by show x.bs.getD j 0=bv;rw[Tt,hbv];rfl
  have g4:x.clm.worst.getD j 0=wv:=by show x.ws.getD j 0=wv;rw[Tt,hwv];rfl
  have n1:=hxd.rs j hjc
  have n2:=hxd.ls j hjc
  have n3:=Yet hxd hjc
  have hr3:=YlS hxd hjc
  have hst:=Yhz x.clm j
  unfold rt3 at hr3 hst
  rw[g1,g2,g3,g4]at hr3 hst
  rw[g1]at n1
  rw[g2]at n2
  rw[g3,g4]at n3
  have m1:=Ws (b:=31) (by decide) n1.2.2
  have m2:=Ws (b:=511) (by decide) n2.2.2
  have m3:=Yfv n3.1 n3.2
  have l1:=λ{H':List HP}{w:World}(hr:Rd B w0 H' r.A (r.xs.flatMap numF)) (hw:St B w0 H' w)=>Wj wordR r.xs m1 (by omega) (by decide) (cap:=r.cap) ht hr hw
  have l2:=λ{g:Nat}{cap:Nat}{H':List HP}{w:World}(hm:blk g (.cells #[.int .i64 bv,.int .i64 wv] 3 (0,0))∈H') (hw:St B w0 H' w)=>Wj wordB [bv,wv] m3 (by show 2<=100;decide) (by decide) (A:=some ⟨g,0,none⟩) (cap:=cap) ht (show Rd B w0 H' _ ([bv,wv].flatMap numF) from Rd.blk hm) hw
  have l3:=λ{H':List HP}{w:World}(hr:Rd B w0 H' z.A (z.xs.flatMap numF)) (hw:St B w0 H' w)=>Wj wordL z.xs m2 (by omega) (by decide) (cap:=z.cap) ht hr hw
  obtain⟨s1,hs1⟩:∃s,XM wordR r.xs=s:=⟨_,rfl⟩
  obtain⟨s2,hs2⟩:∃s,XM wordB [bv,wv]=s:=⟨_,rfl⟩
  obtain⟨s3,hs3⟩:∃s,XM wordL z.xs=s:=⟨_,rfl⟩
  rw[hs1]at l1 hr3 hst
  rw[hs2]at l2 hr3 hst
  rw[hs3]at l3 hr3 hst
  rw[Tj,Tj]at hr3
  have hrr:=hxi.rt
  have hbr:=hxi.bd
  have hwr:=hxi.ws
  have hsr:=hxi.st
  repeat'(first|apply(zs1 ?_)|apply(zs2 ?_)|(apply zg3;refine zs60 ?_)|(apply zg5;refine zs57 ?_)|(apply(zs17 ?_ ?_)<;>intro _<;>try exact zo)|apply(zs65 ?_)|apply(zs68 ?_)|apply(zs69 ?_)|apply(zs70 ?_)|(apply zg27;refine zs71 ?_)|apply(zs73 ?_)|apply(zs76 ?_)|fail)
  apply Vr (.n1 0 (.n1 2 (.n1 3 (.n1 4 (.n1 5 (.n1 6 (.n1 7 (.n1 8 (.n1 9 (.n1 10 (.n1 11 (.n1 15 (.n1 16 (.n1 17 (.n1 18 (.n1 19 (.n2 1 (.n1 12 (.n1 13 (.n1 14 (.n1 20 (.n1 21 .done))))) 12 (.n1 1 (.n1 13 (.n1 14 (.n1 20 (.n1 21 .done)))))))))))))))))))))) [22] [false,false,true]
  kernel_rfl
  kernel_rfl
  exact zy
  (simp only[Yg,nthO];rfl)
  repeat'(first|apply(zs1 ?_)|(apply zg2;refine zs6 ?_)|(apply zg3;first|refine zs7 ?_|refine zs60 ?_)|(apply zg5;refine zs57 ?_)|(apply zg26;(refine zs56 ?_;intro _))|apply(zs65 ?_)|(apply X5;exact zp)|apply(zs87 ?_)|(apply Yk;try exact zl)|apply(zs90 ?_)|apply(zs91 ?_ ?_)|(apply Xp;try exact zl)|fail)
  all_goals(
   first|apply Ya Ya9|apply Yb Ya9
   exact za
   exact rfl
   exactλ_ hw=>(l1 ((hxi.rw_ r hrm).mono zk) hw)
   repeat'(first|(apply zg26;(refine zs56 ?_;intro _))|apply(zs65 ?_)|(apply X5;exact zp)|apply(zs87 ?_)|(apply Yk;try exact zl)|apply(zs90 ?_)|(apply Xp;try exact zl)|fail)
   first|apply Ya Ya9|apply Yb Ya9
   exact za
   exact rfl
   exactλ_ hw=>(l2 zm hw)
   repeat'(first|(apply JN s1 s2;(iterate 3 exact rfl);omega)|apply(zs65 ?_)|(apply X5;exact zp)|apply(zs87 ?_)|(apply Yk;try exact zl)|apply(zs90 ?_)|(apply Xp;try exact zl)|fail)
   first|apply Ya Ya9|apply Yb Ya9
   exact za
   exact rfl
   exactλ_ hw=>(l3 ((hxi.sw z hzm).mono zk) hw)
   repeat'(first|(apply JN (s1++s2) s3;(iterate 3 exact rfl);(rw[Tj];omega))|apply(zs65 ?_)|(apply X5;exact zp)|(apply Yk;try exact zl)|(apply YkR;exact zp)|apply(zs90 ?_)|(apply Xp;try exact zl)|apply(zs93 ?_)|fail)
   apply XL (bdP gb (.pointer (some ⟨gb,0,none⟩)) A3 cap3 (JM (c.map ClM.clm) k++clT x.clm j) [clA gx x])
   ·unfold bdP
    exact zk
   apply Yh _ YeD
   exact za
   exact rfl
   exactλ_ hw=>(J2 gb _ (.inr rfl) A3 cap3 (JM (c.map ClM.clm) k++clT x.clm j) (s1++s2++s3) (by rw[Tj,Tj,Tj];omega) (hw))
   rintro _ _ ⟨rfl,A4,cap4,rfl⟩
   repeat'(first|apply(zs1 ?_)|(apply zg13;refine zs30 ?_)|apply(zs65 ?_)|apply(zs68 ?_)|apply(zs70 ?_)|apply(zs79 ?_)|apply(zs94 ?_)|fail)
   apply hK2 ⟨j+1,A4,cap4⟩
   ·show j+1<=x.rs.length
    omega
   ·dsimp only;omega
   ·exact zu
   ·dsimp only
    intro w hw
    rw[hst,show JM (c.map ClM.clm) k++(clT x.clm j++(s1++s2++s3))=JM (c.map ClM.clm) k++clT x.clm j++(s1++s2++s3) from(TX _ _ _).symm]
    exact hw)
theorem YhF(c:List ClM)(ht:TabsB B w0)(hc:CIn B w0 H A c)(hw:St B w0 H w):
 Calls Tryz.prog 41 [.slice A c.length cap].toArray w (Post B w0 λv K=>v=.tuple #[strV (V4 (c.map ClM.clm)).1,.int .i64 (V4 (c.map ClM.clm)).2]/\K=H):=
 W3 hw (YmC c (ht.here hw) (hc.here hw) (St.start w))
end Go.Proofs.YtaholidehobiiaaGreatDoor
namespace Go.Eng
open Go.RowKit
end Go.Eng
namespace Go.Proofs.YtaholidehobiiaaGreatDoor
open Go.RowKit Go.Eng Go.Nw Go.Rt
def idxC(P:Clm->Bool)(c:List Clm):Int:=match c.findIdx? P with|none=> -1|some i=>(i:Nat)
variable {P:Clm->Bool}{c:List Clm}
theorem Ye0(h:∀x∈c,P x=false):idxC P c= -1:=by
 have:c.findIdx? P=none:=by rw[List.findIdx?_eq_none_iff];exact h
 unfold idxC;rw[this]
theorem YaI{i:Nat}{x:Clm}(h0:∀y∈c.take i,P y=false)(hx:c[i]? =some x)(hp:P x=true):idxC P c=(i:Nat)/\c.find? P=some x:=by
 have hc:c=c.take i++(x::c.drop (i+1)):=by
  have hi:=(Ti.1 hx)
  obtain⟨hi,e⟩:=hi
  rw[<-e,List.getElem_cons_drop,SC]
 have hl:(c.take i).length=i:=by
  have hi:=(Ti.1 hx).1
  rw[TD];omega
 have h1:c.findIdx? P=some i:=by
  rw[hc,List.findIdx?_append]
  have:(c.take i).findIdx? P=none:=by rw[List.findIdx?_eq_none_iff];exact h0
  rw[this]
  simp[List.findIdx?_cons,hp,hl]
 refine⟨by unfold idxC;rw[h1],?_⟩
 rw[hc,List.find?_append]
 have:(c.take i).find? P=none:=by rw[NU];exactλy hy=>by rw[h0 y hy];decide
 rw[this]
 simp[hp]
end Go.Proofs.YtaholidehobiiaaGreatDoor
namespace Go.Eng
open Go.RowKit
theorem Yfi(H:List HP):Perm H (H++[]):=by rw[TM];exact Perm.refl _
section
variable {P:Program}{B:Nat}{w0:World}{Q:Exit->Act->World->Prop}{env:Env}{H:List HP}{m:Mode}{n:Shp}{ops:Array Oper}{rest:List Oper}{d:Nat}{ty:TypeId}{pos:String}{after:Array Edge}{xt yt:TypeId}{x y:Operand}{k:IntKind}{a b:Int}
theorem Ycf(T:Tab P){α:Type}{f:α->List Value}{l:List α}{t i q o k:Nat}{b:α}{x:Operand}{A:Option Addr}{vs:List Value}(hx:evo env x=some (sptr A (i*q+o)))(hr:Rd B w0 H A (l.flatMap f))(hb:l[i]? =some b)(hq:∀a,(f a).length=q)
 (ht:look T.ag t=some k) (ho:Nat.ble (o+k) q=true) (h0:Nat.blt 0 k=true) (hv:subL o k (f b)=vs) (hk:Nat.beq vs.length k=true) (hn:Nat.ble (d+1) n.k=true)
 (h:VL P m n B w0 ops Q rest ((d,.agg vs.toArray)::env) H):VL P m n B w0 ops Q (⟨some d,.load t x,ty,pos,after,none⟩::rest) env H:=by
 refine Yy rfl rfl hn rfl (λa w ha hw=>?_) h
 have hk:=Nat.eq_of_beq_eq_true hk
 have hk0:0<k:=by simpa using h0
 have hok:o+k<=q:=T0 ho
 have hget:∀j v,vs[j]? =some v->(l.flatMap f)[i*q+o+j]? =some v:=λj v hj=>by
  have hlt:j<k:=by have:=(Ti.1 hj).1;rwa [hk]at this
  rw[NW,UY hq l i (o+j) b hb (by omega)]
  rw[<-hv,subL,SE,Tm hlt,RB]at hj
  exact hj
 obtain⟨g,u,rfl,_⟩:=hr w hw _ _ (hget 0 _ (Ta (by rw[hk];exact hk0)))
 have hl:=run_loadCells_list (P:=P) w ⟨g,u+(i*q+o),none⟩ vs (λj v hj=>by
  obtain⟨g',u',e1,hc⟩:=hr w hw _ _ (hget j v hj)
  injection e1 with e1
  injection e1 with e1 e2
  subst e1 e2
  rw[Addr.add_lit,NW];exact hc)
 rw[hk]at hl
 simp[execOp,ha.eval hx,sptr,Instr.loadAt,Instr.sureAddr,loadVar,ZN (T.aggs ht),Zn (JP (T.aggs ht)),Addr.add_lit,hl]
end
section
variable {P:Program}{B:Nat}{w0:World}{Q:Exit->Act->World->Prop}{env:Env}{H:List HP}{m:Mode}{n:Shp}{ops:Array Oper}{rest:List Oper}{d:Nat}{ty:TypeId}{pos:String}{after:Array Edge}
theorem YsC{tx:Array TypeId}{x y:Operand}{a b:Int}{k k':IntKind}(hx:evo env x=some (.int k a))(hy:evo env y=some (.int k' b))(hn:Nat.ble (d+1) n.k=true)(h:VL P m n B w0 ops Q rest ((d,.int k (if a<b then b else a))::env) H):
 VL P m n B w0 ops Q (⟨some d,.call ⟨.builtin .max,#[x,y],tx⟩,ty,pos,after,none⟩::rest) env H:=
 Yy rfl rfl hn rfl (λf w ha _=>by simp[execOp,resolve,invoke,builtin,ha.eval hx,ha.eval hy,run_max_int2]) h
end
end Go.Eng
namespace Go.Proofs.YtaholidehobiiaaGreatDoor
open Go.RowKit Go.Eng Go.Nw Go.Rt
variable {A:Option Addr}{cap B i:Nat}{w0 w:World}{H:List HP}
theorem YiI(q:List RqM)(hl:q.length<=1000000000000)(hr:Rd B w0 H A (q.flatMap rqF))(hw:St B w0 H w):
 Calls Tryz.prog 23 [.slice A q.length cap].toArray w (Post B w0 λv K=>∃A2 cap2,v=.slice A2 (RqM.fl q).length cap2/\K=flws A2 cap2 (RqM.fl q)::H):=by
 refine Yc Tryz.func23 Tryz.ntmps23 rfl rfl hw ?_
 repeat'(first|(apply Xe T;exact rfl;exact rfl;intro g2)|apply(zs2 ?_)|apply(zs65 ?_)|apply(zs68 ?_)|apply(zs69 ?_)|apply(zs70 ?_)|apply(zs73 ?_)|fail)
 refine Yi (λz:FlM=>[(4,.int .i64 (z.i:Nat)),(3,.slice z.A (RqM.fl (q.take z.i)).length z.cap),(0,.slice A q.length cap)]) (λz=>flws z.A z.cap (RqM.fl (q.take z.i))::H) (λz=>z.i<=q.length) (λz=>q.length-z.i) ⟨0,some ⟨g2,0,none⟩,0⟩ (Tu _) ?_ (λw hw=>hw) ?_
 ·exact zu
 rintro⟨i,A2,cap2⟩ hi K hK
 dsimp only at hi⊢
 have hlen:(RqM.fl (q.take i)).length=i:=by unfold RqM.fl;rw[Tv,TD];omega
 have hr':=hr.cons (X:=flws A2 cap2 (RqM.fl (q.take i)))
 by_cases hlt:i<q.length
 ·obtain⟨x,hx⟩:∃x,q[i]? =some x:=⟨_,Ta hlt⟩
  have hst:RqM.fl (q.take (i+1))=RqM.fl (q.take i)++[x.f]:=by unfold RqM.fl;rw[TF,hx,RI,T8];rfl
  repeat'(first|(apply Ycf T (vs:=[.int .i64 x.f.1,.int .i64 x.f.2.1,.int .i64 x.f.2.2.1,.int .i64 x.f.2.2.2.1,.int .i64 x.f.2.2.2.2.1,.int .i64 x.f.2.2.2.2.2]);exact rfl;exact hr';exact hx;exactλ_=>rfl;(iterate 6 exact rfl))|apply(zs1 ?_)|apply(zs2 ?_)|(apply zg2;refine zs58 ?_)|(apply zg4;refine zs9 ?_)|(apply zg5;refine zs57 ?_)|(apply(zs17 ?_ ?_)<;>intro _<;>try exact zo)|(apply zg13;refine zs30 ?_)|(apply zg21;(refine zs49 ?_;intro _ _))|(apply zg26;(refine zs56 ?_;intro _))|apply(zs65 ?_)|apply(zs68 ?_)|apply(zs69 ?_)|apply(zs70 ?_)|(apply zg27;refine zs71 ?_)|apply(zs73 ?_)|apply(zs76 ?_)|apply(zs79 ?_)|fail)
  rename_i A' cap'
  rw[YeX,<-hst,show(RqM.fl (q.take i)).length+1=(RqM.fl (q.take (i+1))).length from by rw[hst];simp]
  apply hK ⟨i+1,A',cap'⟩
  ·show i+1<=_
   omega
  ·dsimp only;omega
  ·exact zu
  ·exact zk
 ·obtain rfl:i=q.length:=by omega
  rw[TY]
  repeat'(first|apply(zs1 ?_)|apply(zs2 ?_)|(apply zg4;refine zs9 ?_)|(apply(zs17 ?_ ?_)<;>intro _<;>try exact zo)|apply(zs65 ?_)|apply(zs68 ?_)|apply(zs69 ?_)|apply(zs70 ?_)|(apply zg27;refine zs72 ?_)|apply(zs74 ?_)|apply(zs75 ?_)|apply(zs80 ?_)|apply(zs81 ?_)|fail)
  apply Yd;exact rfl;exact rfl
  exact⟨A2,cap2,rfl,rfl⟩
def YcY(f:Flw)(x:Clm):Bool:=decide (x.flow=f.1)
abbrev flwB(g:Nat)(f:Flw):HP:=blk g (.cells #[.int .i64 f.1,.int .i64 f.2.1,.int .i64 f.2.2.1,.int .i64 f.2.2.2.1,.int .i64 f.2.2.2.2.1,.int .i64 f.2.2.2.2.2] 53 (0,0))
theorem Yjn(x:ClM)(f:Flw)(g:Nat)(hm:flwB g f∈H)(hw:St B w0 H w):
 Calls Tryz.prog 91 [clV x,.pointer (some ⟨g,0,none⟩)].toArray w (Post B w0 λv K=>v=.bool (YcY f x.clm)/\K=H):=by
 refine Yc Tryz.func91 Tryz.ntmps91 rfl rfl hw ?_
 have e1:YcY f x.clm=decide (x.flow=f.1):=rfl
 unfold clV
 by_cases h1:x.flow=f.1
 ·rw[e1,Tc h1]
  repeat'(first|apply(zs2 ?_)|(apply zg2;refine zs6 ?_)|(apply zg3;refine zs7 ?_)|(apply zg7;(refine zs15 ?_ ?_<;>intro _<;>try exact zo))|(apply zg23;(refine zs52 ?_;intro _))|apply(zs65 ?_)|apply(zs68 ?_)|apply(zs69 ?_)|apply(zs70 ?_)|apply(zs74 ?_)|fail)
  apply Yj H
  ·exact zk
  apply Yd;exact rfl;exact rfl;exact⟨rfl,rfl⟩
 ·rw[e1,Tn h1]
  repeat'(first|apply(zs2 ?_)|(apply zg2;refine zs6 ?_)|(apply zg3;refine zs7 ?_)|(apply zg7;(refine zs15 ?_ ?_<;>intro _<;>try exact zo))|(apply zg23;(refine zs52 ?_;intro _))|apply(zs65 ?_)|apply(zs68 ?_)|apply(zs69 ?_)|apply(zs70 ?_)|apply(zs74 ?_)|fail)
  apply Yj H
  ·exact zk
  apply Yd;exact rfl;exact rfl;exact⟨rfl,rfl⟩
theorem YfU(c:List ClM)(f:Flw)(g:Nat)(hc:CIn B w0 H A c)(hm:flwB g f∈H)(hw:St B w0 H w):
 Calls Tryz.prog 90 [.slice A c.length cap,.func (.func 91) #[] #[.pointer (some ⟨g,0,none⟩)]].toArray w (Post B w0 λv K=>v=.int .i64 (idxC (YcY f) (c.map ClM.clm))/\K=H):=by
 refine Yc Tryz.func90 Tryz.ntmps90 rfl rfl hw ?_
 have hcl:=hc.ln
 have hcr:=hc.rd
 repeat'(first|apply(zs1 ?_)|apply(zs2 ?_)|(apply zg4;refine zs9 ?_)|apply(zs65 ?_)|apply(zs68 ?_)|apply(zs69 ?_)|apply(zs70 ?_)|apply(zs73 ?_)|fail)
 refine Yi (λk:Nat=>[(8,.int .i64 (k:Nat)),(7,.int .i64 c.length),(6,.slice A c.length cap),(0,.slice A c.length cap),(1,.func (.func 91) #[] #[.pointer (some ⟨g,0,none⟩)])]) (λ_=>H) (λk=>k<=c.length/\∀y∈(c.map ClM.clm).take k,YcY f y=false) (λk=>c.length-k) 0 ⟨Tu _,by simp⟩ ?_ (λw hw=>hw) ?_
 ·exact zu
 rintro k ⟨hk,hz⟩ K hK
 by_cases hlt:k<c.length
 ·obtain⟨x,hx⟩:∃x,c[k]? =some x:=⟨_,Ta hlt⟩
  have hxm:(c.map ClM.clm)[k]? =some x.clm:=by rw[TE,hx];rfl
  have p1:=λ{w:World}(hw:St B w0 H w)=>Yjn x f g hm hw
  cases hb:YcY f x.clm with
  |true=>
   rw[hb]at p1
   have hi:=(YaI hz hxm hb).1
   rw[hi]
   clear hK
   repeat'(first|((first|apply Yz (cs:=[.pointer (some ⟨g,0,none⟩)])|apply Y4 (cs:=[.pointer (some ⟨g,0,none⟩)]));exact rfl;exact en91;exact za;exact rfl;exactλ_ hw=>(p1 hw))|apply(zs1 ?_)|apply(zs2 ?_)|(apply zg3;refine zs61 ?_)|(apply zg5;refine zs57 ?_)|(apply(zs17 ?_ ?_)<;>intro _<;>try exact zo)|apply(zs65 ?_)|apply(zs68 ?_)|apply(zs69 ?_)|apply(zs70 ?_)|(apply zg27;refine zs71 ?_)|apply(zs73 ?_)|apply(zs74 ?_)|apply(zs76 ?_)|apply(zs77 ?_)|apply(zs78 ?_)|fail)
   apply Yd;exact rfl;exact rfl;exact⟨rfl,rfl⟩
  |false=>
   rw[hb]at p1
   repeat'(first|((first|apply Yz (cs:=[.pointer (some ⟨g,0,none⟩)])|apply Y4 (cs:=[.pointer (some ⟨g,0,none⟩)]));exact rfl;exact en91;exact za;exact rfl;exactλ_ hw=>(p1 hw))|apply(zs1 ?_)|apply(zs2 ?_)|(apply zg3;refine zs61 ?_)|(apply zg5;refine zs57 ?_)|(apply(zs17 ?_ ?_)<;>intro _<;>try exact zo)|(apply zg13;refine zs30 ?_)|apply(zs65 ?_)|apply(zs68 ?_)|apply(zs69 ?_)|apply(zs70 ?_)|(apply zg27;first|refine zs71 ?_|refine zs72 ?_)|apply(zs73 ?_)|apply(zs76 ?_)|apply(zs79 ?_)|fail)
   apply hK (k+1)
   ·exact⟨by omega,λy hy=>by
     rw[TF,hxm,RI]at hy
     rcases TT.1 hy with h|h
     ·exact hz y h
     ·rw[TJ.1 h];exact hb⟩
   ·omega
   ·exact zu
   ·exactλw hw=>hw
 ·rw[TQ (by rw[Tv];omega)]at hz
  rw[Ye0 hz]
  repeat'(first|apply(zs2 ?_)|(apply(zs17 ?_ ?_)<;>intro _<;>try exact zo)|apply(zs65 ?_)|apply(zs68 ?_)|apply(zs69 ?_)|apply(zs70 ?_)|(apply zg27;refine zs72 ?_)|apply(zs74 ?_)|apply(zs75 ?_)|apply(zs80 ?_)|apply(zs81 ?_)|fail)
  apply Yd;exact rfl;exact rfl;exact⟨rfl,rfl⟩
theorem Ypt{l:List Int}{k:Nat}{y:Int}(h0:1<=k)(h:l[k]? =some y):maxI (l.take (k+1))=if maxI (l.take k)<y then y else maxI (l.take k):=by
 rw[TF,h,RI]
 cases l with
 |nil=>cases h
 |cons a l=>
  obtain⟨k,rfl⟩:∃j,k=j+1:=⟨k-1,by omega⟩
  rw[NL]
  show List.foldl (λx y=>if x<y then y else x) a (l.take k++[y])=_
  rw[List.foldl_append]
  rfl
theorem YnF(l:List Int)(hlen:l.length<=1000000000000)(h0:1<=l.length)(hr:Rd B w0 H A (l.flatMap numF))(hw:St B w0 H w):
 Calls Tryz.prog 92 [.slice A l.length cap].toArray w (Post B w0 λv K=>v=.int .i64 (maxI l)/\K=H):=by
 refine Yc Tryz.func92 Tryz.ntmps92 rfl rfl hw ?_
 obtain⟨a,ha⟩:∃a,l[0]? =some a:=⟨_,Ta (by omega)⟩
 have ha2:l[(0:Int).toNat]? =some a:=ha
 have hm1:maxI (l.take 1)=a:=by
  cases l with
  |nil=>cases ha
  |cons b l=>exact Tz ha
 repeat'(first|apply(zs1 ?_)|apply(zs2 ?_)|(apply zg3;refine zs60 ?_)|(apply zg4;refine zs9 ?_)|(apply zg5;refine zs57 ?_)|(apply(zs17 ?_ ?_)<;>intro _<;>try exact zo)|apply(zs65 ?_)|apply(zs68 ?_)|apply(zs69 ?_)|apply(zs70 ?_)|(apply zg27;refine zs72 ?_)|apply(zs73 ?_)|apply(zs76 ?_)|fail)
 refine Yi (λk:Nat=>[(4,.int .i64 (k:Nat)),(3,.int .i64 (maxI (l.take k))),(0,.slice A l.length cap)]) (λ_=>H) (λk=>1<=k/\k<=l.length) (λk=>l.length-k) 1 ⟨TL _,h0⟩ ?_ (λw hw=>hw) ?_
 ·rw[hm1]
  exact zu
 rintro k ⟨hk1,hk⟩ K hK
 by_cases hlt:k<l.length
 ·obtain⟨y,hy⟩:∃y,l[k]? =some y:=⟨_,Ta hlt⟩
  repeat'(first|(apply YsC;(iterate 3 exact rfl))|apply(zs1 ?_)|apply(zs2 ?_)|(apply zg3;refine zs60 ?_)|(apply zg4;refine zs9 ?_)|(apply zg5;refine zs57 ?_)|(apply(zs17 ?_ ?_)<;>intro _<;>try exact zo)|(apply zg13;refine zs30 ?_)|apply(zs65 ?_)|apply(zs68 ?_)|apply(zs69 ?_)|apply(zs70 ?_)|(apply zg27;refine zs71 ?_)|apply(zs73 ?_)|apply(zs76 ?_)|apply(zs79 ?_)|fail)
  apply hK (k+1)
  ·exact⟨by omega,by omega⟩
  ·omega
  ·rw[Ypt hk1 hy]
   exact zu
  ·exactλw hw=>hw
 ·rw[show l.take k=l from TQ (by omega)]
  repeat'(first|apply(zs1 ?_)|apply(zs2 ?_)|(apply zg4;refine zs9 ?_)|(apply(zs17 ?_ ?_)<;>intro _<;>try exact zo)|apply(zs65 ?_)|apply(zs68 ?_)|apply(zs69 ?_)|apply(zs70 ?_)|(apply zg27;refine zs72 ?_)|apply(zs74 ?_)|apply(zs75 ?_)|apply(zs80 ?_)|apply(zs81 ?_)|fail)
  apply Yd;exact rfl;exact rfl;exact⟨rfl,rfl⟩
theorem Yo9{α:Type}(P:α->Bool)(c:List α):(∃i x,c[i]? =some x/\P x=true/\∀y∈c.take i,P y=false)\/∀y∈c,P y=false:=by
 by_cases hex:∃y∈c,P y=true
 ·left
  obtain⟨y,hy,hb⟩:=hex
  have hsi:(c.findIdx? P).isSome=true:=by
   rw[List.findIdx?_isSome,Rk];exact⟨y,hy,hb⟩
  obtain⟨i,hi⟩:=NK.1 hsi
  rw[List.findIdx?_eq_some_iff_getElem]at hi
  obtain⟨hlt,hpi,hno⟩:=hi
  refine⟨i,_,Ta hlt,hpi,λz hz=>?_⟩
  obtain⟨j,hj⟩:=T9.1 hz
  rw[SE]at hj
  split at hj
  ·rename_i hji
   obtain⟨hj1,hj2⟩:=Ti.1 hj
   have:=hno j hji
   rw[hj2]at this
   simpa using this
  ·cases hj
 ·right
  intro y hy
  cases hb:P y with
  |false=>rfl
  |true=>exact absurd ⟨y,hy,hb⟩ hex
def Js(c:List Clm)(l:List Flw)(i:Nat):List Int:=((List.range i).filter λk=>admB c (Y9 l k)).map λk=>((k:Nat):Int)
theorem YqH(c:List Clm)(l:List Flw)(i:Nat):(Js c l i).length<=i:=by
 unfold Js
 rw[Tv]
 have:=Rn (λk=>admB c (Y9 l k)) (List.range i)
 rwa [Me]at this
variable {c:List Clm}{l:List Flw}{f:Flw}
theorem YqI(h:l[i]? =some f)(hb:admB c f=true):Js c l (i+1)=Js c l i++[(i:Int)]:=by
 have hf:Y9 l i=f:=by unfold Y9;rw[Tt,h];rfl
 unfold Js
 rw[RA,Rj,List.filter_cons_of_pos (by rw[hf];exact hb),List.filter_nil,T8];rfl
theorem Yar(h:l[i]? =some f)(hb:admB c f=false):Js c l (i+1)=Js c l i:=by
 have hf:Y9 l i=f:=by unfold Y9;rw[Tt,h];rfl
 unfold Js
 rw[RA,Rj,List.filter_cons_of_neg (by rw[hf,hb];decide),List.filter_nil,TM]
theorem YdZ(c:List ClM)(l:List Flw)(hl:l.length<=1000000000000){A1:Option Addr}{cap1:Nat}(hc:CIn B w0 H A c)(hr:Rd B w0 H A1 (l.flatMap flwF))(hw:St B w0 H w):
 Calls Tryz.prog 25 [.slice A c.length cap,.slice A1 l.length cap1].toArray w (Post B w0 λv K=>∃A2 cap2,v=.slice A2 (Js (c.map ClM.clm) l l.length).length cap2/\K=nrs A2 cap2 (Js (c.map ClM.clm) l l.length)::H):=by
 refine Yc Tryz.func25 Tryz.ntmps25 rfl rfl hw ?_
 have hcl:=hc.ln
 have hcr:=hc.rd
 obtain⟨C,hC⟩:∃C,c.map ClM.clm=C:=⟨_,rfl⟩
 rw[hC]
 have p1:=λ{g:Nat}{f:Flw}{H':List HP}{w:World}(hc:CIn B w0 H' A c) (hm:flwB g f∈H') (hw:St B w0 H' w)=>YfU c f g (cap:=cap) hc hm hw
 rw[hC]at p1
 repeat'(first|apply(zs1 ?_)|apply(zs2 ?_)|(apply zg4;refine zs9 ?_)|apply(zs65 ?_)|apply(zs68 ?_)|apply(zs69 ?_)|apply(zs70 ?_)|apply(zs73 ?_)|fail)
 refine Je 3 1 ?_
 refine Yi (λz:FlM=>[(11,.int .i64 (z.i:Nat)),(10,.int .i64 l.length),(9,.slice A1 l.length cap1),(5,.slice z.A (Js C l z.i).length z.cap),(0,.slice A c.length cap)]) (λz=>nrs z.A z.cap (Js C l z.i)::H) (λz=>z.i<=l.length) (λz=>l.length-z.i) ⟨0,none,0⟩ (Tu _) ?_ (λw hw=>hw) ?_
 ·exact zu
 rintro⟨i,A2,cap2⟩ hi K hK
 dsimp only at hi⊢
 have hr':=hr.cons (X:=nrs A2 cap2 (Js C l i))
 have hal:=YqH C l i
 by_cases hlt:i<l.length
 rotate_left
 ·obtain rfl:i=l.length:=by omega
  clear hK
  repeat'(first|apply(zs1 ?_)|apply(zs2 ?_)|(apply(zs17 ?_ ?_)<;>intro _<;>try exact zo)|apply(zs65 ?_)|apply(zs68 ?_)|apply(zs69 ?_)|apply(zs70 ?_)|(apply zg27;refine zs72 ?_)|apply(zs74 ?_)|apply(zs75 ?_)|apply(zs80 ?_)|apply(zs81 ?_)|fail)
  apply Yd;exact rfl;exact rfl
  exact⟨A2,cap2,rfl,rfl⟩
 obtain⟨f,hf⟩:∃f,l[i]? =some f:=⟨_,Ta hlt⟩
 repeat'(first|apply(zs1 ?_)|apply(zs2 ?_)|(apply zg3;refine zs61 ?_)|(apply zg5;refine zs57 ?_)|(apply(zs17 ?_ ?_)<;>intro _<;>try exact zo)|(apply zg22;refine zs51 ?_)|(apply zg24;(refine zs54 ?_;intro _))|apply(zs65 ?_)|apply(zs68 ?_)|apply(zs69 ?_)|apply(zs70 ?_)|(apply zg27;refine zs71 ?_)|apply(zs73 ?_)|apply(zs76 ?_)|(apply zg29;(apply Ym;exact za;exact rfl))|fail)
 rename_i g
 first|apply Ya en90|apply Yb en90
 exact za
 exact rfl
 exactλ_ hw=>(p1 (f:=f) (hc.mono zk) zm hw)
 have hcr2:Rd B w0 (flwB g f::nrs A2 cap2 (Js C l i)::H) A (c.flatMap clF):=hcr.cons.cons
 rcases Yo9 (YcY f) C with⟨k,x,hx,hb,hz⟩|hall
 rotate_left
 ·have hbe:admB C f=false:=by
   unfold admB
   have:C.find? (YcY f)=none:=by rw[NU];exactλy hy=>by rw[hall y hy];decide
   rw[show C.find? (λx=>decide (x.flow=f.1))=none from this]
  rw[Ye0 hall]
  repeat'(first|apply(zs2 ?_)|apply(zs65 ?_)|apply(zs68 ?_)|apply(zs69 ?_)|fail)
  apply Xv [0,1,2,3,4,5,6,7,8,9,10,11,12,13,14,15,16,18,19,17,20,21] []
  kernel_rfl
  kernel_rfl
  (simp only[Yg,nthO];rfl)
  exact rfl
  repeat'(first|apply(zs1 ?_)|(apply zg1;refine zs3 ?_)|(apply zg6;refine zs12 ?_)|(apply(zs20 ?_ ?_)<;>intro _<;>try exact zo)|(apply zg13;refine zs30 ?_)|apply(zs65 ?_)|(apply X5;exact zp)|apply(zs68 ?_)|apply(zs70 ?_)|(apply zg27;refine zs72 ?_)|apply(zs76 ?_)|apply(zs79 ?_)|apply(zs93 ?_)|apply(zs94 ?_)|fail)
  apply hK ⟨i+1,A2,cap2⟩
  ·show i+1<=_
   omega
  ·dsimp only;omega
  ·rw[Yar hf hbe]
   exact zu
  ·rw[Yar hf hbe]
   exact zk
 obtain⟨h1,h2⟩:=YaI hz hx hb
 rw[h1]
 have hbe:admB C f=(decide (0<x.bounds.length)&&decide (maxI x.bounds<=f.2.2.2.2.2)):=by
  unfold admB
  rw[show C.find? (λx=>decide (x.flow=f.1))=some x from h2]
 rw[<-hC,TE]at hx
 obtain⟨y,hy,rfl⟩:∃y,c[k]? =some y/\y.clm=x:=by
  cases hc0:c[k]? with
  |none=>rw[hc0]at hx;cases hx
  |some y=>rw[hc0]at hx;exact⟨y,rfl,Tz hx⟩
 have hyi:=hc.x y (Tf hy)
 have hyl:=hyi.ln.2.1
 have hk:=(Ti.1 hy).1
 have hbe2:admB C f=(decide (0<y.bs.length)&&decide (maxI y.bs<=f.2.2.2.2.2)):=hbe
 by_cases h0:0<y.bs.length
 rotate_left
 ·rw[Tn h0]at hbe2
  have hbe3:admB C f=false:=hbe2
  repeat'(first|apply(zs2 ?_)|apply(zs65 ?_)|apply(zs68 ?_)|apply(zs69 ?_)|fail)
  apply Xv [0,1,2,3,4,5,6,7,8,9,10,11,12,13,14,15,16,18,19,17,20,21] []
  kernel_rfl
  kernel_rfl
  (simp only[Yg,nthO];rfl)
  exact rfl
  repeat'(first|apply(zs1 ?_)|(apply zg1;first|refine zs3 ?_|refine zs4 ?_)|(apply zg2;refine zs58 ?_)|(apply zg3;refine zs59 ?_)|(apply zg4;refine zs9 ?_)|(apply zg5;refine zs57 ?_)|(apply zg6;first|refine zs11 ?_|refine zs12 ?_)|(apply(zs19 ?_ ?_)<;>intro _<;>try exact zo)|(apply(zs20 ?_ ?_)<;>intro _<;>try exact zo)|(apply zg13;refine zs30 ?_)|apply(zs65 ?_)|(apply X5;exact zp)|apply(zs68 ?_)|apply(zs70 ?_)|(apply zg27;refine zs72 ?_)|apply(zs76 ?_)|apply(zs79 ?_)|apply(zs93 ?_)|apply(zs94 ?_)|fail)
  apply hK ⟨i+1,A2,cap2⟩
  ·show i+1<=_
   omega
  ·dsimp only;omega
  ·rw[Yar hf hbe3]
   exact zu
  ·rw[Yar hf hbe3]
   exact zk
 rw[Tc h0]at hbe2
 have p2:=λ{H':List HP}{w:World}(hr:Rd B w0 H' y.bA (y.bs.flatMap numF)) (hw:St B w0 H' w)=>YnF y.bs hyl h0 (cap:=y.bcap) hr hw
 have hyb:=hyi.bd
 by_cases hm:maxI y.bs<=f.2.2.2.2.2
 ·have hbe3:admB C f=true:=by rw[hbe2,Tc hm];rfl
  repeat'(first|apply(zs2 ?_)|apply(zs65 ?_)|apply(zs68 ?_)|apply(zs69 ?_)|fail)
  apply Xv [0,1,2,3,4,5,6,7,8,9,10,11,12,13,14,15,16,18,19,17,20,21] []
  kernel_rfl
  kernel_rfl
  (simp only[Yg,nthO];rfl)
  exact rfl
  repeat'(first|apply(zs1 ?_)|(apply zg1;refine zs4 ?_)|(apply zg2;first|refine zs6 ?_|refine zs58 ?_)|(apply zg3;first|refine zs7 ?_|refine zs59 ?_)|(apply zg4;refine zs9 ?_)|(apply zg5;refine zs57 ?_)|(apply zg6;refine zs11 ?_)|(apply(zs19 ?_ ?_)<;>intro _<;>try exact zo)|(apply(zs20 ?_ ?_)<;>intro _<;>try exact zo)|apply(zs87 ?_)|fail)
  first|apply Ya en92|apply Yb en92
  exact za
  exact rfl
  exactλ_ hw=>(p2 (hyb.mono zk) hw)
  repeat'(first|(apply zg1;refine zs4 ?_)|apply(zs65 ?_)|(apply Yk;try exact zl)|fail)
  any_goals(exact Yfi _)
  repeat'(first|apply(zs1 ?_)|apply(zs2 ?_)|(apply zg6;refine zs11 ?_)|(apply(zs18 ?_ ?_)<;>intro _<;>try exact zo)|(apply zg13;refine zs30 ?_)|(apply zg21;(refine zs49 ?_;intro _ _))|(apply zg26;(refine zs56 ?_;intro _))|apply(zs65 ?_)|(apply X5;exact zp)|apply(zs68 ?_)|apply(zs70 ?_)|(apply zg27;refine zs71 ?_)|apply(zs79 ?_)|apply(zs93 ?_)|apply(zs94 ?_)|fail)
  rename_i A' cap'
  rw[Q7,show(Js C l i).length+1=(Js C l i++[(i:Int)]).length by simp,<-YqI hf hbe3]
  apply hK ⟨i+1,A',cap'⟩
  ·show i+1<=_
   omega
  ·dsimp only;omega
  ·exact zu
  ·exact zk
 ·have hbe3:admB C f=false:=by rw[hbe2,Tn hm];rfl
  repeat'(first|apply(zs2 ?_)|apply(zs65 ?_)|apply(zs68 ?_)|apply(zs69 ?_)|fail)
  apply Xv [0,1,2,3,4,5,6,7,8,9,10,11,12,13,14,15,16,18,19,17,20,21] []
  kernel_rfl
  kernel_rfl
  (simp only[Yg,nthO];rfl)
  exact rfl
  repeat'(first|apply(zs1 ?_)|(apply zg1;refine zs4 ?_)|(apply zg2;first|refine zs6 ?_|refine zs58 ?_)|(apply zg3;first|refine zs7 ?_|refine zs59 ?_)|(apply zg4;refine zs9 ?_)|(apply zg5;refine zs57 ?_)|(apply zg6;refine zs11 ?_)|(apply(zs19 ?_ ?_)<;>intro _<;>try exact zo)|(apply(zs20 ?_ ?_)<;>intro _<;>try exact zo)|apply(zs87 ?_)|fail)
  first|apply Ya en92|apply Yb en92
  exact za
  exact rfl
  exactλ_ hw=>(p2 (hyb.mono zk) hw)
  repeat'(first|(apply zg1;refine zs4 ?_)|apply(zs65 ?_)|(apply Yk;try exact zl)|fail)
  any_goals(exact Yfi _)
  repeat'(first|apply(zs1 ?_)|(apply zg6;refine zs11 ?_)|(apply(zs18 ?_ ?_)<;>intro _<;>try exact zo)|(apply zg13;refine zs30 ?_)|apply(zs65 ?_)|(apply X5;exact zp)|apply(zs68 ?_)|apply(zs70 ?_)|(apply zg27;refine zs72 ?_)|apply(zs76 ?_)|apply(zs79 ?_)|apply(zs93 ?_)|apply(zs94 ?_)|fail)
  apply hK ⟨i+1,A2,cap2⟩
  ·show i+1<=_
   omega
  ·dsimp only;omega
  ·rw[Yar hf hbe3]
   exact zu
  ·rw[Yar hf hbe3]
   exact zk
def WO(n:Net)(s:Sch)(f:Flw)(a:Int)(r:List Int):Int:=match ZG n s f r with|none=>a|some b=>if a=0\/b.1<a then b.1 else a
theorem Ym7(n:Net)(s:Sch)(f:Flw)(l:List (List Int)):YjW n s f l=if l.length=0 then(0,14)else
 if(YH (λk=>wayE n s f (rtAt l k)) l.length 0).2≠0 then(0,(YH (λk=>wayE n s f (rtAt l k)) l.length 0).2)
 else if l.foldl (WO n s f) 0=0 then(0,15)else(l.foldl (WO n s f) 0,0):=rfl
variable {f:Flw}{r:List Int}
theorem Yqd{n:Net}{s:Sch}(h:wayE n s f r=0):f.2.2.2.2.1<s.len:=by
 obtain⟨_,h2,h3,h4,_⟩:=YgL h
 have hsz:=Rm (ZJ.1 h2).sized
 unfold XD at h3
 split at h3
 ·cases h3
 split at h3
 ·cases h3
 rename_i k1 k2
 have hd:f.2.2.2.1∣s.len:=Int.dvd_of_tmod_eq_zero h4
 have:=Int.le_of_dvd (by omega) hd
 omega
theorem Yhq{S:Int->Option (List Int)}{len per:Int}(hS:∀a l,S a=some l->1<=JB l-a+1):∀{k:Nat}{rel:Int}{b0 b:Int×Int×List Int},(1<=b0.1\/rel<len/\k≠0/\b0.1=0)->UN S len per k rel b0=some b->1<=b.1
 |0,rel,b0,b,h0,h=>by
  unfold UN at h
  rw[<-Tz h]
  rcases h0 with h0|⟨_,h0,_⟩
  ·exact h0
  ·exact absurd rfl h0
 |k+1,rel,b0,b,h0,h=>by
  unfold UN at h
  split at h
  ·rw[<-Tz h]
   rcases h0 with h0|⟨h0,_⟩
   ·exact h0
   ·omega
  cases hs:S rel with
  |none=>rw[hs]at h;cases h
  |some l=>
   rw[hs]at h
   have h1:=hS _ _ hs
   refine Yhq hS (.inl ?_) h
   split
   ·exact h1
   ·rcases h0 with h0|h0<;>omega
theorem Ymv{x:WayM}(hok:UK x)(hl:x.f.2.2.2.2.1<x.s.len){b:Int×Int×List Int}(h:ZG x.n.net x.s.sch x.f x.r=some b):1<=b.1:=by
 have h3:=hok.slen
 refine Yhq (len:=x.s.sch.len) (per:=x.f.2.2.2.1) (λa l hs=>?_) (.inr ⟨hl,?_,rfl⟩) h
 ·have:=YiS hok hs
  omega
 ·show x.s.len.toNat≠0
  omega
variable {n:NetM}{s:SchM}
theorem OL(h:(YV n.net s.sch f r).2=0):∃b,ZG n.net s.sch f r=some b/\(YV n.net s.sch f r).1=b/\1<=b.1/\wayE n.net s.sch f r=0:=by
 obtain⟨h1,b,h2,h3⟩:=Yag h
 exact⟨b,h2,by rw[h3],Ymv (x:=⟨n,s,f,none,0,r⟩) (Yb5 h1) (Yqd h1) h2,h1⟩
theorem Yij:∀(l:List Int) (a:Int),1<=a->(∀z∈l,1<=z)->1<=l.foldl (λx y=>if y<x then y else x) a
 |[],a,h,_=>h
 |z::l,a,h,hl=>by
  rw[Na]
  refine Yij l _ ?_ λy hy=>hl y (TB _ hy)
  have:=hl z TA
  split<;>omega
theorem Yda{n:NetM}{s:SchM}{f:Flw}:∀(l:List (List Int)) (a:Int),1<=a->(∀r∈l,(YV n.net s.sch f r).2=0)->l.foldl (WO n.net s.sch f) a=(l.map λr=>(YV n.net s.sch f r).1.1).foldl (λx y=>if y<x then y else x) a
 |[],a,_,_=>rfl
 |r::l,a,h,hl=>by
  obtain⟨b,h1,h2,h3,_⟩:=OL (hl r TA)
  rw[Na,Re,Na,h2]
  have hs:WO n.net s.sch f a r=if b.1<a then b.1 else a:=by
   unfold WO
   rw[h1]
   show(if a=0\/b.1<a then b.1 else a)=_
   by_cases hb:b.1<a
   ·rw[Tm (.inr hb),Tm hb]
   ·rw[Td (by omega),Td hb]
  rw[hs]
  refine Yda l _ ?_ λy hy=>hl y (TB _ hy)
  split<;>omega
variable {x:Rqs}
theorem Ypm(h0:1<=x.2.length)(h:∀r∈x.2,(YV n.net s.sch x.1 r).2=0):YjW n.net s.sch x.1 x.2=(minI (clmE n.net s.sch x).bounds,0):=by
 rw[Ym7,Td (by omega)]
 have hw:(YH (λk=>wayE n.net s.sch x.1 (rtAt x.2 k)) x.2.length 0).2=0:=YL.2 λk _ hk=>by
  obtain⟨_,_,_,_,h4⟩:=OL (h (rtAt x.2 k) (YiK (by omega)))
  exact h4
 rw[Td (λe=>e hw)]
 obtain⟨f,l⟩:=x
 cases l with
 |nil=>exact absurd h0 (by show¬1<=0;decide)
 |cons r l=>
  obtain⟨b,h1,h2,h3,_⟩:=OL (h r TA)
  have h5:=Yda (n:=n) (s:=s) (f:=f) l b.1 h3 λy hy=>h y (TB _ hy)
  have h6:(r::l).foldl (WO n.net s.sch f) 0=minI (clmE n.net s.sch (f,r::l)).bounds:=by
   rw[Na]
   have hs:WO n.net s.sch f 0 r=b.1:=by
    unfold WO
    rw[h1]
    exact Tm (.inl rfl)
   rw[hs,h5]
   show _=minI (((YV n.net s.sch f r).1.1)::(l.map λr=>(YV n.net s.sch f r).1.1))
   rw[h2];rfl
  have h7:1<=minI (clmE n.net s.sch (f,r::l)).bounds:=by
   rw[<-h6,Na]
   have hs:WO n.net s.sch f 0 r=b.1:=by
    unfold WO
    rw[h1]
    exact Tm (.inl rfl)
   rw[hs,h5]
   refine Yij _ _ h3 λz hz=>?_
   obtain⟨y,hy,rfl⟩:=TG.1 hz
   obtain⟨c,_,k2,k3,_⟩:=OL (h y (TB _ hy))
   rw[k2];exact k3
  show(if(r::l).foldl (WO n.net s.sch f) 0=0 then _ else((r::l).foldl (WO n.net s.sch f) 0,(0:Int)))=_
  rw[h6,Td (by omega)]
variable {nodes:Int}
theorem YeW{l:List Flw}(h:(YE nodes l).2=0):∀{i j:Nat},i<j->j<l.length->(Y9 l i).1<(Y9 l j).1:=by
 have hstep:∀j,0<j->j<l.length->(Y9 l (j-1)).1<(Y9 l j).1:=λj h0 hj=>by
  unfold YE at h
  split at h
  ·cases h
  split at h
  ·cases h
  have:=YL.1 h j (Tu _) (by omega)
  unfold Xo at this
  split at this
  ·contradiction
  split at this
  ·cases this
  ·omega
 intro i j hij hj
 induction j with
 |zero=>omega
 |succ j ih=>
  have h1:=hstep (j+1) (by omega) hj
  rw[SR]at h1
  rcases SB i j with h2|h2
  ·have:=ih h2 (by omega);omega
  ·obtain rfl:i=j:=by omega
   exact h1
variable {q:List Rqs}
theorem YcO{n:Net}{s:Sch}(hf:(YE nodes (YB q)).2=0){P:Clm->Bool}{k:Nat}(hx:q[k]? =some x)(hp:P (clmE n s x)=true)(hid:∀c,P c=true->c.flow=x.1.1):(q.map (clmE n s)).find? P=some (clmE n s x):=by
 have hk:=(Ti.1 hx).1
 have hat:∀{i:Nat}{y:Rqs},q[i]? =some y->Y9 (YB q) i=y.1:=λ{i y} h=>by
  unfold Y9 YB
  rw[Tt,TE,h];rfl
 refine(YaI (c:=q.map (clmE n s)) (i:=k) ?_ ?_ hp).2
 ·intro y hy
  obtain⟨j,hj⟩:=T9.1 hy
  rw[SE]at hj
  split at hj
  ·rename_i hjk
   rw[TE]at hj
   obtain⟨z,hz,rfl⟩:∃z,q[j]? =some z/\clmE n s z=y:=by
    cases h:q[j]? with
    |none=>rw[h]at hj;cases hj
    |some z=>rw[h]at hj;exact⟨z,rfl,Tz hj⟩
   cases hb:P (clmE n s z)with
   |false=>rfl
   |true=>
    have h1:=hid _ hb
    have h2:=YeW hf hjk (by unfold YB;rw[Tv];exact hk)
    rw[hat hz,hat hx]at h2
    have h3:(clmE n s z).flow=z.1.1:=rfl
    omega
  ·cases hj
 ·rw[TE,hx];rfl
theorem max_le:∀(l:List Int) (a m:Int),a<=m->(∀z∈l,z<=m)->l.foldl (λx y=>if x<y then y else x) a<=m
 |[],_,_,h,_=>h
 |z::l,a,m,h,hl=>by
  rw[Na]
  refine max_le l _ m ?_ λy hy=>hl y (TB _ hy)
  have:=hl z TA
  split<;>omega
theorem Yra{l:List Int}{m:Int}(hne:1<=l.length)(h:∀z∈l,z<=m):maxI l<=m:=by
 cases l with
 |nil=>exact absurd hne (by decide)
 |cons a l=>exact max_le l a m (h a TA) λz hz=>h z (TB _ hz)
structure SvM(n:NetM)(s:SchM)(q:List Rqs):Prop where
 adm:(Js (q.map (clmE n.net s.sch)) (YB q) q.length).length=q.length
 bnd:∀x∈q,bndE (q.map (clmE n.net s.sch)) x.1.1=(minI (clmE n.net s.sch x).bounds,true)
 lst:∀x∈q,YjW n.net s.sch x.1 x.2=(minI (clmE n.net s.sch x).bounds,0)
theorem YnC(h:(YT n.net q s.sch).2.2=0):SvM n s q:=by
 obtain⟨h1,h2⟩:=ZH.1 h
 have hf:(YE n.net.nodes (YB q)).2=0:=(OA (Jb.1 h1).whole).2.1
 have hx:∀x∈q,(1<=x.2.length)/\∀r∈x.2,(YV n.net s.sch x.1 r).2=0/\(YV n.net s.sch x.1 r).1.1<=x.1.2.2.2.2.2:=λx hx=>by
  have hw:=h2 x hx
  unfold Oy at hw
  rw[To,Tq]at hw
  have hl:=hw.2
  simp only[Si]at hl
  exact⟨by rcases hw.1 with h3|h3<;>omega,λr hr=>Yf9 hl hr⟩
 have hbl:∀x:Rqs,(clmE n.net s.sch x).bounds.length=x.2.length:=λx=>by
  show(x.2.map _).length=_
  rw[Tv]
 refine⟨?_,λx hxm=>?_,λx hxm=>Ypm (hx x hxm).1 λr hr=>((hx x hxm).2 r hr).1⟩
 ·unfold Js
  rw[Tv]
  have hall:(List.range q.length).filter (λk=>admB (q.map (clmE n.net s.sch)) (Y9 (YB q) k))=List.range q.length:=by
   rw[List.filter_eq_self]
   intro k hk
   have hk:=TO.1 hk
   have hxk:=ZV hk
   have hfk:Y9 (YB q) k=(rqAt q k).1:=by
    unfold Y9 YB
    rw[Tt,TE,hxk];rfl
   have hc:=YcO (n:=n.net) (s:=s.sch) hf (P:=λc=>decide (c.flow=(rqAt q k).1.1)) hxk (Tc rfl) (λc hc=>Rm hc)
   rw[hfk]
   unfold admB
   rw[hc]
   have hm:=hx _ (Yah hk)
   show(decide (0<(clmE n.net s.sch (rqAt q k)).bounds.length)&&decide (maxI (clmE n.net s.sch (rqAt q k)).bounds<=_))=true
   rw[To,Tq,Tq]
   refine⟨by rw[hbl];omega,Yra (by rw[hbl];omega) λz hz=>?_⟩
   obtain⟨r,hr,rfl⟩:=TG.1 (show z∈(rqAt q k).2.map λr=>(YV n.net s.sch (rqAt q k).1 r).1.1 from hz)
   exact(hm.2 r hr).2
  rw[hall,Me]
 ·obtain⟨k,hk,rfl⟩:=Ydf hxm
  have hc:=YcO (n:=n.net) (s:=s.sch) hf (P:=λc=>decide (c.flow=(rqAt q k).1.1)&&decide (0<c.bounds.length)) (ZV hk) (by
   rw[To,Tq,Tq]
   exact⟨rfl,by rw[hbl];have:=(hx _ (Yah hk)).1;omega⟩) (λc hc=>by
   rw[To,Tq]at hc
   exact hc.1)
  unfold bndE
  rw[hc]
structure Grow(id:Int)(s t:Sch):Prop where
 len:t.len=s.len
 off:t.off=s.off
 sub:∀c∈s.cells,c∈t.cells
 oth:∀p:Cel->Bool,(∀c,Xy c=id->p c=false)->t.cells.filter p=s.cells.filter p
theorem Grow.refl(id:Int)(s:Sch):Grow id s s:=⟨rfl,rfl,λ_ h=>h,λ_ _=>rfl⟩
variable {id a b:Int}{s t u:Sch}
theorem Grow.trans(h:Grow id s t)(k:Grow id t u):Grow id s u:=⟨k.len.trans h.len,k.off.trans h.off,λc hc=>k.sub c (h.sub c hc),λp hp=>(k.oth p hp).trans (h.oth p hp)⟩
structure LkOk(n:Net)(l:List Flw)(a b id:Int):Prop where
 g:YA n a b=true
 f:0<=Z8 l id
 i:0<=id/\id<256
theorem YiR{n:Net}{l:List Flw}{slot:Int}(h:Sm n l s)(hk:LkOk n l a b id)(hs:0<=slot/\slot<s.len)(ht:JI n s a b id slot=some t):Sm n l t/\Grow id s t/\hasC t.cells slot a b id=true:=by
 unfold JI at ht
 by_cases hh:hasC s.cells slot a b id=true
 ·rw[Tm hh]at ht
  obtain rfl:=Tz ht
  exact⟨h,.refl _ _,hh⟩
 rw[Td hh]at ht
 cases hf:(List.range s.off.toNat).find? λo:Nat=>fitE n s.cells slot o a b with
 |none=>rw[hf]at ht;cases ht
 |some o=>
  rw[hf]at ht
  obtain rfl:=Tz ht
  have h1:=List.find?_some hf
  have h2:=TO.1 (List.mem_of_find?_eq_some hf)
  refine⟨h.ins hs (by omega) hk.g hk.f hk.i h1,⟨rfl,rfl,λc hc=>OH.2 (.inr hc),λp hp=>?_⟩,?_⟩
  ·show(insC s.cells (slot,(o:Int),a,b,id)).filter p=_
   unfold insC
   rw[Rj,Su,Td (by rw[hp _ rfl];decide),<-Rj,SC]
  ·exact Rk.2 ⟨(slot,(o:Int),a,b,id),OH.2 (.inl rfl),Tc ⟨rfl,rfl,rfl,rfl⟩⟩
structure Sup(t u:Sch):Prop where
 len:u.len=t.len
 sub:∀c∈t.cells,c∈u.cells
theorem Grow.sup(h:Grow id s t)(k:Sup t u):Sup s u:=⟨k.len.trans h.len,λc hc=>k.sub c (h.sub c hc)⟩
theorem YqW{loss z:Int}(h:hasC u.cells (z.tmod u.len) a b id=true):1<=slC u.len (XN u id (a,b,loss)) z:=by
 obtain⟨d,hd,h1⟩:=Rk.1 h
 have h1:=Rm h1
 refine List.length_pos_of_mem (a:=d) (Rr.2 ⟨Rr.2 ⟨hd,Tc ⟨h1.2.2.2,h1.2.1,h1.2.2.1⟩⟩,Tc h1.1⟩)
theorem Yf6{n:Net}{l:List Flw}{a b id:Int}(hk:LkOk n l a b id)(loss:Int):∀(f k:Nat) {s t:Sch}{z y:Int},Sm n l s->0<=z->1<=s.len->hopA n a b id f k s z=some (t,y)->
 Sm n l t/\Grow id s t/\(z<=y/\y<=z+f)/\∀u,Sup t u->k<=cntS u.len (XN u id (a,b,loss)) (y-z).toNat z
 |0,0,s,t,z,y,h,_,_,e=>by
  obtain⟨rfl,rfl⟩:=Prod.mk.inj (Tz (show some (s,z)=some (t,y) from e))
  exact⟨h,.refl _ _,by omega,λu _=>Tu _⟩
 |f+1,0,s,t,z,y,h,_,_,e=>by
  obtain⟨rfl,rfl⟩:=Prod.mk.inj (Tz (show some (s,z)=some (t,y) from e))
  exact⟨h,.refl _ _,by omega,λu _=>Tu _⟩
 |0,k+1,s,t,z,y,h,_,_,e=>by cases e
 |f+1,k+1,s,t,z,y,h,hz,hl,e=>by
  rw[hopA]at e
  have hm:0<=z.tmod s.len/\z.tmod s.len<s.len:=by
   rw[RV hz]
   exact⟨Int.emod_nonneg _ (by omega),Int.emod_lt_of_pos _ (by omega)⟩
  cases hs:JI n s a b id (z.tmod s.len)with
  |none=>
   rw[hs]at e
   obtain⟨h1,h2,h3,h4⟩:=Yf6 hk loss f (k+1) h (show 0<=z+1 by omega) hl e
   refine⟨h1,h2,by omega,λu hu=>?_⟩
   have:=h4 u hu
   rw[show(y-z).toNat=(y-(z+1)).toNat+1 by omega,cntS]
   omega
  |some t1=>
   rw[hs]at e
   obtain⟨g1,g2,g3⟩:=YiR h hk hm hs
   obtain⟨h1,h2,h3,h4⟩:=Yf6 hk loss f k g1 (show 0<=z+1 by omega) (by rw[g2.len];exact hl) e
   refine⟨h1,g2.trans h2,by omega,λu hu=>?_⟩
   have:=h4 u hu
   have hsu:=(g2.trans h2).sup hu
   have h5:1<=slC u.len (XN u id (a,b,loss)) z:=YqW (by
    obtain⟨d,hd,h6⟩:=Rk.1 g3
    refine Rk.2 ⟨d,(h2.sup hu).sub d hd,?_⟩
    rw[hsu.len];exact h6)
   rw[show(y-z).toNat=(y-(z+1)).toNat+1 by omega,cntS]
   omega
theorem Ygp{n:Net}{l:List Flw}{id endd:Int}:∀(ls:List Lk) {s t:Sch}{z:Int},(∀x∈ls,LkOk n l x.1 x.2.1 id)->Sm n l s->0<=z->z<=endd->1<=s.len->relA n id endd ls s z=some t->
 Sm n l t/\Grow id s t/\∀u,Sup t u->∃y,y<=endd/\WayT u.len (XN u id) ls z y
 |[],s,t,z,_,h,_,hze,_,e=>by
  obtain rfl:=Tz (show some s=some t from e)
  exact⟨h,.refl _ _,λu _=>⟨z,hze,SD _⟩⟩
 |x::ls,s,t,z,hk,h,hz,hze,hl,e=>by
  rw[relA]at e
  cases hs:hopA n x.1 x.2.1 id (endd-z).toNat (Xg x) s z with
  |none=>rw[hs]at e;cases e
  |some w=>
   obtain⟨t1,y1⟩:=w
   rw[hs]at e
   obtain⟨g1,g2,g3,g4⟩:=Yf6 (hk x TA) x.2.2 _ _ h hz hl hs
   obtain⟨h1,h2,h3⟩:=Ygp ls (λy hy=>hk y (TB _ hy)) g1 (by omega) (by omega) (by rw[g2.len];exact hl) e
   refine⟨h1,g2.trans h2,λu hu=>?_⟩
   obtain⟨y,k1,k2⟩:=h3 u hu
   exact⟨y,k1,y1,g3.1,g4 u (h2.sup hu),k2⟩
theorem YiG{n:Net}{l:List Flw}{f:Flw}{ls:List Lk}(hk:∀x∈ls,LkOk n l x.1 x.2.1 f.1)(hd:0<=f.2.2.2.2.2)(hp:1<=f.2.2.2.1):∀(k:Nat) {s t:Sch}{z:Int},Sm n l s->0<=z->1<=s.len->Yaf n f ls k s z=some t->
 Sm n l t/\Grow f.1 s t/\∀u,Sup t u->∀i:Nat,i<k->z+i*f.2.2.2.1<s.len->∃y,y<=z+i*f.2.2.2.1+f.2.2.2.2.2/\WayT u.len (XN u f.1) ls (z+i*f.2.2.2.1) y
 |0,s,t,z,h,_,_,e=>by
  obtain rfl:=Tz (show some s=some t from e)
  exact⟨h,.refl _ _,λu _ i hi=>absurd hi (Sv _)⟩
 |k+1,s,t,z,h,hz,hl,e=>by
  rw[Yaf]at e
  by_cases hzl:z<s.len
  rotate_left
  ·rw[Td hzl]at e
   obtain rfl:=Tz e
   refine⟨h,.refl _ _,λu _ i _ hi=>?_⟩
   have:0<=(i:Int)*f.2.2.2.1:=Int.mul_nonneg (by omega) (by omega)
   omega
  rw[Tm hzl]at e
  cases hs:relA n f.1 (z+f.2.2.2.2.2) ls s z with
  |none=>rw[hs]at e;cases e
  |some t1=>
   rw[hs]at e
   obtain⟨g1,g2,g3⟩:=Ygp ls hk h hz (by omega) hl hs
   obtain⟨h1,h2,h3⟩:=YiG hk hd hp k (z:=z+f.2.2.2.1) g1 (by omega) (by rw[g2.len];exact hl) e
   refine⟨h1,g2.trans h2,λu hu i hi hil=>?_⟩
   cases i with
   |zero=>
    obtain⟨y,k1,k2⟩:=g3 u (h2.sup hu)
    refine⟨y,?_,?_⟩
    ·simpa using k1
    ·simpa using k2
   |succ i=>
    have e1:z+((i+1:Nat):Int)*f.2.2.2.1=z+f.2.2.2.1+(i:Int)*f.2.2.2.1:=by
     rw[show((i+1:Nat):Int)=(i:Int)+1 by omega,Int.add_mul];omega
    rw[e1]at hil⊢
    exact h3 u hu i (by omega) (by rw[g2.len];exact hil)
theorem Yfj{n:Net}{l:List Flw}{f:Flw}(hd:0<=f.2.2.2.2.2)(hp:1<=f.2.2.2.1)(h0:0<=f.2.2.2.2.1):∀(rs:List (List Int)) {s t:Sch},(∀r∈rs,∀x∈Yr n r,LkOk n l x.1 x.2.1 f.1)->Sm n l s->1<=s.len->JH n f rs s=some t->
 Sm n l t/\Grow f.1 s t/\∀u,Sup t u->∀r∈rs,∀i:Nat,f.2.2.2.2.1+i*f.2.2.2.1<s.len->∃y,y<=f.2.2.2.2.1+i*f.2.2.2.1+f.2.2.2.2.2/\WayT u.len (XN u f.1) (Yr n r) (f.2.2.2.2.1+i*f.2.2.2.1) y
 |[],s,t,_,h,_,e=>by
  obtain rfl:=Tz (show some s=some t from e)
  exact⟨h,.refl _ _,λu _ r hr=>by cases hr⟩
 |r::rs,s,t,hk,h,hl,e=>by
  rw[JH]at e
  cases hs:Yaf n f (Yr n r) s.len.toNat s f.2.2.2.2.1 with
  |none=>rw[hs]at e;cases e
  |some t1=>
   rw[hs]at e
   obtain⟨g1,g2,g3⟩:=YiG (hk r TA) hd hp s.len.toNat h h0 hl hs
   obtain⟨h1,h2,h3⟩:=Yfj hd hp h0 rs (λx hx=>hk x (TB _ hx)) g1 (by rw[g2.len];exact hl) e
   refine⟨h1,g2.trans h2,λu hu x hx i hi=>?_⟩
   rcases TN.1 hx with rfl|hx
   ·refine g3 u (h2.sup hu) i ?_ hi
    have:(i:Int)<=i*f.2.2.2.1:=by
     have:=Ny hp (show(0:Int)<=i by omega)
     rw[Int.mul_one]at this
     exact this
    omega
   ·exact h3 u hu x hx i (by rw[g2.len];exact hi)
variable {r:List Int}
theorem Yqa:Qt r=false↔r.Nodup:=by
 unfold Qt
 rw[RY]
 constructor
 ·intro h
  refine RO.2 λi j hi hj hij e=>?_
  have h1:=h j (TO.2 hj)
  apply h1
  rw[List.contains_iff_mem,Tt,Ta hj,Option.getD_some,<-e]
  refine T9.2 ⟨i,?_⟩
  rw[SL hij,Ta hi]
 ·intro h i hi hc
  have hi:=TO.1 hi
  rw[List.contains_iff_mem,Tt,Ta hi,Option.getD_some]at hc
  obtain⟨k,hk⟩:=T9.1 hc
  have hki:k<i:=by
   have:=(Ti.1 hk).1
   rw[TD]at this
   omega
  rw[SL hki]at hk
  obtain⟨h1,h2⟩:=Ti.1 hk
  exact RO.1 h k i h1 hi hki h2
theorem Ycv{n:Net}{b:Int}{r:List Int}(hl:r.getD (r.length-1) 0=b)(hnd:r.Nodup)(hk:∀i,i+1<r.length->(ZK n r i).1=r.getD i 0/\(ZK n r i).2.1=r.getD (i+1) 0):∀(m i:Nat),i+m+1=r.length->
 Chain b (r.getD i 0) ((List.range' i m).map (ZK n r))
 |0,i,h=>by
  show r.getD i 0=b
  rw[<-hl,show r.length-1=i by omega]
 |m+1,i,h=>by
  rw[List.range'_succ,Re]
  obtain⟨h1,h2⟩:=hk i (by omega)
  refine⟨h1.symm,λe=>?_,?_⟩
  ·rw[<-hl]at e
   rw[Tt,Tt,Ta (show i<r.length by omega),Ta (show r.length-1<r.length by omega)]at e
   exact RO.1 hnd i (r.length-1) (by omega) (by omega) (by omega) (Tz (by simpa using e))
  ·rw[h2]
   exact Ycv hl hnd hk m (i+1) (by omega)
theorem Ybt{n:Net}{a b:Int}(h:Zv n a b r=0):Chain b a (Yr n r)/\(∀x∈Yr n r,0<=x.2.2)/\Yr n r≠[]/\r.Nodup/\
 ∀i,i+1<r.length->(ZK n r i).1=r.getD i 0/\(ZK n r i).2.1=r.getD (i+1) 0:=by
 have h':=h
 unfold Zv at h
 by_cases h0:Z1 n a b=0
 rotate_left
 ·rw[Tm h0]at h;exact absurd h h0
 rw[Td (λe=>e h0)]at h
 obtain⟨hlen,-,⟨hs,ht⟩,htw,-⟩:=QP h
 obtain⟨hck,-,hg⟩:=JU h'
 have hok:=YM hck
 have hnd:=Yqa.1 htw
 have hk:∀i,i+1<r.length->(ZK n r i).1=r.getD i 0/\(ZK n r i).2.1=r.getD (i+1) 0:=λi hi=>UW (UZ (hg i hi))
 refine⟨?_,λx hx=>?_,?_,hnd,hk⟩
 ·have:=Ycv ht hnd hk (r.length-1) 0 (by omega)
  rw[hs]at this
  unfold Yr
  rw[List.range_eq_range']
  exact this
 ·unfold Yr at hx
  obtain⟨i,hi,rfl⟩:=TG.1 hx
  have hi:=TO.1 hi
  exact(Q0 hok (r.getD i 0) (r.getD (i+1) 0)).1
 ·intro e
  have:=TU List.length e
  unfold Yr at this
  simp at this
  omega
def posQ(q:List Rqs)(id:Int):Nat:=(q.takeWhile λy=>decide (y.1.1<id)).length
def insQ(q:List Rqs)(x:Rqs):List Rqs:=q.take (posQ q x.1.1)++x::q.drop (posQ q x.1.1)
variable {q:List Rqs}{x:Rqs}
theorem Vc{y:Rqs}:y∈insQ q x↔y=x\/y∈q:=by
 have h:y∈q↔y∈q.take (posQ q x.1.1)\/y∈q.drop (posQ q x.1.1):=by rw[<-TT,SC]
 unfold insQ
 rw[TT,TN,h]
 constructor
 ·rintro(h|h|h)
  ·exact .inr (.inl h)
  ·exact .inl h
  ·exact .inr (.inr h)
 ·rintro(h|h|h)
  ·exact .inr (.inl h)
  ·exact .inl h
  ·exact .inr (.inr h)
variable {nodes:Int}{l:List Flw}{f:Flw}
theorem VJ(h:(YE nodes l).2=0)(hf:f∈l):XD nodes f=0:=by
 obtain⟨j,hj,rfl⟩:=List.mem_iff_getElem.1 hf
 unfold YE at h
 split at h
 ·cases h
 split at h
 ·cases h
 have:=YL.1 h j (Tu _) (by omega)
 unfold Xo at this
 split at this
 ·contradiction
 rename_i h2
 have h3:=RL.1 h2
 unfold Y9 at h3
 rw[Tt,Ta hj]at h3
 exact h3
theorem ZI(hf:XD nodes f=0):(0<=f.1/\f.1<256)/\(1<=f.2.2.2.1/\f.2.2.2.1<=512)/\(0<=f.2.2.2.2.1/\f.2.2.2.2.1<f.2.2.2.1)/\f.2.1≠f.2.2.1/\(1<=f.2.2.2.2.2/\f.2.2.2.2.2<=f.2.2.2.1):=by
 unfold XD at hf
 split at hf
 ·cases hf
 split at hf
 ·cases hf
 split at hf
 ·cases hf
 refine⟨by omega,by omega,by omega,by assumption,by omega⟩
theorem VH{id:Int}:0<=Z8 l id↔∃f∈l,f.1=id:=by
 unfold Z8
 rw[Vz _ _ _ (SD 0),Rk]
 constructor
 ·rintro⟨f,h1,h2⟩;exact⟨f,h1,Rm h2⟩
 ·rintro⟨f,h1,h2⟩;exact⟨f,h1,Tc h2⟩
variable {n:Net}{s t:Sch}{r:List Int}
theorem Yko(hl:t.len=s.len)(hs:Xz s=true)(ht:Xz t=true)(hc:∀l,XN t f.1 l=XN s f.1 l):YV n t f r=YV n s f r:=by
 have h1:wayE n t f r=wayE n s f r:=by unfold wayE;rw[hs,ht,hl]
 have h2:ZG n t f r=ZG n s f r:=by
  have:XN t f.1=XN s f.1:=funext hc
  unfold ZG
  have h3:Ua n t f r=Ua n s f r:=by funext a;unfold Ua;rw[this,hl]
  rw[h3,hl]
 unfold YV
 rw[h1,h2]
theorem YnW(hl:t.len=s.len)(hs:Xz s=true)(ht:Xz t=true)(hc:∀l,XN t x.1.1 l=XN s x.1.1 l):Oy n t x=Oy n s x:=by
 unfold Oy JC
 have:badR n t x.1=badR n s x.1:=by funext r;unfold badR;rw[Yko hl hs ht hc]
 rw[this]
theorem Ykp(hw:wayE n t f r=0)(h:∀i:Nat,f.2.2.2.2.1+i*f.2.2.2.1<t.len->∃y,y<=f.2.2.2.2.1+i*f.2.2.2.1+f.2.2.2.2.2/\WayT t.len (XN t f.1) (Yr n r) (f.2.2.2.2.1+i*f.2.2.2.1) y):
 (YV n t f r).2=0/\(YV n t f r).1.1<=f.2.2.2.2.2:=by
 obtain⟨-,-,hf,-,hck⟩:=YgL hw
 obtain⟨-,hp,h0,-,hd⟩:=ZI hf
 obtain⟨-,hloss,hne,-,-⟩:=Ybt hck
 obtain⟨b,hb,hbd⟩:=Yk0 (S:=Ua n t f r) (len:=t.len) (per:=f.2.2.2.1) (d:=f.2.2.2.2.2) hp.1 (fuel:=t.len.toNat) (rel:=f.2.2.2.2.1) (b:=(0,0,[])) (by show(0:Int)<=_;omega) (λi hi=>by
  obtain⟨y,h1,h2⟩:=h i hi
  obtain⟨l,h3,h4⟩:=YnY hne hloss (by omega) h2
  exact⟨l,h3,by omega⟩)
 have hbe:ZG n t f r=some b:=hb
 unfold YV
 rw[Td (λe=>e hw),hbe]
 exact⟨rfl,hbd⟩
theorem V7(h:(rqsE n q).2=0):Yq n=0/\(YE n.nodes (YB q)).2=0/\∀x∈q,rtsE n x=0:=by
 unfold rqsE at h
 by_cases h1:Yq n=0
 rotate_left
 ·rw[Tm h1]at h;cases h
 rw[Td (λe=>e h1)]at h
 by_cases h2:(YE n.nodes (YB q)).2=0
 rotate_left
 ·rw[Tm h2]at h;exact absurd h h2
 rw[Td (λe=>e h2)]at h
 refine⟨h1,h2,λx hx=>?_⟩
 obtain⟨i,hi,rfl⟩:=Ydf hx
 exact YL.1 h i (Tu _) (by omega)
theorem J0(h:rtsE n x=0):∀r∈x.2,Zv n x.1.2.1 x.1.2.2.1 r=0:=by
 intro r hr
 unfold rtsE at h
 split at h
 ·cases h
 split at h
 ·cases h
 split at h
 ·exact absurd h (by assumption)
 rename_i h3
 obtain⟨k,hk⟩:=T9.1 hr
 have hkl:=(Ti.1 hk).1
 have:=YL.1 (RL.1 h3) k (Tu _) (by omega)
 unfold rtAt at this
 rw[Tt,hk]at this
 exact this
theorem Ydb{a b:Int}(h:Zv n a b r=0):∀x∈Yr n r,YA n x.1 x.2.1=true:=by
 obtain⟨-,-,-,-,hk⟩:=Ybt h
 obtain⟨-,-,hg⟩:=JU h
 intro x hx
 unfold Yr at hx
 obtain⟨i,hi,rfl⟩:=TG.1 hx
 have hi:=TO.1 hi
 obtain⟨h1,h2⟩:=hk i (by omega)
 rw[h1,h2]
 exact hg i (by omega)
theorem YfP(hc:(YT n q s).2.2=0)(hx:(rqsE n (insQ q x)).2=0)(hnew:∀y∈q,y.1.1≠x.1.1)(hm:s.len.tmod x.1.2.2.2.1=0)(hp:JH n x.1 x.2 s=some t)(hl:t.cells.length<=512):
 (YT n (insQ q x) t).2.2=0/\Grow x.1.1 s t:=by
 obtain⟨h1,h2⟩:=ZH.1 hc
 have hsem:=VD.1 (Jb.1 h1)
 obtain⟨-,hfl,hrt⟩:=V7 hx
 have hxm:x∈insQ q x:=Vc.2 (.inl rfl)
 have hrx:=hrt x hxm
 have hfx:XD n.nodes x.1=0:=VJ hfl (TG.2 ⟨x,hxm,rfl⟩)
 obtain⟨hib,hper,hph,-,hd⟩:=ZI hfx
 have hsz:1<=s.len:=by
  have:=hsem.frm.sized
  unfold ZO at this
  exact(Rm this).1
 have hsm:Sm n (YB (insQ q x)) s:=by
  have h0:=hsem.sm
  refine⟨h0.ck,hfl,λf hf=>?_,h0.sized,h0.formed,h0.ord,λc hcm=>⟨(h0.good c hcm).1,?_⟩,h0.once,h0.clear⟩
  ·obtain⟨y,hy,rfl⟩:=TG.1 hf
   rcases Vc.1 hy with rfl|hy
   ·exact hm
   ·exact h0.per _ (TG.2 ⟨y,hy,rfl⟩)
  ·obtain⟨f,hf,e⟩:=VH.1 (h0.good c hcm).2
   obtain⟨y,hy,rfl⟩:=TG.1 hf
   exact VH.2 ⟨y.1,TG.2 ⟨y,Vc.2 (.inr hy),rfl⟩,e⟩
 have hfi:0<=Z8 (YB (insQ q x)) x.1.1:=VH.2 ⟨x.1,TG.2 ⟨x,hxm,rfl⟩,rfl⟩
 obtain⟨g1,g2,g3⟩:=Yfj (l:=YB (insQ q x)) (by omega) hper.1 hph.1 x.2 (λr hr y hy=>⟨Ydb (J0 hrx r hr) y hy,hfi,hib⟩) hsm hsz hp
 have hsem2:=g1.sem hl
 have hft:=ZJ.2 hsem2.frm
 have hfs:=ZJ.2 hsem.frm
 refine⟨ZH.2 ⟨Jb.2 (VD.2 hsem2),λy hy=>?_⟩,g2⟩
 rcases Vc.1 hy with rfl|hy
 ·unfold Oy
  rw[To,Tq]
  refine⟨Yai hrx,?_⟩
  unfold JC
  rw[Si,RY]
  intro r hr
  have hway:wayE n t y.1 r=0:=by
   unfold wayE
   rw[hft,Td (by rintro(h|h|h);exact h g1.ck;cases h;exact h hfx),Td (λe=>e (by rw[g2.len];exact hm))]
   exact J0 hrx r hr
  have:=Ykp hway λi hi=>g3 t ⟨rfl,λ_ h=>h⟩ r hr i (by rw[<-g2.len];exact hi)
  unfold badR
  rw[Tq]
  omega
 ·rw[YnW g2.len hfs hft λl=>g2.oth _ λc e=>by
   unfold onP
   refine Tn λh=>?_
   exact hnew y hy (h.1.symm.trans e)]
  exact h2 y hy
def Ox(n:Net)(s:Sch)(f:Flw)(r:List Int)(c:Cel):Bool:=(List.range s.len.toNat).any λi=>decide (f.2.2.2.2.1+i*f.2.2.2.1<s.len)&&(runP s.len (XN s f.1) (f.2.2.2.2.1+i*f.2.2.2.1+f.2.2.2.1) (Yr n r) (f.2.2.2.2.1+i*f.2.2.2.1)).any λp=>decide (p.1=c)
def O6(n:Net)(s:Sch)(x:Rqs)(c:Cel):Bool:=x.2.any λr=>Ox n s x.1 r c
def Yi3(n:Net)(s:Sch)(q:List Rqs)(c:Cel):Bool:=q.any λx=>O6 n s x c
def Yul(n:Net)(q:List Rqs)(s:Sch):Sch:=⟨s.len,s.off,s.cells.filter (Yi3 n s q)⟩
def hasQ(q:List Rqs)(id:Int):Bool:=q.any λy=>decide (y.1.1=id)
def Jt(n:Net)(q:List Rqs)(s:Sch)(x:Rqs):Sch×Int:=
 if(YT n q s).2.2≠0 then(Zs,1)else if hasQ q x.1.1=true then(Zs,6)else if(rqsE n (insQ q x)).2≠0 then(Zs,1)
 else if s.len.tmod x.1.2.2.2.1≠0 then(Zs,11)else match JH n x.1 x.2 s with
  |none=>(Zs,18)
  |some t=>if 512<t.cells.length then(Zs,8)else(t,0)
structure AllS where
 s:Sch
 q:List Rqs
 at_:List Int
def QF(n:Net)(r:AllS)(k:Nat)(x:Rqs):AllS:=
 if(Jt n r.q r.s x).2=0 then⟨(Jt n r.q r.s x).1,r.q++[x],r.at_++[(k:Int)]⟩else r
def JL(n:Net)(q:List Rqs)(len off:Int):Nat->AllS
 |0=>⟨⟨len,off,[]⟩,[],[]⟩
 |k+1=>QF n (JL n q len off k) k (rqAt q k)
def Xb(n:Net)(q:List Rqs)(len off:Int):(Sch×List Int)×Int:=
 if Yq n≠0\/(rqsE n q).2≠0 then((Zs,[]),1)else if len<1\/512<len\/off<1\/16<off then((Zs,[]),2)
 else if(q.any λx=>decide (len.tmod x.1.2.2.2.1≠0))=true then((Zs,[]),11)else(((JL n q len off q.length).s,(JL n q len off q.length).at_),0)
def WT(n:Net)(q:List Rqs)(s:Sch):Sch×Int:=if(YT n q s).2.2≠0 then(Zs,1)else(Yul n q s,0)
def YrK(s:Sch)(id:Int):Sch:=⟨s.len,s.off,s.cells.filter λc=>decide (Xy c≠id)⟩
def QN(s:Sch)(id:Int):Sch×Int:=if Xz s=false then(Zs,1)else(YrK s id,0)
variable {q:List Rqs}
theorem YlB{id:Int}(h:hasQ q id=false):∀y∈q,y.1.1≠id:=λy hy e=>by
 unfold hasQ at h
 rw[RY]at h
 exact h y hy (Tc e)
variable {n:Net}{x:Rqs}
theorem Yen{s:Sch}(h:(Jt n q s x).2=0):(YT n (insQ q x) (Jt n q s x).1).2.2=0/\Grow x.1.1 s (Jt n q s x).1/\(∀y∈q,y.1.1≠x.1.1)/\(rqsE n (insQ q x)).2=0:=by
 unfold Jt at h⊢
 by_cases h1:(YT n q s).2.2=0
 rotate_left
 ·rw[Tm h1]at h;cases h
 rw[Td (λe=>e h1)]at h⊢
 cases h2:hasQ q x.1.1 with
 |true=>rw[h2,Tm rfl]at h;cases h
 |false=>
 rw[h2,Td (by decide)]at h
 rw[Td (by decide)]
 by_cases h3:(rqsE n (insQ q x)).2=0
 rotate_left
 ·rw[Tm h3]at h;cases h
 rw[Td (λe=>e h3)]at h⊢
 by_cases h4:s.len.tmod x.1.2.2.2.1=0
 rotate_left
 ·rw[Tm h4]at h;cases h
 rw[Td (λe=>e h4)]at h⊢
 cases h5:JH n x.1 x.2 s with
 |none=>rw[h5]at h;cases h
 |some t=>
  rw[h5]at h
  dsimp only at h⊢
  by_cases h6:512<t.cells.length
  ·rw[Tm h6]at h;cases h
  rw[Td h6]
  obtain⟨k1,k2⟩:=YfP h1 h3 (YlB h2) h4 h5 (by omega)
  exact⟨k1,k2,YlB h2,h3⟩
theorem YiB{id:Int}:∀{q:List Rqs},(∀y∈q,y.1.1<id)->posQ q id=q.length
 |[],_=>rfl
 |y::q,h=>by
  unfold posQ
  rw[NC,Tm (Tc (h y TA)),TS,TS]
  exact TU (·+1) (YiB λz hz=>h z (TB _ hz))
theorem Ym1(h:∀y∈q,y.1.1<x.1.1):insQ q x=q++[x]:=by
 unfold insQ
 rw[YiB h,TY,S0]
theorem YpW(h:(rqsE n q).2=0){i j:Nat}(hij:i<j)(hj:j<q.length):(rqAt q i).1.1<(rqAt q j).1.1:=by
 obtain⟨-,hfl,-⟩:=V7 h
 have:=YeW hfl hij (by unfold YB;rw[Tv];exact hj)
 have hat:∀{i:Nat},i<q.length->Y9 (YB q) i=(rqAt q i).1:=λ{i} hi=>by
  unfold Y9 YB
  rw[Tt,TE,ZV hi];rfl
 rw[hat (by omega),hat hj]at this
 exact this
theorem YfZ{len off:Int}(hck:Yq n=0)(hl:1<=len/\len<=512)(ho:1<=off/\off<=16):(YT n [] ⟨len,off,[]⟩).2.2=0:=by
 have hn:=YM hck
 refine ZH.2 ⟨Jb.2 (VD.2 ⟨hck,?_,(λf hf=>by cases hf),⟨?_,Tu _,(λc hc=>by cases hc),.nil⟩,(λc hc=>by cases hc),.nil,(λc hc=>by cases hc)⟩),(λx hx=>by cases hx)⟩
 ·have h1:=hn.n0;have h2:=hn.n1
  unfold YE YB
  rw[Td (by omega)]
  rfl
 ·exact Tc ⟨hl.1,hl.2,ho.1,ho.2⟩
structure AllI(n:Net)(q:List Rqs)(len off:Int)(k:Nat)(r:AllS):Prop where
 ok:(YT n r.q r.s).2.2=0
 mem:∀y∈r.q,∃i,i<k/\y=rqAt q i
 len:r.s.len=len
 off:r.s.off=off
 cnt:r.at_.length=r.q.length
 few:r.q.length<=k
 all:r.q.length=k->r.q=q.take k
 idx:∀i∈r.at_,0<=i/\i<k
theorem YbT{n:Net}{q:List Rqs}{len off:Int}(hq:(rqsE n q).2=0)(hl:1<=len/\len<=512)(ho:1<=off/\off<=16):∀k,k<=q.length->AllI n q len off k (JL n q len off k)
 |0,_=>⟨YfZ (V7 hq).1 hl ho,(λy hy=>by cases hy),rfl,rfl,rfl,TL _,(λ_=>by rw[Nl];rfl),(λi hi=>by cases hi)⟩
 |k+1,hk=>by
  have ih:=YbT hq hl ho k (by omega)
  unfold JL QF
  generalize JL n q len off k=r at ih
  by_cases h:(Jt n r.q r.s (rqAt q k)).2=0
  ·rw[Tm h]
   obtain⟨h1,h2,-,-⟩:=Yen h
   have hlt:∀y∈r.q,y.1.1<(rqAt q k).1.1:=λy hy=>by
    obtain⟨i,hi,rfl⟩:=ih.mem y hy
    exact YpW hq hi (by omega)
   rw[Ym1 hlt]at h1
   refine⟨h1,λy hy=>?_,h2.len.trans ih.len,h2.off.trans ih.off,?_,?_,λe=>?_,λi hi=>?_⟩
   ·rcases TT.1 hy with hy|hy
    ·obtain⟨i,hi,e⟩:=ih.mem y hy
     exact⟨i,by omega,e⟩
    ·exact⟨k,by omega,TJ.1 hy⟩
   ·show(r.at_++[(k:Int)]).length=(r.q++[rqAt q k]).length
    rw[Tj,Tj,ih.cnt];rfl
   ·show(r.q++[rqAt q k]).length<=k+1
    have:=ih.few
    rw[Tj,TP];omega
   ·have e:(r.q++[rqAt q k]).length=k+1:=e
    rw[Tj,TP]at e
    show r.q++[rqAt q k]=_
    rw[ih.all (by omega),TF,ZV (by omega)];rfl
   ·rcases TT.1 hi with hi|hi
    ·have:=ih.idx i hi;omega
    ·have:=TJ.1 hi;omega
  ·rw[Td h]
   refine⟨ih.ok,λy hy=>?_,ih.len,ih.off,ih.cnt,by have:=ih.few;omega,λe=>by have:=ih.few;omega,λi hi=>by have:=ih.idx i hi;omega⟩
   obtain⟨i,hi,e⟩:=ih.mem y hy
   exact⟨i,by omega,e⟩
def Xk:List Cel->List Cel
 |[]=>[]
 |[a]=>[a]
 |a::b::l=>if a=b then Xk (b::l)else a::Xk (b::l)
theorem YcA:∀{l:List Cel}{c:Cel},c∈Xk l↔c∈l
 |[],_=>Iff.rfl
 |[_],_=>Iff.rfl
 |a::b::l,c=>by
  have ih:=YcA (l:=b::l) (c:=c)
  unfold Xk
  by_cases h:a=b
  ·rw[Tm h,ih,TN (b:=a)]
   constructor
   ·exact .inr
   ·rintro(rfl|h2)
    ·rw[h];exact TA
    ·exact h2
  ·rw[Td h,TN,TN,ih]
abbrev OrdW(l:List Cel):Prop:=l.Pairwise λa b=>Y8 b a=false
theorem YhD:∀{l:List Cel},OrdW l->Ord (Xk l)
 |[],_=>.nil
 |[_],_=>.cons (λ_ h=>by cases h) .nil
 |a::b::l,h=>by
  obtain⟨h1,h2⟩:=Ns.1 h
  have ih:=YhD h2
  unfold Xk
  by_cases he:a=b
  ·rw[Tm he];exact ih
  rw[Td he]
  refine .cons (λc hc=>?_) ih
  have hc:=YcA.1 hc
  have hca:=h1 c hc
  cases hac:Y8 a c with
  |true=>rfl
  |false=>
   have e:=QI hac hca
   subst e
   rcases TN.1 hc with e|hcl
   ·exact absurd e he
   ·have h3:=(Ns.1 h2).1 a hcl
    exact absurd (QI h3 (h1 b TA)) he
theorem YlM:∀{l m:List Cel},Ord l->Ord m->(∀c,c∈l↔c∈m)->l=m
 |[],[],_,_,_=>rfl
 |[],b::m,_,_,h=>by have:=(h b).2 TA;cases this
 |a::l,[],_,_,h=>by have:=(h a).1 TA;cases this
 |a::l,b::m,hl,hm,h=>by
  obtain⟨h1,h2⟩:=Ns.1 hl
  obtain⟨h3,h4⟩:=Ns.1 hm
  have e:a=b:=by
   rcases TN.1 ((h a).1 TA)with e|ha
   ·exact e
   rcases TN.1 ((h b).2 TA)with e|hb
   ·exact e.symm
   have:=Jk (h1 b hb) (h3 a ha)
   rw[JS]at this;cases this
  subst e
  refine TU (a::·) (YlM h2 h4 λc=>?_)
  have hc:=h c
  constructor
  ·intro hcl
   rcases TN.1 (hc.1 (TB _ hcl))with rfl|h5
   ·have:=h1 _ hcl;rw[JS]at this;cases this
   ·exact h5
  ·intro hcm
   rcases TN.1 (hc.2 (TB _ hcm))with rfl|h5
   ·have:=h3 _ hcm;rw[JS]at this;cases this
   ·exact h5
def Yc8(n:Net)(s:Sch)(q:List Rqs):List Cel:=q.flatMap λx=>s.cells.filter (O6 n s x)
theorem Ym5{n:Net}{s:Sch}{q:List Rqs}{l:List Cel}(ho:Ord s.cells)(hp:l.Perm (Yc8 n s q))(hs:OrdW l):Xk l=s.cells.filter (Yi3 n s q):=by
 refine YlM (YhD hs) (ho.sublist NB) λc=>?_
 rw[YcA,hp.mem_iff,Rr]
 unfold Yc8 Yi3
 rw[RN,Rk]
 constructor
 ·rintro⟨x,hx,hc⟩
  obtain⟨h1,h2⟩:=Rr.1 hc
  exact⟨h1,x,hx,h2⟩
 ·rintro⟨h1,x,hx,h2⟩
  exact⟨x,hx,Rr.2 ⟨h1,h2⟩⟩
theorem Yh8(n:Net)(s:Sch):∀q:List Rqs,(Yc8 n s q).length<=q.length*s.cells.length
 |[]=>Tu _
 |x::q=>by
  have ih:=Yh8 n s q
  unfold Yc8 at ih⊢
  rw[TR,Tj,TS,RX,Nat.one_mul]
  have:=Rn (O6 n s x) s.cells
  omega
open Go.RowKit Go.Eng Go.Nw
abbrev Itm:=Int×Int
def itF(x:Itm):List Value:=[.int .i64 x.1,.int .i64 x.2]
def qpcs(g:Nat)(A:Option Addr)(cap:Nat)(q:List Itm)(H:List HP):List HP:=blk g (.cells #[.slice A q.length cap] 413 (0,0))::sl 411 2 A q.length cap (q.flatMap itF)::H
def qIf(g:Nat):Value:=.iface 409 (.pointer (some ⟨g,0,none⟩))
theorem Ypv(g:Nat)(w:World):(method (Tryz.prog.types.size+Made.depth) 409 (.pointer (some ⟨g,0,none⟩)) "Pop").run Tryz.prog w=.ok (465,.pointer (some ⟨g,0,none⟩)) w:=by kernel_rfl
theorem Yni(g:Nat)(w:World):(method (Tryz.prog.types.size+Made.depth) 409 (.pointer (some ⟨g,0,none⟩)) "Push").run Tryz.prog w=.ok (466,.pointer (some ⟨g,0,none⟩)) w:=by kernel_rfl
theorem Ypu:Tryz.prog.types.size+Made.depth=(Tryz.prog.types.size+Made.depth-1)+1:=by kernel_rfl
variable {g B cap:Nat}{v:Value}{w0 w:World}{H:List HP}
theorem Yii(hb:blk g (.cells #[v] 413 (0,0))∈H)(w:World)(hw:St B w0 H w):(method (Tryz.prog.types.size+Made.depth) 409 (.pointer (some ⟨g,0,none⟩)) "Len").run Tryz.prog w=.ok (398,v) w:=by
 rw[Ypu,YaW (f:=398) (elem:=413) (by kernel_rfl)]
 have hc:=Y3 (i:=0) (hw.blk hb).1
 have h:(loadVar 413 ⟨g,0,none⟩).run Tryz.prog w=.ok v w:=by
  simp[loadVar,Xi (T.scal (t:=413) rfl).1,hc]
 rw[h];rfl
theorem XQ(hb:blk g (.cells #[v] 413 (0,0))∈H)(w:World)(hw:St B w0 H w):(method (Tryz.prog.types.size+Made.depth) 409 (.pointer (some ⟨g,0,none⟩)) "Less").run Tryz.prog w=.ok (464,v) w:=by
 rw[Ypu,YaW (f:=464) (elem:=413) (by kernel_rfl)]
 have hc:=Y3 (i:=0) (hw.blk hb).1
 have h:(loadVar 413 ⟨g,0,none⟩).run Tryz.prog w=.ok v w:=by
  simp[loadVar,Xi (T.scal (t:=413) rfl).1,hc]
 rw[h];rfl
theorem U5(hb:blk g (.cells #[v] 413 (0,0))∈H)(w:World)(hw:St B w0 H w):(method (Tryz.prog.types.size+Made.depth) 409 (.pointer (some ⟨g,0,none⟩)) "Swap").run Tryz.prog w=.ok (467,v) w:=by
 rw[Ypu,YaW (f:=467) (elem:=413) (by kernel_rfl)]
 have hc:=Y3 (i:=0) (hw.blk hb).1
 have h:(loadVar 413 ⟨g,0,none⟩).run Tryz.prog w=.ok v w:=by
  simp[loadVar,Xi (T.scal (t:=413) rfl).1,hc]
 rw[h];rfl
variable {A:Option Addr}
theorem OK(k:Nat)(hw:St B w0 H w):
 Calls Tryz.prog 398 [.slice A k cap].toArray w (Post B w0 λv K=>v=.int .i64 k/\K=H):=by
 refine Yc Tryz.func398 Tryz.ntmps398 rfl rfl hw ?_
 repeat'(first|refine zgb ?_|fail)
 apply Yd;exact rfl;exact rfl
 exact⟨rfl,rfl⟩
theorem V5(q:List Itm)(i j:Nat)(x y:Itm)(hx:q[i]? =some x)(hy:q[j]? =some y)(hr:Rd B w0 H A (q.flatMap itF))(hw:St B w0 H w):
 Calls Tryz.prog 464 [.slice A q.length cap,.int .i64 i,.int .i64 j].toArray w (Post B w0 λv K=>v=.bool (decide (x.2<y.2))/\K=H):=by
 refine Yc Tryz.func464 Tryz.ntmps464 rfl rfl hw ?_
 have hi:=(Ti.1 hx).1
 have hj:=(Ti.1 hy).1
 by_cases hlt:x.2<y.2
 ·repeat'(first|refine zgd ?_|(refine zge ?_ ?_<;>intro _<;>try exact zo)|fail)
  apply Yd;exact rfl;exact rfl
  exact⟨by rw[Tc hlt],rfl⟩
 ·repeat'(first|refine zgd ?_|(refine zge ?_ ?_<;>intro _<;>try exact zo)|fail)
  apply Yd;exact rfl;exact rfl
  exact⟨by rw[Tn hlt],rfl⟩
theorem V6(q:List Itm)(i j:Nat)(x y:Itm)(hx:q[i]? =some x)(hy:q[j]? =some y)(hw:St B w0 (sl 411 2 A q.length cap (q.flatMap itF)::H) w):
 Calls Tryz.prog 467 [.slice A q.length cap,.int .i64 i,.int .i64 j].toArray w (Post B w0 λv K=>v=.tuple #[]/\K=sl 411 2 A q.length cap (((q.set i y).set j x).flatMap itF)::H):=by
 refine Yc Tryz.func467 Tryz.ntmps467 rfl rfl hw ?_
 have hi:=(Ti.1 hx).1
 have hj:=(Ti.1 hy).1
 have hl1:(q.set i y).length=q.length:=Rh
 repeat'(first|fail)
 apply UI [2,3,0,1,4,5,6,7,8,9,10,11,12] [2,3,13,14,15] [13,14,15] [true]
 kernel_rfl
 kernel_rfl
 exact zy
 (simp only[Yg,nthO];rfl)
 (simp only[Yg,nthO];rfl)
 repeat'(first|(apply XV T (f:=itF) (l:=q) (i:=i) (a:=y);(iterate 3 exact rfl);exact zd;exactλ_=>rfl;(iterate 3 exact rfl);omega)|(apply XV T (f:=itF) (l:=q.set i y) (i:=j) (a:=x);(iterate 3 exact rfl);exact zd;exactλ_=>rfl;(iterate 3 exact rfl);omega)|refine zgd ?_|fail)
 apply Zz;exact rfl
 exact⟨rfl,rfl⟩
def itV(x:Itm):Value:=.agg #[.int .i64 x.1,.int .i64 x.2]
variable {A:Option Addr}{cap B:Nat}{w0 w:World}{H:List HP}
theorem YpK(q:List Itm)(x:Itm)(hw:St B w0 (sl 411 2 A (q.length+1) cap ((q++[x]).flatMap itF)::H) w):St B w0 (sl 411 2 A q.length cap (q.flatMap itF)::H) w:=by
 have e:((q++[x]).flatMap itF).take (q.length*2)=q.flatMap itF:=by
  rw[<-XG (q:=2) (λ_=>rfl),List.take_left' rfl]
 refine hw.shrink (e:=411) (size:=2) (k:=q.length+1) (k':=q.length) (cap:=cap) (A:=A) (xs:=(q++[x]).flatMap itF) (Nat.le_succ _) ?_
 rw[e]
 exact Upd.here _
theorem Ynv(g:Nat)(q:List Itm)(x:Itm)(hl:q.length<=100000000000)(hw:St B w0 (qpcs g A cap (q++[x]) H) w):
 Calls Tryz.prog 465 [.pointer (some ⟨g,0,none⟩)].toArray w (Post B w0 λv K=>v=.iface 411 (itV x)/\K=qpcs g A cap q H):=by
 refine Yc Tryz.func465 Tryz.ntmps465 rfl rfl hw ?_
 have hlen:(q++[x]).length=q.length+1:=by simp
 have hxl:(q++[x])[((((q++[x]).length:Nat):Int)-1).toNat]? =some x:=by
  rw[hlen,show(((q.length+1:Nat):Int)-1).toNat=q.length by omega];simp
 unfold qpcs
 repeat'(first|refine zga ?_|fail)
 apply YU [0,1,2,3,4,5,6,7,8,9,10] [11] [true,true]
 kernel_rfl
 kernel_rfl
 exact zy
 (simp only[Yg,nthO];rfl)
 (simp only[Yg,nthO];rfl)
 repeat'(first|(apply Yk;try exact zl)|refine zgd ?_|(refine zgh ?_;intro _)|fail)
 rename_i g3
 apply YU [0,1,2,3,4,5,6,7,8,9,10] [11] [true,true]
 kernel_rfl
 kernel_rfl
 exact zy
 (simp only[Yg,nthO];rfl)
 (simp only[Yg,nthO];rfl)
 repeat'(first|(apply Ya3 T (e:=411) (size:=2);exact rfl;exact rfl;exact zm;exact rfl;exact rfl;omega)|(apply Wd;exact rfl;kernel_rfl;exact rfl)|refine zgd ?_|fail)
 apply Yj (qpcs g A cap q H)
 ·intro w hw
  rw[show((((q++[x]).length:Nat):Int)-1).toNat=q.length by rw[hlen];omega,hlen]at hw
  have h5:St B w0 (sl 411 2 A (q.length+1) cap ((q++[x]).flatMap itF)::blk g (.cells #[.slice A q.length cap] 413 (0,0))::H) w:=by
   revert w
   exact zk
  exact(YpK q x h5).perm (.swap _ _ _)
 apply Yd;exact rfl;exact rfl
 exact⟨rfl,rfl⟩
theorem Yki(g:Nat)(q:List Itm)(x:Itm)(hl:q.length<=100000000000)(hw:St B w0 (qpcs g A cap q H) w):
 Calls Tryz.prog 466 [.pointer (some ⟨g,0,none⟩),.iface 411 (itV x)].toArray w (Post B w0 λv K=>∃A' cap',v=.tuple #[]/\K=qpcs g A' cap' (q++[x]) H):=by
 refine Yc Tryz.func466 Tryz.ntmps466 rfl rfl hw ?_
 unfold qpcs itV
 repeat'(first|(apply WV;exact rfl;kernel_rfl;exact rfl)|refine zgc ?_|(refine zgh ?_;intro _)|fail)
 rename_i g3
 apply YU [0,1,2,3,4,5,6,7] [8] [true,true,false]
 kernel_rfl
 kernel_rfl
 exact zy
 (simp only[Yg,nthO];rfl)
 (simp only[Yg,nthO];rfl)
 repeat'(first|(apply Yk;try exact zl)|refine zgd ?_|(refine zgh ?_;intro _)|(refine zgi ?_;intro _ _)|fail)
 rename_i A3 cap3
 apply Yj (qpcs g A3 cap3 (q++[x]) H)
 ·unfold qpcs
  rw[Tj,TP,show(q++[x]).flatMap itF=q.flatMap itF++#[Value.int .i64 x.1,.int .i64 x.2].toList by simp[itF]]
  exact zk
 apply Zz;exact rfl
 exact⟨A3,cap3,rfl,rfl⟩
theorem U8{q:List Itm}{i j:Nat}{x y:Itm}(hx:q[i]? =some x)(hy:q[j]? =some y):((q.set i y).set j x).Perm q:=by
 obtain⟨hi,rfl⟩:=Ti.1 hx
 obtain⟨hj,rfl⟩:=Ti.1 hy
 exact List.set_set_perm hi hj
end Go.Proofs.YtaholidehobiiaaGreatDoor
