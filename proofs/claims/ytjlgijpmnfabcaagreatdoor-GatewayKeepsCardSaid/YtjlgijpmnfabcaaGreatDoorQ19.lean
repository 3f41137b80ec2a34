/- Lemmas. -/
import Derived.Test.YtjlgijpmnfabcaaGreatDoorQ16
set_option maxRecDepth 100000
set_option maxHeartbeats 8000000
set_option linter.all false
namespace Go.Proofs.YtjlgijpmnfabcaaGreatDoor
open Go.RowKit Go.Eng Go.Nw Go.Rt
theorem Ydc(q:List RqM)(x:RqM)(H:List HP):Perm (rqQ x::many (q.map rqQ)::H) (many ((q++[x]).map rqQ)::H):=by
 have:=Perm.push (rqQ x) (q.map rqQ) [] H
 simp_all
def Yn8(H:List HP)(R:List Rqs×(Int×Int))(v:Value)(K:List HP):Prop:=∃A cap q,v=.tuple #[.slice A (q:List RqM).length cap,.int .i64 R.2.1,.int .i64 R.2.2]/\q.map RqM.rq=R.1/\(∀x∈q,x.lens)/\K=rqs A cap q::many (q.map rqQ)::H
variable {B:Nat}{w0 w:World}{H:List HP}
theorem Ygm(h:St B w0 H w):St B w0 (rqs none 0 []::many (([]:List RqM).map rqQ)::H) w:=(h.perm (.noMany H)).nilSlice 69 7
theorem Yp4{R:List Rqs×(Int×Int)}{v:Value}(i e:Int)(hR:R=([],(i,e)))(hv:v=.tuple #[.slice none 0 0,.int .i64 i,.int .i64 e]):Yn8 H R v (rqs none 0 []::many (([]:List RqM).map rqQ)::H):=
 ⟨none,0,[],by simp_all,by simp_all,(λx hx=>by cases hx),rfl⟩
theorem YlV{q:List RqM}{x:RqM}(hm:many (q.map rqQ)∈H)(hx:x∈q)(hl:x.lens):x.In B w0 H:=
 RqM.In.mono (H:=q.map rqQ) (Yqk (RA hx) hl) λ_ hw=>hw.inM hm
structure RtM where
 i:Nat
 A:Option Addr
 cap:Nat
 q:List RqM
theorem Yeg(n:NetM)(l:List Flw)(hll:l.length<=1000000000000)(hrun:∀f∈l,Vo 100000 n.net f.2.1 f.2.2.1=some (Jr n.net f)){A:Option Addr}{cap:Nat}(hin:n.In B w0 H)(hr:Rd B w0 H A (l.flatMap flwF))(hw:St B w0 H w):
 CX B w0 81 [n.val,.slice A l.length cap] w (Yn8 H (J1 n.net l)):=by
 refine Ya Tryz.func81 Tryz.ntmps81 rfl rfl hw ?_
 have p1:=λ{H':List HP}{w:World}(hin:n.In B w0 H') (hw:St B w0 H' w)=>Jv n hin hw
 have p2:=λ{H':List HP}{w:World}(hr:Rd B w0 H' A (l.flatMap flwF)) (hw:St B w0 H' w)=>YW n.nodes l (TY hll (by decide)) (cap:=cap) hr hw
 have p3:=λ(f:Flw) (hf:f∈l) {H':List HP}{w:World}(hin:n.In B w0 H') (hw:St B w0 H' w)=>Ydr n f (hrun f hf) hin hw
 have hop:∀w,St B w0 [many H] w->St B w0 H w:=λw hw=>hw.perm (.openT H)
 have hin:=hin.mono hop
 have hr:=hr.mono hop
 unfold NetM.val flwV at p3
 unfold NetM.val at p1⊢
 refine Y8 [many H] (λw hw=>hw.perm (.closeT H)) ?_
 unfold J1
 by_cases hck:Yq n.net=0
 rotate_left
 ·rw[Tm hck]
  rw[Tu hck]at p1
  refine zX71 ?_<;>intros
  first|apply Yb en39|apply Yc en39
  exact za
  exact rfl
  exactλ_ hw=>(p1 hin.cons hw)
  refine zX2 ?_
  apply Yh (rqs none 0 []::many (([]:List RqM).map rqQ)::H)
  ·intro w hw
   have h5:St B w0 [many H] w:=by
    revert w
    exact zc0
   exact Ygm (hop w h5)
  exact zc80
 rw[Tf (λe=>e hck)]
 rw[Tj hck]at p1
 have hnd:n.net.nodes=n.nodes:=rfl
 rw[hnd]
 obtain⟨⟨fi,fe⟩,hF⟩:∃R,Yx n.nodes l=R:=⟨_,rfl⟩
 rw[hF]at p2⊢
 dsimp only at p2⊢
 refine zX71 ?_<;>intros
 first|apply Yb en39|apply Yc en39
 exact za
 exact rfl
 exactλ_ hw=>(p1 hin.cons hw)
 refine zX2 ?_
 first|apply Yb en78|apply Yc en78
 exact za
 exact rfl
 exactλ_ hw=>(p2 hr.cons hw)
 by_cases hfe:fe=0
 rotate_left
 ·rw[Tm hfe]
  refine zX1 ?_<;>intros
  apply Yh (rqs none 0 []::many (([]:List RqM).map rqQ)::H)
  ·intro w hw
   have h5:St B w0 [many H] w:=by
    revert w
    exact zc0
   exact Ygm (hop w h5)
  exact zc80
 subst hfe
 rw[Tf (λe=>e rfl)]
 have hl16:l.length<=16:=by
  unfold Yx at hF
  split at hF
  ·cases hF
  split at hF
  ·cases hF
  ·omega
 obtain⟨F,hFd⟩:∃F,(λi=>(reqE n.net (Y1 l i)).2)=F:=⟨_,rfl⟩
 have hFv:∀{i:Nat}{f:Flw},l[i]? =some f->F i=(reqE n.net f).2:=λ{i f} h=>by
  rw[<-hFd]
  show(reqE n.net (Y1 l i)).2=_
  unfold Y1
  rw[Tz,h];rfl
 unfold Ydq
 rw[hFd]
 refine zX1 ?_<;>intros
 rename_i g2 _
 refine Yi (λz:RtM=>[(30,.int .i64 (z.i:Nat)),(29,.int .i64 l.length),(28,.slice A l.length cap),(9,.slice z.A z.q.length z.cap),(2,.pointer (some ⟨g2,0,none⟩))]) (λz=>rqs z.A z.cap z.q::many (z.q.map rqQ)::netA g2 n::[many H])
  (λz=>z.i<=l.length/\z.q.map RqM.rq=(l.take z.i).map (λf=>(reqE n.net f).1)/\(∀x∈z.q,x.lens)/\∀j,0<=j->j<z.i->F j=0) (λz=>l.length-z.i) ⟨0,none,0,[]⟩ ⟨Ti _,rfl,(λx hx=>by cases hx),λj _ h=>absurd h (RD _)⟩ ?_ ?_ ?_
 ·exact zc1
 ·intro w hw
  have h5:St B w0 (netA g2 n::[many H]) w:=by
   revert w
   exact zc0
  exact Ygm h5
 rintro⟨i,A1,c1,q⟩ ⟨hi,hq,hql,hz⟩ K hK
 dsimp only at hi hq hql hz⊢
 have hqn:q.length=i:=by
  have:=TA List.length hq
  exact Yuo
 by_cases hlt:i<l.length
 rotate_left
 ·obtain rfl:i=l.length:=by omega
  have hfe:=Zy (f:=F) (r:=l.length) (i0:=0) λj h1 h2=>hz j h1 (by omega)
  rw[hfe,Tf (λe=>e rfl)]
  rw[TL]at hq
  clear hK
  refine zX1 ?_<;>intros
  apply Yh (rqs A1 c1 q::many (q.map rqQ)::H)
  ·intro w hw
   have h5:St B w0 (rqs A1 c1 q::many (q.map rqQ)::[many H]) w:=by
    revert w
    exact zc0
   exact Yl7
  apply Va;(iterate 4 exact rfl)
  exact⟨A1,c1,q,rfl,hq,hql,rfl⟩
 obtain⟨f,hf⟩:∃f,l[i]? =some f:=⟨_,Ta hlt⟩
 have hr2:Rd B w0 (rqs A1 c1 q::many (q.map rqQ)::netA g2 n::[many H]) A (l.flatMap flwF):=hr.cons.cons.cons
 have hFi:=hFv hf
 have hst:(l.take (i+1)).map (λf=>(reqE n.net f).1)=(l.take i).map (λf=>(reqE n.net f).1)++[(reqE n.net f).1]:=by
  rw[TF,hf,TP];rfl
 have p4:=λ{H':List HP}{w:World}(hin:n.In B w0 H') (hw:St B w0 H' w)=>p3 f (Td hf) (H':=H') (w:=w) hin hw
 clear p3
 generalize reqE n.net f=RQ at p4 hFi hst
 obtain⟨rq,re⟩:=RQ
 dsimp only at hFi hst
 refine zX46 ?_<;>intros
 apply Yg _ YvX
 exact za
 exact rfl
 exactλ_ hw=>(p4 (hin.mono zc0) (hw))
 rintro _ _ ⟨x,rfl,hx,hxl,rfl⟩
 dsimp only at hx⊢
 by_cases he:re=0
 rotate_left
 ·have hfe:=Ze (f:=F) (r:=l.length) (i0:=0) (i:=i) (λj h1 h2=>hz j h1 h2) (Ti _) (by omega) (by rw[hFi];exact he)
  rw[hfe,Tm (by rw[hFi];exact he),hFi]
  clear hK
  refine zX46 ?_<;>intros
  apply Yh (rqs none 0 []::many (([]:List RqM).map rqQ)::H)
  ·intro w hw
   have h5:St B w0 [many H] w:=by
    revert w
    exact zc0
   exact Ygm (hop w h5)
  exact zc80
 subst he
 unfold rqV rqs
 refine YqG ?_<;>intros
 rename_i A2 c2
 apply hK ⟨i+1,A2,c2,q++[x]⟩
 ·refine⟨by exact YdU,?_,λy hy=>?_,λj h1 h2=>?_⟩
  ·show(q++[x]).map RqM.rq=_
   rw[TP,hq,hst]
   exact TA _ (TA (λz=>[z]) hx)
  ·rcases TJ.1 hy with hy|hy
   ·exact hql y hy
   ·rw[TU.1 hy];exact hxl
  ·rcases SL.1 h2 with h|rfl
   ·exact hz j h1 h
   ·exact hFi
 ·exact zc54
 ·rw[Tt]
  exact zc1
 ·intro w hw
  have h5:St B w0 (rqQ x::many (q.map rqQ)::rqs A2 c2 (q++[x])::netA g2 n::[many H]) w:=by
   rw[<-Yfq]
   revert w
   exact zc0
  have h6:=h5.perm (Ydc q x _)
  exact h6.perm (.swap _ _ _)
structure BuM where
 n:NetM
 qA:Option Addr
 qcap:Nat
 q:List RqM
 s:SchM
 cA:Option Addr
 ccap:Nat
 c:List ClM
 fA:Option Addr
 fcap:Nat
 f:List Int
 e:Int
abbrev bldA(g:Nat)(b:BuM):HP:=blk g (.cells #[.int .i64 b.n.nodes,.slice b.n.pA b.n.rows.length b.n.pcap,.int .i64 b.n.noise,.int .i64 b.n.thr,.slice b.n.lA b.n.links.length b.n.lcap,.slice b.n.mA b.n.margin.length b.n.mcap,.slice b.qA b.q.length b.qcap,.int .i64 b.s.len,.int .i64 b.s.off,.slice b.s.A b.s.cells.length b.s.cap,.slice b.cA b.c.length b.ccap,.slice b.fA b.f.length b.fcap,.int .i64 b.e] 164 (0,0))
def BuM.fail(b:BuM)(e:Int):BuM:={b with e:=YeS b.e e}
theorem YaQ(b:BuM)(g:Nat)(e:Int){B:Nat}{w0:World}{H:List HP}{w:World}(hw:St B w0 (bldA g b::H) w):
 CX B w0 84 [.pointer (some ⟨g,0,none⟩),.int .i64 e] w λv K=>v=.tuple #[]/\K=bldA g (b.fail e)::H:=by
 refine Ya Tryz.func84 Tryz.ntmps84 rfl rfl hw ?_
 unfold BuM.fail YeS
 by_cases h:b.e=0
 ·rw[Tm h]
  refine zX23 ?_<;>intros
  all_goals first|(exfalso;contradiction)|skip
  exact Yjg
 ·rw[Tf h]
  refine zX23 ?_<;>intros
  all_goals first|(exfalso;contradiction)|skip
  exact Yjg
variable {A:Option Addr}{cap B:Nat}{w0 w:World}{H:List HP}
theorem Ych(l:List RowM)(hlen:l.length<=1000)(hr:Rd B w0 H A (l.flatMap rowF))(hw:St B w0 H w):
 CX B w0 174 [.slice A l.length cap] w λv K=>∃A' cap',v=.slice A' l.length cap'/\K=sl 104 1 A' l.length cap' (l.flatMap rowF)::H:=by
 cases A with
 |none=>
  have hl:l=[]:=by
   cases l with
   |nil=>rfl
   |cons x l=>
    exact zc30
  subst hl
  refine Ya Tryz.func174 Tryz.ntmps174 rfl rfl hw ?_
  refine zX6 ?_
  apply Xg 104 1;exact zc38
 |some a=>
  refine Ya Tryz.func174 Tryz.ntmps174 rfl rfl hw ?_
  repeat'(first|(apply Zc;(iterate 3 exact rfl))|(apply XA T;exact rfl;exact rfl;intro g2)|refine zga ?_|fail)
  apply Xn T (f:=rowF) (l2:=l) (e:=104) (size:=1) (xs:=[]);(iterate 3 exact rfl);exact hr.cons;exact(λ_=>rfl);exact(λ_=>rfl);exact rfl;(intro _ _;exact zd);omega;intro A' cap'
  exact zc23
theorem Ycg(l:List Lk)(hlen:l.length<=1000)(hr:Rd B w0 H A (l.flatMap lkF))(hw:St B w0 H w):
 CX B w0 171 [.slice A l.length cap] w λv K=>∃A' cap',v=.slice A' l.length cap'/\K=sl 145 3 A' l.length cap' (l.flatMap lkF)::H:=by
 cases A with
 |none=>
  have hl:l=[]:=by
   cases l with
   |nil=>rfl
   |cons x l=>
    exact zc30
  subst hl
  refine Ya Tryz.func171 Tryz.ntmps171 rfl rfl hw ?_
  refine zX6 ?_
  apply Xg 145 3;exact zc38
 |some a=>
  refine Ya Tryz.func171 Tryz.ntmps171 rfl rfl hw ?_
  repeat'(first|(apply Zc;(iterate 3 exact rfl))|(apply XA T;exact rfl;exact rfl;intro g2)|refine zga ?_|fail)
  apply Xn T (f:=lkF) (l2:=l) (e:=145) (size:=3) (xs:=[]);(iterate 3 exact rfl);exact hr.cons;exact(λ_=>rfl);exact(λ_=>rfl);exact rfl;(intro _ _;exact zd);omega;intro A' cap'
  exact zc23
structure PnM where
 n:NetM
 qA:Option Addr
 qcap:Nat
 q:List RqM
 s:SchM
 cA:Option Addr
 ccap:Nat
 c:List ClM
 fA:Option Addr
 fcap:Nat
 f:List Int
def PnM.val(p:PnM):Value:=.agg #[.int .i64 p.n.nodes,.slice p.n.pA p.n.rows.length p.n.pcap,.int .i64 p.n.noise,.int .i64 p.n.thr,.slice p.n.lA p.n.links.length p.n.lcap,.slice p.n.mA p.n.margin.length p.n.mcap,.slice p.qA p.q.length p.qcap,.int .i64 p.s.len,.int .i64 p.s.off,.slice p.s.A p.s.cells.length p.s.cap,.slice p.cA p.c.length p.ccap,.slice p.fA p.f.length p.fcap]
def PnM.pln(p:PnM):Pln:=⟨p.n.net,p.q.map RqM.rq,p.s.sch,p.c.map ClM.clm,p.f⟩
structure PnM.In(B:Nat)(w0:World)(H:List HP)(p:PnM):Prop where
 n:p.n.In B w0 H
 q:QIn B w0 H p.qA p.q
 s:Rd B w0 H p.s.A (p.s.cells.flatMap celF)
 sl:p.s.cells.length<=1000000000000
 c:CIn B w0 H p.cA p.c
 f:Rd B w0 H p.fA (p.f.flatMap numF)
 fl:p.f.length<=1000000000000
variable {p:PnM}
theorem PnM.In.mono{H':List HP}(h:p.In B w0 H)(hH:∀w,St B w0 H' w->St B w0 H w):p.In B w0 H':=⟨h.n.mono hH,h.q.mono hH,h.s.mono hH,h.sl,h.c.mono hH,h.f.mono hH,h.fl⟩
theorem PnM.In.cons{X:HP}(h:p.In B w0 H):p.In B w0 (X::H):=h.mono λ_ hw=>hw.tail
def zeroPnV:Value:=.agg #[.int .i64 0,.slice none 0 0,.int .i64 0,.int .i64 0,.slice none 0 0,.slice none 0 0,.slice none 0 0,.int .i64 0,.int .i64 0,.slice none 0 0,.slice none 0 0,.slice none 0 0]
def Yg0(B:Nat)(w0:World)(H:List HP)(R:Option Pln×Int)(v:Value)(K:List HP):Prop:=
 (R.1=none/\v=.tuple #[zeroPnV,.int .i64 R.2]/\K=H)\/∃(p:PnM) (X:List HP),R.1=some p.pln/\v=.tuple #[p.val,.int .i64 R.2]/\p.In B w0 [many X]/\K=many X::H
def Ysv(B:Nat)(w0:World)(H:List HP)(s:SchM)(R:Option Pln×Int)(v:Value)(K:List HP):Prop:=
 (R.1=none/\v=.tuple #[zeroPnV,.int .i64 R.2]/\K=H)\/∃(p:PnM) (X:List HP),R.1=some p.pln/\v=.tuple #[p.val,.int .i64 R.2]/\(∀H',Rd B w0 H' s.A (s.cells.flatMap celF)->p.In B w0 (many X::H'))/\K=many X::H
structure RwsM where
 i:Nat
 R:List RowM
structure RqsM where
 i:Nat
 Q:List RqM
variable {i:Nat}
theorem Yl0{l:List RowM}{r:RowM}{A:Option Addr}{cap:Nat}(h:l[i]? =some r):(l.set i ⟨A,cap,r.xs⟩).map (·.xs)=l.map (·.xs):=by
 apply SQ
 grind
variable {α:Type}
theorem take_set{l:List α}{a:α}(h:i<l.length):(l.set i a).take (i+1)=l.take i++[a]:=by
 simp_all [List.take_add_one,List.take_set_of_le]
theorem Yct{l m:List α}{a:α}(h:l.drop i=m.drop i):(l.set i a).drop (i+1)=m.drop (i+1):=by
 rw[List.drop_set_of_lt (by omega),<-NA,<-NA,h]
theorem YfY{l m:List α}{a:α}(h:l.drop i=m.drop i)(hm:m[i]? =some a):l[i]? =some a:=by
 have e1:(l.drop i)[0]? =(m.drop i)[0]? :=by rw[h]
 grind
theorem OC(b:BuM)(g:Nat){B:Nat}{w0:World}{H:List HP}{w:World}(ht:TabsB B w0)(hin:b.n.In B w0 H)(hq:QIn B w0 H b.qA b.q)(hrs:Rd B w0 H b.s.A (b.s.cells.flatMap celF))(hsl:b.s.cells.length<=1000000000000)(hw:St B w0 (bldA g b::H) w):
 CX B w0 86 [.pointer (some ⟨g,0,none⟩)] w (Ysv B w0 H b.s (finE b.n.net (b.q.map RqM.rq) b.s.sch b.e)):=by
 refine Ya Tryz.func86 Tryz.ntmps86 rfl rfl hw ?_
 obtain⟨n,qA,qcap,q,s,cA,ccap,c,fA,fcap,f,e⟩:=b
 dsimp only at hin hq hrs hsl⊢
 have hop:∀w,St B w0 [many H] w->St B w0 H w:=λw hw=>hw.perm (.openT H)
 have hin0:=hin
 have hq0:=hq
 have hin:=hin.mono hop
 have hq:=hq.mono hop
 have hrs:=hrs.mono hop
 have p1:=λ{H':List HP}{w:World}(hin:n.In B w0 H') (hq:QIn B w0 H' qA q) (hrs:Rd B w0 H' s.A (s.cells.flatMap celF)) (hw:St B w0 H' w)=>Uz n q s (cap:=qcap) ht hin hq hrs hsl hw
 have p2:=λ{H':List HP}{w:World}(hrs:Rd B w0 H' s.A (s.cells.flatMap celF)) (hw:St B w0 H' w)=>Yeo s ht hrs hsl hw
 unfold OutC NetM.val SchM.val at p1
 unfold SchM.val at p2
 refine Y8 (bldA g ⟨n,qA,qcap,q,s,cA,ccap,c,fA,fcap,f,e⟩::[many H]) (λw hw=>hw.perm (.cons _ (.closeT H))) ?_
 dsimp only[bldA]
 unfold finE YcE
 by_cases he:e=0
 rotate_left
 ·rw[Tm he,Tm he]
  refine YtG ?_<;>intros
  apply Yz [0,1,2,3,4,5,6] [] [false,true,true]
  kernel_rfl
  kernel_rfl
  exact zy
  (simp only[Ye,nthO];rfl)
  exact rfl
  refine Yje ?_
  apply Yv T (H2:=H);(iterate 3 exact rfl);(focus exact zc2);exact rfl;exact rfl
  ·intro w hw
   have h5:St B w0 [many H] w:=by
    revert w
    exact zc0
   exact hop w h5
  exact .inl ⟨rfl,rfl,rfl⟩
 subst he
 rw[Tf (show¬(0:Int)≠0 fromλe=>e rfl)]
 obtain⟨⟨RC,ri,re⟩,hR⟩:∃R,Y4 n.net (q.map RqM.rq) s.sch=R:=⟨_,rfl⟩
 obtain⟨⟨RF,fe⟩,hRF⟩:∃R,ZH s.sch=R:=⟨_,rfl⟩
 rw[hR]at p1⊢
 rw[hRF]at p2⊢
 dsimp only at p1 p2⊢
 have p3:=λ(b:BuM) (e:Int) {H':List HP}{w:World}(hw:St B w0 (bldA g b::H') w)=>YaQ b g e hw
 unfold BuM.fail at p3
 refine YtG ?_<;>intros
 rename_i g2 _
 apply Ue [0,1,2,3,4,5,6,7,8,9,10,11,12,13,14,15,16,17,19,20,18,21,22,23] [0,19,20,24,25] [24,25] [true,true,true]
 kernel_rfl
 kernel_rfl
 exact zy
 (simp only[Ye,nthO];rfl)
 (simp only[Ye,nthO];rfl)
 refine Wr ?_
 apply Yg _ en40
 exact za
 exact rfl
 exactλ_ hw=>(p1 (hin.mono zc0) (hq.mono zc0) (hrs.mono zc0) (hw))
 rintro _ _ ⟨A2,c2,C,rfl,hC,hCl,rfl⟩
 refine Yje ?_
 apply XQ [bldA g ⟨n,qA,qcap,q,s,A2,c2,C,fA,fcap,f,0⟩] _ en84
 exact za
 try exact zl
 exact zp
 exact rfl
 exactλ_ hw=>(p3 ⟨n,qA,qcap,q,s,A2,c2,C,fA,fcap,f,0⟩ re hw)
 rintro _ _ ⟨rfl,rfl⟩
 rw[show YeS (BuM.e ⟨n,qA,qcap,q,s,A2,c2,C,fA,fcap,f,0⟩) re=re from Tm rfl]
 dsimp only[bldA]
 refine Wr ?_
 apply Yg _ en42
 exact za
 exact rfl
 exactλ_ hw=>(p2 (hrs.mono zc0) (hw))
 rintro _ _ ⟨A3,rfl,rfl⟩
 refine Wr ?_
 apply XQ [bldA g ⟨n,qA,qcap,q,s,A2,c2,C,A3,RF.length,RF,re⟩] _ en84
 exact za
 try exact zl
 exact zp
 exact rfl
 exactλ_ hw=>(p3 ⟨n,qA,qcap,q,s,A2,c2,C,A3,RF.length,RF,re⟩ fe hw)
 rintro _ _ ⟨rfl,rfl⟩
 obtain⟨fin,hfin⟩:∃fin,YeS re fe=fin:=⟨_,rfl⟩
 dsimp only[bldA]
 rw[hfin]
 by_cases hE:fin=0
 rotate_left
 ·rw[Tm hE]
  refine zX70 ?_<;>intros
  apply Yz [0,1,2,3,4,5,6] [] [true]
  kernel_rfl
  kernel_rfl
  exact zy
  (simp only[Ye,nthO];rfl)
  exact rfl
  refine Yje ?_
  apply Yv T (H2:=H);(iterate 3 exact rfl);(focus exact zc2);exact rfl;exact rfl
  ·intro w hw
   have h5:St B w0 [many H] w:=by
    revert w
    exact zc0
   exact hop w h5
  exact .inl ⟨rfl,rfl,rfl⟩
 subst hE
 rw[Tf (show¬(0:Int)≠0 fromλe=>e rfl)]
 have hre:re=0/\fe=0:=by
  unfold YeS at hfin
  split at hfin
  ·exact⟨by assumption,hfin⟩
  ·exact absurd hfin (by assumption)
 obtain⟨rfl,rfl⟩:=hre
 have hce:(Y4 n.net (q.map RqM.rq) s.sch).2.2=0:=by rw[hR]
 have hrq:(rqsE n.net (q.map RqM.rq)).2=0:=T8.1 λh1=>by
  unfold Y4 at hce;rw[Tm h1]at hce;exact h1 hce
 obtain⟨hck,-,hrt⟩:=W6 hrq
 have hql:q.length<=16:=(Yvk hrq).1
 have hok:=YT hck
 have hrowl:n.rows.length<=32:=by
  have h1:=hok.p0;have h2:=hok.n1
  have h3:n.net.power.length=n.rows.length:=by simp[NetM.net]
  omega
 have hrow1:∀r∈n.rows,r.xs.length<=32:=λr hr=>by
  have h1:=hok.p1 r.xs (by show r.xs∈n.rows.map (·.xs);exact TD.2 ⟨r,hr,rfl⟩)
  have h2:=hok.n1
  omega
 have hlk:n.links.length<=128:=hok.k0
 have hmg:n.margin.length<=128:=by
  have h1:n.margin.length=n.links.length:=hok.k1
  omega
 have hqx:∀x∈q,x.rows.length<=2/\∀r∈x.rows,r.xs.length<=9:=λx hx=>by
  have h1:=hrt x.rq (TD.2 ⟨x,hx,rfl⟩)
  refine⟨?_,λr hr=>?_⟩
  ·have h2:=YbH h1
   have h4:x.rq.2.length=x.rows.length:=Tv _
   omega
  ·exact(ZY (U6 h1 r.xs (TD.2 ⟨r,hr,rfl⟩))).2.1.2
 have hCn:C.length<=1000000000000:=by
  have h1:=TA List.length hC
  have h2:=TA (λz=>z.1.length) hR
  dsimp only at h1 h2
  rw[Yf3 hce]at h2
  simp only[Tv]at h1 h2
  omega
 have hFn:RF.length<=1000000000000:=by
  have h2:=TA (λz=>z.1.length) hRF
  dsimp only at h2
  unfold ZH at h2
  split at h2
  ·simp only[Rh]at h2;omega
  ·unfold ZP at h2
   rw[Vj,TQ]at h2
   have h3:=(YgS.1 (Vg.1 (Jh.1 hce).1)).frm.sized
   exact YuB
 refine zX70 ?_<;>intros
 clear p1 p2 p3
 have hinM:∀{H':List HP},many H∈H'->n.In B w0 H':=λhm=>hin0.mono λw hw=>hw.inM hm
 have hqM:∀{H':List HP},many H∈H'->QIn B w0 H' qA q:=λhm=>hq0.mono λw hw=>hw.inM hm
 apply Ue [1,0,2,3,4,5,6,7,9,10,11,12,13,14,8,15,16,17,18,19] [1,20,21,22,23,24,25] [20,21,22,23,24,25] [true,true,true,true,true,true]
 kernel_rfl
 kernel_rfl
 exact zy
 (simp only[Ye,nthO];rfl)
 (simp only[Ye,nthO];rfl)
 refine Wr ?_
 apply Yg _ YvY
 exact za
 exact rfl
 exactλ_ hw=>(Ycg n.links (by omega) (hinM (by(focus exact zc2))).lk (hw))
 rintro _ _ ⟨lA,lcap,rfl,rfl⟩
 refine Yje ?_
 apply Yg _ YsP
 exact za
 exact rfl
 exactλ_ hw=>(Wh n.margin (by omega) (hinM (by(focus exact zc2))).mg (hw))
 rintro _ _ ⟨mA,mcap,rfl,rfl⟩
 refine Yje ?_
 apply Yg _ YvZ
 exact za
 exact rfl
 exactλ_ hw=>(Ybs n.rows (by omega) (hinM (by(focus exact zc2))).pw (hw))
 rintro _ _ ⟨pA,pcap,rfl,rfl⟩
 refine Wr ?_
 refine Yi (λz:RwsM=>[(112,.int .i64 (z.i:Nat)),(111,.int .i64 n.rows.length),(110,.slice pA n.rows.length pcap),(0,.pointer (some ⟨g,0,none⟩)),(2,.pointer (some ⟨g2,0,none⟩)),(3,.int .i64 0)])
  (λz=>sl 24 1 pA n.rows.length pcap (z.R.flatMap rowF)::many ((z.R.take z.i).map rowQ)::blk g (.cells #[.int .i64 n.nodes,.slice pA n.rows.length pcap,.int .i64 n.noise,.int .i64 n.thr,.slice lA n.links.length lcap,.slice mA n.margin.length mcap,.slice qA q.length qcap,.int .i64 s.len,.int .i64 s.off,.slice s.A s.cells.length s.cap,.slice A2 C.length c2,.slice A3 RF.length RF.length,.int .i64 0] 164 (0,0))::sl 145 3 lA n.links.length lcap (n.links.flatMap lkF)::ints mA mcap n.margin::blk g2 (.cells zeroPnV.cells 35 (0,0))::nrs A3 RF.length RF::clsP A2 c2 C::many (C.map clQ)::[many H])
  (λz=>z.i<=n.rows.length/\z.R.length=n.rows.length/\z.R.map (·.xs)=n.rows.map (·.xs)/\z.R.drop z.i=n.rows.drop z.i) (λz=>n.rows.length-z.i) ⟨0,n.rows⟩ ⟨Ti _,rfl,rfl,rfl⟩ ?_ ?_ ?_
 ·exact zc1
 ·intro w hw
  have h5:St B w0 (sl 24 1 pA n.rows.length pcap (n.rows.flatMap rowF)::blk g (.cells #[.int .i64 n.nodes,.slice pA n.rows.length pcap,.int .i64 n.noise,.int .i64 n.thr,.slice lA n.links.length lcap,.slice mA n.margin.length mcap,.slice qA q.length qcap,.int .i64 s.len,.int .i64 s.off,.slice s.A s.cells.length s.cap,.slice A2 C.length c2,.slice A3 RF.length RF.length,.int .i64 0] 164 (0,0))::sl 145 3 lA n.links.length lcap (n.links.flatMap lkF)::ints mA mcap n.margin::blk g2 (.cells zeroPnV.cells 35 (0,0))::nrs A3 RF.length RF::clsP A2 c2 C::many (C.map clQ)::[many H]) w:=by
   dsimp only[zeroPnV]
   revert w
   exact zc0
  exact YqV
 rintro⟨i,R⟩ ⟨hi,hRl,hRm,hRd⟩ K hK
 dsimp only at hi hRl hRm hRd⊢
 by_cases hlt:i<n.rows.length
 ·obtain⟨r,hr⟩:∃r,n.rows[i]? =some r:=⟨_,Ta hlt⟩
  have hrm:=Td hr
  have hRi:=YfY hRd hr
  have hr32:=hrow1 r hrm
  refine zX70 ?_<;>intros
  apply Yz [0,1,2,3,4,5,6,7,8,9] [10] [true,true,true]
  kernel_rfl
  kernel_rfl
  exact zy
  (simp only[Ye,nthO];rfl)
  (simp only[Ye,nthO];rfl)
  refine Wr ?_
  apply Yg _ YsP
  exact za
  exact rfl
  exactλ_ hw=>(Wh r.xs (by omega) ((hinM (by(focus exact zc2))).rw_ r hrm) (hw))
  rintro _ _ ⟨A',cap',rfl,rfl⟩
  repeat'(first|(apply Yf T;exact rfl;exact zm;exact rfl;exact zv;exact rfl;exact rfl)|(apply Xo T (f:=rowF) (l:=R) (i:=i) (a:=⟨A',cap',r.xs⟩) (e:=24) (k:=n.rows.length) (cap:=pcap);(iterate 3 exact rfl);exact zd;exact rfl;exact(λ_=>rfl);exact rfl;omega)|(apply Yj;try exact zl)|refine zgd ?_|fail)
  apply hK ⟨i+1,R.set i ⟨A',cap',r.xs⟩⟩
  ·exact⟨by exact YdU,by show(R.set i _).length=_;rw[TT,hRl],by show(R.set i _).map _=_;rw[Yl0 hRi,hRm],Yct hRd⟩
  ·exact zc54
  ·exact zc1
  ·intro w hw
   dsimp only
   rw[take_set (by omega)]
   have h5:St B w0 (ints A' cap' r.xs::many ((R.take i).map rowQ)::sl 24 1 pA n.rows.length pcap ((R.set i ⟨A',cap',r.xs⟩).flatMap rowF)::blk g (.cells #[.int .i64 n.nodes,.slice pA n.rows.length pcap,.int .i64 n.noise,.int .i64 n.thr,.slice lA n.links.length lcap,.slice mA n.margin.length mcap,.slice qA q.length qcap,.int .i64 s.len,.int .i64 s.off,.slice s.A s.cells.length s.cap,.slice A2 C.length c2,.slice A3 RF.length RF.length,.int .i64 0] 164 (0,0))::sl 145 3 lA n.links.length lcap (n.links.flatMap lkF)::ints mA mcap n.margin::blk g2 (.cells zeroPnV.cells 35 (0,0))::nrs A3 RF.length RF::clsP A2 c2 C::many (C.map clQ)::[many H]) w:=by
    revert w
    exact zc0
   exact(h5.perm (Oj rowQ (R.take i) ⟨A',cap',r.xs⟩ _)).perm (.swap _ _ _)
 obtain rfl:i=n.rows.length:=by omega
 rw[<-hRl,TL,hRl]
 clear hK hRd hlt hi
 refine zX70 ?_<;>intros
 apply Yg _ en90
 exact za
 exact rfl
 exactλ_ hw=>(WD q (by omega) (hqM (by(focus exact zc2))).rd (hw))
 rintro _ _ ⟨q1A,q1c,rfl,rfl⟩
 refine Wr ?_
 refine Yi (λz:RqsM=>[(144,.int .i64 (z.i:Nat)),(143,.int .i64 q.length),(142,.slice q1A q.length q1c),(0,.pointer (some ⟨g,0,none⟩)),(2,.pointer (some ⟨g2,0,none⟩)),(3,.int .i64 0)])
  (λz=>sl 69 7 q1A q.length q1c (z.Q.flatMap rqF)::many ((z.Q.take z.i).map rqQ)::blk g (.cells #[.int .i64 n.nodes,.slice pA n.rows.length pcap,.int .i64 n.noise,.int .i64 n.thr,.slice lA n.links.length lcap,.slice mA n.margin.length mcap,.slice q1A q.length q1c,.int .i64 s.len,.int .i64 s.off,.slice s.A s.cells.length s.cap,.slice A2 C.length c2,.slice A3 RF.length RF.length,.int .i64 0] 164 (0,0))::sl 24 1 pA n.rows.length pcap (R.flatMap rowF)::many (R.map rowQ)::sl 145 3 lA n.links.length lcap (n.links.flatMap lkF)::ints mA mcap n.margin::blk g2 (.cells zeroPnV.cells 35 (0,0))::nrs A3 RF.length RF::clsP A2 c2 C::many (C.map clQ)::[many H])
  (λz=>z.i<=q.length/\z.Q.length=q.length/\z.Q.map RqM.rq=q.map RqM.rq/\z.Q.drop z.i=q.drop z.i/\∀x∈z.Q.take z.i,x.lens) (λz=>q.length-z.i) ⟨0,q⟩ ⟨Ti _,rfl,rfl,rfl,(λx hx=>by cases hx)⟩ ?_ ?_ ?_
 ·exact zc1
 ·intro w hw
  have h5:St B w0 (sl 69 7 q1A q.length q1c (q.flatMap rqF)::blk g (.cells #[.int .i64 n.nodes,.slice pA n.rows.length pcap,.int .i64 n.noise,.int .i64 n.thr,.slice lA n.links.length lcap,.slice mA n.margin.length mcap,.slice q1A q.length q1c,.int .i64 s.len,.int .i64 s.off,.slice s.A s.cells.length s.cap,.slice A2 C.length c2,.slice A3 RF.length RF.length,.int .i64 0] 164 (0,0))::sl 24 1 pA n.rows.length pcap (R.flatMap rowF)::many (R.map rowQ)::sl 145 3 lA n.links.length lcap (n.links.flatMap lkF)::ints mA mcap n.margin::blk g2 (.cells zeroPnV.cells 35 (0,0))::nrs A3 RF.length RF::clsP A2 c2 C::many (C.map clQ)::[many H]) w:=by
   unfold rqs at hw
   revert w
   exact zc0
  exact YqV
 rintro⟨i,Q⟩ ⟨hi,hQl,hQm,hQd,hQs⟩ K hK
 dsimp only at hi hQl hQm hQd hQs⊢
 by_cases hlt:i<q.length
 ·obtain⟨x,hx⟩:∃x,q[i]? =some x:=⟨_,Ta hlt⟩
  have hxm:=Td hx
  have hQi:=YfY hQd hx
  obtain⟨hx2,hx9⟩:=hqx x hxm
  repeat'(first|(apply Yf T;exact rfl;exact zm;exact rfl;exact zv;exact rfl;exact rfl)|refine zgd ?_|(refine zge ?_ ?_<;>intro _<;>try exact zo)|(refine zgh ?_;intro _)|fail)
  rename_i g8
  apply Yg _ Yv0
  exact za
  exact rfl
  exactλ_ hw=>(Ych x.rows (by omega) ((hqM (by(focus exact zc2))).x x hxm).rt (hw))
  rintro _ _ ⟨bA,bc,rfl,rfl⟩
  refine Wr ?_
  refine Yi (λz:RwsM=>[(156,.int .i64 (z.i:Nat)),(155,.int .i64 x.rows.length),(154,.slice bA x.rows.length bc),(7,.int .i64 (i:Nat)),(8,.pointer (some ⟨g8,0,none⟩)),(144,.int .i64 (i:Nat)),(143,.int .i64 q.length),(142,.slice q1A q.length q1c),(0,.pointer (some ⟨g,0,none⟩)),(2,.pointer (some ⟨g2,0,none⟩)),(3,.int .i64 0)])
   (λz=>sl 104 1 bA x.rows.length bc (z.R.flatMap rowF)::many ((z.R.take z.i).map rowQ)::blk g8 (.cells #[.int .i64 x.f.1,.int .i64 x.f.2.1,.int .i64 x.f.2.2.1,.int .i64 x.f.2.2.2.1,.int .i64 x.f.2.2.2.2.1,.int .i64 x.f.2.2.2.2.2,.slice bA x.rows.length bc] 69 (0,0))::sl 69 7 q1A q.length q1c (Q.flatMap rqF)::many ((Q.take i).map rqQ)::blk g (.cells #[.int .i64 n.nodes,.slice pA n.rows.length pcap,.int .i64 n.noise,.int .i64 n.thr,.slice lA n.links.length lcap,.slice mA n.margin.length mcap,.slice q1A q.length q1c,.int .i64 s.len,.int .i64 s.off,.slice s.A s.cells.length s.cap,.slice A2 C.length c2,.slice A3 RF.length RF.length,.int .i64 0] 164 (0,0))::sl 24 1 pA n.rows.length pcap (R.flatMap rowF)::many (R.map rowQ)::sl 145 3 lA n.links.length lcap (n.links.flatMap lkF)::ints mA mcap n.margin::blk g2 (.cells zeroPnV.cells 35 (0,0))::nrs A3 RF.length RF::clsP A2 c2 C::many (C.map clQ)::[many H])
   (λz=>z.i<=x.rows.length/\z.R.length=x.rows.length/\z.R.map (·.xs)=x.rows.map (·.xs)/\z.R.drop z.i=x.rows.drop z.i/\∀r∈z.R.take z.i,r.xs.length<=1000/\r.xs.length<=r.cap) (λz=>x.rows.length-z.i) ⟨0,x.rows⟩ ⟨Ti _,rfl,rfl,rfl,(λx hx=>by cases hx)⟩ ?_ ?_ ?_
  ·exact zc1
  ·intro w hw
   have h5:St B w0 (sl 104 1 bA x.rows.length bc (x.rows.flatMap rowF)::blk g8 (.cells #[.int .i64 x.f.1,.int .i64 x.f.2.1,.int .i64 x.f.2.2.1,.int .i64 x.f.2.2.2.1,.int .i64 x.f.2.2.2.2.1,.int .i64 x.f.2.2.2.2.2,.slice bA x.rows.length bc] 69 (0,0))::sl 69 7 q1A q.length q1c (Q.flatMap rqF)::many ((Q.take i).map rqQ)::blk g (.cells #[.int .i64 n.nodes,.slice pA n.rows.length pcap,.int .i64 n.noise,.int .i64 n.thr,.slice lA n.links.length lcap,.slice mA n.margin.length mcap,.slice q1A q.length q1c,.int .i64 s.len,.int .i64 s.off,.slice s.A s.cells.length s.cap,.slice A2 C.length c2,.slice A3 RF.length RF.length,.int .i64 0] 164 (0,0))::sl 24 1 pA n.rows.length pcap (R.flatMap rowF)::many (R.map rowQ)::sl 145 3 lA n.links.length lcap (n.links.flatMap lkF)::ints mA mcap n.margin::blk g2 (.cells zeroPnV.cells 35 (0,0))::nrs A3 RF.length RF::clsP A2 c2 C::many (C.map clQ)::[many H]) w:=by
    revert w
    exact zc0
   exact YqV
  rintro⟨k,S⟩ ⟨hk,hSl,hSm,hSd,hSs⟩ K2 hK2
  dsimp only at hk hSl hSm hSd hSs⊢
  by_cases hlk2:k<x.rows.length
  ·obtain⟨r,hr⟩:∃r,x.rows[k]? =some r:=⟨_,Ta hlk2⟩
   have hrm:=Td hr
   have hRi:=YfY hSd hr
   have hr9:=hx9 r hrm
   clear hK hQi
   refine zX70 ?_<;>intros
   apply Yz [0,1,2,3,4,5] [6] [true,true,true]
   kernel_rfl
   kernel_rfl
   exact zy
   (simp only[Ye,nthO];rfl)
   (simp only[Ye,nthO];rfl)
   refine Wr ?_
   apply Yg _ Yo0
   exact za
   exact rfl
   exactλ_ hw=>(JZ r.xs (by omega) (((hqM (by(focus exact zc2))).x x hxm).rw_ r hrm) (hw))
   rintro _ _ ⟨A',cap',rfl,rfl⟩
   apply UJ (e:=3) (size:=1) (k:=r.xs.length) (cap:=cap') (A:=A') (xs:=r.xs.flatMap numF) (by(focus exact zc2))
   intro hcap
   repeat'(first|(apply Yf T;exact rfl;exact zm;exact rfl;exact zv;exact rfl;exact rfl)|(apply Xo T (f:=rowF) (l:=S) (i:=k) (a:=⟨A',cap',r.xs⟩) (e:=104) (k:=x.rows.length) (cap:=bc);(iterate 3 exact rfl);exact zd;exact rfl;exact(λ_=>rfl);exact rfl;omega)|(apply Yj;try exact zl)|refine zgd ?_|fail)
   apply hK2 ⟨k+1,S.set k ⟨A',cap',r.xs⟩⟩
   ·refine⟨by show k+1<=_;omega,by show(S.set k _).length=_;rw[TT,hSl],by show(S.set k _).map _=_;rw[Yl0 hRi,hSm],Yct hSd,λy hy=>?_⟩
    dsimp only at hy
    rw[take_set (by omega)]at hy
    rcases TJ.1 hy with hy|hy
    ·exact hSs y hy
    ·rw[TU.1 hy]
     exact⟨by show r.xs.length<=_;omega,hcap⟩
   ·exact zc54
   ·exact zc1
   ·intro w hw
    dsimp only
    rw[take_set (by omega)]
    have h5:St B w0 (ints A' cap' r.xs::many ((S.take k).map rowQ)::sl 104 1 bA x.rows.length bc ((S.set k ⟨A',cap',r.xs⟩).flatMap rowF)::blk g8 (.cells #[.int .i64 x.f.1,.int .i64 x.f.2.1,.int .i64 x.f.2.2.1,.int .i64 x.f.2.2.2.1,.int .i64 x.f.2.2.2.2.1,.int .i64 x.f.2.2.2.2.2,.slice bA x.rows.length bc] 69 (0,0))::sl 69 7 q1A q.length q1c (Q.flatMap rqF)::many ((Q.take i).map rqQ)::blk g (.cells #[.int .i64 n.nodes,.slice pA n.rows.length pcap,.int .i64 n.noise,.int .i64 n.thr,.slice lA n.links.length lcap,.slice mA n.margin.length mcap,.slice q1A q.length q1c,.int .i64 s.len,.int .i64 s.off,.slice s.A s.cells.length s.cap,.slice A2 C.length c2,.slice A3 RF.length RF.length,.int .i64 0] 164 (0,0))::sl 24 1 pA n.rows.length pcap (R.flatMap rowF)::many (R.map rowQ)::sl 145 3 lA n.links.length lcap (n.links.flatMap lkF)::ints mA mcap n.margin::blk g2 (.cells zeroPnV.cells 35 (0,0))::nrs A3 RF.length RF::clsP A2 c2 C::many (C.map clQ)::[many H]) w:=by
     revert w
     exact zc0
    exact(h5.perm (Oj rowQ (S.take k) ⟨A',cap',r.xs⟩ _)).perm (.swap _ _ _)
  obtain rfl:k=x.rows.length:=by omega
  have hSt:S.take x.rows.length=S:=by rw[<-hSl,TL]
  rw[hSt]at hSs⊢
  clear hK2 hSd hlk2 hk
  have hrqv:rqF ⟨x.f,bA,bc,S⟩=[.int .i64 x.f.1,.int .i64 x.f.2.1,.int .i64 x.f.2.2.1,.int .i64 x.f.2.2.2.1,.int .i64 x.f.2.2.2.2.1,.int .i64 x.f.2.2.2.2.2,.slice bA x.rows.length bc]:=by
   unfold rqF;rw[hSl]
  refine Yjd ?_<;>intros
  apply Yz [0,1,2,3,4,5,6,7] [8] [true,true,true,true,true,true]
  kernel_rfl
  kernel_rfl
  exact zy
  (simp only[Ye,nthO];rfl)
  (simp only[Ye,nthO];rfl)
  repeat'(first|(apply Yf T;exact rfl;exact zm;exact rfl;exact zv;exact rfl;exact rfl)|(apply Zd T (f:=rqF) (l:=Q) (i:=i) (a:=⟨x.f,bA,bc,S⟩);exact rfl;exact rfl;exact hrqv;exact zd;exactλ_=>rfl;(iterate 3 exact rfl);omega)|refine zgd ?_|fail)
  apply hK ⟨i+1,Q.set i ⟨x.f,bA,bc,S⟩⟩
  ·refine⟨by exact YdU,by show(Q.set i _).length=_;rw[TT,hQl],?_,Yct hQd,λy hy=>?_⟩
   ·show(Q.set i _).map RqM.rq=_
    rw[<-hQm]
    apply SQ
    intro j
    rw[TS,TS]
    by_cases hj:i=j
    ·subst hj
     rw[Si (by omega),hQi]
     show some (RqM.rq ⟨x.f,bA,bc,S⟩)=some x.rq
     unfold RqM.rq
     dsimp only
     rw[hSm]
    ·rw[Ni hj]
   ·dsimp only at hy
    rw[take_set (by omega)]at hy
    rcases TJ.1 hy with hy|hy
    ·exact hQs y hy
    ·rw[TU.1 hy]
     exact⟨by show S.length<=_;omega,hSs⟩
  ·exact zc54
  ·exact zc1
  ·intro w hw
   dsimp only
   rw[take_set (by omega)]
   have h5:St B w0 (sl 104 1 bA x.rows.length bc (S.flatMap rowF)::many (S.map rowQ)::many ((Q.take i).map rqQ)::sl 69 7 q1A q.length q1c ((Q.set i ⟨x.f,bA,bc,S⟩).flatMap rqF)::blk g (.cells #[.int .i64 n.nodes,.slice pA n.rows.length pcap,.int .i64 n.noise,.int .i64 n.thr,.slice lA n.links.length lcap,.slice mA n.margin.length mcap,.slice q1A q.length q1c,.int .i64 s.len,.int .i64 s.off,.slice s.A s.cells.length s.cap,.slice A2 C.length c2,.slice A3 RF.length RF.length,.int .i64 0] 164 (0,0))::sl 24 1 pA n.rows.length pcap (R.flatMap rowF)::many (R.map rowQ)::sl 145 3 lA n.links.length lcap (n.links.flatMap lkF)::ints mA mcap n.margin::blk g2 (.cells zeroPnV.cells 35 (0,0))::nrs A3 RF.length RF::clsP A2 c2 C::many (C.map clQ)::[many H]) w:=by
    revert w
    exact zc0
   rw[<-hSl]at h5
   have h6:=h5.perm (.close [_,_] _)
   exact(h6.perm (Ydc (Q.take i) ⟨x.f,bA,bc,S⟩ _)).perm (.swap _ _ _)
 obtain rfl:i=q.length:=by omega
 have hQt:Q.take q.length=Q:=by rw[<-hQl,TL]
 rw[hQt]at hQs⊢
 clear hK hQd hlt hi
 refine zX70 ?_<;>intros
 apply Yv T (H2:=many [sl 69 7 q1A Q.length q1c (Q.flatMap rqF),many (Q.map rqQ),sl 24 1 pA R.length pcap (R.flatMap rowF),many (R.map rowQ),sl 145 3 lA n.links.length lcap (n.links.flatMap lkF),ints mA mcap n.margin,nrs A3 RF.length RF,clsP A2 c2 C,many (C.map clQ)]::H);(iterate 3 exact rfl);(focus exact zc2);exact rfl;exact rfl
 ·intro w hw
  have h5:St B w0 (sl 69 7 q1A q.length q1c (Q.flatMap rqF)::many (Q.map rqQ)::sl 24 1 pA n.rows.length pcap (R.flatMap rowF)::many (R.map rowQ)::sl 145 3 lA n.links.length lcap (n.links.flatMap lkF)::ints mA mcap n.margin::nrs A3 RF.length RF::clsP A2 c2 C::many (C.map clQ)::[many H]) w:=by
   revert w
   exact zc0
  rw[<-hQl,<-hRl]at h5
  exact(h5.perm (.close [_,_,_,_,_,_,_,_,_] _)).perm (.cons _ (.openT H))
 have hC:C.map ClM.clm=RC:=hC
 refine .inr ⟨⟨⟨n.nodes,pA,pcap,R,n.noise,n.thr,lA,lcap,n.links,mA,mcap,n.margin⟩,q1A,q1c,Q,s,A2,c2,C,A3,RF.length,RF⟩,_,?_,?_,λH' hrs'=>?_,rfl⟩
 ·show some (Pln.mk n.net (q.map RqM.rq) s.sch RC RF)=some (Pln.mk ⟨n.nodes,R.map (·.xs),n.noise,n.thr,n.links,n.margin⟩ (Q.map RqM.rq) s.sch (C.map ClM.clm) RF)
  rw[hRm,hQm,hC];rfl
 ·unfold PnM.val
  dsimp only
  rw[hRl,hQl]
 ·have hb:∀{L:List HP}(w:World),St B w0 (many L::H') w->St B w0 L w:=λw hw=>hw.inM (.head _)
  refine⟨⟨Rd.mono (.sl (.tail _ (.tail _ (.head _)))) hb,λr hr=>Rd.mono (Rd.many (L:=R.map rowQ) (.tail _ (.tail _ (.tail _ (.head _)))) (RA hr)) hb,Rd.mono (.sl (.tail _ (.tail _ (.tail _ (.tail _ (.head _)))))) hb,Rd.mono (.sl (.tail _ (.tail _ (.tail _ (.tail _ (.tail _ (.head _))))))) hb,by show R.length<=_;omega,λr hr=>?_,by show n.links.length<=_;omega,by show n.margin.length<=_;omega⟩,
   ⟨Rd.mono (.sl (.head _)) hb,λx hx=>RqM.In.mono (YlV (q:=Q) (.tail _ (.head _)) hx (hQs x hx)) hb,by show Q.length<=_;omega⟩,hrs'.cons,hsl,
   ⟨Rd.mono (.sl (.tail _ (.tail _ (.tail _ (.tail _ (.tail _ (.tail _ (.tail _ (.head _))))))))) hb,λx hx=>ClM.In.mono (Ykr (C:=C) (.tail _ (.tail _ (.tail _ (.tail _ (.tail _ (.tail _ (.tail _ (.tail _ (.head _))))))))) hx (hCl x hx)) hb,hCn⟩,
   Rd.mono (.sl (.tail _ (.tail _ (.tail _ (.tail _ (.tail _ (.tail _ (.head _)))))))) hb,hFn⟩
  have h1:r.xs∈n.rows.map (·.xs):=by rw[<-hRm];exact TD.2 ⟨r,hr,rfl⟩
  obtain⟨r2,h2,h3⟩:=TD.1 h1
  have h4:=hrow1 r2 h2
  have h3:r2.xs=r.xs:=h3
  rw[h3]at h4
  omega
structure Ysw(p:Pln):Prop where
 cert:(Y4 p.n p.q p.s).2.2=0
 c:p.c=(Y4 p.n p.q p.s).1
 free:(ZH p.s).2=0
 f:p.f=(ZH p.s).1
def Made(n:Net)(l:List Flw)(len off:Int)(R:Option Pln×Int):Prop:=(R.2≠0/\R.1=none)\/∃p,R=(some p,0)/\Ysw p/\p.n=n/\YE p.q=l/\p.s.len=len/\p.s.off=off
theorem Yfw{n:Net}{f:Flw}(h:(J8 n f).2=0):(J8 n f).1.1=f:=by
 unfold J8 at h⊢
 split
 ·rename_i h1;rw[Tm h1]at h;exact absurd h h1
 ·rfl
theorem Yqf{n:Net}{f:Flw}(h:(reqE n f).2=0):(reqE n f).1.1=f:=by
 unfold reqE at h⊢
 split
 ·rfl
 ·rename_i h1
  rw[h1]at h
  exact Yfw h
theorem Ym2{nodes:Int}{l:List Flw}:(Yx nodes l).2=0↔(2<=nodes/\nodes<=32)/\l.length<=16/\(∀f∈l,YX nodes f=0)/\l.Pairwise λa b=>a.1<b.1:=by
 constructor
 ·intro h
  refine⟨?_,?_,λf hf=>Ut h hf,?_⟩
  ·unfold Yx at h
   split at h
   ·cases h
   ·omega
  ·unfold Yx at h
   split at h
   ·cases h
   split at h
   ·cases h
   ·omega
  ·rw[TG]
   intro i j hi hj hij
   have:=Yag h hij hj
   unfold Y1 at this
   rwa [Tz,Tz,Ta hi,Ta hj]at this
 ·rintro⟨h1,h2,h3,h4⟩
  unfold Yx
  rw[Tf (by omega),Tf (by omega)]
  refine YF.2 λk _ hk=>?_
  rw[RV]at hk
  rw[TG]at h4
  have hat:∀{i:Nat}(hi:i<l.length),Y1 l i=l[i]:=λhi=>by unfold Y1;rw[Tz,Ta hi];rfl
  unfold Xj
  rw[hat hk,Tf (λe=>e (h3 _ (NF hk)))]
  rcases Su k with rfl|hk0
  ·rw[Tf (by omega)]
  ·rw[hat (i:=k-1) (by omega),Tf]
   have:=h4 (k-1) k (by omega) hk (by omega)
   omega
theorem Ycf{p:Pln}(h:chkP p=0):Ysw p:=by
 unfold chkP at h
 split at h
 ·cases h
 split at h
 ·cases h
 split at h
 ·cases h
 split at h
 ·cases h
 split at h
 ·cases h
 rename_i h3 h4 h5
 have h3:=T8.1 h3
 have h4:=T8.1 h4
 refine⟨h3,?_,T8.1 λe=>h5 (.inl e),(T8.1 λe=>h5 (.inr e)).symm⟩
 unfold chkE at h4
 rw[Tf (λe=>e h3)]at h4
 by_cases hl:p.c.length=(Y4 p.n p.q p.s).1.length
 rotate_left
 ·rw[Tm hl]at h4;cases h4
 rw[Tf (λe=>e hl)]at h4
 refine List.ext_getElem hl λi h6 h7=>?_
 have:=YF.1 h4 i (Ti _) (by omega)
 by_cases e:Qo p.c i=Qo (Y4 p.n p.q p.s).1 i
 ·unfold Qo at e
  rwa [Tz,Tz,Ta h6,Ta h7]at e
 ·rw[Tf e]at this;cases this
theorem Yqj{n:Net}{f:Flw}(h:(J1 n [f]).2.2=0):(reqE n f).2=0:=by
 unfold J1 at h
 split at h
 ·cases h
 split at h
 ·rename_i h1;exact absurd h h1
 split at h
 ·rename_i h1;exact absurd h h1
 ·rename_i h1
  exact YF.1 (T8.1 h1) 0 (TM _) (by simp)
abbrev Lop:=Int×Int×Int×Int×Int×Int×Int
abbrev Spl:=Int×Int
def lopE(nodes:Int)(l:Lop):Int:=
 if l.1<0\/127<l.1\/insE l.2.1 nodes=false\/insE l.2.2.1 nodes=false\/insE l.2.2.2.1 nodes=false then 2
 else if l.2.2.2.2.1<1\/512<l.2.2.2.2.1\/l.2.2.2.2.2.1<0\/l.2.2.2.2.1<=l.2.2.2.2.2.1\/l.2.2.2.2.2.2<1\/1024<l.2.2.2.2.2.2 then 2
 else if l.2.1=l.2.2.1\/l.2.2.2.1=l.2.2.1 then 1 else 0
def Z9(l:List Lop)(i:Nat):Lop:=l.getD i (0,0,0,0,0,0,0)
def Zg(nodes:Int)(l:List Lop)(i:Nat):Int:=if lopE nodes (Z9 l i)≠0 then lopE nodes (Z9 l i)else if 0<i/\(Z9 l i).1<=(Z9 l (i-1)).1 then 5 else 0
def ZZ(nodes:Int)(l:List Lop):Int×Int:=
 if nodes<2\/32<nodes then(-1,2)else if 8<l.length then(-1,8)else YG (Zg nodes l) l.length 0
def YgW(l:Lop)(s:Spl):Int:=l.2.2.2.2.1+s.1+s.2-1
def fitS(l:Lop)(s:Spl):Bool:=decide (1<=s.1/\1<=s.2/\s.1<=l.2.2.2.2.1/\s.2<=l.2.2.2.2.1/\s.1+s.2<=l.2.2.2.2.1/\YgW l s<=l.2.2.2.2.2.2)
def Xm(l:Lop)(s:Spl):Int:=if lopE 32 l≠0 then lopE 32 l else if fitS l s=false then 11 else 0
def Y6(l:Lop)(s:Spl):Flw:=(2*l.1,l.2.1,l.2.2.1,l.2.2.2.2.1,l.2.2.2.2.2.1,s.1)
def Xk(l:Lop)(s:Spl):Flw:=(2*l.1+1,l.2.2.1,l.2.2.2.1,l.2.2.2.2.1,(l.2.2.2.2.2.1+s.1).tmod l.2.2.2.2.1,s.2)
def Xd:List Lop->List Spl->List Flw
 |l::ls,s::ss=>Y6 l s::Xk l s::Xd ls ss
 |_,_=>[]
def badS:List Lop->List Spl->Bool
 |l::ls,s::ss=>decide (Xm l s≠0)||badS ls ss
 |_,_=>false
structure Gwy where
 p:Pln
 l:List Lop
 s:List Spl
def chkG(g:Gwy):Int:=
 if chkP g.p≠0 then chkP g.p else if(ZZ g.p.n.nodes g.l).2≠0 then 1 else if g.s.length≠g.l.length then 11
 else if badS g.l g.s=true then 11 else if Xd g.l g.s≠YE g.p.q then 12 else 0
def posL(l:List Lop)(id:Int):Nat:=(l.takeWhile λy=>decide (y.1<id)).length
def hasL(l:List Lop)(id:Int):Bool:=l.any λy=>decide (y.1=id)
def XL{α:Type}(l:List α)(k:Nat)(x:α):List α:=l.take k++x::l.drop k
def sumS(l:Lop):Int:=min l.2.2.2.2.1 (l.2.2.2.2.2.2-l.2.2.2.2.1+1)
def Zj(l:Lop):List Spl:=(List.range (max (sumS l-1) 0).toNat).map λi:Nat=>((i:Int)+1,sumS l-1-i)
noncomputable def Wg(p:Pln)(l:Lop)(s:Spl):Option Pln:=
 match extP p (Y6 l s)with
 |(some q,0)=>match extP q (Xk l s)with
  |(some r,0)=>some r
  |_=>none
 |_=>none
noncomputable def tryG(p:Pln)(l:Lop):List Spl->Option (Spl×Pln)
 |[]=>none
 |s::ss=>match Wg p l s with
  |some q=>some (s,q)
  |none=>tryG p l ss
noncomputable def admG(g:Gwy)(l:Lop):Option Gwy×Int:=
 if chkG g≠0 then(none,chkG g)else if hasL g.l l.1=true then(none,6)
 else if(ZZ g.p.n.nodes (XL g.l (posL g.l l.1) l)).2≠0 then(none,1)else if Zj l=[]then(none,11)
 else match tryG g.p l (Zj l)with
  |none=>(none,18)
  |some (s,q)=>(some ⟨q,XL g.l (posL g.l l.1) l,XL g.s (posL g.l l.1) s⟩,0)
theorem Vi{nodes:Int}{l:List Lop}:(ZZ nodes l).2=0↔(2<=nodes/\nodes<=32)/\l.length<=8/\(∀f∈l,lopE nodes f=0)/\l.Pairwise λa b=>a.1<b.1:=by
 have hat:∀{i:Nat}(hi:i<l.length),Z9 l i=l[i]:=λhi=>by unfold Z9;rw[Tz,Ta hi];rfl
 unfold ZZ
 by_cases h1:nodes<2\/32<nodes
 ·rw[Tm h1]
  exact⟨λh=>(by cases h),λh=>by omega⟩
 rw[Tf h1]
 by_cases h2:8<l.length
 ·rw[Tm h2]
  exact⟨λh=>(by cases h),λh=>by omega⟩
 rw[Tf h2,YF]
 constructor
 ·intro h
  have hk:∀(k:Nat) (hk:k<l.length),lopE nodes l[k]=0/\(0<k->∀(h':k-1<l.length),l[k-1].1<l[k].1):=λk hk=>by
   have h3:=h k (Ti _) (by omega)
   unfold Zg at h3
   rw[hat hk]at h3
   by_cases h4:lopE nodes l[k]=0
   ·rw[Tf (λe=>e h4)]at h3
    refine⟨h4,λh0 h'=>?_⟩
    rw[hat h']at h3
    by_cases h5:l[k].1<=l[k-1].1
    ·rw[Tm ⟨h0,h5⟩]at h3;cases h3
    ·omega
   ·rw[Tm h4]at h3;exact absurd h3 h4
  refine⟨by omega,by omega,λf hf=>?_,?_⟩
  ·obtain⟨k,hk1,rfl⟩:=NC.1 hf
   exact(hk k hk1).1
  ·rw[TG]
   intro i j hi hj hij
   obtain⟨d,rfl⟩:∃d,j=i+1+d:=⟨j-(i+1),by omega⟩
   induction d with
   |zero=>exact(hk (i+1) hj).2 (by omega) (by omega)
   |succ d ih=>
    have h6:=ih (by omega) (by omega)
    have h7:=(hk (i+1+(d+1)) hj).2 (by omega) (by omega)
    have h8:i+1+(d+1)-1=i+1+d:=by omega
    simp only[h8]at h7
    omega
 ·rintro⟨-,-,h3,h4⟩ k-hk
  rw[RV]at hk
  rw[TG]at h4
  unfold Zg
  rw[hat hk,Tf (λe=>e (h3 _ (NF hk)))]
  rcases Su k with rfl|hk0
  ·rw[Tf (by omega)]
  ·rw[hat (i:=k-1) (by omega),Tf]
   have:=h4 (k-1) k (by omega) hk (by omega)
   omega
structure GwOk(g:Gwy):Prop where
 p:chkP g.p=0
 l:(ZZ g.p.n.nodes g.l).2=0
 len:g.s.length=g.l.length
 fit:badS g.l g.s=false
 fl:Xd g.l g.s=YE g.p.q
theorem UQ{g:Gwy}:chkG g=0↔GwOk g:=by
 unfold chkG
 constructor
 ·intro h
  split at h
  ·rename_i h1;exact absurd h h1
  split at h
  ·cases h
  split at h
  ·cases h
  split at h
  ·cases h
  split at h
  ·cases h
  ·rename_i h1 h2 h3 h4 h5
   exact⟨T8.1 h1,T8.1 h2,T8.1 h3,by simpa using h4,T8.1 h5⟩
 ·rintro⟨h1,h2,h3,h4,h5⟩
  rw[Tf (λe=>e h1),Tf (λe=>e h2),Tf (λe=>e h3),Tf (by rw[h4];simp),Tf (λe=>e h5)]
end Go.Proofs.YtjlgijpmnfabcaaGreatDoor
namespace Go.Eng
open Go.RowKit
section
variable {P:Program}{n:Shp}{B:Nat}{w0:World}{Q:Exit->Act->World->Prop}{env:Env}{H:List HP}{m:Mode}{ops:Array Oper}{rest:List Oper}{d:Nat}{ty:TypeId}{pos:String}{after:Array Edge}
variable {x y:Operand}{k:IntKind}{a b:Int}{tys:Array TypeId}
theorem Yra(hx:evo env x=some (.int k a))(hy:evo env y=some (.int k b))(hn:Nat.ble (d+1) n.k=true)(h:VL P m n B w0 ops Q rest ((d,.int k (min a b))::env) H):
 VL P m n B w0 ops Q (⟨some d,.call ⟨.builtin .min,#[x,y],tys⟩,ty,pos,after,none⟩::rest) env H:=
 Yk3 hx hy hn (λhlt=>by rw[show min a b=b by omega]at h;exact h) (λhge=>by rw[show min a b=a by omega]at h;exact h)
theorem Qb(hx:evo env x=some (.int k a))(hy:evo env y=some (.int k b))(hn:Nat.ble (d+1) n.k=true)(h:VL P m n B w0 ops Q rest ((d,.int k (max a b))::env) H):
 VL P m n B w0 ops Q (⟨some d,.call ⟨.builtin .max,#[x,y],tys⟩,ty,pos,after,none⟩::rest) env H:=
 Yk2 hx hy hn (λhlt=>by rw[show max a b=b by omega]at h;exact h) (λhge=>by rw[show max a b=a by omega]at h;exact h)
end
section
variable {P:Program}{B:Nat}{w0:World}{env:Env}{H:List HP}
theorem You{n:Nat}(T:Tab P){fn:Func}{Φ:Value->List HP->Prop}{p g k q g2 k2 rt st:Nat}{cs ds:Array Value}{tt tt2:TypeId}{fr fr2:Nat×Nat}(hr:fn.results=#[.cell p rt,.cell q st])(hp:get env p=some (.pointer (some ⟨g,0,none⟩)))(hq:get env q=some (.pointer (some ⟨g2,0,none⟩)))
 (hm:blk g (.cells cs tt fr)∈H) (hm2:blk g2 (.cells ds tt2 fr2)∈H) (ht:look T.ag rt=some k) (hk:cs.size=k) (ht2:look T.ag st=some k2) (hk2:ds.size=k2) {H2:List HP}(hH:∀w,St B w0 H w->St B w0 H2 w) (h:Φ (.tuple #[.agg cs,.agg ds]) H2):VQ ⟨n,[],none⟩ B w0 (bodyPost P fn (Post B w0 Φ)) .ret env H:=by
 refine⟨λa w ha hw=>bodyPost_ret (v:=.tuple #[.agg cs,.agg ds]) ?_ ha.defers ⟨_,H2,rfl,hH w hw,h⟩⟩
 have hp':=ha.slot p _ hp
 have hq':=ha.slot q _ hq
 simp[results,hr,Array.getD_eq_getD_getElem?,hp',hq',asAddr,ZD T (hw.blk hm).1 ht hk,ZD T (hw.blk hm2).1 ht2 hk2]
end
end Go.Eng
namespace Go.Proofs.YtjlgijpmnfabcaaGreatDoor
open Go.RowKit Go.Eng Go.Nw Go.Rt
def lopF(l:Lop):List Value:=[.int .i64 l.1,.int .i64 l.2.1,.int .i64 l.2.2.1,.int .i64 l.2.2.2.1,.int .i64 l.2.2.2.2.1,.int .i64 l.2.2.2.2.2.1,.int .i64 l.2.2.2.2.2.2]
def lopV(l:Lop):Value:=.agg #[.int .i64 l.1,.int .i64 l.2.1,.int .i64 l.2.2.1,.int .i64 l.2.2.2.1,.int .i64 l.2.2.2.2.1,.int .i64 l.2.2.2.2.2.1,.int .i64 l.2.2.2.2.2.2]
def splF(s:Spl):List Value:=[.int .i64 s.1,.int .i64 s.2]
def splV(s:Spl):Value:=.agg #[.int .i64 s.1,.int .i64 s.2]
theorem Yda{l:List Lop}{i:Nat}(h:i<l.length):l[i]? =some (Z9 l i):=by
 unfold Z9;rw[Tz,Ta h];rfl
variable {B:Nat}{w0 w:World}{H:List HP}
theorem Yke(v nodes:Int)(gn:Nat)(hm:blk gn (.cells #[.int .i64 nodes] 3 (0,0))∈H)(hw:St B w0 H w):
 CX B w0 224 [.int .i64 v,.pointer (some ⟨gn,0,none⟩)] w λu K=>u=.bool (insE v nodes)/\K=H:=by
 refine Ya Tryz.func224 Tryz.ntmps224 rfl rfl hw ?_
 repeat'(first|refine zgc ?_|(refine zgf ?_ ?_<;>intro _<;>try exact zo)|fail)
 all_goals(
  apply Yd;exact rfl;exact rfl
  first
   |exact⟨by rw[show insE v nodes=true from Tj (by omega)],rfl⟩
   |exact⟨by rw[show insE v nodes=false from Tu (by omega)],rfl⟩)
theorem V3(nodes:Int)(f:Lop)(hw:St B w0 H w):
 CX B w0 130 [.int .i64 nodes,lopV f] w λv K=>v=.int .i64 (lopE nodes f)/\K=H:=by
 refine Ya Tryz.func130 Tryz.ntmps130 rfl rfl hw ?_
 obtain⟨e,he⟩:∃e,lopE nodes f=e:=⟨_,rfl⟩
 rw[he]
 by_cases hA:f.1<0\/127<f.1
 ·repeat'(first|(apply zg23;first|(refine zs52 ?_;intro _)|(refine zs53 ?_;intro _))|(apply zg29;(apply Ys;exact za;exact rfl))|refine zgd ?_|(refine zge ?_ ?_<;>intro _<;>try exact zo)|fail)
  all_goals(
   apply Yh H
   ·exact zk
   apply Yd;exact rfl;exact rfl
   refine⟨?_,rfl⟩
   rw[<-he]
   unfold lopE
   first
    |(rw[Tm (by first|exact .inl (by omega)|exact .inr (.inl (by omega))|exact .inr (.inr (.inl (by assumption)))|exact .inr (.inr (.inr (.inl (by assumption))))|exact .inr (.inr (.inr (.inr (by assumption)))))];done)
    |(rw[Tf (by rintro(h|h|h|h|h)<;>first|omega|simp_all)]
      first
       |(rw[Tm (by omega)];done)
       |(rw[Tf (by omega),Tm (by omega)];done)
       |(rw[Tf (by omega),Tf (by omega)];done)))
 ·repeat'(first|(apply zg23;first|(refine zs52 ?_;intro _)|(refine zs53 ?_;intro _))|(apply zg29;(apply Ys;exact za;exact rfl))|refine zgc ?_|(refine zge ?_ ?_<;>intro _<;>try exact zo)|fail)
  rename_i gn gf _ _
  repeat'(first|((first|apply ZW (cs:=[.pointer (some ⟨gn,0,none⟩)])|apply ZV (cs:=[.pointer (some ⟨gn,0,none⟩)]));exact rfl;exact Yv7;exact za;exact rfl;exactλ_ hw=>(Yke _ nodes gn zm hw);all_goals(intro hB;(try simp only[Tq,T0]at hB);try exact zo))|refine zgd ?_|(refine zgf ?_ ?_<;>intro _<;>try exact zo)|fail)
  all_goals(
   apply Yh H
   ·exact zk
   apply Yd;exact rfl;exact rfl
   refine⟨?_,rfl⟩
   rw[<-he]
   unfold lopE
   first
    |(rw[Tm (by first|exact .inl (by omega)|exact .inr (.inl (by omega))|exact .inr (.inr (.inl (by assumption)))|exact .inr (.inr (.inr (.inl (by assumption))))|exact .inr (.inr (.inr (.inr (by assumption)))))];done)
    |(rw[Tf (by rintro(h|h|h|h|h)<;>first|omega|simp_all)]
      first
       |(rw[Tm (by omega)];done)
       |(rw[Tf (by omega),Tm (by omega)];done)
       |(rw[Tf (by omega),Tf (by omega)];done)))
theorem WN(nodes:Int)(l:List Lop)(hl:l.length<=9223372036854775807){A:Option Addr}{cap:Nat}(hr:Rd B w0 H A (l.flatMap lopF))(hw:St B w0 H w):
 CX B w0 57 [.int .i64 nodes,.slice A l.length cap] w λv K=>v=.tuple #[.int .i64 (ZZ nodes l).1,.int .i64 (ZZ nodes l).2]/\K=H:=by
 refine Ya Tryz.func57 Tryz.ntmps57 rfl rfl hw ?_
 by_cases hn:nodes<2\/32<nodes
 ·have hE:ZZ nodes l=(-1,2):=by unfold ZZ;exact Tm hn
  rw[hE]
  repeat'(first|refine zgd ?_|(refine zge ?_ ?_<;>intro _<;>try exact zo)|fail)
  all_goals(apply Yu;(iterate 3 exact rfl);exact⟨rfl,rfl⟩)
 by_cases h16:8<l.length
 ·have hE:ZZ nodes l=(-1,8):=by unfold ZZ;exact(Tf hn).trans (Tm h16)
  rw[hE]
  repeat'(first|refine zgd ?_|(refine zge ?_ ?_<;>intro _<;>try exact zo)|fail)
  apply Yu;(iterate 3 exact rfl);exact⟨rfl,rfl⟩
 have hE:ZZ nodes l=YG (Zg nodes l) l.length 0:=by unfold ZZ;exact(Tf hn).trans (Tf h16)
 rw[hE]
 repeat'(first|refine zgc ?_|(refine zge ?_ ?_<;>intro _<;>try exact zo)|fail)
 refine Yi (λ(i:Nat)=>[(22,.int .i64 i),(21,.int .i64 l.length),(20,.slice A l.length cap),(0,.int .i64 nodes),(1,.slice A l.length cap)]) (λ_=>H) (λi=>i<=l.length/\∀k,k<i->Zg nodes l k=0) (λi=>l.length-i) 0 ⟨Ti _,λk hk=>absurd hk (RD _)⟩ ?_ (λw hw=>hw) ?_
 ·exact zu
 rintro i ⟨hi,hall⟩ K hK
 by_cases hlt:i<l.length
 ·have hget:l[i]? =some (Z9 l i):=Yda hlt
  have hbad:Zg nodes l i≠0->YG (Zg nodes l) l.length 0=((i:Int),Zg nodes l i):=λh=>Ze (λk _ hk=>hall k hk) (Ti _) (by omega) h
  have hstep:Zg nodes l i=0->∀k,k<i+1->Zg nodes l k=0:=λh k hk=>by
   by_cases e:k=i
   ·rw[e];exact h
   ·exact hall k (by omega)
  by_cases he:lopE nodes (Z9 l i)≠0
  ·have hf:Zg nodes l i=lopE nodes (Z9 l i):=by unfold Zg;exact Tm he
   rw[hbad (by rw[hf];exact he),hf]
   repeat'(first|((first|apply Yb Jz|apply Yc Jz);exact za;exact rfl;exactλ_ hw=>(V3 nodes (Z9 l i) hw))|refine zgd ?_|(refine zge ?_ ?_<;>intro _<;>try exact zo)|(refine zgh ?_;intro _)|fail)
   apply Yh H
   ·exact zk
   apply Yu;(iterate 3 exact rfl);exact⟨rfl,rfl⟩
  have he0:=T8.1 he
  have hck:=λ{H':List HP}{w:World}(hw:St B w0 H' w)=>V3 nodes (Z9 l i) hw
  rw[he0]at hck
  rcases Su i with h0|h0
  ·subst h0
   have hf:Zg nodes l 0=0:=by unfold Zg;rw[Tf he,Tf (by omega)]
   repeat'(first|((first|apply Yb Jz|apply Yc Jz);exact za;exact rfl;exactλ_ hw=>(hck hw))|refine zgd ?_|(refine zge ?_ ?_<;>intro _<;>try exact zo)|(refine zgh ?_;intro _)|fail)
   apply hK (0+1)
   ·exact⟨by omega,hstep hf⟩
   ·omega
   ·exact zu
   ·exact zk
  have hget2:l[((i:Int)-1).toNat]? =some (Z9 l (i-1)):=by
   rw[show((i:Int)-1).toNat=i-1 by omega]
   exact Yda (by omega)
  by_cases hle:(Z9 l i).1<=(Z9 l (i-1)).1
  ·have hf:Zg nodes l i=5:=by unfold Zg;rw[Tf he,Tm ⟨h0,hle⟩]
   rw[hbad (by rw[hf];decide),hf]
   repeat'(first|((first|apply Yb Jz|apply Yc Jz);exact za;exact rfl;exactλ_ hw=>(hck hw))|refine zgd ?_|(refine zgf ?_ ?_<;>intro _<;>try exact zo)|(refine zgh ?_;intro _)|fail)
   apply Yh H
   ·exact zk
   apply Yu;(iterate 3 exact rfl);exact⟨rfl,rfl⟩
  ·have hf:Zg nodes l i=0:=by unfold Zg;rw[Tf he,Tf (λh=>hle h.2)]
   repeat'(first|((first|apply Yb Jz|apply Yc Jz);exact za;exact rfl;exactλ_ hw=>(hck hw))|refine zgd ?_|(refine zgf ?_ ?_<;>intro _<;>try exact zo)|(refine zgh ?_;intro _)|fail)
   apply hK (i+1)
   ·exact⟨by omega,hstep hf⟩
   ·omega
   ·exact zu
   ·exact zk
 ·repeat'(first|refine zgc ?_|(refine zge ?_ ?_<;>intro _<;>try exact zo)|fail)
  rw[show i=l.length by omega]at hall
  rw[Zy λk _ hk=>hall k (by omega)]
  apply Yu;(iterate 3 exact rfl);exact⟨rfl,rfl⟩
variable {l:Lop}
theorem Jn{n:Int}(h:lopE n l=0):(0<=l.1/\l.1<=127)/\(1<=l.2.2.2.2.1/\l.2.2.2.2.1<=512)/\(0<=l.2.2.2.2.2.1/\l.2.2.2.2.2.1<l.2.2.2.2.1)/\(1<=l.2.2.2.2.2.2/\l.2.2.2.2.2.2<=1024):=by
 unfold lopE at h
 split at h
 ·cases h
 rename_i h1
 split at h
 ·cases h
 rename_i h2
 omega
theorem Yii(l:Lop)(s:Spl)(h1:1<=l.2.2.2.2.1/\l.2.2.2.2.1<=512)(h2:(1<=s.1/\s.1<=512)/\(1<=s.2/\s.2<=512))(hw:St B w0 H w):
 CX B w0 311 [lopV l,splV s] w λv K=>v=.int .i64 (YgW l s)/\K=H:=by
 refine Ya Tryz.func311 Tryz.ntmps311 rfl rfl hw ?_
 unfold lopV splV
 repeat'(first|refine zgd ?_|(refine zgh ?_;intro _)|fail)
 apply Yh H
 ·exact zk
 apply Yd;exact rfl;exact rfl;exact⟨rfl,rfl⟩
theorem Yka(l:Lop)(s:Spl)(h1:1<=l.2.2.2.2.1/\l.2.2.2.2.1<=512)(hw:St B w0 H w):
 CX B w0 225 [lopV l,splV s] w λv K=>v=.bool (fitS l s)/\K=H:=by
 refine Ya Tryz.func225 Tryz.ntmps225 rfl rfl hw ?_
 obtain⟨b,hb⟩:∃b,fitS l s=b:=⟨_,rfl⟩
 rw[hb]
 unfold fitS at hb
 have p1:=λ(h2:(1<=s.1/\s.1<=512)/\(1<=s.2/\s.2<=512)) {H':List HP}{w:World}(hw:St B w0 H' w)=>Yii l s h1 h2 hw
 unfold lopV splV at p1⊢
 repeat'(first|((first|apply Yb Ys5|apply Yc Ys5);exact za;exact rfl;exactλ_ hw=>(p1 (by omega) hw))|(apply zg28;refine zs84 ?_)|refine zgd ?_|(refine zgf ?_ ?_<;>intro _<;>try exact zo)|(refine zgh ?_;intro _)|fail)
 all_goals(
  apply Yh H
  ·exact zk
  apply Yd;exact rfl;exact rfl
  refine⟨?_,rfl⟩
  rw[<-hb]
  first
   |(rw[Tj (by omega)];done)
   |(rw[Tu (by omega)];done))
theorem Ya6(l:Lop)(s:Spl)(hw:St B w0 H w):
 CX B w0 131 [lopV l,splV s] w λv K=>v=.int .i64 (Xm l s)/\K=H:=by
 refine Ya Tryz.func131 Tryz.ntmps131 rfl rfl hw ?_
 have p1:=λ{H':List HP}{w:World}(hw:St B w0 H' w)=>V3 32 l hw
 unfold Xm
 by_cases h:lopE 32 l=0
 rotate_left
 ·rw[Tm h]
  unfold lopV at p1⊢
  unfold splV
  repeat'(first|((first|apply Yb Jz|apply Yc Jz);exact za;exact rfl;exactλ_ hw=>(p1 hw))|refine zgb ?_|(refine zge ?_ ?_<;>intro _<;>try exact zo)|(refine zgh ?_;intro _)|fail)
  apply Yh H
  ·exact zk
  apply Yd;exact rfl;exact rfl;exact⟨rfl,rfl⟩
 have p2:=λ{H':List HP}{w:World}(hw:St B w0 H' w)=>Yka l s (Jn h).2.1 hw
 rw[Tf (λe=>e h)]
 rw[h]at p1
 unfold lopV at p1
 unfold lopV splV at p2
 unfold lopV splV
 cases hb:fitS l s with
 |false=>
  rw[hb]at p2
  rw[Tm rfl]
  repeat'(first|((first|apply Yb Jz|apply Yc Jz);exact za;exact rfl;exactλ_ hw=>(p1 hw))|((first|apply Yb Yls|apply Yc Yls);exact za;exact rfl;exactλ_ hw=>(p2 hw))|refine zgd ?_|(refine zge ?_ ?_<;>intro _<;>try exact zo)|(refine zgh ?_;intro _)|fail)
  apply Yh H
  ·exact zk
  apply Yd;exact rfl;exact rfl;exact⟨rfl,rfl⟩
 |true=>
  rw[hb]at p2
  rw[Tf (by decide)]
  repeat'(first|((first|apply Yb Jz|apply Yc Jz);exact za;exact rfl;exactλ_ hw=>(p1 hw))|((first|apply Yb Yls|apply Yc Yls);exact za;exact rfl;exactλ_ hw=>(p2 hw))|refine zgd ?_|(refine zge ?_ ?_<;>intro _<;>try exact zo)|(refine zgh ?_;intro _)|fail)
  apply Yh H
  ·exact zk
  apply Yd;exact rfl;exact rfl;exact⟨rfl,rfl⟩
theorem U5{s:Spl}(h:Xm l s=0):lopE 32 l=0/\(1<=s.1/\s.1<=512)/\(1<=s.2/\s.2<=512)/\s.1+s.2<=l.2.2.2.2.1/\YgW l s<=l.2.2.2.2.2.2:=by
 unfold Xm at h
 split at h
 ·rename_i h1;exact absurd h h1
 rename_i h1
 split at h
 ·cases h
 rename_i h2
 have h1:=T8.1 h1
 have h3:=(Jn h1).2.1
 unfold fitS at h2
 simp only[Bool.not_eq_false,Tq]at h2
 exact⟨h1,by omega,by omega,h2.2.2.2.2.1,h2.2.2.2.2.2⟩
def flsS(l:Lop)(s:Spl):List Flw:=if Xm l s≠0 then []else [Y6 l s,Xk l s]
theorem Ya4(l:Lop)(s:Spl)(h:Xm l s=0)(hw:St B w0 H w):
 CX B w0 132 [lopV l,splV s] w λv K=>v=.tuple #[flwV (Y6 l s),flwV (Xk l s)]/\K=H:=by
 refine Ya Tryz.func132 Tryz.ntmps132 rfl rfl hw ?_
 obtain⟨h1,h2,h3,-⟩:=U5 h
 obtain⟨h4,h5,h6,h7⟩:=Jn h1
 unfold Y6 Xk
 rw[Rj (by omega)]
 unfold lopV splV flwV
 refine Y8 [many H] (λw hw=>hw.perm (.closeT H)) ?_
 repeat'(first|refine zgd ?_|(refine zgh ?_;intro _)|fail)
 apply O9 [0,1,2,3,4,5,6,7,8,9,10,11,12,13,14,15,16,17,18,19,20,21] [22] [true,true,true,true,true,true]
 kernel_rfl
 kernel_rfl
 exact zy
 (simp only[Ye,nthO];rfl)
 (simp only[Ye,nthO];rfl)
 repeat'(first|(apply Yj;try exact zl)|refine zgd ?_|(refine zgh ?_;intro _)|fail)
 apply Yz [0,1,2] [3] [true,true,false,false,true,true,true]
 kernel_rfl
 kernel_rfl
 exact zy
 (simp only[Ye,nthO];rfl)
 (simp only[Ye,nthO];rfl)
 repeat'(first|(apply Yj;try exact zl)|refine zgd ?_|fail)
 apply You T (H2:=H);(iterate 3 exact rfl);exact zm;exact zm;(iterate 4 exact rfl)
 ·intro w hw
  have h5:St B w0 [many H] w:=by
   revert w
   exact zk
  exact h5.perm (.openT H)
 exact⟨rfl,rfl⟩
theorem Ya2(l:Lop)(s:Spl)(hw:St B w0 H w):
 CX B w0 58 [lopV l,splV s] w λv K=>∃A,v=.tuple #[.slice A (flsS l s).length (flsS l s).length,.int .i64 (Xm l s)]/\K=flws A (flsS l s).length (flsS l s)::H:=by
 refine Ya Tryz.func58 Tryz.ntmps58 rfl rfl hw ?_
 have p1:=λ{H':List HP}{w:World}(hw:St B w0 H' w)=>Ya6 l s hw
 unfold flsS
 by_cases h:Xm l s=0
 rotate_left
 ·rw[Tm h]
  unfold lopV splV at p1⊢
  repeat'(first|((first|apply Yb YeG|apply Yc YeG);exact za;exact rfl;exactλ_ hw=>(p1 hw))|refine zgb ?_|(refine zge ?_ ?_<;>intro _<;>try exact zo)|(refine zgh ?_;intro _)|fail)
  apply Yh H
  ·exact zk
  apply Xg 66 6
  apply Yu;(iterate 3 exact rfl);exact⟨none,rfl,rfl⟩
 rw[Tf (λe=>e h)]
 have p2:=λ{H':List HP}{w:World}(hw:St B w0 H' w)=>Ya4 l s h hw
 rw[h]at p1⊢
 obtain⟨a,ha⟩:∃a,Y6 l s=a:=⟨_,rfl⟩
 obtain⟨b,hb⟩:∃b,Xk l s=b:=⟨_,rfl⟩
 rw[ha,hb]at p2⊢
 unfold lopV splV at p1⊢
 unfold lopV splV flwV at p2
 repeat'(first|((first|apply Yb YeG|apply Yc YeG);exact za;exact rfl;exactλ_ hw=>(p1 hw))|((first|apply Yb Ylj|apply Yc Ylj);exact za;exact rfl;exactλ_ hw=>(p2 hw))|refine zgc ?_|(refine zge ?_ ?_<;>intro _<;>try exact zo)|(refine zgh ?_;intro _)|fail)
 rename_i g
 apply Yh (flws (some ⟨g,0,none⟩) 2 [a,b]::H)
 ·intro w hw
  have h5:St B w0 (blk g (.cells #[.int .i64 a.1,.int .i64 a.2.1,.int .i64 a.2.2.1,.int .i64 a.2.2.2.1,.int .i64 a.2.2.2.2.1,.int .i64 a.2.2.2.2.2,.int .i64 b.1,.int .i64 b.2.1,.int .i64 b.2.2.1,.int .i64 b.2.2.2.1,.int .i64 b.2.2.2.2.1,.int .i64 b.2.2.2.2.2] 66 (0,0))::H) w:=by
   revert w
   exact zk
  exact h5.blk_sl (cs:=[a,b].flatMap flwF) (len:=2) (size:=6) rfl (by omega)
 apply Yu;(iterate 3 exact rfl);exact⟨_,rfl,rfl⟩
abbrev spls(A:Option Addr)(cap:Nat)(l:List Spl):HP:=sl 81 2 A l.length cap (l.flatMap splF)
abbrev lops(A:Option Addr)(cap:Nat)(l:List Lop):HP:=sl 79 7 A l.length cap (l.flatMap lopF)
theorem YnT(A:Option Addr)(cap:Nat)(l:List Spl)(a b:Int):sl 81 2 A (l.length+1) cap (l.flatMap splF++#[.int .i64 a,.int .i64 b].toList)=spls A cap (l++[(a,b)]):=by simp[spls,List.flatMap_append,splF]
def YiT(l:Lop):List Spl:=if lopE 32 l≠0 then []else Zj l
structure LsM where
 i:Nat
 A:Option Addr
 cap:Nat
theorem Ygi(l:Lop)(hw:St B w0 H w):
 CX B w0 112 [lopV l] w λv K=>∃A cap,v=.tuple #[.slice A (YiT l).length cap,.int .i64 (lopE 32 l)]/\K=spls A cap (YiT l)::H:=by
 refine Ya Tryz.func112 Tryz.ntmps112 rfl rfl hw ?_
 have p1:=λ{H':List HP}{w:World}(hw:St B w0 H' w)=>V3 32 l hw
 unfold YiT
 by_cases h:lopE 32 l=0
 rotate_left
 ·rw[Tm h]
  unfold lopV at p1⊢
  repeat'(first|((first|apply Yb Jz|apply Yc Jz);exact za;exact rfl;exactλ_ hw=>(p1 hw))|refine zgb ?_|(refine zge ?_ ?_<;>intro _<;>try exact zo)|(refine zgh ?_;intro _)|fail)
  apply Yh H
  ·exact zk
  apply Xg 81 2
  apply Yu;(iterate 3 exact rfl);exact⟨none,0,rfl,rfl⟩
 rw[Tf (λe=>e h)]
 obtain⟨h4,h5,h6,h7⟩:=Jn h
 rw[h]at p1⊢
 unfold Zj
 obtain⟨S,hS⟩:∃S,sumS l=S:=⟨_,rfl⟩
 rw[hS]
 unfold sumS at hS
 obtain⟨n,hn⟩:∃n:Nat,max (S-1) 0=n:=⟨(max (S-1) 0).toNat,by omega⟩
 rw[hn,Rq]
 obtain⟨f,hf⟩:∃f:Nat->Spl,(λi:Nat=>((i:Int)+1,S-1-(i:Int)))=f:=⟨_,rfl⟩
 have hfi:∀i:Nat,f i=((i:Int)+1,S-1-(i:Int)):=λi=>by rw[<-hf]
 rw[hf]
 have hfs:∀i:Nat,((List.range i).map f).length=i:=λi=>by rw[Tv,List.length_range]
 unfold lopV at p1⊢
 repeat'(first|((first|apply Yb Jz|apply Yc Jz);exact za;exact rfl;exactλ_ hw=>(p1 hw))|(apply Yra;(iterate 3 exact rfl))|(apply Qb;(iterate 3 exact rfl))|refine zgd ?_|(refine zge ?_ ?_<;>intro _<;>try exact zo)|(refine zgh ?_;intro _)|fail)
 rename_i g1
 rw[hS,hn]
 refine Xf 81 2 ?_
 refine Yi (λz:LsM=>[(25,.int .i64 (z.i:Nat)),(24,.int .i64 (n:Nat)),(5,.int .i64 S),(6,.slice z.A ((List.range z.i).map f).length z.cap)]) (λz=>spls z.A z.cap ((List.range z.i).map f)::H) (λz=>z.i<=n) (λz=>n-z.i) ⟨0,none,0⟩ (Ti _) ?_ ?_ ?_
 ·exact zu
 ·intro w hw
  have h5:St B w0 (sl 81 2 none 0 0 []::H) w:=by
   revert w
   exact zk
  exact h5
 rintro⟨i,A2,cap2⟩ hi K hK
 dsimp only at hi⊢
 by_cases hlt:i<n
 ·have hst:(List.range (i+1)).map f=(List.range i).map f++[f i]:=by rw[RL,TP];rfl
  have hfi:=hfi i
  have hil:=hfs i
  generalize(List.range i).map f=L at hst hil⊢
  repeat'(first|refine zgd ?_|(refine zge ?_ ?_<;>intro _<;>try exact zo)|(refine zgh ?_;intro _)|(refine zgi ?_;intro _ _)|fail)
  rename_i A' cap'
  rw[YnT,<-hfi,<-hst,show L.length+1=((List.range (i+1)).map f).length by rw[hst];simp]
  apply hK ⟨i+1,A',cap'⟩
  ·show i+1<=_
   omega
  ·dsimp only;omega
  ·exact zu
  ·exact zk
 ·obtain rfl:i=n:=by omega
  repeat'(first|refine zgc ?_|(refine zge ?_ ?_<;>intro _<;>try exact zo)|fail)
  apply Yu;(iterate 3 exact rfl)
  exact⟨A2,cap2,rfl,rfl⟩
structure CSet(es:YZ)(p:Cel->Bool):Prop where
 len:∀e∈es,e.1.length=5
 val:∀e∈es,e.2.1=.bool true
 mem:∀c,vget es (nums c)=if p c=true then some (.bool true)else none
theorem CSet.nil:CSet [] λ_=>false:=⟨(λe h=>by cases h),(λe h=>by cases h),λc=>rfl⟩
variable {A:Option Addr}{cap B k gv:Nat}{w0 w:World}{H:List HP}
theorem YiA(q:List RqM)(hl:q.length<=1000000000000)(hr:Rd B w0 H A (q.flatMap rqF))(hw:St B w0 H w):
 CX B w0 206 [.slice A q.length cap] w λv K=>∃A2 cap2,v=.slice A2 (RqM.fl q).length cap2/\K=flws A2 cap2 (RqM.fl q)::H:=by
 refine Ya Tryz.func206 Tryz.ntmps206 rfl rfl hw ?_
 repeat'(first|refine zgb ?_|fail)
 refine Xf 66 6 ?_
 refine Yi (λz:FlM=>[(8,.int .i64 (z.i:Nat)),(7,.int .i64 q.length),(6,.slice A q.length cap),(3,.slice z.A (RqM.fl (q.take z.i)).length z.cap)]) (λz=>flws z.A z.cap (RqM.fl (q.take z.i))::H) (λz=>z.i<=q.length) (λz=>q.length-z.i) ⟨0,none,0⟩ (Ti _) ?_ (λw hw=>hw) ?_
 ·exact zu
 rintro⟨i,A2,cap2⟩ hi K hK
 dsimp only at hi⊢
 have hlen:(RqM.fl (q.take i)).length=i:=by grind [Go.Proofs.YtjlgijpmnfabcaaGreatDoor.RqM.fl]
 have hr':=hr.cons (X:=flws A2 cap2 (RqM.fl (q.take i)))
 by_cases hlt:i<q.length
 ·obtain⟨x,hx⟩:∃x,q[i]? =some x:=⟨_,Ta hlt⟩
  have hst:RqM.fl (q.take (i+1))=RqM.fl (q.take i)++[x.f]:=by grind [Go.Proofs.YtjlgijpmnfabcaaGreatDoor.RqM.fl,TF]
  repeat'(first|(apply Yf T;exact rfl;exact zm;exact rfl;exact zv;exact rfl;exact rfl)|refine zgd ?_|(refine zge ?_ ?_<;>intro _<;>try exact zo)|(refine zgh ?_;intro _)|(refine zgi ?_;intro _ _)|fail)
  rename_i A' cap'
  rw[Uu,<-hst,show(RqM.fl (q.take i)).length+1=(RqM.fl (q.take (i+1))).length from by rw[hst];simp]
  apply hK ⟨i+1,A',cap'⟩
  ·show i+1<=_
   omega
  ·dsimp only;omega
  ·exact zu
  ·exact zk
 ·obtain rfl:i=q.length:=by omega
  rw[TL]
  repeat'(first|refine zgc ?_|(refine zge ?_ ?_<;>intro _<;>try exact zo)|fail)
  apply Yd;exact rfl;exact rfl
  exact⟨A2,cap2,rfl,rfl⟩
theorem Yex(a:RqM)(f:Flw)(hw:St B w0 H w):
 CX B w0 204 [rqV a,flwV f] w λv K=>v=.int .i64 (cmpI a.f.1 f.1)/\K=H:=by
 refine Ya Tryz.func204 Tryz.ntmps204 rfl rfl hw ?_
 unfold rqV flwV
 repeat'(first|((first|apply Yb en73|apply Yc en73);exact za;exact rfl;exactλ_ hw=>(JP _ _ hw))|refine zgb ?_|(refine zgh ?_;intro _)|fail)
 apply Yh H
 ·exact zk
 apply Yd;exact rfl;exact rfl
 exact⟨rfl,rfl⟩
theorem cmpI_zero{a b:Int}:cmpI a b=0↔a=b:=by
 unfold cmpI
 omega
theorem YgI(l:List RqM)(c:Flw)(ho:YkY l)(hlen:l.length<=1000000000)(hr:Rd B w0 H A (l.flatMap rqF))(hw:St B w0 H w):
 CX B w0 203 [.slice A l.length cap,flwV c,.func (.func 204) #[] #[]] w λv K=>
  v=.tuple #[.int .i64 (posQ (l.map RqM.rq) c.1:Nat),.bool (hasQ (l.map RqM.rq) c.1)]/\K=H:=by
 refine Ya Tryz.func203 Tryz.ntmps203 rfl rfl hw ?_
 (apply Y7;apply YM;apply YO;exact rfl;exact rfl;intro g)
 refine zX7 ?_
 have hr:=hr.cons (X:=blk g (.cells (flwF c).toArray 66 (0,0)))
 refine Uf (λ(lo hi:Nat)=>[(9,.int .i64 lo),(10,.int .i64 hi),(8,.int .i64 l.length),(0,.slice A l.length cap),(2,.func (.func 204) #[] #[]),(4,.pointer (some ⟨g,0,none⟩))]) (λ_ _=>blk g (.cells (flwF c).toArray 66 (0,0))::H)
  (λlo hi=>lo<=hi/\hi<=l.length/\(∀i x,i<lo->l[i]? =some x->x.f.1<c.1)/\(∀i x,hi<=i->l[i]? =some x->¬x.f.1<c.1)) (λlo hi=>hi-lo) 0 l.length ⟨by omega,by omega,λj x hj=>by omega,λj x h1 h2=>by simp_all⟩ ?_ (λw hw=>hw) ?_
 ·exact zc1
 rintro lo hi ⟨h1,h2,h3,h4⟩ K hK
 by_cases hlt:lo<hi
 ·obtain⟨b,hb⟩:∃b,l[(((lo:Int)+hi)/2).toNat]? =some b:=⟨_,Ta (by omega)⟩
  have hm:(((lo:Int)+hi)/2).toNat=(lo+hi)/2:=by omega
  have hb2:l[(lo+hi)/2]? =some b:=by grind
  repeat'(first|((first|apply YK (cs:=[])|apply YU (cs:=[]));exact rfl;exact YsW;exact za;exact rfl;exactλ_ hw=>(Yex b c hw))|(apply zg28;refine zs84 ?_)|refine zgd ?_|(refine zge ?_ ?_<;>intro _<;>try exact zo)|fail)
  ·rename_i hc
   rw[Oe]at hc
   apply hK ((lo+hi)/2+1) hi
   ·exact zc60
   ·omega
   ·exact zc1
   exact zc21
  ·rename_i hc
   have hc:¬b.f.1<c.1:=λh=>by have:=Oe.2 h;omega
   apply hK lo ((lo+hi)/2)
   ·exact zc53
   ·omega
   ·exact zc1
   exact zc21
 ·obtain rfl:lo=hi:=by omega
  have hpe:posQ (l.map RqM.rq) c.1=lo:=YdJ (by rw[Tv];exact h2) (λi x hi hx=>by
   rw[TS]at hx
   cases hl:l[i]? with
   |none=>rw[hl]at hx;cases hx
   |some y=>rw[hl]at hx;cases hx;exact h3 i y hi hl) λx hx=>by
   rw[TS]at hx
   cases hl:l[lo]? with
   |none=>rw[hl]at hx;cases hx
   |some y=>exact YuA
  rw[hpe]
  have hfd:hasQ (l.map RqM.rq) c.1=true↔∃b,l[lo]? =some b/\b.f.1=c.1:=by
   unfold hasQ
   rw[Rf]
   constructor
   ·rintro⟨x,hx,he⟩
    obtain⟨b,hb,rfl⟩:=TD.1 hx
    have he:b.f.1=c.1:=TV he
    obtain⟨j,hj⟩:=TN.1 hb
    rcases RZ j lo with h|rfl|h
    ·have:=h3 j b h hj;omega
    ·exact⟨b,hj,he⟩
    ·obtain⟨d,hd⟩:∃d,l[lo]? =some d:=⟨_,Ta (by have:=(Tc.1 hj).1;omega)⟩
     have:=ho lo j d b h hd hj
     have:=h4 lo d (TM _) hd
     omega
   ·rintro⟨b,hb,he⟩
    exact⟨b.rq,RA (Td hb),Tj he⟩
  by_cases hl:lo<l.length
  ·obtain⟨b,hb⟩:∃b,l[lo]? =some b:=⟨_,Ta hl⟩
   repeat'(first|((first|apply YK (cs:=[])|apply YU (cs:=[]));exact rfl;exact YsW;exact za;exact rfl;exactλ_ hw=>(Yex b c hw))|(apply zg28;refine zs84 ?_)|refine zgd ?_|(refine zgf ?_ ?_<;>intro _<;>try exact zo)|fail)
   ·rename_i h
    apply Yl;apply Yu;(iterate 3 exact rfl)
    exact⟨by rw[hfd.2 ⟨b,hb,cmpI_zero.1 h⟩],rfl⟩
   ·rename_i h
    apply Yl;apply Yu;(iterate 3 exact rfl)
    have hf0:hasQ (l.map RqM.rq) c.1=false:=Sl.2 λe=>by
     obtain⟨b',hb',he⟩:=hfd.1 e
     rw[hb]at hb'
     obtain rfl:=Tn hb'
     exact h (cmpI_zero.2 he)
    exact⟨by rw[hf0],rfl⟩
  ·refine zX17 ?_<;>intros
   apply Yl;apply Yu;(iterate 3 exact rfl)
   have hf0:hasQ (l.map RqM.rq) c.1=false:=Sl.2 λe=>by
    obtain⟨b',hb',he⟩:=hfd.1 e
    exact hl (Tc.1 hb').1
   exact⟨by rw[hf0],rfl⟩
section
variable {m:Eng.Mode}{n:Shp}{B d:Nat}{w0:World}{ops:Array Oper}{Q:Exit->Act->World->Prop}{rest:List Oper}{env:Env}{H:List HP}{ty:TypeId}{pos:String}{after:Array Edge}{x y lo:Operand}
variable {gv k cap:Nat}
theorem YfP{g o la ca lb cb:Nat}{tt:TypeId}{cs:Array Value}{xs:List Value}{tys:Array TypeId}(hx:evo env x=some (.slice (some ⟨gv,0,none⟩) la ca))(hy:evo env y=some (.slice (subA (some ⟨g,0,none⟩) o cap 6) lb cb))(hm1:Eng.blk gv (.cells cs tt (0,0))∈H)(hm2:sl 66 6 (some ⟨g,0,none⟩) k cap xs∈H)
 (hne:∀w,St B w0 H w->gv≠g) (hc:0<cap/\cap≠o) (hn:Nat.ble (d+1) n.k=true) (h:VL Tryz.prog none n B w0 ops Q rest ((d,.bool false)::env) H):
 VL Tryz.prog none n B w0 ops Q (⟨some d,.call ⟨.value (.func 289),#[x,y],tys⟩,ty,pos,after,none⟩::rest) env H:=by
 have hsub:subA (some ⟨g,0,none⟩) o cap 6=some ⟨g,o*6,none⟩:=by
  unfold subA
  rw[Tf hc.2,RP,Addr.add_lit,RV]
 rw[hsub]at hy
 refine Xi (λu K'=>u=.bool false/\K'=H) rfl rfl hn (λa w ha hw=>⟨.bool false,H,w,?_,hw,rfl,rfl⟩) (by rintro _ _ ⟨rfl,rfl⟩;exact h)
 have hb:=(hw.blk hm1).1
 rcases ZF (hw.sl hm2)with⟨h0,_⟩|⟨g',cur,e0,g1,_,_,g4,_⟩
 ·cases h0
 injection e0 with e0
 injection e0 with e0
 subst e0
 obtain⟨bb,htl⟩:∃bb,Eng.look T.sl 64=some (66,6,bb):=⟨_,rfl⟩
 obtain⟨_,inf,_,hi,_,_,hsi,_⟩:=YJ (T.slic htl)
 have hr:=run_callFunc_extern (P:=Tryz.prog) Tryz.func289 (by kernel_rfl) (by kernel_rfl) (by kernel_rfl) (e:=Extern.SlicesOverlaps.overlaps #[64,64] #[4]) (by kernel_rfl) #[.slice (some ⟨gv,0,none⟩) la ca,.slice (some ⟨g,o*6,none⟩) lb cb] w
 have hov:=Lib.run_overlaps_apart (P:=Tryz.prog) w 64 4 66 Tryz.underlying64 6 (λw=>by simp[sizeOf,typeInfo,hi,hsi]) ⟨gv,0,none⟩ ⟨g,o*6,none⟩ la ca lb cb (hne w hw) tt 66 cs.size cur.size (by simp[World.shape?,hb]) (by simp[World.shape?,g1]) (by rw[g4];omega) (by simp[World.frozen?,hb]) (by simp[World.frozen?,hb])
 have he:a.eval (.func 289)=.func (.func 289) #[] #[]:=rfl
 simp[execOp,resolve,invoke,ha.eval hx,ha.eval hy,he,Deferred.ofValue,hr,hov,Result.andThen]
end
theorem YrE(l:List Flw)(c:Flw)(i:Nat)(hk:k=1):(l.take i).take i++[c].take k++(l.take i).drop (i+k)=l.take i++[c]:=by
 grind [Rw]
theorem YrG(l:List Flw)(c:Flw)(i:Nat)(hi:i<=l.length)(hk:k=l.length-i):(l.take i++[c]).take (i+1)++(l.drop i).take k++(l.take i++[c]).drop (i+1+k)=l.take i++c::l.drop i:=Yq0
theorem YrI(l:List Flw)(i:Nat)(hi:i<=l.length)(hk:k=l.length-i):l.take (i+1)++(l.drop i).take k++l.drop (i+1+k)=l.take (i+1)++l.drop i:=YqT
theorem YrK(l:List Flw)(c:Flw)(i:Nat)(hi:i<l.length)(hk:k=1):(l.take (i+1)++l.drop i).take i++[c].take k++(l.take (i+1)++l.drop i).drop (i+k)=l.take i++c::l.drop i:=by
 grind
theorem Ye2(l:List Flw)(c:Flw)(i:Nat)(hi:i<=l.length):(l.take i++c::l.drop i).length=l.length+1:=by
 grind
theorem Ygg(l:List Flw)(i:Nat)(c:Flw)(hi:i<=l.length)(hlen:l.length<=1000)(hw:St B w0 (flws A cap l::blk gv (.cells #[.int .i64 c.1,.int .i64 c.2.1,.int .i64 c.2.2.1,.int .i64 c.2.2.2.1,.int .i64 c.2.2.2.2.1,.int .i64 c.2.2.2.2.2] 66 (0,0))::H) w):
 CX B w0 205 [.slice A l.length cap,.int .i64 i,.slice (some ⟨gv,0,none⟩) 1 1] w λv K=>∃A' cap',v=.slice A' (l.take i++c::l.drop i).length cap'/\K=flws A' cap' (l.take i++c::l.drop i)::H:=by
 refine Ya Tryz.func205 Tryz.ntmps205 rfl rfl hw ?_
 refine Oa (k:=l.length) (cap:=cap) (by(focus exact zc2)) λhcap=>?_
 have hli:=Ye2 l c i hi
 have hrv:∀{L:List HP},blk gv (.cells #[.int .i64 c.1,.int .i64 c.2.1,.int .i64 c.2.2.1,.int .i64 c.2.2.2.1,.int .i64 c.2.2.2.2.1,.int .i64 c.2.2.2.2.2] 66 (0,0))∈L->Rd B w0 L (some ⟨gv,0,none⟩) (([c]:List Flw).flatMap flwF):=λh=>by
  have h1:=Rd.blk (B:=B) (w0:=w0) (cs:=(flwF c).toArray) h
  rw[show([c]:List Flw).flatMap flwF=(flwF c).toArray.toList by simp]
  exact h1
 have hq6:∀c:Flw,(flwF c).length=6:=λ_=>rfl
 have ho6:∀c:Flw,ZX (flwF c)=true:=λ_=>rfl
 refine zX3 ?_
 apply Yt T i (l.length-i);(iterate 5 exact rfl);exact hi;exact rfl
 by_cases hin:i=l.length
 ·have e1:l.take i++c::l.drop i=l++[c]:=YqX
  rw[e1]
  refine YqJ ?_<;>intros
  rename_i A' cap'
  apply Yh (flws A' cap' (l++[c])::H)
  ·intro w hw
   rw[<-Uu]
   revert w
   exact zc0
  exact zc73
 have hlt:i<l.length:=by omega
 have hrs:∀{L:List HP}{g:Nat},sl 66 6 (some ⟨g,0,none⟩) l.length cap (l.flatMap flwF)∈L->Rd B w0 L (subA (some ⟨g,0,none⟩) i cap 6) ((l.drop i).flatMap flwF):=λh=>by
  have h1:=Rd.sub (B:=B) (w0:=w0) (q:=6) (o:=i) (k:=l.length-i) (cap:=cap) hq6 (Rd.sl h) hcap
  exact zc92
 apply Ybw (k:=l.length) (by(focus exact zc2)) (by omega)
 rintro g rfl
 have hA:∃g',(some ⟨g,0,none⟩:Option Addr)=some ⟨g',0,none⟩:=⟨g,rfl⟩
 repeat'(first|(apply UK T;(iterate 3 exact rfl))|refine zgc ?_|(refine zgf ?_ ?_<;>intro _<;>try exact zo)|fail)
 ·apply Zw T (n':=i);(iterate 4 exact rfl);omega;omega;exact hA
  refine zX2 ?_
  rw[show(l.length:Int)+((1:Nat):Int)-(i:Int)=((l.length+1-i:Nat):Int) by omega]
  apply Ww T (e:=66) (size:=6) (k:=l.length) (xs:=l.flatMap flwF);exact rfl;exact rfl;(focus exact zc2);exact rfl;kernel_rfl;exact rfl;kernel_rfl;omega;intro g2 c2 hc2
  rw[show i+(l.length+1-i)=l.length+1 by omega]at hc2⊢
  have e2:sl 66 6 (some ⟨g2,0,none⟩) i c2 ((l.flatMap flwF).take (i*6))=sl 66 6 (some ⟨g2,0,none⟩) (l.take i).length c2 ((l.take i).flatMap flwF):=by
   rw[Xz hq6,TK,Ss hi]
  rw[e2]
  have hA2:∃g',(some ⟨g2,0,none⟩:Option Addr)=some ⟨g',0,none⟩:=⟨g2,rfl⟩
  have htl:(l.take i).length=i:=YdS
  refine zX3 ?_
  apply Yt T i (l.length+1-i);(iterate 5 exact rfl);omega;exact rfl
  refine zX3 ?_
  apply Zb T (l.take i) [c] (l.take i++[c]) (f:=flwF) (o:=i) (cap:=c2);exact rfl;exact rfl;exact hrv (by(focus exact zc2));exact hq6;exact ho6;exact rfl;exact rfl;exact hA2;(simp only[TO];omega);exact YrE l c i (by omega);exact zd
  refine zX3 ?_
  apply Yz [0,1,2,3,4,5,6,7] [8] [true,true,true]
  kernel_rfl
  kernel_rfl
  exact zy
  (simp only[Ye,nthO];rfl)
  (simp only[Ye,nthO];rfl)
  refine zX9 ?_
  apply Yt T (i+1) (l.length+1-(i+1));(iterate 4 exact rfl);omega;omega;exact rfl
  refine zX3 ?_
  apply Yt T i (l.length-i);(iterate 5 exact rfl);omega;exact rfl
  refine zX2 ?_
  apply Zb T (l.take i++[c]) (l.drop i) (l.take i++c::l.drop i) (f:=flwF) (o:=i+1) (cap:=c2);exact rfl;exact rfl;exact hrs (by(focus exact zc2));exact hq6;exact ho6;exact rfl;exact rfl;exact hA2;(simp only[Tt,TK,TO,Rk];omega);exact YrG l c i hi (by omega);exact zd
  refine zX2 ?_
  apply Yh (flws (some ⟨g2,0,none⟩) c2 (l.take i++c::l.drop i)::H)
  ·exact zc0
  exact YqM
 ·apply Zw T (n':=l.length+1);(iterate 4 exact rfl);omega;omega;exact hA
  refine zX9 ?_
  apply Yt T (i+1) (l.length+1-(i+1));(iterate 4 exact rfl);omega;omega;exact rfl
  apply YfP (gv:=gv) (g:=g) (o:=i+1) (cap:=cap) (k:=l.length) (xs:=l.flatMap flwF);exact rfl;exact rfl;(focus exact zc2);(focus exact zc2);exactλw hw=>Q7 (hw.perm (.swap _ _ _));omega;exact rfl
  refine zX2 ?_
  apply Yz [0,1,2,3,4,5,6,7] [8] [true,true]
  kernel_rfl
  kernel_rfl
  exact zy
  (simp only[Ye,nthO];rfl)
  (simp only[Ye,nthO];rfl)
  refine zX9 ?_
  apply Yt T (i+1) (l.length+1-(i+1));(iterate 4 exact rfl);omega;omega;exact rfl
  refine zX3 ?_
  apply Yt T i (l.length+1-i);(iterate 5 exact rfl);omega;exact rfl
  refine zX2 ?_
  apply Zb T l (l.drop i) (l.take (i+1)++l.drop i) (f:=flwF) (o:=i+1) (cap:=cap);exact rfl;exact rfl;exact hrs (by(focus exact zc2));exact hq6;exact ho6;exact rfl;exact rfl;exact hA;(simp only[Rk];omega);exact YrI l i hi (by omega);exact zd
  refine zX2 ?_
  apply Yt T i (l.length+1-i);(iterate 5 exact rfl);omega;exact rfl
  refine zX3 ?_
  apply Zb T (l.take (i+1)++l.drop i) [c] (l.take i++c::l.drop i) (f:=flwF) (o:=i) (cap:=cap);exact rfl;exact rfl;exact hrv (by(focus exact zc2));exact hq6;exact ho6;exact rfl;exact rfl;exact hA;(simp only[Tt,TK,TO,Rk];omega);exact YrK l c i hlt (by omega);exact zd
  refine zX7 ?_
  apply Yh (flws (some ⟨g,0,none⟩) cap (l.take i++c::l.drop i)::H)
  ·exact zc0
  exact zc99
end Go.Proofs.YtjlgijpmnfabcaaGreatDoor
namespace Go.Eng
open Go.RowKit
section
variable {P:Program}{m:Mode}{n:Shp}{B:Nat}{w0:World}{ops:Array Oper}{Q:Exit->Act->World->Prop}{rest:List Oper}{env:Env}{H:List HP}{d:Nat}{ty:TypeId}{pos:String}{after:Array Edge}{x y:Operand}
variable {k:Nat}
theorem Yaz(T:Tab P){t tn e size bytes:Nat}(hx:evo env x=some (.slice none 0 0))(hy:evo env y=some (.int .i64 (k:Int)))(ht:look T.sl t=some (e,size,bytes))(htn:Ygh P tn=true)(hn:Nat.ble (d+1) n.k=true)(hb:Nat.ble bytes 1000=true)(hk:0<k/\k<=1000000)
 (h:∀g c,k<=c->VL P none n B w0 ops Q rest ((d,.slice (some ⟨g,0,none⟩) k c)::env) (sl e size (some ⟨g,0,none⟩) 0 c []::H)):VL P none n B w0 ops Q (⟨some d,.call ⟨.builtin .append,#[x,y],#[t,tn]⟩,ty,pos,after,none⟩::rest) env H:=by
 obtain⟨hu,i,z,hi,hz,hzs,hsi,hbi,_,_⟩:=YJ (T.slic ht)
 obtain⟨kn,hkn⟩:=YaZ htn
 have hb':=T9 hb
 refine Xi (λv K=>∃g c,v=.slice (some ⟨g,0,none⟩) k c/\K=sl e size (some ⟨g,0,none⟩) 0 c []::H/\k<=c) rfl rfl hn (λa w ha hw=>?_) (by rintro _ _ ⟨g,c,rfl,rfl,hc⟩;exact h g c hc)
 have hbytes:k*i.bytes<=281474976710656:=by
  have:k*i.bytes<=k*1000:=Nat.mul_le_mul_left _ (by omega)
  omega
 have hrun:=Lib.run_append_nil_zeros (P:=P) w t tn ty e i z .i64 kn hu hkn hi hz k hk.1 (by omega) (by omega) hbytes
 have hge:=grownCap_ge w k 0 e
 have hcm:grownCap w k 0 e<=maxLen:=grownCap_le_maxLen w k 0 e (by simp only[maxLen];omega)
 refine⟨_,_,_,by simp only[execOp,resolve,invoke,builtin,ha.eval hx,ha.eval hy,List.map_toArray,Ro,Nh,Sem.run_bind,Sem.run_pure,hrun,Result.andThen_ok];rfl,?_,w.heap.size,grownCap w k 0 e,rfl,rfl,hge⟩
 have h2:=hw.drew.alloc (.cells (Builtin.zeroCells z.cells k++Builtin.zeroCells z.cells (grownCap w k 0 e-k)) e)
 refine h2.upd (Upd.here _) rfl rfl rfl (TM _) λS1 ⟨h3,h4⟩=>⟨⟨⟨by simp,.inr ⟨w.heap.size,grownCap w k 0 e,_,rfl,Ti _,h4,Ti _,hcm,?_,by simp⟩⟩,λa ha=>by cases ha;exact h3⟩,λ_ _ _=>rfl⟩
 rw[Array.size_append,size_zeroCells,size_zeroCells,hzs,<-SV,Nat.add_sub_cancel' hge]
end
end Go.Eng
namespace Go.Proofs.YtjlgijpmnfabcaaGreatDoor
open Go.RowKit Go.Eng Go.Nw Go.Rt
def slF{α:Type}(r:SlM α):List Value:=[.slice r.A r.xs.length r.cap]
def catS{α:Type}(rs:List (SlM α)):List α:=rs.flatMap λr=>r.xs
variable {α:Type}{k B cap:Nat}
theorem Oc{rs:List (SlM α)}{r:SlM α}(h:rs[k]? =some r):catS (rs.take (k+1))=catS (rs.take k)++r.xs:=by
 unfold catS
 rw[TF,h,RE,TR,List.flatMap_singleton]
theorem YbA(rs:List (SlM α))(k:Nat):(catS (rs.take k)).length<=(catS rs).length:=by
 have e:catS rs=catS (rs.take k)++catS (rs.drop k):=by unfold catS;rw[<-TR,Rx]
 rw[e,Tt];omega
variable {w0 w:World}{H:List HP}
theorem Yh4(k:Nat)(hk:k<=1000000)(hw:St B w0 H w):
 CX B w0 288 [.slice none 0 0,.int .i64 k] w λv K=>∃A c,v=.slice A 0 c/\K=sl 79 7 A 0 c []::H:=by
 refine Ya Tryz.func288 Tryz.ntmps288 rfl rfl hw ?_
 by_cases h0:k=0
 ·subst h0
  repeat'(first|(apply UK T;(iterate 3 exact rfl))|refine zgd ?_|(refine zge ?_ ?_<;>intro _<;>try exact zo)|fail)
  apply Xg 79 7
  apply Yd;exact rfl;exact rfl
  exact⟨none,0,rfl,rfl⟩
 ·skip
  repeat'(first|(apply UK T;(iterate 3 exact rfl))|refine zgd ?_|(refine zge ?_ ?_<;>intro _<;>try exact zo)|fail)
  apply Xq T (l:=([]:List Int)) (n':=0);(iterate 4 exact rfl);exact⟨RB _,RB _⟩;exact TM _;rfl
  rw[Z1,show((k:Int)-((0:Nat)-(0:Nat)):Int)=(k:Int) by omega]
  iterate 1 (first|refine zga ?_|fail)
  apply Yaz T (k:=k);(iterate 3 exact rfl);kernel_rfl;exact rfl;exact rfl;omega;intro g c hc
  repeat'(first|(apply Xq T (l:=List.replicate k (0:Int)) (n':=0);(rw[TQ];exact rfl);(iterate 3 exact rfl);omega;(rw[TQ];exact hc);omega)|refine zgb ?_|fail)
  rw[Z1]
  repeat'(first|fail)
  apply Yd;exact rfl;exact rfl
  exact⟨some ⟨g,0,none⟩,c,rfl,rfl⟩
variable {A:Option Addr}
theorem Yd5(rs:List (SlM Lop))(hrs:rs.length<=1000)(hct:(catS rs).length<=1000000)(hr:Rd B w0 H A (rs.flatMap slF))(hrr:∀r∈rs,Rd B w0 H r.A (r.xs.flatMap lopF))(hw:St B w0 H w):
 CX B w0 202 [.slice A rs.length cap] w λv K=>∃A' c,v=.slice A' (catS rs).length c/\(catS rs).length<=c/\K=sl 79 7 A' (catS rs).length c ((catS rs).flatMap lopF)::H:=by
 refine Ya Tryz.func202 Tryz.ntmps202 rfl rfl hw ?_
 repeat'(first|refine zgb ?_|fail)
 refine Yi (λ(k:Nat)=>[(11,.int .i64 k),(10,.int .i64 rs.length),(9,.slice A rs.length cap),(3,.int .i64 (catS (rs.take k)).length),(0,.slice A rs.length cap)]) (λ_=>H) (λk=>k<=rs.length) (λk=>rs.length-k) 0 (Ti _) ?_ (λw hw=>hw) ?_
 ·exact zu
 intro k hk K hK
 by_cases hlt:k<rs.length
 ·obtain⟨r,hx⟩:∃x,rs[k]? =some x:=⟨_,Ta hlt⟩
  have hst:=Oc hx
  have h1:=YbA rs (k+1)
  rw[hst,Tt]at h1
  repeat'(first|refine zgd ?_|(refine zge ?_ ?_<;>intro _<;>try exact zo)|fail)
  apply hK (k+1)
  ·omega
  ·omega
  ·rw[hst,Tt,Int.natCast_add];exact zu
  ·exactλw hw=>hw
 ·obtain rfl:k=rs.length:=by omega
  clear hK
  rw[TL]
  repeat'(first|refine zgc ?_|(refine zge ?_ ?_<;>intro _<;>try exact zo)|fail)
  apply Yg _ Ywj
  exact za
  exact rfl
  exactλ_ hw=>(Yh4 (catS rs).length (by omega) (hw))
  rintro _ _ ⟨A0,c0,rfl,rfl⟩
  repeat'(first|refine zgb ?_|fail)
  refine Yi (λ(z:LsM)=>[(27,.int .i64 z.i),(26,.int .i64 rs.length),(25,.slice A rs.length cap),(6,.slice z.A (catS (rs.take z.i)).length z.cap)]) (λz=>sl 79 7 z.A (catS (rs.take z.i)).length z.cap ((catS (rs.take z.i)).flatMap lopF)::H) (λz=>z.i<=rs.length) (λz=>rs.length-z.i) ⟨0,A0,c0⟩ (Ti _) ?_ (λw hw=>hw) ?_
  ·exact zu
  rintro⟨k,A1,c1⟩ hk K hK
  simp only at hk⊢
  by_cases hlt:k<rs.length
  ·obtain⟨r,hx⟩:∃x,rs[k]? =some x:=⟨_,Ta hlt⟩
   have hst:=Oc hx
   have h1:=YbA rs (k+1)
   rw[hst,Tt]at h1
   have hrx:=hrr r (Td hx)
   obtain⟨C,hC⟩:∃C,catS (rs.take k)=C:=⟨_,rfl⟩
   rw[hC]at hst h1⊢
   repeat'(first|refine zgd ?_|(refine zge ?_ ?_<;>intro _<;>try exact zo)|fail)
   apply Xn T (f:=lopF) (l2:=r.xs) (e:=79) (size:=7) (xs:=C.flatMap lopF);(iterate 3 exact rfl);exact hrx.cons;exact(λ_=>rfl);exact(λ_=>rfl);exact rfl;(intro _ _;exact zd);omega;intro A' cap'
   repeat'(first|refine zgc ?_|fail)
   apply hK ⟨k+1,A',cap'⟩
   ·simp only;omega
   ·simp only;omega
   ·dsimp only
    rw[hst,Tt];exact zu
   ·dsimp only
    rw[hst,Tt,TR]
    exactλw hw=>hw
  ·obtain rfl:k=rs.length:=by omega
   clear hK
   rw[TL]
   refine Oa (k:=(catS rs).length) (cap:=c1) zm λhcap=>?_
   repeat'(first|refine zgc ?_|(refine zge ?_ ?_<;>intro _<;>try exact zo)|fail)
   apply Yd;exact rfl;exact rfl
   exact⟨A1,c1,rfl,hcap,rfl⟩
theorem Yi7(l:List Lop)(k:Nat)(x:Lop)(hk:k<=l.length)(hl:l.length<=1000)(hc:l.length<=cap)(hr:Rd B w0 H A (l.flatMap lopF))(hw:St B w0 H w):
 CX B w0 111 [.slice A l.length cap,.int .i64 k,lopV x] w λv K=>∃A' c,v=.slice A' (XL l k x).length c/\(XL l k x).length<=c/\K=sl 79 7 A' (XL l k x).length c ((XL l k x).flatMap lopF)::H:=by
 refine Ya Tryz.func111 Tryz.ntmps111 rfl rfl hw ?_
 have hop:∀w,St B w0 [many H] w->St B w0 H w:=λw hw=>hw.perm (.openT H)
 have hM:∀{H':List HP},many H∈H'->Rd B w0 H' A (l.flatMap lopF):=λhm=>hr.mono λw hw=>hw.inM hm
 have hq:∀c:Lop,(lopF c).length=7:=λ_=>rfl
 have p1:=λ(g gs:Nat) {H':List HP}{w:World}(hm:many H∈H') (h1:blk g (.cells #[.int .i64 x.1,.int .i64 x.2.1,.int .i64 x.2.2.1,.int .i64 x.2.2.2.1,.int .i64 x.2.2.2.2.1,.int .i64 x.2.2.2.2.2.1,.int .i64 x.2.2.2.2.2.2] 79 (0,0))∈H') (h2:blk gs (.cells #[.slice A k cap,.slice (some ⟨g,0,none⟩) 1 1,.slice (subA A k cap 7) (l.length-k) (cap-k)] 51 (0,0))∈H') (hw:St B w0 H' w)=>by
  have h0:=Yd5 [⟨A,cap,l.take k⟩,⟨some ⟨g,0,none⟩,1,[x]⟩,⟨subA A k cap 7,cap-k,l.drop k⟩] (by simp) (by simp only[catS,Rl,SX,Tt,TK,Rk,TZ,Rh];omega) (A:=some ⟨gs,0,none⟩) (cap:=3) (H:=H') (by
   have h3:=Rd.blk (B:=B) (w0:=w0) h2
   simp only[slF,Rl,SX,TK,Rk,TZ,Rh,Ss hk]
   exact h3) (λr hr=>by
   simp only[Rr,RN,NZ]at hr
   rcases hr with rfl|rfl|rfl
   ·exact(hM hm).take k hq
   ·have h3:=Rd.blk (B:=B) (w0:=w0) h1
    exact h3
   ·have h3:=(hM hm).sub (o:=k) (k:=l.length-k) hq hc
    rwa [TX (by rw[Rk];omega)]at h3) hw
  rw[show catS [⟨A,cap,l.take k⟩,⟨some ⟨g,0,none⟩,1,[x]⟩,⟨subA A k cap 7,cap-k,l.drop k⟩]=XL l k x by simp[catS,XL]]at h0
  exact h0
 unfold lopV
 refine Y8 [many H] (λw hw=>hw.perm (.closeT H)) ?_
 repeat'(first|refine zga ?_|(refine zgh ?_;intro _)|fail)
 apply Yz [0,1,2,3,5,6,7,4,8,9,10] [] [true,true]
 kernel_rfl
 kernel_rfl
 exact zy
 (simp only[Ye,nthO];rfl)
 exact rfl
 repeat'(first|(apply Xq T (l:=l) (n':=k);(iterate 4 exact rfl);omega;exact hc;omega;rw[Z1])|(apply Yt T k (l.length-k);(iterate 5 exact rfl);exact hk;exact rfl)|(apply Yj;try exact zl)|refine zgd ?_|(refine zgh ?_;intro _)|fail)
 rename_i g0 g gs
 apply Yg _ Yv5
 exact za
 exact rfl
 exactλ_ hw=>(p1 g gs zm zm zm (hw))
 rintro _ _ ⟨A',c,rfl,hcap,rfl⟩
 repeat'(first|(apply Yj;try exact zl)|refine zgd ?_|fail)
 apply Yh (sl 79 7 A' (XL l k x).length c ((XL l k x).flatMap lopF)::H)
 ·intro w hw
  have h5:St B w0 (sl 79 7 A' (XL l k x).length c ((XL l k x).flatMap lopF)::[many H]) w:=by
   revert w
   exact zk
  exact h5.perm (.cons _ (.openT H))
 apply Yd;exact rfl;exact rfl
 exact⟨A',c,rfl,hcap,rfl⟩
theorem Yh5(k:Nat)(hk:k<=1000000)(hw:St B w0 H w):
 CX B w0 296 [.slice none 0 0,.int .i64 k] w λv K=>∃A c,v=.slice A 0 c/\K=sl 81 2 A 0 c []::H:=by
 refine Ya Tryz.func296 Tryz.ntmps296 rfl rfl hw ?_
 by_cases h0:k=0
 ·subst h0
  repeat'(first|(apply UK T;(iterate 3 exact rfl))|refine zgd ?_|(refine zge ?_ ?_<;>intro _<;>try exact zo)|fail)
  apply Xg 81 2
  apply Yd;exact rfl;exact rfl
  exact⟨none,0,rfl,rfl⟩
 ·skip
  repeat'(first|(apply UK T;(iterate 3 exact rfl))|refine zgd ?_|(refine zge ?_ ?_<;>intro _<;>try exact zo)|fail)
  apply Xq T (l:=([]:List Int)) (n':=0);(iterate 4 exact rfl);exact⟨RB _,RB _⟩;exact TM _;rfl
  rw[Z1,show((k:Int)-((0:Nat)-(0:Nat)):Int)=(k:Int) by omega]
  iterate 1 (first|refine zga ?_|fail)
  apply Yaz T (k:=k);(iterate 3 exact rfl);kernel_rfl;exact rfl;exact rfl;omega;intro g c hc
  repeat'(first|(apply Xq T (l:=List.replicate k (0:Int)) (n':=0);(rw[TQ];exact rfl);(iterate 3 exact rfl);omega;(rw[TQ];exact hc);omega)|refine zgb ?_|fail)
  rw[Z1]
  repeat'(first|fail)
  apply Yd;exact rfl;exact rfl
  exact⟨some ⟨g,0,none⟩,c,rfl,rfl⟩
theorem Yd6(rs:List (SlM Spl))(hrs:rs.length<=1000)(hct:(catS rs).length<=1000000)(hr:Rd B w0 H A (rs.flatMap slF))(hrr:∀r∈rs,Rd B w0 H r.A (r.xs.flatMap splF))(hw:St B w0 H w):
 CX B w0 209 [.slice A rs.length cap] w λv K=>∃A' c,v=.slice A' (catS rs).length c/\(catS rs).length<=c/\K=sl 81 2 A' (catS rs).length c ((catS rs).flatMap splF)::H:=by
 refine Ya Tryz.func209 Tryz.ntmps209 rfl rfl hw ?_
 repeat'(first|refine zgb ?_|fail)
 refine Yi (λ(k:Nat)=>[(11,.int .i64 k),(10,.int .i64 rs.length),(9,.slice A rs.length cap),(3,.int .i64 (catS (rs.take k)).length),(0,.slice A rs.length cap)]) (λ_=>H) (λk=>k<=rs.length) (λk=>rs.length-k) 0 (Ti _) ?_ (λw hw=>hw) ?_
 ·exact zu
 intro k hk K hK
 by_cases hlt:k<rs.length
 ·obtain⟨r,hx⟩:∃x,rs[k]? =some x:=⟨_,Ta hlt⟩
  have hst:=Oc hx
  have h1:=YbA rs (k+1)
  rw[hst,Tt]at h1
  repeat'(first|refine zgd ?_|(refine zge ?_ ?_<;>intro _<;>try exact zo)|fail)
  apply hK (k+1)
  ·omega
  ·omega
  ·rw[hst,Tt,Int.natCast_add];exact zu
  ·exactλw hw=>hw
 ·obtain rfl:k=rs.length:=by omega
  clear hK
  rw[TL]
  repeat'(first|refine zgc ?_|(refine zge ?_ ?_<;>intro _<;>try exact zo)|fail)
  apply Yg _ Ywn
  exact za
  exact rfl
  exactλ_ hw=>(Yh5 (catS rs).length (by omega) (hw))
  rintro _ _ ⟨A0,c0,rfl,rfl⟩
  repeat'(first|refine zgb ?_|fail)
  refine Yi (λ(z:LsM)=>[(27,.int .i64 z.i),(26,.int .i64 rs.length),(25,.slice A rs.length cap),(6,.slice z.A (catS (rs.take z.i)).length z.cap)]) (λz=>sl 81 2 z.A (catS (rs.take z.i)).length z.cap ((catS (rs.take z.i)).flatMap splF)::H) (λz=>z.i<=rs.length) (λz=>rs.length-z.i) ⟨0,A0,c0⟩ (Ti _) ?_ (λw hw=>hw) ?_
  ·exact zu
  rintro⟨k,A1,c1⟩ hk K hK
  simp only at hk⊢
  by_cases hlt:k<rs.length
  ·obtain⟨r,hx⟩:∃x,rs[k]? =some x:=⟨_,Ta hlt⟩
   have hst:=Oc hx
   have h1:=YbA rs (k+1)
   rw[hst,Tt]at h1
   have hrx:=hrr r (Td hx)
   obtain⟨C,hC⟩:∃C,catS (rs.take k)=C:=⟨_,rfl⟩
   rw[hC]at hst h1⊢
   repeat'(first|refine zgd ?_|(refine zge ?_ ?_<;>intro _<;>try exact zo)|fail)
   apply Xn T (f:=splF) (l2:=r.xs) (e:=81) (size:=2) (xs:=C.flatMap splF);(iterate 3 exact rfl);exact hrx.cons;exact(λ_=>rfl);exact(λ_=>rfl);exact rfl;(intro _ _;exact zd);omega;intro A' cap'
   repeat'(first|refine zgc ?_|fail)
   apply hK ⟨k+1,A',cap'⟩
   ·simp only;omega
   ·simp only;omega
   ·dsimp only
    rw[hst,Tt];exact zu
   ·dsimp only
    rw[hst,Tt,TR]
    exactλw hw=>hw
  ·obtain rfl:k=rs.length:=by omega
   clear hK
   rw[TL]
   refine Oa (k:=(catS rs).length) (cap:=c1) zm λhcap=>?_
   repeat'(first|refine zgc ?_|(refine zge ?_ ?_<;>intro _<;>try exact zo)|fail)
   apply Yd;exact rfl;exact rfl
   exact⟨A1,c1,rfl,hcap,rfl⟩
theorem Yi8(l:List Spl)(k:Nat)(x:Spl)(hk:k<=l.length)(hl:l.length<=1000)(hc:l.length<=cap)(hr:Rd B w0 H A (l.flatMap splF))(hw:St B w0 H w):
 CX B w0 116 [.slice A l.length cap,.int .i64 k,splV x] w λv K=>∃A' c,v=.slice A' (XL l k x).length c/\(XL l k x).length<=c/\K=sl 81 2 A' (XL l k x).length c ((XL l k x).flatMap splF)::H:=by
 refine Ya Tryz.func116 Tryz.ntmps116 rfl rfl hw ?_
 have hop:∀w,St B w0 [many H] w->St B w0 H w:=λw hw=>hw.perm (.openT H)
 have hM:∀{H':List HP},many H∈H'->Rd B w0 H' A (l.flatMap splF):=λhm=>hr.mono λw hw=>hw.inM hm
 have hq:∀c:Spl,(splF c).length=2:=λ_=>rfl
 have p1:=λ(g gs:Nat) {H':List HP}{w:World}(hm:many H∈H') (h1:blk g (.cells #[.int .i64 x.1,.int .i64 x.2] 81 (0,0))∈H') (h2:blk gs (.cells #[.slice A k cap,.slice (some ⟨g,0,none⟩) 1 1,.slice (subA A k cap 2) (l.length-k) (cap-k)] 52 (0,0))∈H') (hw:St B w0 H' w)=>by
  have h0:=Yd6 [⟨A,cap,l.take k⟩,⟨some ⟨g,0,none⟩,1,[x]⟩,⟨subA A k cap 2,cap-k,l.drop k⟩] (by simp) (by simp only[catS,Rl,SX,Tt,TK,Rk,TZ,Rh];omega) (A:=some ⟨gs,0,none⟩) (cap:=3) (H:=H') (by
   have h3:=Rd.blk (B:=B) (w0:=w0) h2
   simp only[slF,Rl,SX,TK,Rk,TZ,Rh,Ss hk]
   exact h3) (λr hr=>by
   simp only[Rr,RN,NZ]at hr
   rcases hr with rfl|rfl|rfl
   ·exact(hM hm).take k hq
   ·have h3:=Rd.blk (B:=B) (w0:=w0) h1
    exact h3
   ·have h3:=(hM hm).sub (o:=k) (k:=l.length-k) hq hc
    rwa [TX (by rw[Rk];omega)]at h3) hw
  rw[show catS [⟨A,cap,l.take k⟩,⟨some ⟨g,0,none⟩,1,[x]⟩,⟨subA A k cap 2,cap-k,l.drop k⟩]=XL l k x by simp[catS,XL]]at h0
  exact h0
 unfold splV
 refine Y8 [many H] (λw hw=>hw.perm (.closeT H)) ?_
 repeat'(first|refine zga ?_|(refine zgh ?_;intro _)|fail)
 apply Yz [0,1,2,3,5,6,7,4,8,9,10] [] [true,true]
 kernel_rfl
 kernel_rfl
 exact zy
 (simp only[Ye,nthO];rfl)
 exact rfl
 repeat'(first|(apply Xq T (l:=l) (n':=k);(iterate 4 exact rfl);omega;exact hc;omega;rw[Z1])|(apply Yt T k (l.length-k);(iterate 5 exact rfl);exact hk;exact rfl)|(apply Yj;try exact zl)|refine zgd ?_|(refine zgh ?_;intro _)|fail)
 rename_i g0 g gs
 apply Yg _ Yv6
 exact za
 exact rfl
 exactλ_ hw=>(p1 g gs zm zm zm (hw))
 rintro _ _ ⟨A',c,rfl,hcap,rfl⟩
 repeat'(first|(apply Yj;try exact zl)|refine zgd ?_|fail)
 apply Yh (sl 81 2 A' (XL l k x).length c ((XL l k x).flatMap splF)::H)
 ·intro w hw
  have h5:St B w0 (sl 81 2 A' (XL l k x).length c ((XL l k x).flatMap splF)::[many H]) w:=by
   revert w
   exact zk
  exact h5.perm (.cons _ (.openT H))
 apply Yd;exact rfl;exact rfl
 exact⟨A',c,rfl,hcap,rfl⟩
theorem Yqy{α:Type}{k:α->Int}{id:Int}:∀{l:List α}{n:Nat},n<=l.length->(∀i x,i<n->l[i]? =some x->k x<id)->(∀x,l[n]? =some x->¬k x<id)->(l.takeWhile λy=>decide (k y<id)).length=n
 |[],n,hn,_,_=>by
  have:n=0:=by simpa using hn
  subst this;rfl
 |y::l,0,_,_,h2=>by rw[List.takeWhile_cons_of_neg (by simpa using h2 y rfl)];rfl
 |y::l,n+1,hn,h1,h2=>by
  rw[List.takeWhile_cons_of_pos (by simpa using h1 0 y (by omega) rfl),TZ,Yqy (l:=l) (by simpa using hn) (λi x hi hx=>h1 (i+1) x (by omega) hx) (λx hx=>h2 x hx)]
theorem YaT(a:Lop)(id:Int)(hw:St B w0 H w):
 CX B w0 153 [lopV a,.int .i64 id] w λv K=>v=.int .i64 (cmpI a.1 id)/\K=H:=by
 refine Ya Tryz.func153 Tryz.ntmps153 rfl rfl hw ?_
 unfold lopV
 repeat'(first|((first|apply Yb en73|apply Yc en73);exact za;exact rfl;exactλ_ hw=>(JP _ _ hw))|refine zgb ?_|(refine zgh ?_;intro _)|fail)
 apply Yh H
 ·exact zk
 apply Yd;exact rfl;exact rfl
 exact⟨rfl,rfl⟩
theorem YgH(l:List Lop)(id:Int)(ho:l.Pairwise λa b=>a.1<b.1)(hlen:l.length<=1000000000)(hr:Rd B w0 H A (l.flatMap lopF))(hw:St B w0 H w):
 CX B w0 152 [.slice A l.length cap,.int .i64 id,.func (.func 153) #[] #[]] w λv K=>
  v=.tuple #[.int .i64 (posL l id:Nat),.bool (hasL l id)]/\K=H:=by
 refine Ya Tryz.func152 Tryz.ntmps152 rfl rfl hw ?_
 have ho:∀(i j:Nat) (x y:Lop),i<j->l[i]? =some x->l[j]? =some y->x.1<y.1:=λi j x y hij hi hj=>by
  rw[TG]at ho
  obtain⟨a1,rfl⟩:=Tc.1 hi
  obtain⟨b1,rfl⟩:=Tc.1 hj
  exact ho i j a1 b1 hij
 repeat'(first|refine zgb ?_|fail)
 refine Uf (λ(lo hi:Nat)=>[(9,.int .i64 lo),(10,.int .i64 hi),(8,.int .i64 l.length),(0,.slice A l.length cap),(1,.int .i64 id),(2,.func (.func 153) #[] #[])]) (λ_ _=>H)
  (λlo hi=>lo<=hi/\hi<=l.length/\(∀i x,i<lo->l[i]? =some x->x.1<id)/\(∀i x,hi<=i->l[i]? =some x->¬x.1<id)) (λlo hi=>hi-lo) 0 l.length ⟨by omega,by omega,λj x hj=>by omega,λj x h1 h2=>by have:=(Tc.1 h2).1;omega⟩ ?_ (λw hw=>hw) ?_
 ·exact zu
 rintro lo hi ⟨h1,h2,h3,h4⟩ K hK
 by_cases hlt:lo<hi
 ·obtain⟨b,hb⟩:∃b,l[(((lo:Int)+hi)/2).toNat]? =some b:=⟨_,Ta (by omega)⟩
  have hm:(((lo:Int)+hi)/2).toNat=(lo+hi)/2:=by omega
  have hb2:l[(lo+hi)/2]? =some b:=by rw[<-hm];exact hb
  repeat'(first|((first|apply YK (cs:=[])|apply YU (cs:=[]));exact rfl;exact YsG;exact za;exact rfl;exactλ_ hw=>(YaT b id hw))|refine zgd ?_|(refine zge ?_ ?_<;>intro _<;>try exact zo)|fail)
  ·rename_i hc
   rw[Oe]at hc
   apply hK ((lo+hi)/2+1) hi
   ·refine⟨by omega,by omega,λj x hj hx=>?_,h4⟩
    by_cases e:j=(lo+hi)/2
    ·rw[e,hb2]at hx
     injection hx with hx;subst hx;exact hc
    ·exact Int.lt_trans (ho j _ x b (by omega) hx hb2) hc
   ·omega
   ·exact zu
   ·exactλw hw=>hw
  ·rename_i hc
   have hc:¬b.1<id:=λh=>by have:=Oe.2 h;omega
   apply hK lo ((lo+hi)/2)
   ·refine⟨by omega,by omega,h3,λj x hj hx=>?_⟩
    by_cases e:j=(lo+hi)/2
    ·rw[e,hb2]at hx
     injection hx with hx;subst hx;exact hc
    ·exactλh=>hc (Int.lt_trans (ho _ j b x (by omega) hb2 hx) h)
   ·omega
   ·exact zu
   ·exactλw hw=>hw
 ·obtain rfl:lo=hi:=by omega
  have hpe:posL l id=lo:=Yqy h2 h3 λx hx=>h4 lo x (TM _) hx
  rw[hpe]
  have hfd:hasL l id=true↔∃b,l[lo]? =some b/\b.1=id:=by
   unfold hasL
   rw[Rf]
   constructor
   ·rintro⟨b,hb,he⟩
    have he:b.1=id:=TV he
    obtain⟨j,hj⟩:=TN.1 hb
    rcases RZ j lo with h|rfl|h
    ·have:=h3 j b h hj;omega
    ·exact⟨b,hj,he⟩
    ·obtain⟨d,hd⟩:∃d,l[lo]? =some d:=⟨_,Ta (by have:=(Tc.1 hj).1;omega)⟩
     have:=ho lo j d b h hd hj
     have:=h4 lo d (TM _) hd
     omega
   ·rintro⟨b,hb,he⟩
    exact⟨b,Td hb,Tj he⟩
  by_cases hl:lo<l.length
  ·obtain⟨b,hb⟩:∃b,l[lo]? =some b:=⟨_,Ta hl⟩
   repeat'(first|((first|apply YK (cs:=[])|apply YU (cs:=[]));exact rfl;exact YsG;exact za;exact rfl;exactλ_ hw=>(YaT b id hw))|refine zgd ?_|(refine zgf ?_ ?_<;>intro _<;>try exact zo)|fail)
   ·rename_i h
    apply Yu;(iterate 3 exact rfl)
    exact⟨by rw[hfd.2 ⟨b,hb,cmpI_zero.1 h⟩],rfl⟩
   ·rename_i h
    apply Yu;(iterate 3 exact rfl)
    have hf0:hasL l id=false:=Sl.2 λe=>by
     obtain⟨b',hb',he⟩:=hfd.1 e
     rw[hb]at hb'
     obtain rfl:=Tn hb'
     exact h (cmpI_zero.2 he)
    exact⟨by rw[hf0],rfl⟩
  ·repeat'(first|refine zgc ?_|(refine zge ?_ ?_<;>intro _<;>try exact zo)|fail)
   apply Yu;(iterate 3 exact rfl)
   have hf0:hasL l id=false:=Sl.2 λe=>by
    obtain⟨b',hb',he⟩:=hfd.1 e
    exact hl (Tc.1 hb').1
   exact⟨by rw[hf0],rfl⟩
theorem OQ(l:List Lop)(id:Int)(ho:l.Pairwise λa b=>a.1<b.1)(hlen:l.length<=1000000000)(hr:Rd B w0 H A (l.flatMap lopF))(hw:St B w0 H w):
 CX B w0 74 [.slice A l.length cap,.int .i64 id] w λv K=>v=.tuple #[.int .i64 (posL l id:Nat),.bool (hasL l id)]/\K=H:=by
 refine Ya Tryz.func74 Tryz.ntmps74 rfl rfl hw ?_
 repeat'(first|((first|apply Yb YsF|apply Yc YsF);exact za;exact rfl;exactλ_ hw=>(YgH l id ho hlen hr hw))|refine zgc ?_|fail)
 apply Yu;(iterate 3 exact rfl)
 exact⟨rfl,rfl⟩
end Go.Proofs.YtjlgijpmnfabcaaGreatDoor
