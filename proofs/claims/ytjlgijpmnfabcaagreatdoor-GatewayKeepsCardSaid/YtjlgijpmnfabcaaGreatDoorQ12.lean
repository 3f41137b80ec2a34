/- Lemmas. -/
import Derived.Test.YtjlgijpmnfabcaaGreatDoorQ10
set_option maxRecDepth 100000
set_option maxHeartbeats 8000000
set_option linter.all false
namespace Go.Proofs.YtjlgijpmnfabcaaGreatDoor
open Go.RowKit Go.Eng Go.Nw
variable {B cap m:Nat}{w0 w:World}{H:List HP}
theorem ON(n:NetM)(v:Int)(hw:St B w0 H w):
 CX B w0 365 [n.val,.int .i64 v] w λu K=>u=.bool (insE v n.net.nodes)/\K=H:=by
 have e1:n.net.nodes=n.nodes:=rfl
 refine Ya Tryz.func365 Tryz.ntmps365 rfl rfl hw ?_
 repeat'(first|refine zgc ?_|(refine zgf ?_ ?_<;>intro _<;>try exact zo)|(refine zgh ?_;intro _)|fail)
 all_goals(
  apply Yh H
  ·exact zk
  apply Yd;exact rfl;exact rfl
  first
   |exact⟨by rw[show insE v n.net.nodes=true from Tj (by omega)],rfl⟩
   |exact⟨by rw[show insE v n.net.nodes=false from Tu (by omega)],rfl⟩)
theorem YjL(n:NetM)(c:Cel)(gn:Nat)(hm:blk gn (.cells #[.int .i64 n.nodes,.slice n.pA n.rows.length n.pcap,.int .i64 n.noise,.int .i64 n.thr,.slice n.lA n.links.length n.lcap,.slice n.mA n.margin.length n.mcap] 26 (0,0))∈H)(hw:St B w0 H w):
 CX B w0 364 [celV c,.pointer (some ⟨gn,0,none⟩)] w λv K=>v=.bool (Ua n.net c)/\K=H:=by
 refine Ya Tryz.func364 Tryz.ntmps364 rfl rfl hw ?_
 obtain⟨b,hb⟩:∃b,Ua n.net c=b:=⟨_,rfl⟩
 rw[hb]
 unfold Ua Yr toC at hb
 repeat'(first|((first|apply Zu YeM|apply Zt YeM);exact za;exact rfl;exactλ_ hw=>(ON n _ hw);all_goals(intro hB;(try simp only[Tq,T0]at hB);try exact zo))|refine zgd ?_|(refine zgh ?_;intro _)|fail)
 all_goals(
  apply Yh H
  ·exact zk
  apply Yd;exact rfl;exact rfl
  refine⟨?_,rfl⟩
  rw[<-hb]
  simp[*])
variable {A:Option Addr}
theorem WE(p:Cel->Bool)(l:List Cel)(f:Nat)(cs:List Value)(hen:∀xs w,(callFunc f xs).run Tryz.prog w=.ok (.enter f xs) w)(hlen:l.length<=1000)(hr:Rd B w0 H A (l.flatMap celF))
 (hp:∀a∈l,∀w,St B w0 H w->Calls Tryz.prog f ([celV a]++cs).toArray w (Post B w0 λv K=>v=.bool (p a)/\K=H)) (hw:St B w0 H w):
 CX B w0 366 [.slice A l.length cap,.func (.func f) #[] cs.toArray] w λv K=>v=.bool (l.any p)/\K=H:=by
 refine Ya Tryz.func366 Tryz.ntmps366 rfl rfl hw ?_
 rw[<-YcW]
 refine zX3 ?_
 first|apply Yb YeK|apply Yc YeK
 exact za
 exact rfl
 exactλ_ hw=>(YcZ p l f cs hen hlen hr hp hw)
 by_cases h0:0<=Yp p l 0
 ·exact zc14
 ·exact zc14
def Wo(n:Net)(c:Cel)(node:Int)(m:Nat):Int:=(([c.2.2.1,c.2.2.2.1].take m).map λe=>powN n e node).sum
variable {n:Net}
theorem YnF{c:Cel}{node e:Int}(h:[c.2.2.1,c.2.2.2.1][m]? =some e):Wo n c node (m+1)=Wo n c node m+powN n e node:=by
 grind [Wo,TF]
theorem Ysa(hok:Ok n)(c:Cel)(node:Int)(h:m<=2):0<=Wo n c node m/\Wo n c node m<=137438953472:=by
 have h1:=U3 hok c.2.2.1 node
 have h2:=U3 hok c.2.2.2.1 node
 match m,h with
 |0,_=>simp[Wo]
 |1,_=>grind [Wo]
 |2,_=>simp[Wo];omega
theorem Ycr(n:NetM)(l:List Cel)(j:Nat)(node:Int)(hok:Ok n.net)(hnode:0<=node/\node<n.nodes)(hlen:l.length<=1000)(hin:n.In B w0 H)(hr:Rd B w0 H A (l.flatMap celF))(hw:St B w0 H w):
 CX B w0 367 [n.val,.slice A l.length cap,.int .i64 j,.int .i64 node] w λv K=>v=.int .i64 (YD n.net l j node l.length)/\K=H:=by
 refine Ya Tryz.func367 Tryz.ntmps367 rfl rfl hw ?_
 have e1:n.net.nodes=n.nodes:=rfl
 refine zX71 ?_<;>intros
 rename_i gn
 refine Yi (λ(k:Nat)=>[(16,.int .i64 k),(15,.int .i64 l.length),(14,.slice A l.length cap),(9,.int .i64 (YD n.net l j node k)),(4,.pointer (some ⟨gn,0,none⟩)),(2,.int .i64 j),(3,.int .i64 node)]) (λ_=>netN gn n::H) (λk=>k<=l.length) (λk=>l.length-k) 0 (Ti _) ?_ (λw hw=>hw) ?_
 ·exact zc1
 rintro k hk K hK
 have hbd:=Yf7 hok l j node k
 have hrc:=hr.cons (X:=netN gn n)
 by_cases hlt:k<l.length
 ·obtain⟨c,hc⟩:∃c,l[k]? =some c:=⟨_,Ta hlt⟩
  have hcl:celL l k=c:=by unfold celL;rw[Tz,hc];rfl
  have hst:YD n.net l j node (k+1)=YD n.net l j node k+if k=j then 0 else powN n.net c.2.2.1 node+powN n.net c.2.2.2.1 node:=by
   rw[YD,hcl];rfl
  by_cases hkj:k=j
  ·rw[Tm hkj,Int.add_zero]at hst
   refine zX77 ?_<;>intros
   apply hK (k+1)
   ·show k+1<=_
    omega
   ·omega
   ·rw[hst]
    exact zc1
   ·exact zc0
  rw[Tf hkj]at hst
  refine zX77 ?_<;>intros
  rename_i gc _ ge
  refine Yi (λ(m:Nat)=>[(30,.int .i64 m),(29,.int .i64 ((2:Nat):Int)),(28,.slice (some ⟨ge,0,none⟩) ([c.2.2.1,c.2.2.2.1]:List Int).length 2),(9,.int .i64 (YD n.net l j node k+Wo n.net c node m)),(16,.int .i64 k),(15,.int .i64 l.length),(14,.slice A l.length cap),(4,.pointer (some ⟨gn,0,none⟩)),(2,.int .i64 j),(3,.int .i64 node)]) (λ_=>blk ge (.cells #[.int .i64 c.2.2.1,.int .i64 c.2.2.2.1] 3 (0,0))::netN gn n::H) (λm=>m<=2) (λm=>2-m) 0 (Ti _) ?_ ?_ ?_
  ·rw[show Wo n.net c node 0=0 from rfl,Int.add_zero]
   exact zc1
  ·exact zc0
  rintro m hm K2 hK2
  have hpb:=Ysa hok c node hm
  have hre:Rd B w0 (blk ge (.cells #[.int .i64 c.2.2.1,.int .i64 c.2.2.2.1] 3 (0,0))::netN gn n::H) (some ⟨ge,0,none⟩) (([c.2.2.1,c.2.2.2.1]:List Int).flatMap numF):=Rd.blk (cs:=#[.int .i64 c.2.2.1,.int .i64 c.2.2.2.1]) (.head _)
  clear hrc
  unfold netN at hre⊢
  by_cases hlt2:m<2
  ·obtain⟨e,he⟩:∃e,[c.2.2.1,c.2.2.2.1][m]? =some e:=⟨_,Ta hlt2⟩
   have hst2:=YnF (n:=n.net) (node:=node) he
   have hcn:=λ{H':List HP}{w:World}(hw:St B w0 H' w)=>ON n e hw
   have hl2:([c.2.2.1,c.2.2.2.1]:List Int).length=2:=rfl
   cases hie:insE e n.net.nodes with
   |false=>
    rw[hie]at hcn
    rw[show powN n.net e node=0 by unfold powN;rw[hie];simp,Int.add_zero]at hst2
    refine zX78 ?_<;>intros
    apply hK2 (m+1)
    ·show m+1<=2
     omega
    ·omega
    ·rw[hst2]
     exact zc1
    ·unfold netN
     exact zc0
   |true=>
    rw[hie]at hcn
    have he2:0<=e/\e<n.net.nodes:=TV hie
    have hp0:(n.rows.length:Int)=n.net.nodes:=by
     have:=hok.p0
     rwa [show n.net.power=n.rows.map RowM.xs from rfl,Tv]at this
    obtain⟨r,hrw⟩:∃r,n.rows[e.toNat]? =some r:=⟨_,Ta (by omega)⟩
    have hrm:=Td hrw
    have hrl:(r.xs.length:Int)=n.net.nodes:=hok.p1 r.xs (TD.2 ⟨r,hrm,rfl⟩)
    obtain⟨q,hq⟩:∃q,r.xs[node.toNat]? =some q:=⟨_,Ta (by omega)⟩
    have hpw:powN n.net e node=q:=by
     unfold powN
     rw[Tm ⟨hie,Tj (by omega)⟩]
     exact YiD (n:=n.net) (r:=r.xs) (by simp[NetM.net,hrw]) hq
    have hqb:=U3 hok e node
    rw[hpw]at hqb hst2
    have hpd:=hin.pw
    have hrd:=hin.rw_ r hrm
    have hs1:=hin.s1
    have hs2:=hin.s2 r hrm
    refine zX78 ?_<;>intros
    apply hK2 (m+1)
    ·show m+1<=2
     omega
    ·omega
    ·rw[hst2]
     exact zc1
    ·unfold netN
     exact zc0
  ·obtain rfl:m=2:=by omega
   have hp2:YD n.net l j node (k+1)=YD n.net l j node k+Wo n.net c node 2:=by
    rw[hst]
    simp[Wo]
   refine zX1 ?_<;>intros
   apply hK (k+1)
   ·show k+1<=_
    omega
   ·omega
   ·rw[hp2]
    exact zc1
   ·unfold netN
    exact zc0
 ·refine zX1 ?_<;>intros
  apply Yh H
  ·exact zc0
  apply Yd;exact rfl;exact rfl
  rw[show k=l.length by omega]
  exact zc84
theorem Ur(n:NetM)(l:List Cel)(j:Nat)(node:Int)(hck:Yq n.net=0)(hnode:0<=node/\node<n.nodes)(hj:j<l.length)(hlen:l.length<=1000)(hno:l.any (Ua n.net)=false)(hin:n.In B w0 H)(hr:Rd B w0 H A (l.flatMap celF))(hw:St B w0 H w):
 CX B w0 283 [n.val,.slice A l.length cap,.int .i64 j,.int .i64 node] w λv K=>v=.int .i64 (Uo n.net l j node)/\K=H:=by
 refine Ya Tryz.func283 Tryz.ntmps283 rfl rfl hw ?_
 have e1:n.net.nodes=n.nodes:=rfl
 have hins:insE node n.net.nodes=true:=Tj hnode
 have hd:Uo n.net l j node=YD n.net l j node l.length:=by
  unfold Uo
  rw[Tf (by rw[hck,hins,hno];simp;omega),Rq]
 rw[hd]
 have hchk:=λ{H':List HP}{w:World}(hin:n.In B w0 H') (hw:St B w0 H' w)=>YY n hin hw
 rw[hck]at hchk
 have hcn:=λ{H':List HP}{w:World}(hw:St B w0 H' w)=>ON n node hw
 rw[hins]at hcn
 (apply Y7;apply YM;apply YO;exact rfl;exact rfl;intro g)
 have hct:=λ{H':List HP}{w:World}(hm:blk g (.cells #[.int .i64 n.nodes,.slice n.pA n.rows.length n.pcap,.int .i64 n.noise,.int .i64 n.thr,.slice n.lA n.links.length n.lcap,.slice n.mA n.margin.length n.mcap] 26 (0,0))∈H') (hr:Rd B w0 H' A (l.flatMap celF)) (hw:St B w0 H' w)=>WE (Ua n.net) l 364 [.pointer (some ⟨g,0,none⟩)] Ywu hlen (cap:=cap) hr (λc _ w hw=>YjL n c g hm hw) hw
 rw[hno]at hct
 repeat'(first|((first|apply Yb en68|apply Yc en68);exact za;exact rfl;exactλ_ hw=>(hchk hin.cons hw))|((first|apply Yb YeM|apply Yc YeM);exact za;exact rfl;exactλ_ hw=>(hcn hw))|((first|apply Yb YlC|apply Yc YlC);exact za;exact rfl;exactλ_ hw=>(hct zm hr.cons hw))|((first|apply Yb YlD|apply Yc YlD);exact za;exact rfl;exactλ_ hw=>(Ycr n l j node (YT hck) hnode hlen hin.cons hr.cons hw))|(apply zg29;(apply Ys;exact za;exact rfl))|refine zgd ?_|(refine zgf ?_ ?_<;>intro _<;>try exact zo)|fail)
 apply Yh H
 ·exact zc0
 exact zc7
open Go.RowKit Go.Eng Go.Nw Go.Rt
def relE(x:WayM)(a:Int):Int×List Int×Bool:=match YdG x.n.net x.s.sch x.f x.r a with
 |none=>(0,[],false)
 |some l=>(JA l-a+1,l.map (λz=>z-a),true)
theorem Yav(x:WayM)(a:Int):YdG x.n.net x.s.sch x.f x.r a=if(runW x a).length<XF (YB x.n.net x.r)then none else some ((runW x a).map Prod.snd):=YgF _ _ _ _ _
variable {B:Nat}{w0 w:World}{H:List HP}
theorem YhJ(x:WayM)(a:Int)(hw:St B w0 H w):
 CX B w0 268 [x.val,.int .i64 a] w λv K=>∃ga gw,v=.func (.func 344) #[] #[.pointer (some ⟨ga,0,none⟩),.pointer (some ⟨gw,0,none⟩)]/\K=intB ga a::wayB gw x::H:=by
 refine Ya Tryz.func268 Tryz.ntmps268 rfl rfl hw ?_
 unfold WayM.val intB
 repeat'(first|(first|(refine zs52 ?_;intro _)|(refine zs53 ?_;intro _))|((apply Ys;exact za;exact rfl))|refine zga ?_|fail)
 exact Yl8
structure NlM where
 A:Option Addr
 cap:Nat
 l:List Int
variable {x:WayM}
theorem Yio(hok:We x):1<=XF (YB x.n.net x.r):=by
 have hl:=hok.len
 have h0:=O1 (n:=x.n.net) (r:=x.r) (i:=0) (by omega)
 have hbd:=QG hok h0
 have hne:(YB x.n.net x.r)=X9 x.n.net x.r 0::(YB x.n.net x.r).tail:=by
  cases h:YB x.n.net x.r with
  |nil=>simp_all
  |cons a t=>simp_all
 grind [XF,YV]
theorem YgA(x:WayM)(at0:Int)(hok:We x)(hat:0<=at0/\at0<=1000000)(hi:x.In B w0 H)(hw:St B w0 H w):
 CX B w0 368 [x.val,.int .i64 at0] w λv K=>∃A cap,v=.tuple #[.int .i64 (relE x at0).1,.slice A (relE x at0).2.1.length cap,.bool (relE x at0).2.2]/\K=nrs A cap (relE x at0).2.1::H:=by
 refine X5 Tryz.func368 Tryz.ntmps368 rfl rfl hw ?_
 have hper:=hok.per
 have hl9:=hok.len
 have hnp:=Yio hok
 have hnl:XF (YB x.n.net x.r)<=72:=by
  have h1:=YbC hok (YB x.n.net x.r).length
  rw[TL,UY]at h1
  omega
 have hRE:relE x at0=if(runW x at0).length<XF (YB x.n.net x.r)then(0,[],false)else(JA ((runW x at0).map Prod.snd)-at0+1,((runW x at0).map Prod.snd).map (λz=>z-at0),true):=by
  unfold relE
  rw[Yav]
  by_cases h:(runW x at0).length<XF (YB x.n.net x.r)
  ·rw[Tm h,Tm h]
  ·rw[Tf h,Tf h]
 have hWl:(runW x at0).length<=XF (YB x.n.net x.r):=YbI _ _ _ _ _
 have hWs:∀z∈runW x at0,at0<=z.2/\z.2<at0+x.f.2.2.2.1:=λz hz=>YbJ (by omega) hz
 have hiter:=λ{ga gw:Nat}{H':List HP}(hi:x.In B w0 H')=>Yf5 x at0 hok hat ga gw hi
 have hxs:Yld x at0=(runW x at0).map cntV:=rfl
 rw[hxs]at hiter
 obtain⟨W,hW⟩:∃W,runW x at0=W:=⟨_,rfl⟩
 obtain⟨nd,hnd⟩:∃nd,XF (YB x.n.net x.r)=nd:=⟨_,rfl⟩
 have hned:=λ{H':List HP}{w:World}(hi:x.In B w0 H') (hw:St B w0 H' w)=>Yip x hok hi hw
 rw[hW,hnd]at hRE hWl
 rw[hW]at hWs hiter
 rw[hnd]at hnp hnl hned
 rw[hRE]
 unfold WayM.val
 unfold intB at hiter
 repeat'(first|(apply zg23;first|(refine zs52 ?_;intro _)|(refine zs53 ?_;intro _))|refine zgb ?_|(refine zgh ?_;intro _)|fail)
 rename_i g2 g3 gO
 apply Yg _ Ywh
 exact za
 exact rfl
 exactλ_ hw=>(YhJ x at0 (hw))
 rintro _ _ ⟨ga,gw,rfl,rfl⟩
 unfold intB
 repeat'(first|refine zgb ?_|fail)
 refine Xf 3 1 ?_
 refine X7 (gf:=344) (lb:=[.pointer (some ⟨ga,0,none⟩),.pointer (some ⟨gw,0,none⟩)]) (xs:=W.map cntV) (blk ga (.cells #[.int .i64 at0] 3 (0,0))::wayB gw x::blk g3 (.cells #[.int .i64 at0] 3 (0,0))::wayB g2 x::H) (λy:NlM=>[blk gO (.cells #[.slice y.A y.l.length y.cap] 24 (0,0)),nrs y.A y.cap y.l]) (λi y=>y.l=(W.take i).map (λz=>z.2-at0)) (λ_ _=>False) ⟨none,0,[]⟩ rfl Yws (hiter hi.cons.cons) rfl ?_ (by kernel_rfl) (by kernel_rfl) ?_ rfl ?_ ?_ (λ_ _ _ h=>h.elim)
 ·intro args h
  obtain⟨z,_,rfl⟩:=TD.1 h
  rfl
 ·simp only[TB,TI,Rh]
  intro w hw
  have h1:St B w0 (nrs none 0 []::blk ga (.cells #[.int .i64 at0] 3 (0,0))::wayB gw x::blk gO (.cells #[.slice none 0 0] 24 (0,0))::blk g3 (.cells #[.int .i64 at0] 3 (0,0))::wayB g2 x::H) w:=hw
  clear hw
  revert w
  exact zc0
 ·rintro l k args R ⟨A,cap,xs⟩ hk hI
  rw[TS]at hk
  obtain⟨⟨d,sl⟩,hz,rfl⟩:∃z,W[k]? =some z/\args=cntV z:=by
   cases h:W[k]? with
   |none=>rw[h]at hk;cases hk
   |some z=>rw[h]at hk;exact⟨z,rfl,(Tn hk).symm⟩
  have hzb:=hWs _ (Td hz)
  have hI:xs=(W.take k).map (λz=>z.2-at0):=hI
  have hxl:xs.length<=72:=by
   rw[hI,Tv,TK];omega
  dsimp only at hzb
  dsimp only[Uc,cntV,List.cons_append,List.nil_append]
  repeat'(first|refine zga ?_|fail)
  apply JB Yy
  intro R'
  repeat'(first|refine zgd ?_|(refine zgh ?_;intro _)|(refine zgi ?_;intro _ _)|fail)
  rename_i A' cap'
  apply VO (NlM.mk A' cap' (xs++[sl-at0]))
  ·show xs++[sl-at0]=_
   rw[TF,hz,RE,TP,hI];rfl
  ·dsimp only[List.cons_append,List.nil_append]
   rw[WX,show xs.length+1=(xs++[sl-at0]).length by simp]
   exact zc0
 ·rintro D ⟨A,cap,xs⟩ hI
  have hI:xs=(W.take (W.map cntV).length).map (λz=>z.2-at0):=hI
  rw[Tv,TL]at hI
  have hxl:xs.length=W.length:=by rw[hI,Tv]
  dsimp only[List.cons_append,List.nil_append]
  have hll:((W.map Prod.snd).map (λz=>z-at0))=xs:=by rw[hI,SU];rfl
  by_cases hlt:W.length<nd
  ·rw[Tm hlt]
   repeat'(first|refine zgc ?_|fail)
   apply Jc [0,1,2,3,4] []
   kernel_rfl
   kernel_rfl
   (simp only[Ye,nthO];rfl)
   exact rfl
   repeat'(first|refine zgd ?_|fail)
   first|apply Yb YlE|apply Yc YlE
   exact za
   exact rfl
   exactλ_ hw=>(hned (hi.mono zc0) hw)
   repeat'(first|(apply Yj;(repeat(first|with_reducible exact Xe|(with_reducible apply Y2;(repeat(first|with_reducible exact Yy|with_reducible apply YR))))))|refine zga ?_|fail)
   ·show Perm H (H++[])
    exact zc44
   repeat'(first|refine zgd ?_|(refine zge ?_ ?_<;>intro _<;>try exact zo)|fail)
   apply Zx Yy
   apply VQ_m
   apply Yh (nrs none 0 []::H)
   ·intro w hw
    have h5:St B w0 H w:=by
     revert w
     exact zc0
    exact h5.nilSlice _ _
   apply Va;(iterate 4 exact rfl)
   exact⟨none,0,rfl,rfl⟩
  ·rw[Tf hlt,hll]
   obtain⟨z,hz⟩:∃z,W[W.length-1]? =some z:=⟨_,Ta (by omega)⟩
   have hzb:=hWs _ (Td hz)
   have hx1:xs[((xs.length:Int)-1).toNat]? =some (z.2-at0):=by
    rw[show((xs.length:Int)-1).toNat=W.length-1 by omega,hI,TS,hz];rfl
   have hla:JA (W.map Prod.snd)=z.2:=by
    unfold JA
    rw[Tv,Tz,TS,hz];rfl
   rw[hla]
   repeat'(first|refine zgc ?_|fail)
   apply Jc [0,1,2,3,4] []
   kernel_rfl
   kernel_rfl
   (simp only[Ye,nthO];rfl)
   exact rfl
   repeat'(first|refine zgd ?_|fail)
   first|apply Yb YlE|apply Yc YlE
   exact za
   exact rfl
   exactλ_ hw=>(hned (hi.mono zc0) hw)
   repeat'(first|(apply Yj;(repeat(first|with_reducible exact Xe|(with_reducible apply Y2;(repeat(first|with_reducible exact Yy|with_reducible apply YR))))))|refine zga ?_|fail)
   ·show Perm H (H++[])
    exact zc44
   repeat'(first|refine zgd ?_|(refine zge ?_ ?_<;>intro _<;>try exact zo)|fail)
   apply Zx Yy
   apply VQ_m
   apply Yh (nrs A cap xs::H)
   ·exact zc0
   apply Va;(iterate 4 exact rfl)
   exact⟨A,cap,rfl,rfl⟩
def Ybz(R:Option (Int×Int×List Int)):Int×Int×List Int×Bool:=match R with
 |none=>(0,0,[],false)
 |some b=>(b.1,b.2.1,b.2.2,true)
def WC(x:WayM):Int×Int×List Int×Bool:=Ybz (JY x.n.net x.s.sch x.f x.r)
theorem YiR(hok:We x){a:Int}{l:List Int}(h:YdG x.n.net x.s.sch x.f x.r a=some l):1<=l.length/\a<=JA l/\JA l<a+x.f.2.2.2.1:=by
 have hper:=hok.per
 have hnp:=Yio hok
 rw[Yav]at h
 split at h
 ·cases h
 obtain rfl:=Tn h
 rw[Tv]
 obtain⟨z,hz⟩:∃z,(runW x a)[(runW x a).length-1]? =some z:=⟨_,Ta (by omega)⟩
 have hzb:=YbJ (by omega) (Td hz)
 have hla:JA ((runW x a).map Prod.snd)=z.2:=by
  grind [JA]
 omega
structure BdM where
 k:Nat
 rel:Int
 b:Int×Int×List Int
 A:Option Addr
 cap:Nat
theorem YjC(x:WayM)(hok:We x)(hi:x.In B w0 H)(hw:St B w0 H w):
 CX B w0 285 [x.val] w λv K=>∃A cap,v=.tuple #[.int .i64 (WC x).1,.int .i64 (WC x).2.1,.slice A (WC x).2.2.1.length cap,.bool (WC x).2.2.2]/\K=nrs A cap (WC x).2.2.1::H:=by
 refine Ya Tryz.func285 Tryz.ntmps285 rfl rfl hw ?_
 have hper:=hok.per
 have hph:=hok.ph
 have hsl:=hok.slen
 obtain⟨R,hR⟩:∃R,JY x.n.net x.s.sch x.f x.r=R:=⟨_,rfl⟩
 have hO:WC x=Ybz R:=by unfold WC;rw[hR]
 rw[hO]
 unfold JY at hR
 rw[show x.s.sch.len=x.s.len from rfl]at hR
 obtain⟨S,hS⟩:∃S,YdG x.n.net x.s.sch x.f x.r=S:=⟨_,rfl⟩
 rw[hS]at hR
 have hrl:=λ{H':List HP}{w:World}(a:Int) (ha:0<=a/\a<=1000000) (hi:x.In B w0 H') (hw:St B w0 H' w)=>YgA x a hok ha hi hw
 unfold WayM.val
 repeat'(first|refine zgb ?_|(refine zgh ?_;intro _)|fail)
 rename_i g
 refine Xf 3 1 ?_
 refine Yi (λz:BdM=>[(9,.int .i64 z.rel),(8,.slice z.A z.b.2.2.length z.cap),(7,.int .i64 z.b.2.1),(6,.int .i64 z.b.1),(1,.pointer (some ⟨g,0,none⟩))]) (λz=>nrs z.A z.cap z.b.2.2::wayB g x::H)
  (λz=>Vr S x.s.len x.f.2.2.2.1 z.k z.rel z.b=R/\x.s.len-z.rel<=z.k/\0<=z.rel/\z.rel<=2000/\0<=z.b.1/\z.b.1<=2000) (λz=>z.k) ⟨x.s.len.toNat,x.f.2.2.2.2.1,(0,0,[]),none,0⟩ ⟨hR,by show x.s.len-x.f.2.2.2.2.1<=((x.s.len.toNat:Nat):Int);omega,hph.1,by show x.f.2.2.2.2.1<=2000;omega,RB _,by show(0:Int)<=2000;decide⟩ ?_ (λw hw=>hw) ?_
 ·exact zc1
 rintro⟨k,rel,⟨b1,b2,bl⟩,A,cap⟩ ⟨hb,hk,h0,h1,hb0,hb1⟩ K hK
 dsimp only at hb hk h0 h1 hb0 hb1⊢
 by_cases hge:x.s.len<=rel
 ·have hRe:R=some (b1,b2,bl):=by
   rw[<-hb]
   cases k with
   |zero=>rfl
   |succ k=>unfold Vr;rw[Tm hge]
  rw[hRe]
  clear hK
  repeat'(first|refine zgc ?_|(refine zge ?_ ?_<;>intro _<;>try exact zo)|fail)
  apply Yh (nrs A cap bl::H)
  ·exact zc0
  apply YfU;(iterate 5 exact rfl)
  exact⟨A,cap,rfl,rfl⟩
 obtain⟨k,rfl⟩:∃k',k=k'+1:=⟨k-1,by omega⟩
 unfold Vr at hb
 rw[Tf hge]at hb
 have hrr:=λ{H':List HP}{w:World}(hi:x.In B w0 H') (hw:St B w0 H' w)=>hrl rel (by omega) hi hw
 unfold relE at hrr
 rw[hS]at hrr
 cases hSr:S rel with
 |none=>
  rw[hSr]at hb hrr
  dsimp only at hb hrr
  rw[<-hb]
  clear hK
  repeat'(first|refine zgb ?_|(refine zge ?_ ?_<;>intro _<;>try exact zo)|fail)
  apply Yg _ Ytf
  exact za
  exact rfl
  exactλ_ hw=>(hrr (hi.mono zc0) (hw))
  rintro _ _ ⟨A2,cap2,rfl,rfl⟩
  repeat'(first|refine zgd ?_|fail)
  apply Yh (nrs none 0 []::H)
  ·intro w hw
   have h5:St B w0 H w:=by
    revert w
    exact zc0
   exact h5.nilSlice _ _
  exact zc69
 |some l=>
  rw[hSr]at hb hrr
  dsimp only at hb hrr
  have hlb:0<=JA l-rel+1/\JA l-rel+1<=513:=by
   have:=YiR hok (a:=rel) (l:=l) (by rw[hS];exact hSr)
   omega
  obtain⟨m,hm⟩:∃m,JA l-rel+1=m:=⟨_,rfl⟩
  rw[hm]at hb hrr hlb
  repeat'(first|refine zgb ?_|(refine zge ?_ ?_<;>intro _<;>try exact zo)|fail)
  apply Yg _ Ytf
  exact za
  exact rfl
  exactλ_ hw=>(hrr (hi.mono zc0) (hw))
  rintro _ _ ⟨A2,cap2,rfl,rfl⟩
  by_cases hgt:b1<m
  ·rw[Tm hgt]at hb
   repeat'(first|refine zgd ?_|(refine zge ?_ ?_<;>intro _<;>try exact zo)|fail)
   apply hK ⟨k,rel+x.f.2.2.2.1,(m,rel,l.map λz=>z-rel),A2,cap2⟩
   ·exact⟨hb,by exact Yuv,by show 0<=rel+x.f.2.2.2.1;omega,by show rel+x.f.2.2.2.1<=2000;omega,hlb.1,by show m<=2000;omega⟩
   ·exact zc54
   ·exact zc1
   ·exact zc0
  ·rw[Tf hgt]at hb
   repeat'(first|refine zgd ?_|(refine zge ?_ ?_<;>intro _<;>try exact zo)|fail)
   apply hK ⟨k,rel+x.f.2.2.2.1,(b1,b2,bl),A,cap⟩
   ·exact⟨hb,by exact Yuv,by show 0<=rel+x.f.2.2.2.1;omega,by show rel+x.f.2.2.2.1<=2000;omega,hb0,hb1⟩
   ·exact zc54
   ·exact zc1
   ·exact zc0
abbrev flws(A:Option Addr)(cap:Nat)(l:List Flw):HP:=sl 66 6 A l.length cap (l.flatMap flwF)
theorem Uu(A:Option Addr)(cap:Nat)(l:List Flw)(f:Flw):sl 66 6 A (l.length+1) cap (l.flatMap flwF++#[.int .i64 f.1,.int .i64 f.2.1,.int .i64 f.2.2.1,.int .i64 f.2.2.2.1,.int .i64 f.2.2.2.2.1,.int .i64 f.2.2.2.2.2].toList)=flws A cap (l++[f]):=by simp[flws,List.flatMap_append,flwF]
structure FlM where
 i:Nat
 A:Option Addr
 cap:Nat
def RqM.fl(q:List RqM):List Flw:=q.map (·.f)
variable {A:Option Addr}{cap B:Nat}{w0 w:World}{H:List HP}
theorem YaH(q:List RqM)(hl:q.length<=1000000000000)(hr:Rd B w0 H A (q.flatMap rqF))(hw:St B w0 H w):
 CX B w0 101 [.slice A q.length cap] w λv K=>∃A2 cap2,v=.slice A2 (RqM.fl q).length cap2/\K=flws A2 cap2 (RqM.fl q)::H:=by
 refine Ya Tryz.func101 Tryz.ntmps101 rfl rfl hw ?_
 repeat'(first|refine zgb ?_|fail)
 refine Xf 66 6 ?_
 refine Yi (λz:FlM=>[(8,.int .i64 (z.i:Nat)),(7,.int .i64 q.length),(6,.slice A q.length cap),(3,.slice z.A (RqM.fl (q.take z.i)).length z.cap)]) (λz=>flws z.A z.cap (RqM.fl (q.take z.i))::H) (λz=>z.i<=q.length) (λz=>q.length-z.i) ⟨0,none,0⟩ (Ti _) ?_ (λw hw=>hw) ?_
 ·exact zu
 rintro⟨i,A2,cap2⟩ hi K hK
 dsimp only at hi⊢
 have hlen:(RqM.fl (q.take i)).length=i:=by grind [Go.Proofs.YtjlgijpmnfabcaaGreatDoor.RqM.fl]
 have hr':=hr.cons (X:=flws A2 cap2 (RqM.fl (q.take i)))
 by_cases hlt:i<q.length
 ·obtain⟨x,hx⟩:∃x,q[i]? =some x:=⟨_,Ta hlt⟩
  have hst:RqM.fl (q.take (i+1))=RqM.fl (q.take i)++[x.f]:=by grind [Go.Proofs.YtjlgijpmnfabcaaGreatDoor.RqM.fl,TF]
  repeat'(first|(apply Yf T;exact rfl;exact zm;exact rfl;exact zv;exact rfl;exact rfl)|refine zgd ?_|(refine zge ?_ ?_<;>intro _<;>try exact zo)|(refine zgh ?_;intro _)|(refine zgi ?_;intro _ _)|fail)
  rename_i A' cap'
  rw[Uu,<-hst,show(RqM.fl (q.take i)).length+1=(RqM.fl (q.take (i+1))).length from by rw[hst];simp]
  apply hK ⟨i+1,A',cap'⟩
  ·show i+1<=_
   omega
  ·dsimp only;omega
  ·exact zu
  ·exact zk
 ·obtain rfl:i=q.length:=by omega
  rw[TL]
  repeat'(first|refine zgc ?_|(refine zge ?_ ?_<;>intro _<;>try exact zo)|fail)
  apply Yd;exact rfl;exact rfl
  exact⟨A2,cap2,rfl,rfl⟩
variable {x:RqM}
theorem Ydu{k:Nat}{r:RowM}(h:x.rows[k]? =some r):rtAt x.rq.2 k=r.xs:=by
 have h2:x.rq.2[k]? =some r.xs:=by
  show(x.rows.map (·.xs))[k]? =_
  simp_all
 grind [Yfr]
theorem Q9(n:NetM)(x:RqM)(hin:n.In B w0 H)(hx:x.In B w0 H)(hw:St B w0 H w):
 CX B w0 186 [n.val,rqV x] w λv K=>v=.int .i64 (rtsE n.net x.rq)/\K=H:=by
 refine Ya Tryz.func186 Tryz.ntmps186 rfl rfl hw ?_
 have hln:x.rq.2.length=x.rows.length:=by unfold RqM.rq;rw[Tv]
 have hlx:=hx.ln
 have e1:x.rq.1=x.f:=rfl
 unfold rtsE
 rw[hln,e1]
 have p1:=λ{H':List HP}{w:World}(r:RowM) (hr:r∈x.rows) (hin:n.In B w0 H') (hx:x.In B w0 H') (hw:St B w0 H' w)=>YbM n x.f.2.1 x.f.2.2.1 r.xs (cap:=r.cap) hin (hx.rw_ r hr) (TY (hx.rl r hr).1 (by decide)) (hx.rl r hr).2 hw
 unfold NetM.val rqV
 by_cases h0:x.rows.length=0
 ·rw[Tm h0]
  repeat'(first|refine zgb ?_|(refine zgf ?_ ?_<;>intro _<;>try exact zo)|(refine zgh ?_;intro _)|fail)
  apply Yh H
  ·exact zc0
  exact zc7
 rw[Tf h0]
 by_cases h2:2<x.rows.length
 ·rw[Tm h2]
  repeat'(first|refine zgb ?_|(refine zgf ?_ ?_<;>intro _<;>try exact zo)|(refine zgh ?_;intro _)|fail)
  apply Yh H
  ·exact zc0
  exact zc7
 rw[Tf h2]
 obtain⟨F,hF⟩:∃F,(λk=>X6 n.net x.f.2.1 x.f.2.2.1 (rtAt x.rq.2 k))=F:=⟨_,rfl⟩
 rw[hF]
 have hFv:∀{k:Nat}{r:RowM},x.rows[k]? =some r->F k=X6 n.net x.f.2.1 x.f.2.2.1 r.xs:=λh=>by rw[<-hF];show X6 _ _ _ _=_;rw[Ydu h]
 repeat'(first|refine zgb ?_|(refine zgf ?_ ?_<;>intro _<;>try exact zo)|(refine zgh ?_;intro _)|fail)
 rename_i gn gx _ _
 refine Yi (λk:Nat=>[(19,.int .i64 (k:Nat)),(18,.int .i64 x.rows.length),(17,.slice x.A x.rows.length x.cap),(3,.pointer (some ⟨gx,0,none⟩)),(2,.pointer (some ⟨gn,0,none⟩))]) (λ_=>rqA gx x::netA gn n::H) (λk=>k<=x.rows.length/\∀j,0<=j->j<k->F j=0) (λk=>x.rows.length-k) 0 ⟨Ti _,λj _ h=>absurd h (RD _)⟩ ?_ (λw hw=>hw) ?_
 ·exact zc1
 rintro k ⟨hk,hz⟩ K hK
 have hrt:Rd B w0 (rqA gx x::netA gn n::H) x.A (x.rows.flatMap rowF):=hx.rt.cons.cons
 by_cases hlt:k<x.rows.length
 ·obtain⟨r,hr⟩:∃r,x.rows[k]? =some r:=⟨_,Ta hlt⟩
  have hFk:=hFv hr
  have p2:=λ{H':List HP}{w:World}(hin:n.In B w0 H') (hx:x.In B w0 H') (hw:St B w0 H' w)=>p1 r (Td hr) hin hx hw
  rw[<-hFk]at p2
  by_cases hFz:F k=0
  ·rw[hFz]at p2
   repeat'(first|((first|apply Yb YeL|apply Yc YeL);exact za;exact rfl;exactλ_ hw=>(p2 (hin.mono zk) (hx.mono zk) hw))|refine zgd ?_|(refine zge ?_ ?_<;>intro _<;>try exact zo)|fail)
   apply hK (k+1)
   ·exact YtM
   ·omega
   ·exact zc1
   ·exact zc0
  ·have hfe:=Ze (f:=F) (r:=x.rows.length) (i0:=0) (i:=k) (λj h1 h2=>hz j h1 h2) (Ti _) (by omega) hFz
   rw[hfe,Tm hFz]
   clear hK
   repeat'(first|((first|apply Yb YeL|apply Yc YeL);exact za;exact rfl;exactλ_ hw=>(p2 (hin.mono zk) (hx.mono zk) hw))|refine zgd ?_|(refine zge ?_ ?_<;>intro _<;>try exact zo)|fail)
   apply Yh H
   ·exact zc0
   exact zc7
 ·obtain rfl:k=x.rows.length:=by omega
  have hfe:=Zy (f:=F) (r:=x.rows.length) (i0:=0) λj h1 h2=>hz j h1 (by omega)
  rw[hfe,Tf (λe=>e rfl)]
  clear hK
  by_cases h3:x.rows.length=2
  rotate_left
  ·rw[Tf (λe=>h3 e.1)]
   repeat'(first|(apply zg28;refine zs84 ?_)|refine zgd ?_|(refine zgf ?_ ?_<;>intro _<;>try exact zo)|fail)
   apply Yh H
   ·exact zc0
   exact zc7
  obtain⟨r0,hr0⟩:∃r,x.rows[0]? =some r:=⟨_,Ta (by omega)⟩
  obtain⟨r1,hr1⟩:∃r,x.rows[1]? =some r:=⟨_,Ta (by omega)⟩
  rw[Ydu hr0,Ydu hr1]
  have p3:=λ{H':List HP}{w:World}(hx:x.In B w0 H') (hw:St B w0 H' w)=>YaP r0.xs r1.xs (cap:=r0.cap) (cap2:=r1.cap) (TY (hx.rl r0 (Td hr0)).1 (by decide)) (TY (hx.rl r1 (Td hr1)).1 (by decide)) (hx.rw_ r0 (Td hr0)) (hx.rw_ r1 (Td hr1)) hw
  by_cases heq:r0.xs=r1.xs
  ·rw[Tm ⟨h3,heq⟩]
   rw[Tj heq]at p3
   repeat'(first|refine zgc ?_|(refine zge ?_ ?_<;>intro _<;>try exact zo)|fail)
   apply Jc [0,1,2,3,4,5,6,7,8,9,10,11,12,13,14] []
   kernel_rfl
   kernel_rfl
   (simp only[Ye,nthO];rfl)
   exact rfl
   repeat'(first|refine zgd ?_|(refine zgf ?_ ?_<;>intro _<;>try exact zo)|fail)
   first|apply Yb YeI|apply Yc YeI
   exact za
   exact rfl
   exactλ_ hw=>(p3 (hx.mono zc0) hw)
   repeat'(first|(apply Yj;(repeat(first|with_reducible exact Xe|(with_reducible apply Y2;(repeat(first|with_reducible exact Yy|with_reducible apply YR))))))|refine zgd ?_|fail)
   ·show Perm H (H++[])
    exact zc44
   repeat'(first|fail)
   apply Yh H
   ·exact zc0
   exact zc7
  ·rw[Tf (λe=>heq e.2)]
   rw[Tu heq]at p3
   repeat'(first|refine zgc ?_|(refine zge ?_ ?_<;>intro _<;>try exact zo)|fail)
   apply Jc [0,1,2,3,4,5,6,7,8,9,10,11,12,13,14] []
   kernel_rfl
   kernel_rfl
   (simp only[Ye,nthO];rfl)
   exact rfl
   repeat'(first|refine zgd ?_|(refine zgf ?_ ?_<;>intro _<;>try exact zo)|fail)
   first|apply Yb YeI|apply Yc YeI
   exact za
   exact rfl
   exactλ_ hw=>(p3 (hx.mono zc0) hw)
   repeat'(first|(apply Yj;(repeat(first|with_reducible exact Xe|(with_reducible apply Y2;(repeat(first|with_reducible exact Yy|with_reducible apply YR))))))|refine zgd ?_|fail)
   ·show Perm H (H++[])
    exact zc44
   repeat'(first|fail)
   apply Yh H
   ·exact zc0
   exact zc7
theorem Ypk(q:List RqM):RqM.fl q=YE (q.map RqM.rq):=by unfold RqM.fl YE;rw[SU];rfl
theorem Ydt{q:List RqM}{i:Nat}(h:q[i]? =some x):rqAt (q.map RqM.rq) i=x.rq:=by
 have h2:(q.map RqM.rq)[i]? =some x.rq:=by simp_all
 grind [Vl]
theorem Yef(n:NetM)(q:List RqM)(hin:n.In B w0 H)(hq:QIn B w0 H A q)(hw:St B w0 H w):
 CX B w0 99 [n.val,.slice A q.length cap] w λv K=>v=.tuple #[.int .i64 (rqsE n.net (q.map RqM.rq)).1,.int .i64 (rqsE n.net (q.map RqM.rq)).2]/\K=H:=by
 refine Ya Tryz.func99 Tryz.ntmps99 rfl rfl hw ?_
 have hql:=hq.ln
 have hqr:=hq.rd
 have p1:=λ{H':List HP}{w:World}(hin:n.In B w0 H') (hw:St B w0 H' w)=>YY n hin hw
 have p2:=λ{H':List HP}{w:World}(hq:QIn B w0 H' A q) (hw:St B w0 H' w)=>YaH q (cap:=cap) hql hq.rd hw
 have p3:=λ{A2:Option Addr}{cap2:Nat}{H':List HP}{w:World}(hr:Rd B w0 H' A2 ((RqM.fl q).flatMap flwF)) (hw:St B w0 H' w)=>YW n.nodes (RqM.fl q) (by unfold RqM.fl;rw[Tv];omega) (cap:=cap2) hr hw
 unfold rqsE
 rw[<-Ypk,Tv]
 rw[show n.net.nodes=n.nodes from rfl]
 obtain⟨c,hc⟩:∃c,Yq n.net=c:=⟨_,rfl⟩
 obtain⟨⟨fi,fe⟩,hf⟩:∃f,Yx n.nodes (RqM.fl q)=f:=⟨_,rfl⟩
 obtain⟨F,hF⟩:∃F,(λi=>rtsE n.net (rqAt (q.map RqM.rq) i))=F:=⟨_,rfl⟩
 rw[hc]at p1⊢
 rw[hf]at p3⊢
 rw[hF]
 dsimp only at p3⊢
 have hFv:∀{k:Nat}{x:RqM},q[k]? =some x->F k=rtsE n.net x.rq:=λh=>by rw[<-hF];show rtsE _ _=_;rw[Ydt h]
 unfold NetM.val
 by_cases h0:c=0
 rotate_left
 ·rw[Tm h0]
  repeat'(first|((first|apply Yb en68|apply Yc en68);exact za;exact rfl;exactλ_ hw=>(p1 hin.cons hw))|refine zgb ?_|(refine zge ?_ ?_<;>intro _<;>try exact zo)|(refine zgh ?_;intro _)|fail)
  apply Yh H
  ·exact zc0
  exact zc10
 subst h0
 rw[Tf (λe=>e rfl)]
 by_cases h1:fe=0
 rotate_left
 ·rw[Tm h1]
  repeat'(first|((first|apply Yb en68|apply Yc en68);exact za;exact rfl;exactλ_ hw=>(p1 hin.cons hw))|refine zgb ?_|(refine zge ?_ ?_<;>intro _<;>try exact zo)|(refine zgh ?_;intro _)|fail)
  apply Yz [0,1,2,3,4,5,6,7,8,9] [] [true]
  kernel_rfl
  kernel_rfl
  exact zy
  (simp only[Ye,nthO];rfl)
  exact rfl
  repeat'(first|refine zgd ?_|fail)
  apply Yg _ Ylf
  exact za
  exact rfl
  exactλ_ hw=>(p2 (hq.mono zc0) (hw))
  rintro _ _ ⟨A2,cap2,rfl,rfl⟩
  repeat'(first|(apply Yj;(repeat(first|with_reducible exact Xe|(with_reducible apply Y2;(repeat(first|with_reducible exact Yy|with_reducible apply YR))))))|refine zgd ?_|fail)
  first|apply Yb en78|apply Yc en78
  exact za
  exact rfl
  exactλ_ hw=>(p3 (Rd.sl (by(focus exact zc2))) hw)
  repeat'(first|(apply Yj;(repeat(first|with_reducible exact Xe|(with_reducible apply Y2;(repeat(first|with_reducible exact Yy|with_reducible apply YR))))))|refine zgd ?_|(refine zge ?_ ?_<;>intro _<;>try exact zo)|fail)
  apply Yh H
  ·exact zc0
  exact zc10
 subst h1
 rw[Tf (λe=>e rfl)]
 repeat'(first|((first|apply Yb en68|apply Yc en68);exact za;exact rfl;exactλ_ hw=>(p1 hin.cons hw))|refine zgb ?_|(refine zge ?_ ?_<;>intro _<;>try exact zo)|(refine zgh ?_;intro _)|fail)
 first|(rename_i gn;guard_hyp gn:Nat)|(rename_i gn _;guard_hyp gn:Nat)|(rename_i gn _ _;guard_hyp gn:Nat)
 apply Yz [0,1,2,3,4,5,6,7,8,9] [] [true]
 kernel_rfl
 kernel_rfl
 exact zy
 (simp only[Ye,nthO];rfl)
 exact rfl
 repeat'(first|refine zgd ?_|fail)
 apply Yg _ Ylf
 exact za
 exact rfl
 exactλ_ hw=>(p2 (hq.mono zc0) (hw))
 rintro _ _ ⟨A2,cap2,rfl,rfl⟩
 repeat'(first|(apply Yj;(repeat(first|with_reducible exact Xe|(with_reducible apply Y2;(repeat(first|with_reducible exact Yy|with_reducible apply YR))))))|refine zgd ?_|fail)
 first|apply Yb en78|apply Yc en78
 exact za
 exact rfl
 exactλ_ hw=>(p3 (Rd.sl (by(focus exact zc2))) hw)
 repeat'(first|(apply Yj;(repeat(first|with_reducible exact Xe|(with_reducible apply Y2;(repeat(first|with_reducible exact Yy|with_reducible apply YR))))))|refine zgd ?_|(refine zge ?_ ?_<;>intro _<;>try exact zo)|fail)
 refine Yi (λk:Nat=>[(28,.int .i64 (k:Nat)),(27,.int .i64 q.length),(26,.slice A q.length cap),(2,.pointer (some ⟨gn,0,none⟩))]) (λ_=>netA gn n::H) (λk=>k<=q.length/\∀j,0<=j->j<k->F j=0) (λk=>q.length-k) 0 ⟨Ti _,λj _ h=>absurd h (RD _)⟩ ?_ ?_ ?_
 ·exact zc1
 ·exact zc0
 rintro k ⟨hk,hz⟩ K hK
 have hqr':Rd B w0 (netA gn n::H) A (q.flatMap rqF):=hqr.cons
 by_cases hlt:k<q.length
 ·obtain⟨x,hx⟩:∃x,q[k]? =some x:=⟨_,Ta hlt⟩
  have hFk:=hFv hx
  have hxi:=hq.x x (Td hx)
  have p4:=λ{H':List HP}{w:World}(hin:n.In B w0 H') (hx:x.In B w0 H') (hw:St B w0 H' w)=>Q9 n x hin hx hw
  rw[<-hFk]at p4
  by_cases hFz:F k=0
  ·rw[hFz]at p4
   repeat'(first|((first|apply Yb Ylo|apply Yc Ylo);exact za;exact rfl;exactλ_ hw=>(p4 (hin.mono zk) (hxi.mono zk) hw))|refine zgd ?_|(refine zge ?_ ?_<;>intro _<;>try exact zo)|(refine zgh ?_;intro _)|fail)
   apply hK (k+1)
   ·exact YtM
   ·omega
   ·exact zc1
   ·exact zc0
  ·have hfe:=Ze (f:=F) (r:=q.length) (i0:=0) (i:=k) (λj h1 h2=>hz j h1 h2) (Ti _) (by omega) hFz
   rw[hfe]
   clear hK
   repeat'(first|((first|apply Yb Ylo|apply Yc Ylo);exact za;exact rfl;exactλ_ hw=>(p4 (hin.mono zk) (hxi.mono zk) hw))|refine zgd ?_|(refine zge ?_ ?_<;>intro _<;>try exact zo)|(refine zgh ?_;intro _)|fail)
   apply Yh H
   ·exact zc0
   exact zc10
 ·obtain rfl:k=q.length:=by omega
  have hfe:=Zy (f:=F) (r:=q.length) (i0:=0) λj h1 h2=>hz j h1 (by omega)
  rw[hfe]
  clear hK
  repeat'(first|refine zgc ?_|(refine zge ?_ ?_<;>intro _<;>try exact zo)|fail)
  apply Yh H
  ·exact zc0
  exact zc10
variable {s:Sch}{slot:Int}{j n:Nat}
theorem Yna(h:(Ym s j).1=slot)(hj:j<n):∃R,inI s slot n=inI s slot j++j::R/\∀x∈R,j<x:=by
 obtain⟨m,rfl⟩:∃m,n=j+(m+1):=⟨n-j-1,by omega⟩
 have e:inI s slot (j+(m+1))=inI s slot j++((List.range (m+1)).map (j+·)).filter λi=>decide ((Ym s i).1=slot):=by
  grind [inI,List.range_add]
 rw[e,SE,Ro,Np,Tm (by simp_all)]
 simp_all
theorem Ypu{k:Nat}(h:(inI s slot n)[k]? =some j):(inI s slot n).take k=inI s slot j:=by
 have hm:=Og.1 (Td h)
 obtain⟨R,hR,hRx⟩:=Yna hm.2 hm.1
 rw[hR]at h⊢
 have hk:k=(inI s slot j).length:=by
  rcases RZ k (inI s slot j).length with h1|h1|h1
  ·rw[S7 h1]at h
   have:=(Og.1 (Td h)).1
   omega
  ·exact h1
  ·rw[R7 (by omega)]at h
   obtain⟨q,hq⟩:∃q,k-(inI s slot j).length=q+1:=⟨k-(inI s slot j).length-1,by omega⟩
   rw[hq,SR]at h
   have:=hRx j (Td h)
   omega
 simp_all
theorem Yga{α:Type}{p:α->Bool}{l:List α}{i:Nat}{x:α}(h:l[i]? =some x):(l.take (i+1)).filter p=(l.take i).filter p++if p x=true then [x]else []:=YdT
def W3(s:Sch)(c:Cel)(l:List Nat):List Cel:=(l.filter λj=>decide ((Ym s j).2.1=c.2.1)).map (Ym s)
theorem Yap{s:Sch}{c:Cel}:∀{m:Nat},m<=s.cells.length->W3 s c (inI s c.1 m)=(s.cells.take m).filter (Zh c)
 |0,_=>by simp[W3,inI]
 |m+1,h=>by
  have ih:=Yap (s:=s) (c:=c) (m:=m) (by omega)
  have hg:=Y0 (s:=s) (i:=m) (by omega)
  rw[Yga hg,<-ih]
  have hp:Zh c (Ym s m)=true↔(Ym s m).1=c.1/\(Ym s m).2.1=c.2.1:=by simp_all [Zh]
  by_cases h1:(Ym s m).1=c.1
  ·rw[YlQ h1]
   unfold W3
   grind
  simp_all [Ypt]
theorem YiB(s:Sch)(c:Cel)(l:List Nat)(j:Nat):W3 s c (l++[j])=W3 s c l++if(Ym s j).2.1=c.2.1 then [Ym s j]else []:=by
 unfold W3
 grind
structure DsM where
 A:Option Addr
 cap:Nat
 M:List Cel
 a:Int
theorem Ycs(n:NetM)(s:SchM)(i:Nat)(hck:Yq n.net=0)(hgood:∀c∈s.cells,Y5 n.net (Yr c) (toC c)=true)(hi:i<s.cells.length)(hl:s.cells.length<=1000){B:Nat}{w0:World}{H:List HP}{w:World}(hin:n.In B w0 H)(hr:Rd B w0 H s.A (s.cells.flatMap celF))(hw:St B w0 H w):
 CX B w0 190 [n.val,s.val,.int .i64 i] w λv K=>v=.bool (ZO n.net s.sch i)/\K=H:=by
 refine X5 Tryz.func190 Tryz.ntmps190 rfl rfl hw ?_
 have hget:s.cells[i]? =some (Ym s.sch i):=Y0 (s:=s.sch) hi
 obtain⟨c,hc⟩:∃c,Ym s.sch i=c:=⟨_,rfl⟩
 rw[hc]at hget
 have hrm:Rd B w0 [many H] s.A (s.cells.flatMap celF):=hr.tail
 clear hr
 refine Y8 [many H] (λw hw=>hw.perm (.closeT H)) ?_
 refine zX76 ?_<;>intros
 rename_i gn gs gi g7 g8
 apply Yz [0,1,2,3,4,5,6] [7] [false,false,true,true,false,true]
 kernel_rfl
 kernel_rfl
 exact zy
 (simp only[Ye,nthO];rfl)
 (simp only[Ye,nthO];rfl)
 refine zX2 ?_
 apply Yg _ Yo2
 exact za
 exact rfl
 exactλ_ hw=>(YcY s c.1 (hw))
 rintro _ _ ⟨g1,g2,rfl,rfl⟩
 refine zX2 ?_
 obtain⟨L,hL⟩:∃L,inI s.sch c.1 s.cells.length=L:=⟨_,rfl⟩
 have hiL:i∈L:=by
  rw[<-hL]
  exact Og.2 ⟨hi,by rw[hc]⟩
 have hr7:Rd B w0 (intB g2 c.1::schB g1 s::blk gi (.cells #[.int .i64 i] 3 (0,0))::schB gs s::netN gn n::[many H]) s.A (s.cells.flatMap celF):=hrm.cons.cons.cons.cons.cons
 rw[show(Value.slice none 0 0).cells=#[Value.slice none 0 0] from rfl]
 refine Xf 48 5 ?_
 refine X7 (gf:=320) (lb:=[.pointer (some ⟨g1,0,none⟩),.pointer (some ⟨g2,0,none⟩)]) (xs:=inXs s.sch c.1) (intB g2 c.1::schB g1 s::blk gi (.cells #[.int .i64 i] 3 (0,0))::schB gs s::netN gn n::[many H]) (λx:DsM=>[blk g7 (.cells #[.slice x.A x.M.length x.cap] 28 (0,0)),cels x.A x.cap x.M,blk g8 (.cells #[.int .i64 x.a] 3 (0,0))])
  (λk x=>x.M=W3 s.sch c (L.take k)/\x.a=if i∈L.take k then(YS s.sch i:Int)else 0) (λ_ _=>False) ⟨none,0,[],0⟩ rfl Yo5 (YcX s c.1 g1 g2 hr7 (by omega) (.tail _ (.head _)) (.head _)) rfl ?_ (by kernel_rfl) (by kernel_rfl) ?_ ⟨by simp[W3],by simp⟩ ?_ ?_ (λ_ _ _ h=>h.elim)
 ·exact YtT
 ·unfold schB intB cels netN
  simp only[TB,TI,Rh,SX]
  exact zc0
 ·rintro l k args R ⟨A,cap,M,a⟩ hk ⟨hM,ha⟩
  obtain⟨j,hj,hlt,rfl⟩:=WM hk
  have hlt2:j<s.cells.length:=hlt
  have hj:L[k]? =some j:=by rw[<-hL];exact hj
  dsimp only at hM ha⊢
  dsimp only[Uc,List.cons_append,List.nil_append]
  have hgj:s.cells[j]? =some (Ym s.sch j):=Y0 (s:=s.sch) hlt
  have htj:L.take k=inI s.sch c.1 j:=by
   rw[<-hL]at hj⊢
   exact Ypu hj
  have htk:L.take (k+1)=L.take k++[j]:=by rw[TF,hj,RE]
  have hMf:M=(s.cells.take j).filter (Zh c):=by
   rw[hM,htj]
   exact Yap (s:=s.sch) (by show j<=s.cells.length;omega)
  have hMl:M.length<=s.cells.length:=by
   rw[hMf]
   have h1:=RG (Zh c) (s.cells.take j)
   rw[TK]at h1
   omega
  have hps:=YiB s.sch c (L.take k) j
  rw[<-htk,<-hM]at hps
  obtain⟨d,hd⟩:∃d,Ym s.sch j=d:=⟨_,rfl⟩
  rw[hd]at hgj hps
  refine zX3 ?_
  apply JB Yy
  intro R'
  unfold intB schB netN cels
  clear hr7
  by_cases hoff:d.2.1=c.2.1
  rotate_left
  ·have hij:i≠j:=by
    rintro rfl
    rw[hc]at hd
    subst hd
    exact hoff rfl
   refine zX0 ?_<;>intros
   all_goals(
    apply VO ⟨A,cap,M,a⟩
    ·refine⟨?_,?_⟩
     ·show M=_
      rw[hps,Tf hoff,Rm]
     ·show a=_
      rw[ha,htk]
      simp[hij]
    ·dsimp only[List.cons_append,List.nil_append]
     exact zc0)
  by_cases hji:j=i
  ·obtain rfl:=hji
   obtain rfl:d=c:=hd.symm.trans hc
   have hsa:(M.length:Int)=(YS s.sch j:Int):=by
    rw[hMf]
    unfold YS
    rw[hc]
    rfl
   refine zX23 ?_<;>intros
   apply O9 [0,1,2,3,4,5,6] [7,8] [false,true,false,false,false,false,false,true,false,true]
   kernel_rfl
   kernel_rfl
   exact zy
   (simp only[Ye,nthO];rfl)
   (simp only[Ye,nthO];rfl)
   refine zX80 ?_<;>intros
   rename_i A9 cap9
   apply VO ⟨A9,cap9,M++[d],(M.length:Int)⟩
   ·refine⟨?_,?_⟩
    ·show M++[d]=_
     rw[hps,Tm hoff]
    ·show(M.length:Int)=_
     rw[htk,Tm (by simp),hsa]
   ·dsimp only[List.cons_append,List.nil_append]
    intro w hw
    rw[Vs,Yc5 M d]at hw
    unfold cels at hw
    revert w
    exact zc0
  ·have hji2:i≠j:=λe=>hji e.symm
   refine zX23 ?_<;>intros
   apply O9 [0,1,2,3,4,5,6] [7,8] [false,true,false,false,false,false,false,true,false,true]
   kernel_rfl
   kernel_rfl
   exact zy
   (simp only[Ye,nthO];rfl)
   (simp only[Ye,nthO];rfl)
   refine zX80 ?_<;>intros
   rename_i A9 cap9
   apply VO ⟨A9,cap9,M++[d],a⟩
   ·refine⟨?_,?_⟩
    ·show M++[d]=_
     rw[hps,Tm hoff]
    ·show a=_
     rw[ha,htk]
     simp[hji2]
   ·dsimp only[List.cons_append,List.nil_append]
    intro w hw
    rw[Vs,Yc5 M d]at hw
    unfold cels at hw
    revert w
    exact zc0
 ·rintro D ⟨A,cap,M,a⟩ ⟨hM,ha⟩
  have hLl:(inXs s.sch c.1).length=L.length:=by rw[inXs,Tv];exact TA List.length hL
  dsimp only at hM ha⊢
  rw[hLl,TL]at hM ha
  rw[Tm hiL]at ha
  subst ha
  have hMS:M=YL s.sch i:=by
   rw[hM,<-hL]
   have h1:=Yap (s:=s.sch) (c:=c) (TM _)
   rw[TL]at h1
   rw[show s.cells.length=s.sch.cells.length from rfl,h1]
   unfold YL
   rw[hc]
  have hMl:M.length<=1000:=by
   rw[hMS]
   have h1:=RG (Zh (Ym s.sch i)) s.sch.cells
   exact TY h1 hl
  have hgM:M[((YS s.sch i:Nat):Int).toNat]? =some c:=by rw[hMS,Rq,YdC (s:=s.sch) hi,hc]
  have hal:YS s.sch i<M.length:=(Tc.1 hgM).1
  have hok:=YT hck
  have hcm:c∈s.cells:=Td hget
  have hgd:=hgood c hcm
  obtain⟨⟨f0,f1⟩,⟨t0,t1⟩,_,k1,k2⟩:(0<=c.2.2.1/\c.2.2.1<n.net.nodes)/\(0<=c.2.2.2.1/\c.2.2.2.1<n.net.nodes)/\c.2.2.1≠c.2.2.2.1/\0<=YA n.net c.2.2.1 c.2.2.2.1/\0<=YA n.net c.2.2.2.1 c.2.2.1:=Xu hok hgd
  have hno:M.any (Ua n.net)=false:=by
   rw[RY]
   intro x hx
   have hxm:x∈s.cells:=by
    rw[hMS]at hx
    exact(RI.1 hx).1
   obtain⟨h1,h2,_⟩:=Xu hok (hgood x hxm)
   unfold Ua
   rw[show insE (Yr x) n.net.nodes=true from Tj h1,show insE (toC x) n.net.nodes=true from Tj h2]
   simp
  have hinm:n.In B w0 [many H]:=⟨hin.pw.tail,λr hr=>(hin.rw_ r hr).tail,hin.lk.tail,hin.mg.tail,hin.s1,hin.s2,hin.s3,hin.s4⟩
  have hmg:=hinm.mg
  have hs4:=hin.s4
  have hml:n.margin.length=n.net.links.length:=hok.k1
  have x1:=Zl k1
  have x2:=Zl k2
  have hix:∀u v:Int,XG n.net u v=YA n.net u v:=λu v=>by unfold XG;rw[Tf (by omega)]
  have p1:=λ{H':List HP}{w:World}(hin:n.In B w0 H') (hw:St B w0 H' w)=>XM n c.2.2.1 c.2.2.2.1 hin hw
  have p2:=λ{H':List HP}{w:World}(hin:n.In B w0 H') (hw:St B w0 H' w)=>XM n c.2.2.2.1 c.2.2.1 hin hw
  rw[hix]at p1 p2
  obtain⟨i1,hi1⟩:∃z,YA n.net c.2.2.1 c.2.2.2.1=z:=⟨_,rfl⟩
  obtain⟨i2,hi2⟩:∃z,YA n.net c.2.2.2.1 c.2.2.1=z:=⟨_,rfl⟩
  rw[hi1]at p1 k1 x1
  rw[hi2]at p2 k2 x2
  have hm1:n.margin[i1.toNat]? =some (mar n.net i1.toNat):=zc48
  have hm2:n.margin[i2.toNat]? =some (mar n.net i2.toNat):=zc48
  have q1:=λ{H':List HP}{w:World}(hin:n.In B w0 H') (hr:Rd B w0 H' A (M.flatMap celF)) (hw:St B w0 H' w)=>Ur n M (YS s.sch i) c.2.2.2.1 hck ⟨t0,t1⟩ hal hMl hno (cap:=cap) hin hr hw
  have q2:=λ{H':List HP}{w:World}(hin:n.In B w0 H') (hr:Rd B w0 H' A (M.flatMap celF)) (hw:St B w0 H' w)=>Ur n M (YS s.sch i) c.2.2.1 hck ⟨f0,f1⟩ hal hMl hno (cap:=cap) hin hr hw
  have r1:=λ{H':List HP}{w:World}(hin:n.In B w0 H') (hw:St B w0 H' w)=>OL n (mar n.net i1.toNat) (Uo n.net M (YS s.sch i) c.2.2.2.1) hin hw
  have r2:=λ{H':List HP}{w:World}(hin:n.In B w0 H') (hw:St B w0 H' w)=>OL n (mar n.net i2.toNat) (Uo n.net M (YS s.sch i) c.2.2.1) hin hw
  have hres:ZO n.net s.sch i=(!(X8 n.net (mar n.net i1.toNat) (Uo n.net M (YS s.sch i) c.2.2.2.1))||!(X8 n.net (mar n.net i2.toNat) (Uo n.net M (YS s.sch i) c.2.2.1))):=by
   unfold ZO
   rw[hc,<-hMS]
   unfold Yr toC
   rw[hi1,hi2]
  obtain⟨b1,hb1⟩:∃b,X8 n.net (mar n.net i1.toNat) (Uo n.net M (YS s.sch i) c.2.2.2.1)=b:=⟨_,rfl⟩
  obtain⟨b2,hb2⟩:∃b,X8 n.net (mar n.net i2.toNat) (Uo n.net M (YS s.sch i) c.2.2.1)=b:=⟨_,rfl⟩
  rw[hb1]at r1 hres
  rw[hb2]at r2 hres
  rw[hres]
  dsimp only[List.cons_append,List.nil_append]
  unfold cels intB schB netN
  cases b1 with
  |false=>
   refine zX81 ?_<;>intros
   first|apply Yb en69|apply Yc en69
   exact za
   exact rfl
   exactλ_ hw=>(p1 zc18 hw)
   refine zX7 ?_
   first|apply Yb en69|apply Yc en69
   exact za
   exact rfl
   exactλ_ hw=>(p2 zc18 hw)
   refine zX82 ?_
   first|apply Yb OA|apply Yc OA
   exact za
   exact rfl
   exactλ_ hw=>(q1 zc18 (Rd.sl (by(focus exact zc2))) hw)
   repeat'(first|fail)
   first|apply Yb Wj|apply Yc Wj
   exact za
   exact rfl
   exactλ_ hw=>(r1 zc18 hw)
   refine zX2 ?_
   apply Zx
   ·exact zc83
   apply VQ_m
   apply Yh H
   ·intro w hw
    have h5:St B w0 [many H] w:=by
     revert w
     exact zc0
    exact h5.perm (.openT H)
   exact zc7
  |true=>
   cases b2 with
   |false=>
    refine zX81 ?_<;>intros
    first|apply Yb en69|apply Yc en69
    exact za
    exact rfl
    exactλ_ hw=>(p1 zc18 hw)
    refine zX7 ?_
    first|apply Yb en69|apply Yc en69
    exact za
    exact rfl
    exactλ_ hw=>(p2 zc18 hw)
    refine zX82 ?_
    first|apply Yb OA|apply Yc OA
    exact za
    exact rfl
    exactλ_ hw=>(q1 zc18 (Rd.sl (by(focus exact zc2))) hw)
    repeat'(first|fail)
    first|apply Yb Wj|apply Yc Wj
    exact za
    exact rfl
    exactλ_ hw=>(r1 zc18 hw)
    refine zX2 ?_
    first|apply Yb OA|apply Yc OA
    exact za
    exact rfl
    exactλ_ hw=>(q2 zc18 (Rd.sl (by(focus exact zc2))) hw)
    refine zX9 ?_
    first|apply Yb Wj|apply Yc Wj
    exact za
    exact rfl
    exactλ_ hw=>(r2 zc18 hw)
    refine zX2 ?_
    apply Zx
    ·exact zc83
    apply VQ_m
    apply Yh H
    ·intro w hw
     have h5:St B w0 [many H] w:=by
      revert w
      exact zc0
     exact h5.perm (.openT H)
    exact zc7
   |true=>
    refine zX81 ?_<;>intros
    first|apply Yb en69|apply Yc en69
    exact za
    exact rfl
    exactλ_ hw=>(p1 zc18 hw)
    refine zX7 ?_
    first|apply Yb en69|apply Yc en69
    exact za
    exact rfl
    exactλ_ hw=>(p2 zc18 hw)
    refine zX82 ?_
    first|apply Yb OA|apply Yc OA
    exact za
    exact rfl
    exactλ_ hw=>(q1 zc18 (Rd.sl (by(focus exact zc2))) hw)
    repeat'(first|fail)
    first|apply Yb Wj|apply Yc Wj
    exact za
    exact rfl
    exactλ_ hw=>(r1 zc18 hw)
    refine zX2 ?_
    first|apply Yb OA|apply Yc OA
    exact za
    exact rfl
    exactλ_ hw=>(q2 zc18 (Rd.sl (by(focus exact zc2))) hw)
    refine zX9 ?_
    first|apply Yb Wj|apply Yc Wj
    exact za
    exact rfl
    exactλ_ hw=>(r2 zc18 hw)
    refine zX2 ?_
    apply Zx
    ·exact zc83
    apply VQ_m
    apply Yh H
    ·intro w hw
     have h5:St B w0 [many H] w:=by
      revert w
      exact zc0
     exact h5.perm (.openT H)
    exact zc7
theorem YkB(x:WayM){B:Nat}{w0:World}{H:List HP}{w:World}(ht:TabsB B w0)(hi:x.In B w0 H)(hw:St B w0 H w):
 CX B w0 191 [x.n.val,x.s.val,flwV x.f,.slice x.A x.r.length x.cap] w λv K=>∃A cap,v=.tuple #[.int .i64 (YN x.n.net x.s.sch x.f x.r).1.1,.int .i64 (YN x.n.net x.s.sch x.f x.r).1.2.1,.slice A (YN x.n.net x.s.sch x.f x.r).1.2.2.length cap,.int .i64 (YN x.n.net x.s.sch x.f x.r).2]/\K=nrs A cap (YN x.n.net x.s.sch x.f x.r).1.2.2::H:=by
 refine Ya Tryz.func191 Tryz.ntmps191 rfl rfl hw ?_
 have p1:=λ{H':List HP}{w:World}(hi:x.In B w0 H') (hw:St B w0 H' w)=>Yi5 x ht hi hw
 obtain⟨R,hR⟩:∃R,YN x.n.net x.s.sch x.f x.r=R:=⟨_,rfl⟩
 rw[hR]
 unfold YN at hR
 obtain⟨e,he⟩:∃e,wayE x.n.net x.s.sch x.f x.r=e:=⟨_,rfl⟩
 rw[he]at p1 hR
 unfold NetM.val SchM.val flwV
 by_cases h0:e=0
 rotate_left
 ·rw[Tm h0]at hR
  subst hR
  refine zX69 ?_<;>intros
  apply Yh (nrs none 0 []::H)
  ·intro w hw
   have h5:St B w0 H w:=by
    revert w
    exact zc0
   exact h5.nilSlice _ _
  exact zc69
 subst h0
 rw[Tf (λh=>h rfl)]at hR
 have hok:=YgV he
 have p2:=λ{H':List HP}{w:World}(hi:x.In B w0 H') (hw:St B w0 H' w)=>YjC x hok hi hw
 unfold WC at p2
 cases hb:JY x.n.net x.s.sch x.f x.r with
 |none=>
  rw[hb]at hR p2
  dsimp only[Ybz]at hR p2
  subst hR
  refine zX69 ?_<;>intros
  apply Yg _ Ys3
  exact za
  exact rfl
  exactλ_ hw=>(p2 (hi.mono zc0) (hw))
  rintro _ _ ⟨A2,cap2,rfl,rfl⟩
  refine zX2 ?_
  apply Yh (nrs none 0 []::H)
  ·intro w hw
   have h5:St B w0 H w:=by
    revert w
    exact zc0
   exact h5.nilSlice _ _
  exact zc69
 |some b=>
  rw[hb]at hR p2
  dsimp only[Ybz]at hR p2
  subst hR
  refine zX69 ?_<;>intros
  apply Yg _ Ys3
  exact za
  exact rfl
  exactλ_ hw=>(p2 (hi.mono zc0) (hw))
  rintro _ _ ⟨A2,cap2,rfl,rfl⟩
  refine zX2 ?_
  apply Yh (nrs A2 cap2 b.2.2::H)
  ·exact zc0
  apply YfU;(iterate 5 exact rfl)
  exact⟨A2,cap2,rfl,rfl⟩
variable {A:Option Addr}{cap B:Nat}{w0 w:World}{H:List HP}
theorem JZ(l:List Int)(hlen:l.length<=1000)(hr:Rd B w0 H A (l.flatMap numF))(hw:St B w0 H w):
 CX B w0 175 [.slice A l.length cap] w λv K=>∃A' cap',v=.slice A' l.length cap'/\K=sl 3 1 A' l.length cap' (l.flatMap numF)::H:=by
 cases A with
 |none=>
  have hl:l=[]:=by
   cases l with
   |nil=>rfl
   |cons x l=>
    exact zc30
  subst hl
  refine Ya Tryz.func175 Tryz.ntmps175 rfl rfl hw ?_
  exact zc17
 |some a=>
  refine Ya Tryz.func175 Tryz.ntmps175 rfl rfl hw ?_
  exact zc11
theorem Wh(l:List Int)(hlen:l.length<=1000)(hr:Rd B w0 H A (l.flatMap numF))(hw:St B w0 H w):
 CX B w0 172 [.slice A l.length cap] w λv K=>∃A' cap',v=.slice A' l.length cap'/\K=sl 3 1 A' l.length cap' (l.flatMap numF)::H:=by
 cases A with
 |none=>
  have hl:l=[]:=by
   cases l with
   |nil=>rfl
   |cons x l=>
    exact zc30
  subst hl
  refine Ya Tryz.func172 Tryz.ntmps172 rfl rfl hw ?_
  exact zc17
 |some a=>
  refine Ya Tryz.func172 Tryz.ntmps172 rfl rfl hw ?_
  exact zc11
theorem Ybs(l:List RowM)(hlen:l.length<=1000)(hr:Rd B w0 H A (l.flatMap rowF))(hw:St B w0 H w):
 CX B w0 173 [.slice A l.length cap] w λv K=>∃A' cap',v=.slice A' l.length cap'/\K=sl 24 1 A' l.length cap' (l.flatMap rowF)::H:=by
 cases A with
 |none=>
  have hl:l=[]:=by
   cases l with
   |nil=>rfl
   |cons x l=>
    exact zc30
  subst hl
  refine Ya Tryz.func173 Tryz.ntmps173 rfl rfl hw ?_
  refine zX6 ?_
  apply Xg 24 1;exact zc38
 |some a=>
  refine Ya Tryz.func173 Tryz.ntmps173 rfl rfl hw ?_
  repeat'(first|(apply Zc;(iterate 3 exact rfl))|(apply XA T;exact rfl;exact rfl;intro g2)|refine zga ?_|fail)
  apply Xn T (f:=rowF) (l2:=l) (e:=24) (size:=1) (xs:=[]);(iterate 3 exact rfl);exact hr.cons;exact(λ_=>rfl);exact(λ_=>rfl);exact rfl;(intro _ _;exact zd);omega;intro A' cap'
  exact zc23
abbrev clA(g:Nat)(c:ClM):HP:=blk g (.cells #[.int .i64 c.flow,.slice c.rA c.rs.length c.rcap,.slice c.bA c.bs.length c.bcap,.slice c.wA c.ws.length c.wcap,.slice c.sA c.ss.length c.scap] 116 (0,0))
theorem YiI(e:Nat)(A:Option Addr)(cap:Nat)(l:List RowM)(r:RowM):sl e 1 A (l.length+1) cap (l.flatMap rowF++#[Value.slice r.A r.xs.length r.cap].toList)=sl e 1 A (l++[r]).length cap ((l++[r]).flatMap rowF):=by grind [rowF]
theorem Oj(f:RowM->HP)(l:List RowM)(r:RowM)(H:List HP):Perm (f r::many (l.map f)::H) (many ((l++[r]).map f)::H):=by
 have:=Perm.push (f r) (l.map f) [] H
 simp_all
theorem Yhw{S:Int->Option (List Int)}{len per:Int}{N:Nat}(hS:∀a l,S a=some l->l.length<=N):∀{k:Nat}{rel:Int}{b0 b:Int×Int×List Int},b0.2.2.length<=N->Vr S len per k rel b0=some b->b.2.2.length<=N
 |0,rel,b0,b,h0,h=>by
  grind [Vr]
 |k+1,rel,b0,b,h0,h=>by
  unfold Vr at h
  split at h
  ·simp_all
  cases hs:S rel with
  |none=>simp_all
  |some l=>
   rw[hs]at h
   refine Yhw hS ?_ h
   grind
theorem YmJ{x:WayM}(hok:We x){b:Int×Int×List Int}(h:JY x.n.net x.s.sch x.f x.r=some b):b.2.2.length<=72:=by
 have hl:=hok.len
 refine Yhw (λa l hs=>?_) (Ti _) h
 rw[Yav]at hs
 split at hs
 ·cases hs
 have h1:(runW x a).length<=XF (YB x.n.net x.r):=YbI _ _ _ _ _
 have h2:=YbC hok (YB x.n.net x.r).length
 grind [UY]
structure M8(xs:List Int) where
 A1:Option Addr
 c1:Nat
 r:RowM
 hr:r.xs=xs
 A3:Option Addr
 c3:Nat
structure CkM where
 i:Nat
 c:ClM
def ClM.lens(c:ClM):Prop:=(c.rs.length<=1000/\c.bs.length<=1000/\c.ws.length<=1000/\c.ss.length<=1000)/\(∀r∈c.rs,r.xs.length<=1000)/\∀r∈c.ss,r.xs.length<=1000
theorem YjJ(n:NetM)(s:SchM)(x:RqM)(ht:TabsB B w0)(hin:n.In B w0 H)(hrs:Rd B w0 H s.A (s.cells.flatMap celF))(hsl:s.cells.length<=1000000000000)(hx:x.In B w0 H)(hr9:x.rows.length<=9)(hw:St B w0 H w):
 CX B w0 102 [n.val,s.val,rqV x] w λv K=>∃c:ClM,v=.tuple #[clV c,.bool (!(Vz n.net s.sch x.rq))]/\(Vz n.net s.sch x.rq=false->c.clm=clmE n.net s.sch x.rq/\c.lens)/\K=clQ c::H:=by
 refine Ya Tryz.func102 Tryz.ntmps102 rfl rfl hw ?_
 have e1:x.rq.1=x.f:=rfl
 have p1:=λ{H':List HP}{w:World}(r:RowM) (hr:r∈x.rows) (hin:n.In B w0 H') (hrs:Rd B w0 H' s.A (s.cells.flatMap celF)) (hx:x.In B w0 H') (hw:St B w0 H' w)=>YkB ⟨n,s,x.f,r.A,r.cap,r.xs⟩ ht ⟨hin,hrs,hx.rw_ r hr,hsl,(hx.rl r hr).1,(hx.rl r hr).2⟩ hw
 unfold NetM.val SchM.val rqV
 refine zX24 ?_<;>intros
 rename_i g3 g4 g5 g6 g8
 have hln:x.rq.2=x.rows.map (·.xs):=rfl
 obtain⟨P,hP⟩:∃P,badR n.net s.sch x.f=P:=⟨_,rfl⟩
 have hla:Vz n.net s.sch x.rq=(x.rows.map (·.xs)).any P:=by unfold Vz;rw[hln,e1,hP]
 rw[hla]
 refine Yi (λz:CkM=>[(22,.int .i64 (z.i:Nat)),(21,.int .i64 x.rows.length),(20,.slice x.A x.rows.length x.cap),(8,.pointer (some ⟨g8,0,none⟩)),(6,.pointer (some ⟨g6,0,none⟩)),(5,.pointer (some ⟨g5,0,none⟩)),(4,.pointer (some ⟨g4,0,none⟩)),(3,.pointer (some ⟨g3,0,none⟩))]) (λz=>clA g8 z.c::clQ z.c::clA g6 (nilC 0)::rqA g5 x::schA g4 s::netA g3 n::H)
  (λz=>z.i<=x.rows.length/\z.c.clm=YhI n.net s.sch x.rq ((x.rows.take z.i).map (·.xs))/\z.c.lens/\((x.rows.take z.i).map (·.xs)).any P=false) (λz=>x.rows.length-z.i) ⟨0,nilC x.f.1⟩ ⟨Ti _,rfl,⟨by unfold nilC;simp,by unfold nilC;simp,by unfold nilC;simp⟩,by simp⟩ ?_ ?_ ?_
 ·exact zc1
 ·intro w hw
  have h1:=Yir x.f.1 hw
  have h2:St B w0 (clQ (nilC x.f.1)::clA g8 (nilC x.f.1)::clA g6 (nilC 0)::rqA g5 x::schA g4 s::netA g3 n::H) w:=h1
  clear hw h1
  revert w
  exact zc0
 rintro⟨i,c⟩ ⟨hi,hcm,hlen,hno⟩ K hK
 dsimp only at hi hcm hlen hno⊢
 have hrt:Rd B w0 (clA g8 c::clQ c::clA g6 (nilC 0)::rqA g5 x::schA g4 s::netA g3 n::H) x.A (x.rows.flatMap rowF):=hx.rt.cons.cons.cons.cons.cons.cons
 by_cases hlt:i<x.rows.length
 rotate_left
 ·obtain rfl:i=x.rows.length:=by omega
  rw[TL]at hcm hno
  rw[hno]
  clear hK
  refine zX1 ?_<;>intros
  apply Yv T (H2:=clQ c::H);(iterate 3 exact rfl);(focus exact zc2);exact rfl;exact rfl;(intro w hw;refine hw.perm ?_;focus exact zc5)
  exact⟨c,rfl,λ_=>⟨hcm,hlen⟩,rfl⟩
 obtain⟨r,hr⟩:∃r,x.rows[i]? =some r:=⟨_,Ta hlt⟩
 have hrm:=Td hr
 have hri:=hx.rw_ r hrm
 have p2:=λ{H':List HP}{w:World}(hin:n.In B w0 H') (hrs:Rd B w0 H' s.A (s.cells.flatMap celF)) (hx:x.In B w0 H') (hw:St B w0 H' w)=>p1 r hrm hin hrs hx hw
 dsimp only at p2
 obtain⟨⟨⟨m,wst,sx⟩,e⟩,hRt⟩:∃z,YN n.net s.sch x.f r.xs=z:=⟨_,rfl⟩
 rw[hRt]at p2
 dsimp only at p2
 unfold flwV at p2
 refine zX70 ?_<;>intros
 apply Yg _ Yv2
 exact za
 exact rfl
 exactλ_ hw=>(p2 (hin.mono zc0) (hrs.mono zc0) (hx.mono zc0) (hw))
 rintro _ _ ⟨A2,cap2,rfl,rfl⟩
 have hPr:P r.xs=decide (e≠0\/x.f.2.2.2.2.2<m):=by rw[<-hP];unfold badR;rw[hRt]
 by_cases hbad:e≠0\/x.f.2.2.2.2.2<m
 ·rw[Tj hbad]at hPr
  have hany:(x.rows.map (·.xs)).any P=true:=Rf.2 ⟨r.xs,RA hrm,hPr⟩
  rw[hany]
  clear hK
  by_cases he0:e=0
  all_goals(
   repeat'(first|refine zgd ?_|(refine zge ?_ ?_<;>intro _<;>try exact zo)|fail)
   apply Yv T (H2:=clQ (nilC 0)::H);(iterate 3 exact rfl);exact zm;exact rfl;exact rfl
   ·intro w hw
    have h5:St B w0 H w:=by
     revert w
     exact zk
    exact Yir 0 h5
   exact⟨nilC 0,rfl,(λh=>by cases h),rfl⟩)
 rw[Tu hbad]at hPr
 have he0:e=0:=Decidable.byContradiction λh=>hbad (.inl h)
 have hml:m<=x.f.2.2.2.2.2:=by omega
 subst he0
 obtain⟨hri9,hsx9⟩:r.xs.length<=9/\sx.length<=72:=by
  have h0:(YN n.net s.sch x.f r.xs).2=0:=by rw[hRt]
  obtain⟨h1,b,h2,h3⟩:=QO h0
  have hok:=YgV (x:=⟨n,s,x.f,r.A,r.cap,r.xs⟩) h1
  have h4:=YmJ hok h2
  rw[hRt]at h3
  injection h3 with h3 _
  rw[<-h3]at h4
  exact⟨hok.len.2,h4⟩
 have hinv:∀(A1:Option Addr) (c1:Nat) (r8:RowM) (_:r8.xs=r.xs) (A3:Option Addr) (c3:Nat) (A4:Option Addr) (c4:Nat) (A5:Option Addr) (c5:Nat),(i+1<=x.rows.length/\(ClM.mk c.flow A1 c1 (c.rs++[r8]) A3 c3 (c.bs++[m]) A4 c4 (c.ws++[wst]) A5 c5 (c.ss++[⟨A2,cap2,sx⟩])).clm=YhI n.net s.sch x.rq ((x.rows.take (i+1)).map (·.xs))/\(ClM.mk c.flow A1 c1 (c.rs++[r8]) A3 c3 (c.bs++[m]) A4 c4 (c.ws++[wst]) A5 c5 (c.ss++[⟨A2,cap2,sx⟩])).lens/\((x.rows.take (i+1)).map (·.xs)).any P=false):=by
  intro A1 c1 r8 hr8 A3 c3 A4 c4 A5 c5
  have hst:(x.rows.take (i+1)).map (·.xs)=(x.rows.take i).map (·.xs)++[r.xs]:=by
   rw[TF,hr,RE,TP];rfl
  have hli:((x.rows.take i).map (·.xs)).length=i:=by rw[Tv,TK];omega
  rw[hst]
  unfold ClM.clm YhI at hcm
  injection hcm with f1 f2 f3 f4 f5
  have l1:c.rs.length=i:=by rw[<-hli,<-f2,Tv]
  have l2:c.bs.length=i:=by rw[f3,Tv,hli]
  have l3:c.ws.length=i:=by rw[f4,Tv,hli]
  have l4:c.ss.length=i:=by
   have:=TA List.length f5
   rw[Tv,Tv,hli]at this
   exact this
  refine⟨by omega,?_,⟨?_,?_,?_⟩,?_⟩
  ·unfold ClM.clm YhI
   simp only[TP,Ro,Nh,hr8,f1,f2,f3,f4,f5,e1,hRt]
  ·simp only[Tt,TZ,Rh,l1,l2,l3,l4]
   omega
  ·intro q hq
   rcases TJ.1 hq with h|h
   ·exact hlen.2.1 q h
   ·rw[TU.1 h,hr8];omega
  ·intro q hq
   rcases TJ.1 hq with h|h
   ·exact hlen.2.2 q h
   ·rw[TU.1 h];show sx.length<=1000;omega
  ·rw[List.any_append,hno]
   simp[hPr]
 refine zX1 ?_<;>intros
 refine Y8 (nrs A2 cap2 sx::clA g8 c::sl 104 1 c.rA c.rs.length c.rcap (c.rs.flatMap rowF)::many (c.rs.map rowQ)::nrs c.bA c.bcap c.bs::nrs c.wA c.wcap c.ws::sl 24 1 c.sA c.ss.length c.scap (c.ss.flatMap rowF)::many (c.ss.map rowQ)::clA g6 (nilC 0)::rqA g5 x::schA g4 s::netA g3 n::H) (λw hw=>hw.perm (.cons _ (.cons _ (.open_ (clP c) _)))) ?_
 have hl1:=hlen.1
 refine XE (λz:M8 r.xs=>[(22,.int .i64 (i:Nat)),(21,.int .i64 x.rows.length),(20,.slice x.A x.rows.length x.cap),(8,.pointer (some ⟨g8,0,none⟩)),(6,.pointer (some ⟨g6,0,none⟩)),(5,.pointer (some ⟨g5,0,none⟩)),(4,.pointer (some ⟨g4,0,none⟩)),(3,.pointer (some ⟨g3,0,none⟩)),(13,.slice A2 sx.length cap2),(12,.int .i64 wst)])
  (λz=>nrs A2 cap2 sx::blk g8 (.cells #[.int .i64 c.flow,.slice z.A1 (c.rs++[z.r]).length z.c1,.slice z.A3 (c.bs++[m]).length z.c3,.slice c.wA c.ws.length c.wcap,.slice c.sA c.ss.length c.scap] 116 (0,0))::sl 104 1 z.A1 (c.rs++[z.r]).length z.c1 ((c.rs++[z.r]).flatMap rowF)::many ((c.rs++[z.r]).map rowQ)::nrs z.A3 z.c3 (c.bs++[m])::nrs c.wA c.wcap c.ws::sl 24 1 c.sA c.ss.length c.scap (c.ss.flatMap rowF)::many (c.ss.map rowQ)::clA g6 (nilC 0)::rqA g5 x::schA g4 s::netA g3 n::H) ?_ ?_
 ·intro K8 hK8
  apply Wv (.n1 0 (.n1 1 (.n1 2 (.n1 6 (.n1 7 (.n1 8 (.n2 3 (.n2 4 (.n2 5 (.n1 11 (.n1 9 (.n1 10 .done))) 9 (.n1 5 (.n1 11 (.n1 10 .done)))) 9 (.n1 4 (.n1 5 (.n1 11 (.n1 10 .done))))) 9 (.n1 3 (.n1 4 (.n1 5 (.n1 11 (.n1 10 .done)))))))))))) [12,13,14] [false,true]
  kernel_rfl
  kernel_rfl
  exact zy
  (simp only[Ye,nthO];rfl)
  repeat'(first|((apply Yg _ Yo0);exact za;exact rfl;exactλ_ hw=>JZ r.xs (by omega) (hri.mono zk) hw;rintro _ _ ⟨A8,cap8,rfl,rfl⟩)|(apply Yho;(simp only[nthO];rfl);(simp only[nthO];rfl))|(apply Yhn;(simp only[nthO];rfl))|(apply Wz;try exact zl)|(apply Yj;try exact zl)|refine zgd ?_|(refine zgh ?_;intro _)|(refine zgi ?_;intro _ _)|fail)
  all_goals(
   first
    |(rename_i A1 c1 g A3 c3;guard_hyp g:Nat;guard_hyp A1:Option Addr)
    |(rename_i A1 c1 A3 c3;guard_hyp A1:Option Addr)
   refine hK8 ⟨A1,c1,⟨A8,cap8,r.xs⟩,rfl,A3,c3⟩ _ _ zu ?_
   intro w hw
   have q1:sl 104 1 A1 (c.rs.length+1) c1 (c.rs.flatMap rowF++#[Value.slice A8 r.xs.length cap8].toList)=sl 104 1 A1 (c.rs++[(⟨A8,cap8,r.xs⟩:RowM)]).length c1 ((c.rs++[(⟨A8,cap8,r.xs⟩:RowM)]).flatMap rowF):=YiI _ _ _ _ ⟨A8,cap8,r.xs⟩
   rw[q1,WX,show c.rs.length+1=(c.rs++[(⟨A8,cap8,r.xs⟩:RowM)]).length by simp,show c.bs.length+1=(c.bs++[m]).length by simp]at hw
   have h5:St B w0 (nrs A2 cap2 sx::blk g8 (.cells #[.int .i64 c.flow,.slice A1 (c.rs++[(⟨A8,cap8,r.xs⟩:RowM)]).length c1,.slice A3 (c.bs++[m]).length c3,.slice c.wA c.ws.length c.wcap,.slice c.sA c.ss.length c.scap] 116 (0,0))::sl 104 1 A1 (c.rs++[(⟨A8,cap8,r.xs⟩:RowM)]).length c1 ((c.rs++[(⟨A8,cap8,r.xs⟩:RowM)]).flatMap rowF)::sl 3 1 A8 r.xs.length cap8 (r.xs.flatMap numF)::many (c.rs.map rowQ)::nrs A3 c3 (c.bs++[m])::nrs c.wA c.wcap c.ws::sl 24 1 c.sA c.ss.length c.scap (c.ss.flatMap rowF)::many (c.ss.map rowQ)::clA g6 (nilC 0)::rqA g5 x::schA g4 s::netA g3 n::H) w:=by
    clear q1
    revert w
    exact zk
   exact h5.perm (.cons _ (.cons _ (.cons _ (Oj rowQ c.rs ⟨A8,cap8,r.xs⟩ _)))))
 rintro⟨A1,c1,r8,hr8,A3,c3⟩
 dsimp only
 repeat'(first|fail)
 apply Wv (.n1 0 (.n1 1 (.n1 2 (.n1 5 (.n1 6 (.n1 7 (.n2 3 (.n2 4 (.n1 10 (.n1 8 (.n1 9 .done))) 8 (.n1 4 (.n1 10 (.n1 9 .done)))) 8 (.n1 3 (.n1 4 (.n1 10 (.n1 9 .done))))))))))) [11,12,13] [false,true]
 kernel_rfl
 kernel_rfl
 exact zy
 (simp only[Ye,nthO];rfl)
 repeat'(first|(apply Yho;(simp only[nthO];rfl);(simp only[nthO];rfl))|(apply Yhn;(simp only[nthO];rfl))|(apply Wz;try exact zl)|(apply Yj;try exact zl)|refine zgd ?_|(refine zgh ?_;intro _)|(refine zgi ?_;intro _ _)|fail)
 all_goals(
  first
   |(rename_i A4 c4 g A5 c5;guard_hyp g:Nat;guard_hyp A4:Option Addr)
   |(rename_i A4 c4 A5 c5;guard_hyp A4:Option Addr)
  refine hK ⟨i+1,⟨c.flow,A1,c1,c.rs++[r8],A3,c3,c.bs++[m],A4,c4,c.ws++[wst],A5,c5,c.ss++[⟨A2,cap2,sx⟩]⟩⟩ ?_ ?_ _ _ zu ?_
  ·exact hinv A1 c1 r8 hr8 A3 c3 A4 c4 A5 c5
  ·dsimp only;omega
  intro w hw
  have q1:sl 24 1 A5 (c.ss.length+1) c5 (c.ss.flatMap rowF++#[Value.slice A2 sx.length cap2].toList)=sl 24 1 A5 (c.ss++[(⟨A2,cap2,sx⟩:RowM)]).length c5 ((c.ss++[(⟨A2,cap2,sx⟩:RowM)]).flatMap rowF):=YiI _ _ _ _ ⟨A2,cap2,sx⟩
  rw[q1,WX,show c.ss.length+1=(c.ss++[(⟨A2,cap2,sx⟩:RowM)]).length by simp,show c.ws.length+1=(c.ws++[wst]).length by simp]at hw
  have h5:St B w0 (blk g8 (.cells #[.int .i64 c.flow,.slice A1 (c.rs++[r8]).length c1,.slice A3 (c.bs++[m]).length c3,.slice A4 (c.ws++[wst]).length c4,.slice A5 (c.ss++[(⟨A2,cap2,sx⟩:RowM)]).length c5] 116 (0,0))::sl 104 1 A1 (c.rs++[r8]).length c1 ((c.rs++[r8]).flatMap rowF)::many ((c.rs++[r8]).map rowQ)::nrs A3 c3 (c.bs++[m])::nrs A4 c4 (c.ws++[wst])::sl 24 1 A5 (c.ss++[(⟨A2,cap2,sx⟩:RowM)]).length c5 ((c.ss++[(⟨A2,cap2,sx⟩:RowM)]).flatMap rowF)::nrs A2 cap2 sx::many (c.ss.map rowQ)::clA g6 (nilC 0)::rqA g5 x::schA g4 s::netA g3 n::H) w:=by
   clear q1
   revert w
   exact zk
  have h6:=h5.perm (.cons _ (.cons _ (.cons _ (.cons _ (.cons _ (.cons _ (Oj rowQ c.ss ⟨A2,cap2,sx⟩ _)))))))
  exact h6.perm (.cons _ (.close [_,_,_,_,_,_] _)))
variable {l:List Flw}
theorem YjF{n:Net}{s:Sch}(h1:(JE n l s).2=0):∀c∈s.cells,Y5 n (Yr c) (toC c)=true:=by
 have k1:=YF.1 h1
 exact zc64
theorem Ym1{nodes:Int}(h:(Yx nodes l).2=0):l.length<=16:=by
 grind [Yx]
theorem Yej(n:NetM)(l:List Flw)(s:SchM)(hlf:l.length<=9223372036854775807)(hl:s.cells.length<=1000000000000){A:Option Addr}{cap B:Nat}{w0:World}{H:List HP}{w:World}(hin:n.In B w0 H)(hrf:Rd B w0 H A (l.flatMap flwF))(hr:Rd B w0 H s.A (s.cells.flatMap celF))(hw:St B w0 H w):
 CX B w0 100 [n.val,.slice A l.length cap,s.val] w λv K=>v=.tuple #[.int .i64 (schE n.net l s.sch).1,.int .i64 (schE n.net l s.sch).2]/\K=H:=by
 refine Ya Tryz.func100 Tryz.ntmps100 rfl rfl hw ?_
 have e4:s.sch.cells.length=s.cells.length:=rfl
 have e5:s.sch.len=s.len:=rfl
 have hchk:=λ{H':List HP}{w:World}(hin:n.In B w0 H') (hw:St B w0 H' w)=>YY n hin hw
 have hsz:=λ{H':List HP}{w:World}(hw:St B w0 H' w)=>YdD s hw
 by_cases h1:Yq n.net=0
 rotate_left
 ·have hS:schE n.net l s.sch=(-1,1):=by
   have hw1:XW n.net l s.sch=1:=by unfold XW;rw[Tm h1]
   unfold schE;rw[hw1];rfl
  rw[hS]
  repeat'(first|((first|apply Yb en68|apply Yc en68);exact za;exact rfl;exactλ_ hw=>(hchk hin.cons.cons hw))|refine zgb ?_|(refine zge ?_ ?_<;>intro _<;>try exact zo)|(refine zgh ?_;intro _)|fail)
  apply Yh H
  ·exact zc0
  exact zc10
 rw[h1]at hchk
 by_cases h2:(Yx n.nodes l).2=0
 rotate_left
 ·have hS:schE n.net l s.sch=(-1,1):=by
   have hw1:XW n.net l s.sch=1:=by unfold XW;rw[Tf (by omega)];exact Tm h2
   unfold schE;rw[hw1];rfl
  rw[hS]
  repeat'(first|((first|apply Yb en68|apply Yc en68);exact za;exact rfl;exactλ_ hw=>(hchk hin.cons.cons hw))|((first|apply Yb en78|apply Yc en78);exact za;exact rfl;exactλ_ hw=>(YW n.nodes l hlf hrf.cons.cons hw))|refine zgc ?_|(refine zge ?_ ?_<;>intro _<;>try exact zo)|(refine zgh ?_;intro _)|fail)
  apply Yh H
  ·exact zc0
  exact zc10
 have hl16:=Ym1 h2
 have hper:=YeV h2
 cases h3:Zs s.sch with
 |false=>
  rw[h3]at hsz
  have hS:schE n.net l s.sch=(-1,2):=by
   have hw1:XW n.net l s.sch=2:=by unfold XW;rw[Tf (by omega),Tf (λh=>h h2),Tm h3]
   unfold schE;rw[hw1];rfl
  rw[hS]
  repeat'(first|((first|apply Yb en68|apply Yc en68);exact za;exact rfl;exactλ_ hw=>(hchk hin.cons.cons hw))|((first|apply Yb en78|apply Yc en78);exact za;exact rfl;exactλ_ hw=>(YW n.nodes l hlf hrf.cons.cons hw))|((first|apply Yb YaK|apply Yc YaK);exact za;exact rfl;exactλ_ hw=>(hsz hw))|refine zgd ?_|(refine zge ?_ ?_<;>intro _<;>try exact zo)|(refine zgh ?_;intro _)|fail)
  apply Yh H
  ·exact zc0
  exact zc10
 |true=>
 rw[h3]at hsz
 have hsl:1<=s.len/\s.len<=512:=by
  have:=TV h3
  exact⟨this.1,this.2.1⟩
 obtain⟨b,hb⟩:∃b,(l.any λf=>decide (s.len.tmod f.2.2.2.1≠0))=b:=⟨_,rfl⟩
 have hw0:XW n.net l s.sch=if b=true then 11 else if 512<s.cells.length then 8 else 0:=by
  unfold XW
  rw[Tf (by omega),Tf (λh=>h h2),h3,Tf (by decide),e5,hb]
  rfl
 have hcf:=λ{H':List HP}{w:World}(gs:Nat) (hm:blk gs (.cells #[.int .i64 s.len,.int .i64 s.off,.slice s.A s.cells.length s.cap] 30 (0,0))∈H') (hr:Rd B w0 H' A (l.flatMap flwF)) (hw:St B w0 H' w)=>WF (λf=>decide (s.len.tmod f.2.2.2.1≠0)) l 187 [.pointer (some ⟨gs,0,none⟩)] Yv1 (by omega) (cap:=cap) hr (λf hf w hw=>Ygx s f gs hsl ⟨(hper f hf).2.2.1,(hper f hf).2.2.2⟩ hm hw) hw
 rw[hb]at hcf
 cases b with
 |true=>
  rw[Tm rfl]at hw0
  have hS:schE n.net l s.sch=(-1,11):=by unfold schE;rw[hw0];rfl
  rw[hS]
  refine zX86 ?_<;>intros
  apply Yh H
  ·exact zc0
  exact zc10
 |false=>
 rw[Tf (by decide)]at hw0
 by_cases h5:512<s.cells.length
 ·rw[Tm h5]at hw0
  have hS:schE n.net l s.sch=(-1,8):=by unfold schE;rw[hw0];rfl
  rw[hS]
  refine zX86 ?_<;>intros
  apply Yh H
  ·exact zc0
  exact zc10
 rw[Tf h5]at hw0
 have hS:schE n.net l s.sch=if(JE n.net l s.sch).2≠0 then JE n.net l s.sch else if(VH s.sch).2≠0 then VH s.sch else YeE n.net s.sch:=by
  unfold schE;rw[hw0];rfl
 rw[hS]
 have hcc:=λ{H':List HP}{w:World}(hin:n.In B w0 H') (hrf:Rd B w0 H' A (l.flatMap flwF)) (hr:Rd B w0 H' s.A (s.cells.flatMap celF)) (hw:St B w0 H' w)=>Ybq n l s h1 (by omega) hl (cap:=cap) hin hrf hr hw
 obtain⟨⟨c1,c2⟩,hcv⟩:∃R,JE n.net l s.sch=R:=⟨_,rfl⟩
 rw[hcv]at hcc⊢
 dsimp only at hcc⊢
 by_cases h6:c2≠0
 ·rw[Tm h6]
  refine zX87 ?_<;>intros
  apply Yh H
  ·exact zc0
  exact zc10
 obtain rfl:c2=0:=T8.1 h6
 rw[Tf h6]
 have hgood:=YjF (n:=n.net) (l:=l) (s:=s.sch) (by rw[hcv])
 refine zX87 ?_<;>intros
 first|(rename_i gn gs;guard_hyp gn:Nat;guard_hyp gs:Nat)|(rename_i gn gs _;guard_hyp gn:Nat;guard_hyp gs:Nat)|(rename_i gn gs _ _;guard_hyp gn:Nat;guard_hyp gs:Nat)|(rename_i gn gs _ _ _;guard_hyp gn:Nat;guard_hyp gs:Nat)|(rename_i gn gs _ _ _ _;guard_hyp gn:Nat;guard_hyp gs:Nat)|(rename_i gn gs _ _ _ _ _;guard_hyp gn:Nat;guard_hyp gs:Nat)|(rename_i gn gs _ _ _ _ _ _;guard_hyp gn:Nat;guard_hyp gs:Nat)
 refine Yi (λ(k:Nat)=>[(53,.int .i64 k),(52,.int .i64 s.cells.length),(51,.slice s.A s.cells.length s.cap),(3,.pointer (some ⟨gn,0,none⟩)),(5,.pointer (some ⟨gs,0,none⟩))]) (λ_=>blk gs (.cells #[.int .i64 s.len,.int .i64 s.off,.slice s.A s.cells.length s.cap] 30 (0,0))::netN gn n::H) (λk=>k<=s.cells.length/\∀j,j<k->Z2 s.sch j=false) (λk=>s.cells.length-k) 0 ⟨Ti _,λj hj=>absurd hj (RD _)⟩ ?_ (λw hw=>hw) ?_
 ·exact zc1
 rintro k ⟨hk,hall⟩ K hK
 have hF:VH s.sch=YG (λi=>if Z2 s.sch i=true then 6 else 0) s.cells.length 0:=rfl
 unfold netN
 by_cases hlt:k<s.cells.length
 ·have htc:=λ{H':List HP}{w:World}(hr:Rd B w0 H' s.A (s.cells.flatMap celF)) (hw:St B w0 H' w)=>YkO s k hlt (by omega) hr hw
  cases htw:Z2 s.sch k with
  |true=>
   rw[htw]at htc
   have hT:VH s.sch=((k:Int),6):=zc93
   rw[hT,Tm (show(6:Int)≠0 by decide)]
   repeat'(first|((first|apply Yb Ylp|apply Yc Ylp);exact za;exact rfl;exactλ_ hw=>(htc hr.cons.cons hw))|refine zgd ?_|(refine zge ?_ ?_<;>intro _<;>try exact zo)|fail)
   apply Yh H
   ·exact zc0
   exact zc10
  |false=>
   rw[htw]at htc
   repeat'(first|((first|apply Yb Ylp|apply Yc Ylp);exact za;exact rfl;exactλ_ hw=>(htc hr.cons.cons hw))|refine zgc ?_|(refine zge ?_ ?_<;>intro _<;>try exact zo)|fail)
   apply hK (k+1)
   ·exact YtU
   ·omega
   ·exact zc1
   ·unfold netN
    exact zc0
 have hT:(VH s.sch).2=0:=by
  rw[hF,YF]
  intro j _ hj
  simp only[hall j (by omega)]
  rfl
 rw[Tf (λh=>h hT)]
 clear hK
 refine zX1 ?_<;>intros
 refine Yi (λ(k:Nat)=>[(64,.int .i64 k),(63,.int .i64 s.cells.length),(62,.slice s.A s.cells.length s.cap),(3,.pointer (some ⟨gn,0,none⟩)),(5,.pointer (some ⟨gs,0,none⟩))]) (λ_=>blk gs (.cells #[.int .i64 s.len,.int .i64 s.off,.slice s.A s.cells.length s.cap] 30 (0,0))::netN gn n::H) (λk=>k<=s.cells.length/\∀j,j<k->ZO n.net s.sch j=false) (λk=>s.cells.length-k) 0 ⟨Ti _,λj hj=>absurd hj (RD _)⟩ ?_ (λw hw=>hw) ?_
 ·exact zc1
 rintro k ⟨hk,hall⟩ K2 hK
 have hF:YeE n.net s.sch=YG (λi=>if ZO n.net s.sch i=true then 16 else 0) s.cells.length 0:=rfl
 unfold netN
 by_cases hlt:k<s.cells.length
 ·have htc:=λ{H':List HP}{w:World}(hin:n.In B w0 H') (hr:Rd B w0 H' s.A (s.cells.flatMap celF)) (hw:St B w0 H' w)=>Ycs n s k h1 hgood hlt (by omega) hin hr hw
  cases htw:ZO n.net s.sch k with
  |true=>
   rw[htw]at htc
   have hT:YeE n.net s.sch=((k:Int),16):=zc93
   rw[hT]
   repeat'(first|((first|apply Yb Ylq|apply Yc Ylq);exact za;exact rfl;exactλ_ hw=>(htc hin.cons.cons hr.cons.cons hw))|refine zgd ?_|(refine zge ?_ ?_<;>intro _<;>try exact zo)|fail)
   apply Yh H
   ·exact zc0
   exact zc10
  |false=>
   rw[htw]at htc
   repeat'(first|((first|apply Yb Ylq|apply Yc Ylq);exact za;exact rfl;exactλ_ hw=>(htc hin.cons.cons hr.cons.cons hw))|refine zgc ?_|(refine zge ?_ ?_<;>intro _<;>try exact zo)|fail)
   apply hK (k+1)
   ·exact YtU
   ·omega
   ·exact zc1
   ·unfold netN
    exact zc0
 ·have hT:YeE n.net s.sch=(-1,0):=by
   rw[hF]
   exact Zy λj _ hj=>by simp only[hall j (by omega)];rfl
  rw[hT]
  refine zX1 ?_<;>intros
  apply Yh H
  ·exact zc0
  exact zc10
theorem Ydb{α:Type}(f:α->HP)(l:List α)(r:α)(H:List HP):Perm (f r::many (l.map f)::H) (many ((l++[r]).map f)::H):=by
 have:=Perm.push (f r) (l.map f) [] H
 simp_all
abbrev clsP(A:Option Addr)(cap:Nat)(C:List ClM):HP:=sl 116 5 A C.length cap (C.flatMap clF)
theorem YoM(A:Option Addr)(cap:Nat)(l:List ClM)(c:ClM):sl 116 5 A (l.length+1) cap (l.flatMap clF++#[Value.int .i64 c.flow,.slice c.rA c.rs.length c.rcap,.slice c.bA c.bs.length c.bcap,.slice c.wA c.ws.length c.wcap,.slice c.sA c.ss.length c.scap].toList)=clsP A cap (l++[c]):=by simp[clsP,List.flatMap_append,clF]
def OutC(H:List HP)(R:List Clm×(Int×Int))(v:Value)(K:List HP):Prop:=∃A cap C,v=.tuple #[.slice A (C:List ClM).length cap,.int .i64 R.2.1,.int .i64 R.2.2]/\C.map ClM.clm=R.1/\(∀c∈C,c.lens)/\K=clsP A cap C::many (C.map clQ)::H
variable {B:Nat}{w0 w:World}{H:List HP}
theorem Ygl(h:St B w0 H w):St B w0 (clsP none 0 []::many (([]:List ClM).map clQ)::H) w:=(h.perm (.noMany H)).nilSlice _ _
theorem Yr8{R:List Clm×(Int×Int)}{v:Value}(h1:R.1=[])(hv:v=.tuple #[.slice none 0 0,.int .i64 R.2.1,.int .i64 R.2.2]):OutC H R v (clsP none 0 []::many (([]:List ClM).map clQ)::H):=⟨none,0,[],hv,h1.symm,(λc hc=>by cases hc),rfl⟩
structure MkM where
 i:Nat
 A:Option Addr
 cap:Nat
 C:List ClM
theorem Uz(n:NetM)(q:List RqM)(s:SchM){A:Option Addr}{cap:Nat}(ht:TabsB B w0)(hin:n.In B w0 H)(hq:QIn B w0 H A q)(hrs:Rd B w0 H s.A (s.cells.flatMap celF))(hsl:s.cells.length<=1000000000000)(hw:St B w0 H w):
 CX B w0 40 [n.val,.slice A q.length cap,s.val] w (OutC H (Y4 n.net (q.map RqM.rq) s.sch)):=by
 refine Ya Tryz.func40 Tryz.ntmps40 rfl rfl hw ?_
 have hql:=hq.ln
 have hqr:=hq.rd
 have p1:=λ{H':List HP}{w:World}(hin:n.In B w0 H') (hq:QIn B w0 H' A q) (hw:St B w0 H' w)=>Yef n q (cap:=cap) hin hq hw
 have p2:=λ{H':List HP}{w:World}(hq:QIn B w0 H' A q) (hw:St B w0 H' w)=>YaH q (cap:=cap) hql hq.rd hw
 have p3:=λ{A2:Option Addr}{cap2:Nat}{H':List HP}{w:World}(hin:n.In B w0 H') (hf:Rd B w0 H' A2 ((RqM.fl q).flatMap flwF)) (hrs:Rd B w0 H' s.A (s.cells.flatMap celF)) (hw:St B w0 H' w)=>Yej n (RqM.fl q) s (by unfold RqM.fl;rw[Tv];omega) hsl (cap:=cap2) hin hf hrs hw
 have p4:=λ{H':List HP}{w:World}(x:RqM) (h9:x.rows.length<=9) (hin:n.In B w0 H') (hrs:Rd B w0 H' s.A (s.cells.flatMap celF)) (hx:x.In B w0 H') (hw:St B w0 H' w)=>YjJ n s x ht hin hrs hsl hx h9 hw
 obtain⟨R,hR⟩:∃R,Y4 n.net (q.map RqM.rq) s.sch=R:=⟨_,rfl⟩
 rw[hR]
 unfold Y4 at hR
 rw[Tv]at hR
 have hrq:(rqsE n.net (q.map RqM.rq)).2=0->∀x∈q,x.rows.length<=9:=λh x hx=>by
  unfold rqsE at h
  split at h
  ·cases h
  split at h
  ·exact absurd h (by assumption)
  obtain⟨k,hk⟩:=TN.1 hx
  have h1:=YF.1 h k (Ti _) (by rw[Tv];have:=(Tc.1 hk).1;omega)
  rw[Ydt hk]at h1
  have h2:=YbH h1
  have h3:x.rq.2.length=x.rows.length:=by unfold RqM.rq;rw[Tv]
  omega
 obtain⟨⟨ri,re⟩,hr⟩:∃r,rqsE n.net (q.map RqM.rq)=r:=⟨_,rfl⟩
 obtain⟨⟨ci,ce⟩,hc⟩:∃r,schE n.net (YE (q.map RqM.rq)) s.sch=r:=⟨_,rfl⟩
 obtain⟨F,hF⟩:∃F:Nat->Int,(λi=>if Vz n.net s.sch (rqAt (q.map RqM.rq) i)=true then 15 else 0)=F:=⟨_,rfl⟩
 rw[hr]at p1 hR hrq
 rw[Ypk]at p3
 rw[hc]at p3 hR
 rw[hF]at hR
 have hFv:∀{k:Nat}{x:RqM},q[k]? =some x->F k=if Vz n.net s.sch x.rq=true then 15 else 0:=λh=>by rw[<-hF];show(if Vz _ _ _=true then _ else _)=_;rw[Ydt h]
 rw[<-Ypk]at p3
 dsimp only at p1 p3 hR hrq
 unfold NetM.val SchM.val
 by_cases h0:re=0
 rotate_left
 ·rw[Tm h0]at hR
  subst hR
  refine zX92 ?_<;>intros
  apply Yh (clsP none 0 []::many (([]:List ClM).map clQ)::H)
  ·intro w hw
   have h5:St B w0 H w:=by
    revert w
    exact zc0
   exact Ygl h5
  exact zc87
 subst h0
 rw[Tf (λe=>e rfl)]at hR
 have hrq:=hrq rfl
 by_cases h1:ce=0
 rotate_left
 ·rw[Tm h1]at hR
  subst hR
  refine zX92 ?_<;>intros
  apply Yz [0,1,3,2,4,5,6,7,8,9] [] [true,true]
  kernel_rfl
  kernel_rfl
  exact zy
  (simp only[Ye,nthO];rfl)
  exact rfl
  refine zX2 ?_
  apply Yg _ Ylf
  exact za
  exact rfl
  exactλ_ hw=>(p2 (hq.mono zc0) (hw))
  rintro _ _ ⟨A2,cap2,rfl,rfl⟩
  refine zX16 ?_
  first|apply Yb Yle|apply Yc Yle
  exact za
  exact rfl
  exactλ_ hw=>(p3 (hin.mono zc0) (Rd.sl (by(focus exact zc2))) (hrs.mono zc0) hw)
  refine zX93 ?_<;>intros
  apply Yh (clsP none 0 []::many (([]:List ClM).map clQ)::H)
  ·intro w hw
   have h5:St B w0 H w:=by
    revert w
    exact zc0
   exact Ygl h5
  exact zc87
 subst h1
 rw[Tf (λe=>e rfl)]at hR
 refine zX92 ?_<;>intros
 first|(rename_i g3 g5;guard_hyp g3:Nat;guard_hyp g5:Nat)|(rename_i g3 g5 _;guard_hyp g3:Nat;guard_hyp g5:Nat)|(rename_i g3 g5 _ _;guard_hyp g3:Nat;guard_hyp g5:Nat)
 apply Yz [0,1,3,2,4,5,6,7,8,9] [] [true,true]
 kernel_rfl
 kernel_rfl
 exact zy
 (simp only[Ye,nthO];rfl)
 exact rfl
 refine zX2 ?_
 apply Yg _ Ylf
 exact za
 exact rfl
 exactλ_ hw=>(p2 (hq.mono zc0) (hw))
 rintro _ _ ⟨A2,cap2,rfl,rfl⟩
 refine zX16 ?_
 first|apply Yb Yle|apply Yc Yle
 exact za
 exact rfl
 exactλ_ hw=>(p3 (hin.mono zc0) (Rd.sl (by(focus exact zc2))) (hrs.mono zc0) hw)
 refine zX93 ?_<;>intros
 refine Yi (λz:MkM=>[(40,.int .i64 (z.i:Nat)),(39,.int .i64 q.length),(38,.slice A q.length cap),(13,.slice z.A z.C.length z.cap),(5,.pointer (some ⟨g5,0,none⟩)),(3,.pointer (some ⟨g3,0,none⟩))]) (λz=>clsP z.A z.cap z.C::many (z.C.map clQ)::schA g5 s::netA g3 n::H)
  (λz=>z.i<=q.length/\z.C.map ClM.clm=(q.take z.i).map (λx=>clmE n.net s.sch x.rq)/\(∀c∈z.C,c.lens)/\∀j,0<=j->j<z.i->F j=0) (λz=>q.length-z.i) ⟨0,none,0,[]⟩ ⟨Ti _,rfl,(λc hc=>by cases hc),λj _ h=>absurd h (RD _)⟩ ?_ ?_ ?_
 ·exact zc1
 ·intro w hw
  have h5:St B w0 (schA g5 s::netA g3 n::H) w:=by
   revert w
   exact zc0
  exact Ygl h5
 rintro⟨i,A3,cap3,C⟩ ⟨hi,hC,hCl,hz⟩ K hK
 dsimp only at hi hC hCl hz⊢
 have hqr':Rd B w0 (clsP A3 cap3 C::many (C.map clQ)::schA g5 s::netA g3 n::H) A (q.flatMap rqF):=hqr.cons.cons.cons.cons
 have hCn:C.length<=q.length:=by
  have:=TA List.length hC
  exact Yuo
 by_cases hlt:i<q.length
 rotate_left
 ·obtain rfl:i=q.length:=by omega
  have hfe:=Zy (f:=F) (r:=q.length) (i0:=0) λj h1 h2=>hz j h1 (by omega)
  rw[hfe,Tf (λe=>e rfl)]at hR
  subst hR
  rw[TL]at hC
  clear hK
  refine zX1 ?_<;>intros
  apply Yh (clsP A3 cap3 C::many (C.map clQ)::H)
  ·exact zc0
  apply Va;(iterate 4 exact rfl)
  exact⟨A3,cap3,C,rfl,by rw[hC,SU];rfl,hCl,rfl⟩
 obtain⟨x,hx⟩:∃x,q[i]? =some x:=⟨_,Ta hlt⟩
 have hxm:=Td hx
 have hFx:=hFv hx
 have p5:=λ{H':List HP}{w:World}(hin:n.In B w0 H') (hrs:Rd B w0 H' s.A (s.cells.flatMap celF)) (hxi:x.In B w0 H') (hw:St B w0 H' w)=>p4 x (hrq x hxm) hin hrs hxi hw
 have hxi:=hq.x x hxm
 cases hlb:Vz n.net s.sch x.rq with
 |true=>
  rw[hlb,Tm rfl]at hFx
  rw[hlb]at p5
  have hfe:=Ze (f:=F) (r:=q.length) (i0:=0) (i:=i) (λj h1 h2=>hz j h1 h2) (Ti _) (by omega) (by rw[hFx];decide)
  rw[hfe,hFx]at hR
  rw[Tm (show(15:Int)≠0 from by decide)]at hR
  subst hR
  clear hK
  refine zX46 ?_<;>intros
  apply Yg _ Ysy
  exact za
  exact rfl
  exactλ_ hw=>(p5 (hin.mono zc0) (hrs.mono zc0) (hxi.mono zc0) (hw))
  rintro _ _ ⟨c,rfl,_,rfl⟩
  unfold clV
  refine zX24 ?_<;>intros
  apply Yh (clsP none 0 []::many (([]:List ClM).map clQ)::H)
  ·intro w hw
   have h5:St B w0 H w:=by
    revert w
    exact zc0
   exact Ygl h5
  exact zc87
 |false=>
  rw[hlb,Tf (by decide)]at hFx
  rw[hlb]at p5
  refine zX46 ?_<;>intros
  apply Yg _ Ysy
  exact za
  exact rfl
  exactλ_ hw=>(p5 (hin.mono zc0) (hrs.mono zc0) (hxi.mono zc0) (hw))
  rintro _ _ ⟨c,rfl,hcc,rfl⟩
  obtain⟨hcm,hcl⟩:=hcc rfl
  unfold clV
  repeat'(first|refine zgd ?_|(refine zgh ?_;intro _)|(refine zgi ?_;intro _ _)|fail)
  first|(rename_i A4 cap4;guard_hyp A4:Option Addr)
  rw[YoM,show C.length+1=(C++[c]).length by simp]
  apply hK ⟨i+1,A4,cap4,C++[c]⟩
  ·refine⟨by exact YdU,?_,λy hy=>?_,λj h1 h2=>?_⟩
   ·show(C++[c]).map ClM.clm=_
    rw[TF,hx,RE,TP,TP,hC]
    simp[hcm]
   ·rcases TJ.1 hy with h|h
    ·exact hCl y h
    ·rw[TU.1 h];exact hcl
   ·rcases SL.1 h2 with h|rfl
    ·exact hz j h1 h
    ·exact hFx
  ·exact zc54
  ·exact zc1
  ·intro w hw
   have h5:St B w0 (clsP A4 cap4 (C++[c])::clQ c::many (C.map clQ)::schA g5 s::netA g3 n::H) w:=by
    revert w
    exact zc0
   exact h5.perm (.cons _ (Ydb clQ C c _))
structure AttM where
 slot:Int
 frame:Int
 c:Cel
 o:Int
structure StM where
 frame:Int
 since:Int->Option Int
 acked:Int->Int->Option Int
 done:Bool
structure PlM where
 st:List StM
 atts:List AttM
 dels:List (Int×Int×Int)
def perF(f:Flw):Int:=f.2.2.2.1
def phaF(f:Flw):Int:=f.2.2.2.2.1
def dstF(f:Flw):Int:=f.2.2.1
def Yn(f:Flw)(k:Int):Int:=phaF f+k*perF f
def VY(f:Flw)(n:Int):Int:=if n<phaF f then -1 else(n-phaF f)/perF f
def newS(f:Flw)(n k:Int):StM:=⟨k,λv=>if v=f.2.1 then some n else none,λ_ _=>none,false⟩
def relS(f:Flw)(n:Int)(x:StM):StM:=if n<phaF f then x else if(n-phaF f)/perF f=x.frame then x else newS f n ((n-phaF f)/perF f)
def canT(f:Flw)(x:StM)(c:Cel)(n:Int):Prop:=0<=x.frame/\(∃a,x.since (Yr c)=some a/\a<=n)/\Yr c≠dstF f/\∀t,x.acked (Yr c) (toC c)=some t->n<=t
def JT(f:Flw)(x:StM)(c:Cel)(n o:Int):StM:=
 ⟨x.frame,if o=3\/(x.since (toC c)).isSome then x.since elseλv=>if v=toC c then some (n+1)else x.since v,
  if o=1/\x.acked (Yr c) (toC c)=none thenλu v=>if u=Yr c/\v=toC c then some n else x.acked u v else x.acked,
  x.done||(decide (o≠3)&&decide (toC c=dstF f))⟩
def delS(f:Flw)(x:StM)(c:Cel)(n o:Int):List (Int×Int×Int):=if o≠3/\toC c=dstF f/\x.done=false then [(f.1,x.frame,n)]else []
def YkU:StM:=⟨-1,λ_=>none,λ_ _=>none,false⟩
inductive Pl (l:List Flw) (s:Sch):Int->Nat->PlM->Prop
 |start:Pl l s 0 0 ⟨l.map λ_=>YkU,[],[]⟩
 |rel {n:Int}{p:PlM}(st:List StM):Pl l s n 0 p->st.length=l.length->(∀(i:Nat) f x,l[i]? =some f->p.st[i]? =some x->st[i]? =some (relS f n x))->Pl l s n 1 ⟨st,p.atts,p.dels⟩
 |skip {n:Int}{j:Nat}{p:PlM}{c:Cel}:Pl l s n (j+1) p->(atE s n)[j]? =some c->(∀(i:Nat) f x,l[i]? =some f->p.st[i]? =some x->f.1=Xr c->¬canT f x c n)->Pl l s n (j+2) p
 |att {n:Int}{j i:Nat}{p:PlM}{c:Cel}{f:Flw}{x:StM}(o:Int):Pl l s n (j+1) p->(atE s n)[j]? =some c->l[i]? =some f->p.st[i]? =some x->f.1=Xr c->canT f x c n->
  Pl l s n (j+2) ⟨p.st.set i (JT f x c n o),p.atts++[⟨n,x.frame,c,o⟩],p.dels++delS f x c n o⟩
 |next {n:Int}{p:PlM}(ds:List (Int×Int×Int)):Pl l s n ((atE s n).length+1) p->ds.Perm p.dels->Pl l s (n+1) 0 ⟨p.st,p.atts,ds⟩
def onK(id k u v:Int)(a:AttM):Bool:=decide (Xr a.c=id/\a.frame=k/\Yr a.c=u/\toC a.c=v)
def keyL(atts:List AttM)(id k u v:Int):List AttM:=atts.filter (onK id k u v)
def cntL(s:Sch)(q:Cel->Bool):Nat->Int->Nat
 |0,_=>0
 |m+1,a=>((atE s a).filter q).length+cntL s q m (a+1)
def J6(s:Sch)(q:Cel->Bool)(b:Option Int)(a0 n:Int)(j:Nat):Nat:=
 match b with
 |some b=>cntL s q (b-1-a0).toNat a0
 |none=>cntL s q (n-a0).toNat a0+if a0<=n then(((atE s n).take j).filter q).length else 0
def Hop(s:Sch)(f:Flw)(k:Int)(atts:List AttM)(since:Int->Option Int)(n:Int)(j:Nat):Prop:=
 ∀u v a0,u≠dstF f->since u=some a0->∃K1,K1<+:keyL atts f.1 k u v/\(∀a∈K1,a.o=3)/\J6 s (onP f.1 u v) (since v) a0 n j<=K1.length
def Dlv(f:Flw)(k:Int)(dels:List (Int×Int×Int))(since:Int->Option Int):Prop:=
 (∀d∈dels,d.1=f.1->d.2.1=k->since (dstF f)=some (d.2.2+1))/\∀b,since (dstF f)=some b->(f.1,k,b-1)∈dels
structure Arch(s:Sch)(f:Flw)(k n:Int)(j:Nat)(p:PlM)(since:Int->Option Int):Prop where
 src:since f.2.1=some (Yn f k)
 hop:Hop s f k p.atts since n j
 dlv:Dlv f k p.dels since
structure Cur(f:Flw)(x:StM)(p:PlM)(n:Int)(m:Nat):Prop where
 done:x.done=(x.since (dstF f)).isSome
 ack:∀u v t,x.acked u v=some t->(x.since v).isSome=true
 lost:∀u v,x.since v=none->∀a∈keyL p.atts f.1 x.frame u v,a.o=3
 bd:∀v b,x.since v=some b->b<=n+m
structure Ud(s:Sch)(f:Flw)(x:StM)(n:Int)(J:Nat)(p:PlM):Prop where
 frame:x.frame=VY f (if J=0 then n-1 else n)
 none_a:∀a∈p.atts,Xr a.c=f.1->a.frame<=x.frame
 none_d:∀d∈p.dels,d.1=f.1->d.2.1<=x.frame
 cur:0<=x.frame->Cur f x p n (if J=0 then 0 else 1)/\Arch s f x.frame n (J-1) p x.since
 old:∀k,0<=k->k<x.frame->∃since,Arch s f k (Yn f k+perF f) 0 p since
structure FlOk(f:Flw):Prop where
 per:1<=perF f
 pha:0<=phaF f
 ne:f.2.1≠dstF f
theorem Ye4(atts:List AttM)(a:AttM)(id k u v:Int):keyL (atts++[a]) id k u v=keyL atts id k u v++if onK id k u v a then [a]else []:=by
 unfold keyL
 grind
theorem YeB(s:Sch)(q:Cel->Bool):∀(m:Nat) (a:Int),cntL s q (m+1) a=cntL s q m a+((atE s (a+m)).filter q).length
 |0,a=>by simp[cntL]
 |m+1,a=>by
  rw[cntL,YeB s q m (a+1),cntL]
  grind
theorem Ycj(s:Sch)(q:Cel->Bool):∀(m k:Nat) (a:Int),cntL s q (m+k) a=cntL s q m a+cntL s q k (a+m)
 |0,k,a=>by simp[cntL]
 |m+1,k,a=>by
  rw[show m+1+k=(m+k)+1 by omega,cntL,Ycj s q m k (a+1),cntL]
  grind
variable {a0 a b k n id u v o:Int}
theorem YeA(s:Sch)(q:Cel->Bool){b0:Int}(h1:a0<=a)(h2:b<=b0):cntL s q (b-a).toNat a<=cntL s q (b0-a0).toNat a0:=by
 by_cases h:a<=b
 ·obtain⟨x,hx⟩:∃x:Nat,a=a0+x:=⟨(a-a0).toNat,by omega⟩
  obtain⟨y,hy⟩:∃y:Nat,b=a+y:=⟨(b-a).toNat,by omega⟩
  obtain⟨z,hz⟩:∃z:Nat,b0=b+z:=⟨(b0-b).toNat,by omega⟩
  rw[show(b-a).toNat=y by omega,show(b0-a0).toNat=x+(y+z) by omega,Ycj,Ycj,hx]
  omega
 ·rw[show(b-a).toNat=0 by omega]
  exact Ybn
variable {s:Sch}{f:Flw}{j:Nat}{p:PlM}{since:Int->Option Int}
theorem Arch.mono{p':PlM}(h:Arch s f k n j p since)
 (ha:∀u v,keyL p.atts f.1 k u v<+:keyL p'.atts f.1 k u v) (hd:∀d,d.1=f.1->d.2.1=k->(d∈p'.dels↔d∈p.dels)):Arch s f k n j p' since:=by
 refine⟨h.src,λu v a0 hu hs=>?_,?_,?_⟩
 ·obtain⟨K1,h1,h2,h3⟩:=h.hop u v a0 hu hs
  grind
 ·intro d hm h1 h2
  exact h.dlv.1 d ((hd d h1 h2).1 hm) h1 h2
 ·intro b hb
  exact(hd (f.1,k,b-1) rfl rfl).2 (h.dlv.2 b hb)
theorem YkM{α:Type}{L:List α}{c:α}(h:L[j]? =some c):L.take (j+1)=L.take j++[c]:=YdT
variable {c:Cel}
theorem YmX{L:List Cel}(h:L[j]? =some c)(q:Cel->Bool):((L.take (j+1)).filter q).length=((L.take j).filter q).length+if q c then 1 else 0:=by
 rw[YkM h,SI,Tt]
 grind
variable {q:Cel->Bool}
theorem Ydg(h:(atE s n)[j]? =some c)(hq:q c=false)(b:Option Int):J6 s q b a0 n (j+1)=J6 s q b a0 n j:=by
 simp_all [J6,YmX]
theorem YrV(h:(atE s n)[j]? =some c)(q:Cel->Bool)(b:Option Int):J6 s q b a0 n (j+1)<=J6 s q b a0 n j+1:=by
 unfold J6
 grind
theorem Yfd(h:n<a0):J6 s q none a0 n j=0:=by
 unfold J6
 simp only[Tf (show¬a0<=n by omega),show(n-a0).toNat=0 by omega,cntL]
theorem Ygp:onP id u v c=true↔Xr c=id/\Yr c=u/\toC c=v:=by simp[onP]
theorem Arch.offs(h:Arch s f k n j p since)(hc:(atE s n)[j]? =some c)(hf:Xr c≠f.1):Arch s f k n (j+1) p since:=by
 refine⟨h.src,λu v a0 hu hs=>?_,h.dlv⟩
 obtain⟨K1,h1,h2,h3⟩:=h.hop u v a0 hu hs
 grind [Ydg,Ygp]
theorem Ypn(hf:FlOk f)(h:phaF f<=n):(n-phaF f)/perF f=VY f (n-1)\/((n-phaF f)/perF f=VY f (n-1)+1/\n=Yn f ((n-phaF f)/perF f)):=by
 have hp:=hf.per
 unfold VY Yn
 by_cases h1:n-1<phaF f
 ·right
  rw[Tm h1]
  have:n=phaF f:=by omega
  simp_all
 ·rw[Tf h1]
  generalize phaF f=a at*
  generalize perF f=q at*
  have e1:=Nx (n-a) q
  have e2:=Nx (n-1-a) q
  have b1:=Ns (n-a) (show q≠0 by omega)
  have b2:=S0 (n-a) (show 0<q by omega)
  have b3:=Ns (n-1-a) (show q≠0 by omega)
  have b4:=S0 (n-1-a) (show 0<q by omega)
  generalize(n-a)/q=x at*
  generalize(n-1-a)/q=y at*
  by_cases hxy:x=y
  ·omega
  ·right
   have hge:y<=x:=by
    apply Int.not_lt.1
    intro hlt
    have:=RH (show x+1<=y by omega) (show 0<=q by omega)
    grind
   have hle:x<=y+1:=by
    apply Int.not_lt.1
    intro hlt
    have:=RH (show y+2<=x by omega) (show 0<=q by omega)
    grind
   have hx:x=y+1:=by omega
   refine⟨hx,?_⟩
   subst hx
   grind
theorem Yni{atts:List AttM}(h:∀a∈atts,Xr a.c=id->a.frame<k):keyL atts id k u v=[]:=by
 unfold keyL
 rw[List.filter_eq_nil_iff]
 intro a ha hq
 simp only[onK,Tq]at hq
 grind
variable {x:StM}
theorem YrP{st:List StM}(hf:FlOk f)(h:Ud s f x n 0 p):Ud s f (relS f n x) n 1 ⟨st,p.atts,p.dels⟩:=by
 have hfr:x.frame=VY f (n-1):=h.frame
 have same:x.frame=VY f n->relS f n x=x->Ud s f (relS f n x) n 1 ⟨st,p.atts,p.dels⟩:=by
  intro h1 h2
  rw[h2]
  refine⟨h1,h.none_a,h.none_d,λh0=>?_,λk h1 h2=>?_⟩
  ·obtain⟨hc,ha⟩:=h.cur h0
   refine⟨⟨hc.done,hc.ack,hc.lost,λv b hb=>?_⟩,ha.mono (λu v=>ND _) (λd _ _=>Iff.rfl)⟩
   have:=hc.bd v b hb
   grind
  ·obtain⟨since,ha⟩:=h.old k h1 h2
   exact Yub
 by_cases h1:n<phaF f
 ·refine same ?_ (by simp_all [relS])
  rw[hfr];unfold VY;omega
 ·have e:VY f n=(n-phaF f)/perF f:=by simp_all [VY,if_neg]
  rcases Ypn hf (n:=n) (by omega)with h2|⟨h2,h3⟩
  ·simp_all [relS]
  ·generalize hk:(n-phaF f)/perF f=k at*
   have hne:k≠x.frame:=by omega
   have hrel:relS f n x=newS f n k:=by unfold relS;grind
   rw[hrel]
   have ha0:∀a∈p.atts,Xr a.c=f.1->a.frame<k:=λa hm hq=>by have:=h.none_a a hm hq;omega
   have hk0:∀u v,keyL p.atts f.1 k u v=[]:=λu v=>Yni ha0
   have hdst:(newS f n k).since (dstF f)=none:=by
    show(if dstF f=f.2.1 then some n else none)=none
    rw[Tf λe=>hf.ne e.symm]
   have hsince:∀v b,(newS f n k).since v=some b->v=f.2.1/\b=n:=by
    intro v b hb
    change(if v=f.2.1 then some n else none)=some b at hb
    grind
   refine⟨e.symm,λa hm hq=>Int.le_of_lt (ha0 a hm hq),λd hm hq=>?_,λh0=>⟨⟨?_,?_,?_,?_⟩,⟨?_,?_,?_,?_⟩⟩,λk' hk1 hk2=>?_⟩
   ·have:=h.none_d d hm hq
    show d.2.1<=k
    omega
   ·rw[hdst];rfl
   ·intro u v t ht;cases ht
   ·intro u v _ a hm
    change a∈keyL p.atts f.1 k u v at hm
    grind
   ·grind
   ·show(if f.2.1=f.2.1 then some n else none)=some (Yn f k)
    grind
   ·intro u v a0 hu hs
    obtain⟨rfl,rfl⟩:=hsince u a0 hs
    refine⟨[],List.nil_prefix,λa h=>by simp at h,?_⟩
    unfold J6
    cases hv:(newS f a0 k).since v with
    |some b=>
     obtain⟨-,rfl⟩:=hsince v b hv
     simp only[show(b-1-b).toNat=0 by omega,cntL,TM,Rh]
    |none=>simp[cntL]
   ·intro d hm h1 h2
    have:=h.none_d d hm h1
    change d.2.1=k at h2
    omega
   ·intro b hb
    rw[hdst]at hb;cases hb
   ·change k'<k at hk2
    by_cases hlt:k'<x.frame
    ·obtain⟨since,ha⟩:=h.old k' hk1 hlt
     exact Yub
    ·have hk':k'=x.frame:=by omega
     subst hk'
     obtain⟨hc,ha⟩:=h.cur hk1
     refine⟨x.since,?_⟩
     have hn:n=Yn f x.frame+perF f:=by
      rw[h3,show k=x.frame+1 by omega]
      unfold Yn
      rw[Int.add_mul];omega
     rw[<-hn]
     exact ha.mono (λu v=>ND _) (λd _ _=>Iff.rfl)
theorem Ypy(h:Ud s f x n (j+1) p)(hc:(atE s n)[j]? =some c)(hn:f.1=Xr c->¬canT f x c n):Ud s f x n (j+2) p:=by
 refine⟨h.frame,h.none_a,h.none_d,λh0=>?_,h.old⟩
 obtain⟨hu,ha⟩:=h.cur h0
 refine⟨hu,ha.src,λu v a0 hud hs=>?_,ha.dlv⟩
 obtain⟨K1,h1,h2,h3⟩:=ha.hop u v a0 hud hs
 refine⟨K1,h1,h2,?_⟩
 cases hq:onP f.1 u v c with
 |false=>grind [Ydg]
 |true=>
  obtain⟨q1,q2,q3⟩:=Ygp.1 hq
  cases hv:x.since v with
  |some b=>rw[hv]at h3;exact h3
  |none=>
   by_cases hle:a0<=n
   ·exfalso
    refine hn q1.symm ⟨h0,⟨a0,by simp_all,hle⟩,by omega,λt ht=>?_⟩
    have:=hu.ack _ _ t ht
    simp_all
   simp_all [Yfd]
variable {ds:List (Int×Int×Int)}
theorem Ync{g:Flw}{st:List StM}(h:Ud s f x n (j+1) p)(hc:(atE s n)[j]? =some c)(hg:g.1=Xr c)(hne:f.1≠g.1)(hds:∀d∈ds,d.1=g.1):
 Ud s f x n (j+2) ⟨st,p.atts++[⟨n,k,c,o⟩],p.dels++ds⟩:=by
 have hfc:Xr c≠f.1:=by omega
 have hk:∀k' u v,keyL (p.atts++[⟨n,k,c,o⟩]) f.1 k' u v=keyL p.atts f.1 k' u v:=by
  grind [Ye4,onK]
 have hd:∀d,d.1=f.1->∀k',d.2.1=k'->(d∈p.dels++ds↔d∈p.dels):=by
  grind
 refine⟨h.frame,λa hm hq=>?_,λd hm hq=>?_,λh0=>?_,λk' h1 h2=>?_⟩
 ·rcases TJ.1 hm with hm|hm
  ·exact h.none_a a hm hq
  simp_all
 ·exact h.none_d d ((hd d hq _ rfl).1 hm) hq
 ·obtain⟨hu,ha⟩:=h.cur h0
  refine⟨⟨hu.done,hu.ack,λu v hv a hm=>?_,hu.bd⟩,(ha.offs hc hfc).mono (λu v=>by simp_all) (λd h1 h2=>hd d h1 _ h2)⟩
  rw[hk]at hm
  exact hu.lost u v hv a hm
 ·obtain⟨since,ha⟩:=h.old k' h1 h2
  exact⟨since,ha.mono (λu v=>by simp_all) (λd h1 h2=>hd d h1 _ h2)⟩
theorem Zr(h:(JT f x c n o).since v=some b):x.since v=some b\/(v=toC c/\b=n+1/\o≠3/\x.since v=none):=by
 change(if o=3\/(x.since (toC c)).isSome then x.since elseλv=>if v=toC c then some (n+1)else x.since v) v=some b at h
 split at h
 ·simp_all
 ·simp only[]at h
  split at h
  all_goals simp_all
theorem Vk(h:x.since v=some b):(JT f x c n o).since v=some b:=by
 show(if o=3\/(x.since (toC c)).isSome then x.since elseλv=>if v=toC c then some (n+1)else x.since v) v=some b
 split
 all_goals grind
theorem YbF(ho:o≠3):((JT f x c n o).since (toC c)).isSome=true:=by
 show((if o=3\/(x.since (toC c)).isSome then x.since elseλv=>if v=toC c then some (n+1)else x.since v) (toC c)).isSome=true
 split
 all_goals simp_all
theorem Yfo(h:(JT f x c n o).since v=none):x.since v=none/\(v=toC c->o=3):=by
 constructor
 ·cases hx:x.since v with
  |none=>rfl
  |some b=>grind [Vk]
 ·all_goals grind [YbF]
theorem YrO{st:List StM}(h:Ud s f x n (j+1) p)(hc:(atE s n)[j]? =some c)(hn:canT f x c n):
 Ud s f (JT f x c n o) n (j+2) ⟨st,p.atts++[⟨n,x.frame,c,o⟩],p.dels++delS f x c n o⟩:=by
 obtain⟨h0,⟨a1,hs1,hle1⟩,hdst,hack⟩:=hn
 obtain⟨hu,ha⟩:=h.cur h0
 have hk:∀k' u v,keyL (p.atts++[⟨n,x.frame,c,o⟩]) f.1 k' u v=keyL p.atts f.1 k' u v++if onK f.1 k' u v ⟨n,x.frame,c,o⟩then [⟨n,x.frame,c,o⟩]else []:=λk' u v=>Ye4 ..
 have hdel:∀d∈delS f x c n o,d=(f.1,x.frame,n)/\o≠3/\toC c=dstF f/\x.done=false:=by
  simp_all [delS]
 have hbd:∀v b,x.since v=some b->b<=n+1:=λv b hb=>by
  have:=hu.bd v b hb
  grind
 refine⟨h.frame,λa hm hq=>?_,λd hm hq=>?_,λ_=>⟨⟨?_,λu v t ht=>?_,λu v hv a hm=>?_,λv b hb=>?_⟩,⟨Vk ha.src,λu v a0 hud hs=>?_,λd hm h1 h2=>?_,λb hb=>?_⟩⟩,λk' h1 h2=>?_⟩
 ·rcases TJ.1 hm with hm|hm
  ·exact h.none_a a hm hq
  ·obtain rfl:=TU.1 hm
   exact RB _
 ·rcases TJ.1 hm with hm|hm
  ·exact h.none_d d hm hq
  ·obtain⟨rfl,-⟩:=hdel d hm
   exact RB _
 ·--done
  show(x.done||(decide (o≠3)&&decide (toC c=dstF f)))=((JT f x c n o).since (dstF f)).isSome
  cases hx:x.since (dstF f)with
  |some b=>rw[Vk hx,hu.done,hx];rfl
  |none=>
   rw[hu.done,hx]
   by_cases h3:o=3
   ·cases hr:(JT f x c n o).since (dstF f)with
    |none=>simp[h3]
    |some b=>
     rcases Zr hr with h|h
     ·rw[hx]at h;cases h
     ·exact absurd h3 h.2.2.1
   ·by_cases ht:toC c=dstF f
    ·rw[<-ht,YbF h3];simp[h3]
    ·cases hr:(JT f x c n o).since (dstF f)with
     |none=>simp[ht]
     |some b=>
      rcases Zr hr with h|h
      ·rw[hx]at h;cases h
      ·exact absurd h.1.symm ht
 ·--acked
  change(if o=1/\x.acked (Yr c) (toC c)=none thenλu v=>if u=Yr c/\v=toC c then some n else x.acked u v else x.acked) u v=some t at ht
  have old:x.acked u v=some t->((JT f x c n o).since v).isSome=true:=by
   intro ht
   have:=hu.ack u v t ht
   cases hx:x.since v with
   |none=>rw[hx]at this;cases this
   |some b=>rw[Vk hx];rfl
  split at ht
  ·rename_i ho
   simp only[]at ht
   split at ht
   ·rename_i huv
    rw[huv.2]
    exact YbF (by rw[ho.1];decide)
   ·exact old ht
  ·exact old ht
 ·--lost
  obtain⟨hv1,hv2⟩:=Yfo hv
  change a∈keyL (p.atts++[⟨n,x.frame,c,o⟩]) f.1 x.frame u v at hm
  rw[hk]at hm
  rcases TJ.1 hm with hm|hm
  ·exact hu.lost u v hv1 a hm
  ·split at hm
   ·rename_i hq
    obtain rfl:=TU.1 hm
    simp only[onK,Tq]at hq
    exact hv2 hq.2.2.2.symm
   ·cases hm
 ·--bounds
  rw[Tf (show¬j+2=0 by omega)]
  rcases Zr hb with h|h
  ·have:=hbd v b h;omega
  ·omega
 ·--hop
  show∃K1,K1<+:keyL (p.atts++[⟨n,x.frame,c,o⟩]) f.1 x.frame u v/\(∀a∈K1,a.o=3)/\J6 s (onP f.1 u v) ((JT f x c n o).since v) a0 n (j+1)<=K1.length
  rw[hk]
  rcases Zr hs with hs|⟨rfl,rfl,ho,hnone⟩
  ·obtain⟨K1,h1,h2,h3⟩:=ha.hop u v a0 hud hs
   change J6 s (onP f.1 u v) (x.since v) a0 n j<=K1.length at h3
   cases hx:x.since v with
   |some b=>
    rw[Vk hx]
    rw[hx]at h3
    exact⟨K1,h1.trans (NR _ _),h2,h3⟩
   |none=>
    rw[hx]at h3
    cases hr:(JT f x c n o).since v with
    |some b=>
     rcases Zr hr with h|⟨rfl,rfl,ho,-⟩
     ·rw[hx]at h;cases h
     ·refine⟨K1,h1.trans (NR _ _),h2,TY ?_ h3⟩
      unfold J6
      simp only[show n+1-1-a0=n-a0 by omega]
      exact Nat.le_add_right _ _
    |none=>
     obtain⟨-,hv2⟩:=Yfo hr
     cases hq:onP f.1 u v c with
     |false=>exact⟨K1,h1.trans (NR _ _),h2,by rw[Ydg hc hq];exact h3⟩
     |true=>
      obtain⟨q1,q2,q3⟩:=Ygp.1 hq
      have ho:o=3:=hv2 q3.symm
      have hon:onK f.1 x.frame u v ⟨n,x.frame,c,o⟩=true:=by simp[onK,q1,q2,q3]
      rw[hon,Tm rfl]
      refine⟨keyL p.atts f.1 x.frame u v++[⟨n,x.frame,c,o⟩],ND _,λa hm=>?_,?_⟩
      ·rcases TJ.1 hm with hm|hm
       ·exact hu.lost u v hx a hm
       ·obtain rfl:=TU.1 hm
        exact ho
      ·have:=YrV (a0:=a0) hc (onP f.1 u v) none
       have hl:=h1.length_le
       rw[Tt]
       simp only[TO]
       omega
  ·refine⟨[],List.nil_prefix,λa h=>by simp at h,?_⟩
   cases hr:(JT f x c n o).since v with
   |none=>rw[Yfd (by omega)];exact Ybn
   |some b=>
    have hb:b<=n+1:=by
     rcases Zr hr with h|h
     ·exact hbd v b h
     ·omega
    unfold J6
    simp only[show(b-1-(n+1)).toNat=0 by omega,cntL,Rh,TM]
 ·--deliveries:the slot
  rcases TJ.1 hm with hm|hm
  ·exact Vk (ha.dlv.1 d hm h1 h2)
  ·obtain⟨rfl,ho,ht,hd⟩:=hdel d hm
   have hx:x.since (dstF f)=none:=by
    have:=hu.done
    rw[hd]at this
    cases hx:x.since (dstF f)with
    |none=>rfl
    |some b=>rw[hx]at this;cases this
   cases hr:(JT f x c n o).since (dstF f)with
   |none=>
    have:=YbF (f:=f) (x:=x) (c:=c) (n:=n) ho
    rw[ht,hr]at this;cases this
   |some b=>
    rcases Zr hr with h|h
    ·rw[hx]at h;cases h
    ·show some b=some (n+1);rw[h.2.1]
 ·--there is one
  show(f.1,x.frame,b-1)∈p.dels++delS f x c n o
  rcases Zr hb with h|⟨h1,h2,h3,h4⟩
  ·exact TJ.2 (.inl (ha.dlv.2 b h))
  ·have hd:x.done=false:=by rw[hu.done,h4];rfl
   refine TJ.2 (.inr ?_)
   unfold delS
   rw[Tm ⟨h3,h1.symm,hd⟩,h2]
   simp
 ·--the frames before
  change k'<x.frame at h2
  obtain⟨since,hk'⟩:=h.old k' h1 h2
  refine⟨since,hk'.mono (λu v=>by rw[hk];exact NR _ _) (λd d1 d2=>?_)⟩
  show d∈p.dels++delS f x c n o↔d∈p.dels
  rw[TJ]
  refine⟨λhm=>hm.elim id λhm=>?_,.inl⟩
  obtain⟨rfl,-⟩:=hdel d hm
  change x.frame=k' at d2
  omega
theorem Ypx(h:Ud s f x n ((atE s n).length+1) p)(hds:ds.Perm p.dels):Ud s f x (n+1) 0 ⟨p.st,p.atts,ds⟩:=by
 have hfr:x.frame=VY f n:=by
  have:=h.frame
  simp_all
 refine⟨by simp_all,h.none_a,λd hm hq=>h.none_d d (hds.mem_iff.1 hm) hq,λh0=>?_,λk h1 h2=>?_⟩
 ·obtain⟨hu,ha⟩:=h.cur h0
  have hbd:∀v b,x.since v=some b->b<=n+1:=λv b hb=>by
   have:=hu.bd v b hb
   simp_all
  refine⟨⟨hu.done,hu.ack,hu.lost,λv b hb=>by grind⟩,⟨ha.src,λu v a0 hud hs=>?_,λd hm h1 h2=>ha.dlv.1 d (hds.mem_iff.1 hm) h1 h2,λb hb=>hds.mem_iff.2 (ha.dlv.2 b hb)⟩⟩
  obtain⟨K1,h1,h2,h3⟩:=ha.hop u v a0 hud hs
  refine⟨K1,h1,h2,TY ?_ h3⟩
  cases x.since v with
  |some b=>exact TM _
  |none=>
   unfold J6
   simp only[Nat.zero_sub,SO,List.filter_nil,Rh,ite_self,Na,SY]
   have hle:=hbd u a0 hs
   by_cases h:a0<=n
   ·rw[Tm h,TL,show(n+1-a0).toNat=(n-a0).toNat+1 by omega,YeB,show a0+((n-a0).toNat:Int)=n by omega]
    omega
   grind
 ·obtain⟨since,ha⟩:=h.old k h1 h2
  exact⟨since,ha.mono (λu v=>ND _) (λd _ _=>hds.mem_iff)⟩
variable {l:List Flw}
theorem Yp6(hok:∀f∈l,FlOk f)(hid:l.Pairwise λa b=>a.1≠b.1){J:Nat}(h:Pl l s n J p):0<=n/\p.st.length=l.length/\∀(i:Nat) f x,l[i]? =some f->p.st[i]? =some x->Ud s f x n J p:=by
 induction h with
 |start=>
  refine⟨RB _,by simp,λi f x hf hx=>?_⟩
  have hx:x=YkU:=by
   simp_all
  subst hx
  have hp:=(hok f (Td hf)).pha
  refine⟨by unfold VY;rw[Tm rfl,Tm (by omega)];rfl,λa h=>by simp at h,λa h=>by simp at h,λh=>absurd h (by decide),λk h1 h2=>?_⟩
  change k< -1 at h2
  omega
 |rel st hp hl hst ih=>
  obtain⟨h1,h2,h3⟩:=ih
  refine⟨h1,hl,λi f x hf hx=>?_⟩
  grind [YrP]
 |skip hp hc hn ih=>
  obtain⟨h1,h2,h3⟩:=ih
  exact⟨h1,h2,λi f x hf hx=>Ypy (h3 i f x hf hx) hc (hn i f x hf hx)⟩
 |@att n j i p c f x o hp hc hf hx hg hn ih=>
  obtain⟨h1,h2,h3⟩:=ih
  refine⟨h1,by simp[h2],λi' f' x' hf' hx'=>?_⟩
  by_cases hi:i=i'
  ·grind [YrO]
  ·rw[Ni hi]at hx'
   refine Ync (g:=f) (h3 i' f' x' hf' hx') hc hg ?_ (λd hd=>?_)
   ·obtain⟨hlt,e1⟩:=Tc.1 hf
    obtain⟨hlt',e2⟩:=Tc.1 hf'
    rw[<-e1,<-e2]
    rcases Nat.lt_or_gt_of_ne hi with h|h
    ·exactλe=>(TG.1 hid i i' hlt hlt' h) e.symm
    ·exact TG.1 hid i' i hlt' hlt h
   ·unfold delS at hd
    split at hd
    ·rw[TU.1 hd]
    ·cases hd
 |next ds hp hd ih=>
  obtain⟨h1,h2,h3⟩:=ih
  exact⟨by omega,h2,λi f x hf hx=>Ypx (h3 i f x hf hx) hd⟩
theorem YkC{len:Int}{C:Lk->List Cel}{endd:Int}:∀{ls:List Lk}{a:Int}{z:Cel×Int},z∈runP len C endd ls a->a<=z.2
 |[],a,z,h=>by cases h
 |l::ls,a,z,h=>by
  rw[runP]at h
  have h1:∀z∈hopP len (C l) (endd-a).toNat (YV l) a,a<=z.2:=λz hz=>(Of hz).1
  split at h
  ·grind
  ·rcases TJ.1 h with h|h
   ·grind
   ·have h2:=YkC h
    have h3:a<=YC (hopP len (C l) (endd-a).toNat (YV l) a) a:=by
     unfold YC
     grind
    omega
def brO(loss:Int):List Int->Nat->Bool
 |[],_=>false
 |o::os,r=>if o=1 then brO loss os 0 else if loss<(r:Int)+1 then true else brO loss os (r+1)
theorem Yhy{loss:Int}:∀(os more:List Int) (r:Nat),(∀o∈os,o=3)->1<=os.length->loss<(r:Int)+os.length->brO loss (os++more) r=true
 |[],_,_,_,h,_=>by simp at h
 |o::os,more,r,h3,_,hl=>by
  rw[TB,brO,h3 o (by simp),Tf (by decide)]
  split
  ·rfl
  ·rw[TZ]at hl
   exact Yhy os more (r+1) (λo ho=>h3 o (by simp[ho])) (by omega) (by omega)
theorem Yqo(h0:0<=a)(hs:Xh s=true):∀k:Nat,(Xy s.len a (s.cells.filter q) k).length<=((atE s a).filter q).length:=by
 intro k
 unfold atE
 rw[Tf (by simp_all),NP]
 generalize s.cells=L
 induction L generalizing k with
 |nil=>simp[Xy]
 |cons c L ih=>
  by_cases hq:q c=true
  ·rw[Np,Tm hq,Xy]
   grind
  simp_all
variable {y:List (Cel×Int)}
theorem Yb3{x:List (Cel×Int)}(hy:y≠[]):YC (x++y) a=YC y a:=YqY
theorem Yer(hy:y≠[])(a b:Int):YC y a=YC y b:=YqY
theorem Qg{lo:Int}(hy:y≠[])(h:∀z∈y,lo<=z.2):lo+1<=YC y a:=YqY
theorem YlP{s:Sch}{q:Cel->Bool}(hs:Xh s=true):∀(f k:Nat) (a:Int),0<=a->(hopP s.len (s.cells.filter q) f k a).length<=cntL s q (YC (hopP s.len (s.cells.filter q) f k a) a-a).toNat a
 |0,_,_,_=>Ti _
 |f+1,k,a,h0=>by
  rw[hopP]
  have h1:=Yqo (q:=q) h0 hs k
  generalize hx:Xy s.len a (s.cells.filter q) k=x at*
  have ih:=YlP (q:=q) hs f (k-x.length) (a+1) (by omega)
  have hsnd:∀z∈hopP s.len (s.cells.filter q) f (k-x.length) (a+1),a+1<=z.2:=λz hz=>(Of hz).1
  generalize hopP s.len (s.cells.filter q) f (k-x.length) (a+1)=y at*
  by_cases hy:y=[]
  ·subst hy
   rw[Rm]
   by_cases hx0:x=[]
   ·simp_all
   ·have:YC x a=a+1:=by
     grind [YC,List.getLast?_eq_none_iff,W8]
    rw[this,show(a+1-a).toNat=0+1 by omega,cntL]
    omega
  ·rw[Yb3 hy,Yer hy a (a+1)]
   have hlt:=Qg (a:=a+1) hy hsnd
   rw[show(YC y (a+1)-a).toNat=(YC y (a+1)-(a+1)).toNat+1 by omega,cntL,Tt]
   omega
def Chain(d:Int):Int->List Lk->Prop
 |u,[]=>u=d
 |u,l::ls=>u=l.1/\u≠d/\Chain d l.2.1 ls
theorem Ypp(ha:Arch s f k n 0 p since){a':Int}(hu:u≠dstF f)(hs:since u=some a0)(hle:a0<=a){m:Nat}(hm:m<=cntL s (onP f.1 u v) (a'-a).toNat a)(hn:a'<=n)
 (hno:∀K1,K1<+:keyL p.atts f.1 k u v->(∀x∈K1,x.o=3)->K1.length<m):∃b,since v=some b/\b<=a':=by
 obtain⟨K1,h1,h2,h3⟩:=ha.hop u v a0 hu hs
 have h4:=hno K1 h1 h2
 cases hv:since v with
 |none=>
  rw[hv]at h3
  unfold J6 at h3
  simp only[SO,List.filter_nil,Rh,ite_self,Na]at h3
  have:=YeA s (onP f.1 u v) hle hn
  omega
 |some b=>
  refine⟨b,rfl,Int.not_lt.1 λhlt=>?_⟩
  rw[hv]at h3
  change cntL s (onP f.1 u v) (b-1-a0).toNat a0<=K1.length at h3
  have:=YeA s (onP f.1 u v) hle (show a'<=b-1 by omega)
  omega
theorem Yi4{s:Sch}(hs:Xh s=true){f:Flw}{k n:Int}{p:PlM}{since:Int->Option Int}(ha:Arch s f k n 0 p since)(endd:Int):∀(ls:List Lk) (u a0 a:Int),Chain (dstF f) u ls->since u=some a0->a0<=a->0<=a->(∀l∈ls,0<=l.2.2)->
 (∀l∈ls,brO l.2.2 ((keyL p.atts f.1 k l.1 l.2.1).map AttM.o) 0=false)->
 XF ls<=(runP s.len (Xx s f.1) endd ls a).length->YC (runP s.len (Xx s f.1) endd ls a) a<=n->∃b,since (dstF f)=some b/\b<=YC (runP s.len (Xx s f.1) endd ls a) a
 |[],u,a0,a,hc,hsu,hle,_,_,_,_,_=>by
  change u=dstF f at hc
  refine⟨a0,by simp_all,?_⟩
  grind [runP,YC]
 |l::ls,u,a0,a,hc,hsu,hle,h0,hl0,hbr,hfull,hn=>by
  obtain⟨hc1,hc2,hc3⟩:=hc
  have hlen:=Qw s.len (Xx s f.1 l) (endd-a).toNat (YV l) a
  have hcnt:=YlP (q:=onP f.1 l.1 l.2.1) hs (endd-a).toNat (YV l) a h0
  have hsnd:∀z∈hopP s.len (Xx s f.1 l) (endd-a).toNat (YV l) a,a<=z.2:=λz hz=>(Of hz).1
  change(hopP s.len (Xx s f.1 l) (endd-a).toNat (YV l) a).length<=cntL s (onP f.1 l.1 l.2.1) (YC (hopP s.len (Xx s f.1 l) (endd-a).toNat (YV l) a) a-a).toNat a at hcnt
  rw[runP]at hfull hn⊢
  generalize hopP s.len (Xx s f.1 l) (endd-a).toNat (YV l) a=x at*
  have hneed:XF (l::ls)=YV l+XF ls:=by simp[XF]
  have h1:1<=YV l:=by grind [YV]
  by_cases hx:x.length<YV l
  ·grind
  ·rw[Tf hx]at hfull hn⊢
   have hxl:x.length=YV l:=by omega
   have hxne:x≠[]:=by grind
   have hafter:a+1<=YC x a:=Qg hxne hsnd
   have hrl:=YbI s.len (Xx s f.1) endd ls (YC x a)
   rw[Tt]at hfull
   have hzn:YC x a<=n/\YC (x++runP s.len (Xx s f.1) endd ls (YC x a)) a=YC (runP s.len (Xx s f.1) endd ls (YC x a)) (YC x a):=by
    by_cases hr:runP s.len (Xx s f.1) endd ls (YC x a)=[]
    ·rw[hr,Rm]at hn⊢
     exact⟨hn,by simp[YC]⟩
    ·rw[Yb3 hr,Yer hr a (YC x a)]at hn⊢
     refine⟨?_,rfl⟩
     have:=Qg (a:=YC x a) (lo:=YC x a) hr (λz hz=>(YkC hz))
     omega
   obtain⟨b,hb,hbl⟩:=Ypp ha (v:=l.2.1) hc2 hsu hle (m:=YV l) (by rw[hc1];omega) hzn.1 (λK1 k1 k2=>by
    apply Nat.lt_of_not_le
    intro hge
    rw[hc1]at k1
    obtain⟨more,hm⟩:=k1
    have:=hbr l (by simp)
    rw[<-hm,TP]at this
    rw[Yhy (K1.map AttM.o) (more.map AttM.o) 0 (λo ho=>by obtain⟨z,hz,rfl⟩:=TD.1 ho;exact k2 z hz) (by rw[Tv];omega) (by rw[Tv];unfold YV at hge;omega)]at this
    cases this)
   rw[hzn.2]at hn⊢
   exact Yi4 hs ha endd ls l.2.1 b (YC x a) hc3 hb hbl (by omega) (λz hz=>hl0 z (by simp[hz])) (λz hz=>hbr z (by simp[hz])) (by omega) hn
theorem Yrm(hf:FlOk f)(h:Ud s f x n 0 p)(h0:0<=k)(hk:Yn f k<n):∃m since,Arch s f k m 0 p since/\∀z,z<=n->z<=Yn f k+perF f->z<=m:=by
 have hp:=hf.per
 have hfr:x.frame=VY f (n-1):=h.frame
 have hk0:0<=k*perF f:=SD h0 (by omega)
 have hge:k<=x.frame:=by
  rw[hfr]
  unfold Yn at hk
  unfold VY
  rw[Tf (by omega)]
  exact(Int.le_ediv_iff_mul_le (by omega)).2 (by omega)
 by_cases hlt:k<x.frame
 ·obtain⟨since,ha⟩:=h.old k h0 hlt
  grind
 ·obtain rfl:k=x.frame:=by omega
  exact⟨n,x.since,(h.cur h0).2,λz h1 _=>h1⟩
def shP(d:Int)(y:Cel×Int):Cel×Int:=(y.1,y.2+d)
theorem O6{len a z:Int}(hz:0<=z)(hl:1<=len)(ha:0<=a):∀(cs:List Cel) (k:Nat),Xy len (a+z*len) cs k=(Xy len a cs k).map (shP (z*len))
 |[],_=>rfl
 |c::cs,k=>by
  have e:(a+z*len).tmod len=a.tmod len:=by
   have h1:0<=z*len:=SD hz (by omega)
   grind [Int.add_mul_emod_self_right]
  rw[Xy,Xy,e]
  split
  ·rw[Ro,O6 hz hl ha cs (k-1)];rfl
  ·exact O6 hz hl ha cs k
theorem YeX{len z:Int}(hz:0<=z)(hl:1<=len)(cs:List Cel):∀(f k:Nat) (a:Int),0<=a->hopP len cs f k (a+z*len)=(hopP len cs f k a).map (shP (z*len))
 |0,_,_,_=>rfl
 |f+1,k,a,ha=>by
  rw[hopP,hopP,O6 hz hl ha,Tv,TP,show a+z*len+1=a+1+z*len by omega,YeX hz hl cs f _ (a+1) (by omega)]
theorem YaF(x:List (Cel×Int))(a d:Int):YC (x.map (shP d)) (a+d)=YC x a+d:=by
 grind [YC,shP]
theorem YoA{x:List (Cel×Int)}(h:∀z∈x,a<=z.2):a<=YC x a:=by
 unfold YC
 grind
theorem Yfs{len z:Int}(hz:0<=z)(hl:1<=len)(C:Lk->List Cel)(endd:Int):∀(ls:List Lk) (a:Int),0<=a->runP len C (endd+z*len) ls (a+z*len)=(runP len C endd ls a).map (shP (z*len))
 |[],_,_=>rfl
 |l::ls,a,ha=>by
  rw[runP,runP,show endd+z*len-(a+z*len)=endd-a by omega,YeX hz hl _ _ _ _ ha,Tv,YaF]
  split
  ·rfl
  ·rw[TP,Yfs hz hl C endd ls _ (by
    have:=YoA (x:=hopP len (C l) (endd-a).toNat (YV l) a) (a:=a) (λz hz=>(Of hz).1)
    omega)]
theorem Yhv{S:Int->Option (List Int)}{len per:Int}(hp:1<=per){r:Int×Int×List Int}:∀{fuel:Nat}{rel:Int}{b:Int×Int×List Int},Vr S len per fuel rel b=some r->
 b.1<=r.1/\∀i:Nat,i<fuel->rel+i*per<len->∃l,S (rel+i*per)=some l/\JA l-(rel+i*per)+1<=r.1
 |0,rel,b,h=>by
  obtain rfl:=Tn (show some b=some r from h)
  simp_all
 |fuel+1,rel,b,h=>by
  rw[Vr]at h
  split at h
  ·rename_i hle
   obtain rfl:=Tn h
   refine⟨RB _,λi _ hi=>?_⟩
   have:0<=(i:Int)*per:=SD (by omega) (by omega)
   omega
  ·cases hS:S rel with
   |none=>simp_all
   |some l=>
    rw[hS]at h
    obtain⟨h1,h2⟩:=Yhv hp h
    have h3:b.1<=r.1/\JA l-rel+1<=r.1:=by
     grind
    refine⟨h3.1,λi hi hlt=>?_⟩
    cases i with
    |zero=>simp_all
    |succ i=>
     grind
theorem Yj8{x:List (Cel×Int)}(hx:x≠[]):JA (x.map Prod.snd)+1=YC x a:=by
 grind [JA,YC,List.getLast?_eq_none_iff]
variable {ls:List Lk}
theorem Ym5{len per pha:Int}{C:Lk->List Cel}{b:Int×Int×List Int}(hl:1<=len)(hp:1<=per)(h0:0<=pha)(h1:pha<per)(hm:len.tmod per=0)(hne:1<=XF ls)
 (hb:Vr (λa=>runR len C (a+per) ls a) len per len.toNat pha (0,0,[])=some b) (hk:0<=k):
 XF ls<=(runP len C (pha+k*per+per) ls (pha+k*per)).length/\YC (runP len C (pha+k*per+per) ls (pha+k*per)) (pha+k*per)<=pha+k*per+b.1:=by
 rw[Rj (by omega)]at hm
 have hq:len=per*(len/per):=by grind [Nx]
 generalize len/per=q at hq
 have hq1:1<=q:=by
  apply Int.not_lt.1
  intro hlt
  have:=RH (show q<=0 by omega) (show 0<=per by omega)
  omega
 have e1:=Nx k q
 have b1:=Ns k (show q≠0 by omega)
 have b2:=S0 k (show 0<q by omega)
 have b3:0<=k/q:=Int.ediv_nonneg hk (by omega)
 generalize k/q=z at*
 generalize hi:k%q=i at*
 have hrel:pha+i*per<len:=by
  have:=RS (show i<=q-1 by omega) (show 0<=per by omega)
  grind
 have hfirst:pha+k*per=pha+i*per+z*len:=by
  grind
 have hi0:0<=i*per:=SD b1 (by omega)
 obtain⟨-,h2⟩:=Yhv hp hb
 have hle:i<=i*per:=by
  have:=RH hp b1
  omega
 obtain⟨l,h3,h4⟩:=h2 i.toNat (by omega) (by grind)
 rw[Int.toNat_of_nonneg b1]at h3 h4
 rw[YgF]at h3
 split at h3
 ·cases h3
 rename_i hfull
 obtain rfl:=Tn h3
 have hne':runP len C (pha+i*per+per) ls (pha+i*per)≠[]:=by
  grind
 have h5:=Yj8 (a:=pha+i*per) hne'
 rw[hfirst,show pha+i*per+z*len+per=pha+i*per+per+z*len by omega,Yfs b3 hl C _ ls _ (by omega),Tv,YaF]
 omega
theorem Ynh(hok:∀f∈l,FlOk f)(hid:l.Pairwise λa b=>a.1≠b.1)(h:Pl l s n 0 p)(hf:f∈l)(hs:Xh s=true)(hl:1<=s.len)(hpp:phaF f<perF f)(hm:s.len.tmod (perF f)=0)
 (hne:ls≠[]) (hch:Chain (dstF f) f.2.1 ls) (hloss:∀x∈ls,0<=x.2.2) {b:Int×Int×List Int}(hb:Vr (λa=>runR s.len (Xx s f.1) (a+perF f) ls a) s.len (perF f) s.len.toNat (phaF f) (0,0,[])=some b)
 (hk:0<=k) (hn:Yn f k+b.1<=n) (hbr:∀x∈ls,brO x.2.2 ((keyL p.atts f.1 k x.1 x.2.1).map AttM.o) 0=false):
 ∃t,(f.1,k,t)∈p.dels/\t-Yn f k+1<=b.1/\∀d∈p.dels,d.1=f.1->d.2.1=k->d.2.2=t:=by
 obtain⟨-,hst,hinv⟩:=Yp6 hok hid h
 obtain⟨i,hi⟩:=TN.1 hf
 have hil:i<l.length:=by grind
 obtain⟨x,hx⟩:∃x,p.st[i]? =some x:=⟨_,Ta (by rw[hst];exact hil)⟩
 have hI:=hinv i f x hi hx
 have hfo:=hok f hf
 have hp:=hfo.per
 have hneed:1<=XF ls:=by
  cases ls with
  |nil=>exact absurd rfl hne
  |cons y ys=>
   have:=hloss y (by simp)
   unfold XF
   rw[Ro,List.sum_cons]
   unfold YV
   omega
 obtain⟨h1,h2⟩:=Ym5 hl hfo.per hfo.pha hpp hm hneed hb hk
 change XF ls<=(runP s.len (Xx s f.1) (Yn f k+perF f) ls (Yn f k)).length at h1
 change YC (runP s.len (Xx s f.1) (Yn f k+perF f) ls (Yn f k)) (Yn f k)<=Yn f k+b.1 at h2
 have hk0:0<=Yn f k:=by
  have:=hfo.pha
  have:=SD hk (show 0<=perF f by omega)
  unfold Yn;omega
 have hne':runP s.len (Xx s f.1) (Yn f k+perF f) ls (Yn f k)≠[]:=by
  intro e;rw[e]at h1;simp only[Rh]at h1;omega
 have h3:=Qg (a:=Yn f k) (lo:=Yn f k) hne' (λz hz=>YkC hz)
 have h4:YC (runP s.len (Xx s f.1) (Yn f k+perF f) ls (Yn f k)) (Yn f k)<=Yn f k+perF f:=by
  unfold YC
  cases e:(runP s.len (Xx s f.1) (Yn f k+perF f) ls (Yn f k)).getLast? with
  |none=>simp only[];omega
  |some z=>have:=(YbJ (by omega) (List.mem_of_getLast? e)).2;simp only[];omega
 obtain⟨m,since,ha,hm'⟩:=Yrm hfo hI hk (by omega)
 obtain⟨t,ht,htl⟩:=Yi4 hs ha (Yn f k+perF f) ls f.2.1 (Yn f k) (Yn f k) hch ha.src (RB _) hk0 hloss hbr h1 (hm' _ (by omega) h4)
 refine⟨t-1,ha.dlv.2 t ht,by omega,λd hd d1 d2=>?_⟩
 have:=ha.dlv.1 d hd d1 d2
 rw[ht]at this
 have:=Tn this
 omega
end Go.Proofs.YtjlgijpmnfabcaaGreatDoor
