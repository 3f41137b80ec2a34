/- Lemmas. -/
import Derived.Test.YtjommdkgfbhbdaaGreatDoorQ12
import Derived.Test.YtjommdkgfbhbdaaGreatDoorQ13
set_option maxRecDepth 100000
set_option maxHeartbeats 8000000
set_option linter.all false
namespace Go.Proofs.YtjommdkgfbhbdaaGreatDoor
open Go.RowKit Go.Eng Go.Nw
variable {l:List Flw}
theorem YjU{n:Net}{s:Sch}(h1:(X8 n l s).2=0):∀c∈s.cells,YX n (YF c) (toC c)=true:=by
 have k1:=YI.1 h1
 exact zc74
theorem Yfj{nodes:Int}(h:(YB nodes l).2=0):l.length<=16:=by
 grind [YB]
theorem YeQ(n:NetM)(l:List Flw)(s:SchM)(hlf:l.length<=9223372036854775807)(hl:s.cells.length<=1000000000000){A:Option Addr}{cap B:Nat}{w0:World}{H:List HP}{w:World}(hin:n.In B w0 H)(hrf:Rd B w0 H A (l.flatMap flwF))(hr:Rd B w0 H s.A (s.cells.flatMap celF))(hw:St B w0 H w):
 CX B w0 180 [n.val,.slice A l.length cap,s.val] w λv K=>v=.tuple #[.int .i64 (schE n.net l s.sch).1,.int .i64 (schE n.net l s.sch).2]/\K=H:=by
 refine Ya Tryz.func180 Tryz.ntmps180 rfl rfl hw ?_
 have e4:s.sch.cells.length=s.cells.length:=rfl
 have e5:s.sch.len=s.len:=rfl
 have hchk:=λ{H':List HP}{w:World}(hin:n.In B w0 H') (hw:St B w0 H' w)=>Y4 n hin hw
 have hsz:=λ{H':List HP}{w:World}(hw:St B w0 H' w)=>Yd3 s hw
 by_cases h1:Yl n.net=0
 rotate_left
 ·have hS:schE n.net l s.sch=(-1,1):=by
   have hw1:XC n.net l s.sch=1:=by unfold XC;rw[Tn h1]
   unfold schE;rw[hw1];rfl
  rw[hS]
  repeat'(first|((apply Yb XM);exact za;exact rfl;exactλ_ hw=>(hchk hin.cons.cons hw))|refine zgb ?_|(refine zge ?_ ?_<;>intro _<;>try exact zo)|(refine zgh ?_;intro _)|fail)
  apply Yf H
  ·exact zc0
  exact zc5
 rw[h1]at hchk
 by_cases h2:(YB n.nodes l).2=0
 rotate_left
 ·have hS:schE n.net l s.sch=(-1,1):=by
   have hw1:XC n.net l s.sch=1:=by unfold XC;rw[Tj (by omega)];exact Tn h2
   unfold schE;rw[hw1];rfl
  rw[hS]
  repeat'(first|((apply Yb XM);exact za;exact rfl;exactλ_ hw=>(hchk hin.cons.cons hw))|((apply Yb en39);exact za;exact rfl;exactλ_ hw=>(Xw n.nodes l hlf hrf.cons.cons hw))|refine zgc ?_|(refine zge ?_ ?_<;>intro _<;>try exact zo)|(refine zgh ?_;intro _)|fail)
  apply Yf H
  ·exact zc0
  exact zc5
 have hl16:=Yfj h2
 have hper:=YaL h2
 cases h3:Zw s.sch with
 |false=>
  rw[h3]at hsz
  have hS:schE n.net l s.sch=(-1,2):=by
   have hw1:XC n.net l s.sch=2:=by unfold XC;rw[Tj (by omega),Tj (λh=>h h2),Tn h3]
   unfold schE;rw[hw1];rfl
  rw[hS]
  repeat'(first|((apply Yb XM);exact za;exact rfl;exactλ_ hw=>(hchk hin.cons.cons hw))|((apply Yb en39);exact za;exact rfl;exactλ_ hw=>(Xw n.nodes l hlf hrf.cons.cons hw))|((apply Yb YlK);exact za;exact rfl;exactλ_ hw=>(hsz hw))|refine zgd ?_|(refine zge ?_ ?_<;>intro _<;>try exact zo)|(refine zgh ?_;intro _)|fail)
  apply Yf H
  ·exact zc0
  exact zc5
 |true=>
 rw[h3]at hsz
 have hsl:1<=s.len/\s.len<=512:=by
  have:=TT h3
  exact⟨this.1,this.2.1⟩
 obtain⟨b,hb⟩:∃b,(l.any λf=>decide (s.len.tmod f.2.2.2.1≠0))=b:=⟨_,rfl⟩
 have hw0:XC n.net l s.sch=if b=true then 11 else if 512<s.cells.length then 8 else 0:=by
  unfold XC
  rw[Tj (by omega),Tj (λh=>h h2),h3,Tj (by decide),e5,hb]
  rfl
 have hcf:=λ{H':List HP}{w:World}(gs:Nat) (hm:blk gs (.cells #[.int .i64 s.len,.int .i64 s.off,.slice s.A s.cells.length s.cap] 33 (0,0))∈H') (hr:Rd B w0 H' A (l.flatMap flwF)) (hw:St B w0 H' w)=>W3 (λf=>decide (s.len.tmod f.2.2.2.1≠0)) l 261 [.pointer (some ⟨gs,0,none⟩)] Ywm (by omega) (cap:=cap) hr (λf hf w hw=>YgF s f gs hsl ⟨(hper f hf).2.2.1,(hper f hf).2.2.2⟩ hm hw) hw
 rw[hb]at hcf
 cases b with
 |true=>
  rw[Tn rfl]at hw0
  have hS:schE n.net l s.sch=(-1,11):=by unfold schE;rw[hw0];rfl
  rw[hS]
  refine zX88 ?_<;>intros
  apply Yf H
  ·exact zc0
  exact zc5
 |false=>
 rw[Tj (by decide)]at hw0
 by_cases h5:512<s.cells.length
 ·rw[Tn h5]at hw0
  have hS:schE n.net l s.sch=(-1,8):=by unfold schE;rw[hw0];rfl
  rw[hS]
  refine zX88 ?_<;>intros
  apply Yf H
  ·exact zc0
  exact zc5
 rw[Tj h5]at hw0
 have hS:schE n.net l s.sch=if(X8 n.net l s.sch).2≠0 then X8 n.net l s.sch else if(Zy s.sch).2≠0 then Zy s.sch else YcQ n.net s.sch:=by
  unfold schE;rw[hw0];rfl
 rw[hS]
 have hcc:=λ{H':List HP}{w:World}(hin:n.In B w0 H') (hrf:Rd B w0 H' A (l.flatMap flwF)) (hr:Rd B w0 H' s.A (s.cells.flatMap celF)) (hw:St B w0 H' w)=>YbP n l s h1 (by omega) hl (cap:=cap) hin hrf hr hw
 obtain⟨⟨c1,c2⟩,hcv⟩:∃R,X8 n.net l s.sch=R:=⟨_,rfl⟩
 rw[hcv]at hcc⊢
 dsimp only at hcc⊢
 by_cases h6:c2≠0
 ·rw[Tn h6]
  refine zX89 ?_<;>intros
  apply Yf H
  ·exact zc0
  exact zc5
 obtain rfl:c2=0:=Rw.1 h6
 rw[Tj h6]
 have hgood:=YjU (n:=n.net) (l:=l) (s:=s.sch) (by rw[hcv])
 refine zX89 ?_<;>intros
 first|(rename_i gn gs;guard_hyp gn:Nat;guard_hyp gs:Nat)|(rename_i gn gs _;guard_hyp gn:Nat;guard_hyp gs:Nat)|(rename_i gn gs _ _;guard_hyp gn:Nat;guard_hyp gs:Nat)|(rename_i gn gs _ _ _;guard_hyp gn:Nat;guard_hyp gs:Nat)|(rename_i gn gs _ _ _ _;guard_hyp gn:Nat;guard_hyp gs:Nat)|(rename_i gn gs _ _ _ _ _;guard_hyp gn:Nat;guard_hyp gs:Nat)|(rename_i gn gs _ _ _ _ _ _;guard_hyp gn:Nat;guard_hyp gs:Nat)
 refine Ye (λ(k:Nat)=>[(53,.int .i64 k),(52,.int .i64 s.cells.length),(51,.slice s.A s.cells.length s.cap),(3,.pointer (some ⟨gn,0,none⟩)),(5,.pointer (some ⟨gs,0,none⟩))]) (λ_=>blk gs (.cells #[.int .i64 s.len,.int .i64 s.off,.slice s.A s.cells.length s.cap] 33 (0,0))::netN gn n::H) (λk=>k<=s.cells.length/\∀j,j<k->Za s.sch j=false) (λk=>s.cells.length-k) 0 ⟨Td _,λj hj=>absurd hj (TZ _)⟩ ?_ (λw hw=>hw) ?_
 ·exact zc1
 rintro k ⟨hk,hall⟩ K hK
 have hF:Zy s.sch=YD (λi=>if Za s.sch i=true then 6 else 0) s.cells.length 0:=rfl
 unfold netN
 by_cases hlt:k<s.cells.length
 ·have htc:=λ{H':List HP}{w:World}(hr:Rd B w0 H' s.A (s.cells.flatMap celF)) (hw:St B w0 H' w)=>Yk9 s k hlt (by omega) hr hw
  cases htw:Za s.sch k with
  |true=>
   rw[htw]at htc
   have hT:Zy s.sch=((k:Int),6):=zc98
   rw[hT,Tn (show(6:Int)≠0 by decide)]
   repeat'(first|((apply Yb Ys7);exact za;exact rfl;exactλ_ hw=>(htc hr.cons.cons hw))|refine zgd ?_|(refine zge ?_ ?_<;>intro _<;>try exact zo)|fail)
   apply Yf H
   ·exact zc0
   exact zc5
  |false=>
   rw[htw]at htc
   repeat'(first|((apply Yb Ys7);exact za;exact rfl;exactλ_ hw=>(htc hr.cons.cons hw))|refine zgc ?_|(refine zge ?_ ?_<;>intro _<;>try exact zo)|fail)
   apply hK (k+1)
   ·exact Yt3
   ·omega
   ·exact zc1
   ·unfold netN
    exact zc0
 have hT:(Zy s.sch).2=0:=by
  rw[hF,YI]
  intro j _ hj
  simp only[hall j (by omega)]
  rfl
 rw[Tj (λh=>h hT)]
 clear hK
 refine zX0 ?_<;>intros
 refine Ye (λ(k:Nat)=>[(64,.int .i64 k),(63,.int .i64 s.cells.length),(62,.slice s.A s.cells.length s.cap),(3,.pointer (some ⟨gn,0,none⟩)),(5,.pointer (some ⟨gs,0,none⟩))]) (λ_=>blk gs (.cells #[.int .i64 s.len,.int .i64 s.off,.slice s.A s.cells.length s.cap] 33 (0,0))::netN gn n::H) (λk=>k<=s.cells.length/\∀j,j<k->Z8 n.net s.sch j=false) (λk=>s.cells.length-k) 0 ⟨Td _,λj hj=>absurd hj (TZ _)⟩ ?_ (λw hw=>hw) ?_
 ·exact zc1
 rintro k ⟨hk,hall⟩ K2 hK
 have hF:YcQ n.net s.sch=YD (λi=>if Z8 n.net s.sch i=true then 16 else 0) s.cells.length 0:=rfl
 unfold netN
 by_cases hlt:k<s.cells.length
 ·have htc:=λ{H':List HP}{w:World}(hin:n.In B w0 H') (hr:Rd B w0 H' s.A (s.cells.flatMap celF)) (hw:St B w0 H' w)=>YcW n s k h1 hgood hlt (by omega) hin hr hw
  cases htw:Z8 n.net s.sch k with
  |true=>
   rw[htw]at htc
   have hT:YcQ n.net s.sch=((k:Int),16):=zc98
   rw[hT]
   repeat'(first|((apply Yb Ys8);exact za;exact rfl;exactλ_ hw=>(htc hin.cons.cons hr.cons.cons hw))|refine zgd ?_|(refine zge ?_ ?_<;>intro _<;>try exact zo)|fail)
   apply Yf H
   ·exact zc0
   exact zc5
  |false=>
   rw[htw]at htc
   repeat'(first|((apply Yb Ys8);exact za;exact rfl;exactλ_ hw=>(htc hin.cons.cons hr.cons.cons hw))|refine zgc ?_|(refine zge ?_ ?_<;>intro _<;>try exact zo)|fail)
   apply hK (k+1)
   ·exact Yt3
   ·omega
   ·exact zc1
   ·unfold netN
    exact zc0
 ·have hT:YcQ n.net s.sch=(-1,0):=by
   rw[hF]
   exact Xy λj _ hj=>by simp only[hall j (by omega)];rfl
  rw[hT]
  refine zX0 ?_<;>intros
  apply Yf H
  ·exact zc0
  exact zc5
open Go.RowKit Go.Eng Go.Nw Go.Rt
theorem YdA{α:Type}(f:α->HP)(l:List α)(r:α)(H:List HP):Perm (f r::many (l.map f)::H) (many ((l++[r]).map f)::H):=by
 have:=Perm.push (f r) (l.map f) [] H
 simp_all
abbrev clsP(A:Option Addr)(cap:Nat)(C:List ClM):HP:=sl 189 5 A C.length cap (C.flatMap clF)
theorem YhB(A:Option Addr)(cap:Nat)(l:List ClM)(c:ClM):sl 189 5 A (l.length+1) cap (l.flatMap clF++#[Value.int .i64 c.flow,.slice c.rA c.rs.length c.rcap,.slice c.bA c.bs.length c.bcap,.slice c.wA c.ws.length c.wcap,.slice c.sA c.ss.length c.scap].toList)=clsP A cap (l++[c]):=by simp[clsP,List.flatMap_append,clF]
def OutC(H:List HP)(R:List Clm×(Int×Int))(v:Value)(K:List HP):Prop:=∃A cap C,v=.tuple #[.slice A (C:List ClM).length cap,.int .i64 R.2.1,.int .i64 R.2.2]/\C.map ClM.clm=R.1/\(∀c∈C,c.lens)/\K=clsP A cap C::many (C.map clQ)::H
variable {B:Nat}{w0 w:World}{H:List HP}
theorem YdE(h:St B w0 H w):St B w0 (clsP none 0 []::many (([]:List ClM).map clQ)::H) w:=(h.perm (.noMany H)).nilSlice _ _
theorem Yl9{R:List Clm×(Int×Int)}{v:Value}(h1:R.1=[])(hv:v=.tuple #[.slice none 0 0,.int .i64 R.2.1,.int .i64 R.2.2]):OutC H R v (clsP none 0 []::many (([]:List ClM).map clQ)::H):=⟨none,0,[],hv,h1.symm,(λc hc=>by cases hc),rfl⟩
structure MkM where
 i:Nat
 A:Option Addr
 cap:Nat
 C:List ClM
theorem UY(n:NetM)(q:List RqM)(s:SchM){A:Option Addr}{cap:Nat}(ht:TabsB B w0)(hin:n.In B w0 H)(hq:QIn B w0 H A q)(hrs:Rd B w0 H s.A (s.cells.flatMap celF))(hsl:s.cells.length<=1000000000000)(hw:St B w0 H w):
 CX B w0 90 [n.val,.slice A q.length cap,s.val] w (OutC H (YJ n.net (q.map RqM.rq) s.sch)):=by
 refine Ya Tryz.func90 Tryz.ntmps90 rfl rfl hw ?_
 have hql:=hq.ln
 have hqr:=hq.rd
 have p1:=λ{H':List HP}{w:World}(hin:n.In B w0 H') (hq:QIn B w0 H' A q) (hw:St B w0 H' w)=>YeH n q (cap:=cap) hin hq hw
 have p2:=λ{H':List HP}{w:World}(hq:QIn B w0 H' A q) (hw:St B w0 H' w)=>Ybf q (cap:=cap) hql hq.rd hw
 have p3:=λ{A2:Option Addr}{cap2:Nat}{H':List HP}{w:World}(hin:n.In B w0 H') (hf:Rd B w0 H' A2 ((RqM.fl q).flatMap flwF)) (hrs:Rd B w0 H' s.A (s.cells.flatMap celF)) (hw:St B w0 H' w)=>YeQ n (RqM.fl q) s Yms hsl (cap:=cap2) hin hf hrs hw
 have p4:=λ{H':List HP}{w:World}(x:RqM) (h9:x.rows.length<=9) (hin:n.In B w0 H') (hrs:Rd B w0 H' s.A (s.cells.flatMap celF)) (hx:x.In B w0 H') (hw:St B w0 H' w)=>YjZ n s x ht hin hrs hsl hx h9 hw
 obtain⟨R,hR⟩:∃R,YJ n.net (q.map RqM.rq) s.sch=R:=⟨_,rfl⟩
 rw[hR]
 unfold YJ at hR
 rw[To]at hR
 have hrq:(rqsE n.net (q.map RqM.rq)).2=0->∀x∈q,x.rows.length<=9:=λh x hx=>by
  exact zc35
 obtain⟨⟨ri,re⟩,hr⟩:∃r,rqsE n.net (q.map RqM.rq)=r:=⟨_,rfl⟩
 obtain⟨⟨ci,ce⟩,hc⟩:∃r,schE n.net (Y8 (q.map RqM.rq)) s.sch=r:=⟨_,rfl⟩
 obtain⟨F,hF⟩:∃F:Nat->Int,(λi=>if ZK n.net s.sch (rqAt (q.map RqM.rq) i)=true then 15 else 0)=F:=⟨_,rfl⟩
 rw[hr]at p1 hR hrq
 rw[Yfi]at p3
 rw[hc]at p3 hR
 rw[hF]at hR
 have hFv:∀{k:Nat}{x:RqM},q[k]? =some x->F k=if ZK n.net s.sch x.rq=true then 15 else 0:=λh=>by exact Yuq
 rw[<-Yfi]at p3
 dsimp only at p1 p3 hR hrq
 unfold NetM.val SchM.val
 by_cases h0:re=0
 rotate_left
 ·rw[Tn h0]at hR
  subst hR
  refine zX94 ?_<;>intros
  apply Yf (clsP none 0 []::many (([]:List ClM).map clQ)::H)
  ·intro w hw
   have h5:St B w0 H w:=by
    revert w
    exact zc0
   exact YdE h5
  exact zc48
 subst h0
 rw[Tj (λe=>e rfl)]at hR
 have hrq:=hrq rfl
 by_cases h1:ce=0
 rotate_left
 ·rw[Tn h1]at hR
  subst hR
  refine zX94 ?_<;>intros
  apply YA [0,1,3,2,4,5,6,7,8,9] [] [true,true]
  kernel_rfl
  kernel_rfl
  exact zy
  (simp only[Yc,nthO];rfl)
  exact rfl
  refine zX3 ?_
  apply Yg _ YlH
  exact za
  exact rfl
  exactλ_ hw=>(p2 (hq.mono zc0) (hw))
  rintro _ _ ⟨A2,cap2,rfl,rfl⟩
  refine zX16 ?_
  apply Yb YsL
  exact za
  exact rfl
  exactλ_ hw=>(p3 (hin.mono zc0) (Rd.sl (by(focus exact zc2))) (hrs.mono zc0) hw)
  refine zX95 ?_<;>intros
  apply Yf (clsP none 0 []::many (([]:List ClM).map clQ)::H)
  ·intro w hw
   have h5:St B w0 H w:=by
    revert w
    exact zc0
   exact YdE h5
  exact zc48
 subst h1
 rw[Tj (λe=>e rfl)]at hR
 refine zX94 ?_<;>intros
 first|(rename_i g3 g5;guard_hyp g3:Nat;guard_hyp g5:Nat)|(rename_i g3 g5 _;guard_hyp g3:Nat;guard_hyp g5:Nat)|(rename_i g3 g5 _ _;guard_hyp g3:Nat;guard_hyp g5:Nat)
 apply YA [0,1,3,2,4,5,6,7,8,9] [] [true,true]
 kernel_rfl
 kernel_rfl
 exact zy
 (simp only[Yc,nthO];rfl)
 exact rfl
 refine zX3 ?_
 apply Yg _ YlH
 exact za
 exact rfl
 exactλ_ hw=>(p2 (hq.mono zc0) (hw))
 rintro _ _ ⟨A2,cap2,rfl,rfl⟩
 refine zX16 ?_
 apply Yb YsL
 exact za
 exact rfl
 exactλ_ hw=>(p3 (hin.mono zc0) (Rd.sl (by(focus exact zc2))) (hrs.mono zc0) hw)
 refine zX95 ?_<;>intros
 refine Ye (λz:MkM=>[(40,.int .i64 (z.i:Nat)),(39,.int .i64 q.length),(38,.slice A q.length cap),(13,.slice z.A z.C.length z.cap),(5,.pointer (some ⟨g5,0,none⟩)),(3,.pointer (some ⟨g3,0,none⟩))]) (λz=>clsP z.A z.cap z.C::many (z.C.map clQ)::schA g5 s::netA g3 n::H)
  (λz=>z.i<=q.length/\z.C.map ClM.clm=(q.take z.i).map (λx=>clmE n.net s.sch x.rq)/\(∀c∈z.C,c.lens)/\∀j,0<=j->j<z.i->F j=0) (λz=>q.length-z.i) ⟨0,none,0,[]⟩ ⟨Td _,rfl,(λc hc=>by cases hc),λj _ h=>absurd h (TZ _)⟩ ?_ ?_ ?_
 ·exact zc1
 ·intro w hw
  have h5:St B w0 (schA g5 s::netA g3 n::H) w:=by
   revert w
   exact zc0
  exact YdE h5
 rintro⟨i,A3,cap3,C⟩ ⟨hi,hC,hCl,hz⟩ K hK
 dsimp only at hi hC hCl hz⊢
 have hqr':Rd B w0 (clsP A3 cap3 C::many (C.map clQ)::schA g5 s::netA g3 n::H) A (q.flatMap rqF):=hqr.cons.cons.cons.cons
 have hCn:C.length<=q.length:=Yt4
 by_cases hlt:i<q.length
 rotate_left
 ·obtain rfl:i=q.length:=by omega
  have hfe:=Xy (f:=F) (r:=q.length) (i0:=0) λj h1 h2=>hz j h1 (by omega)
  rw[hfe,Tj (λe=>e rfl)]at hR
  subst hR
  rw[TI]at hC
  clear hK
  refine zX0 ?_<;>intros
  apply Yf (clsP A3 cap3 C::many (C.map clQ)::H)
  ·exact zc0
  exact YtW
 obtain⟨x,hx⟩:∃x,q[i]? =some x:=⟨_,Ta hlt⟩
 have hxm:=Tc hx
 have hFx:=hFv hx
 have p5:=λ{H':List HP}{w:World}(hin:n.In B w0 H') (hrs:Rd B w0 H' s.A (s.cells.flatMap celF)) (hxi:x.In B w0 H') (hw:St B w0 H' w)=>p4 x (hrq x hxm) hin hrs hxi hw
 have hxi:=hq.x x hxm
 cases hlb:ZK n.net s.sch x.rq with
 |true=>
  rw[hlb,Tn rfl]at hFx
  rw[hlb]at p5
  have hfe:=Xh (f:=F) (r:=q.length) (i0:=0) (i:=i) (λj h1 h2=>hz j h1 h2) (Td _) (by omega) (by rw[hFx];decide)
  rw[hfe,hFx]at hR
  rw[Tn (show(15:Int)≠0 from by decide)]at hR
  subst hR
  clear hK
  refine zX46 ?_<;>intros
  apply Yg _ YsM
  exact za
  exact rfl
  exactλ_ hw=>(p5 (hin.mono zc0) (hrs.mono zc0) (hxi.mono zc0) (hw))
  rintro _ _ ⟨c,rfl,_,rfl⟩
  unfold clV
  refine zX26 ?_<;>intros
  apply Yf (clsP none 0 []::many (([]:List ClM).map clQ)::H)
  ·intro w hw
   have h5:St B w0 H w:=by
    revert w
    exact zc0
   exact YdE h5
  exact zc48
 |false=>
  rw[hlb,Tj (by decide)]at hFx
  rw[hlb]at p5
  refine zX46 ?_<;>intros
  apply Yg _ YsM
  exact za
  exact rfl
  exactλ_ hw=>(p5 (hin.mono zc0) (hrs.mono zc0) (hxi.mono zc0) (hw))
  rintro _ _ ⟨c,rfl,hcc,rfl⟩
  obtain⟨hcm,hcl⟩:=hcc rfl
  unfold clV
  repeat'(first|refine zgc ?_|(refine zgh ?_;intro _)|(refine zgi ?_;intro _ _)|fail)
  first|(rename_i A4 cap4;guard_hyp A4:Option Addr)
  rw[YhB,show C.length+1=(C++[c]).length by simp]
  apply hK ⟨i+1,A4,cap4,C++[c]⟩
  ·refine⟨by exact Qf,?_,λy hy=>?_,λj h1 h2=>?_⟩
   ·show(C++[c]).map ClM.clm=_
    rw[TB,hx,RN,Rf,Rf,hC]
    simp[hcm]
   ·rcases Rl.1 hy with h|h
    ·exact hCl y h
    ·rw[Ru.1 h];exact hcl
   ·rcases Rk.1 h2 with h|rfl
    ·exact hz j h1 h
    ·exact hFx
  ·exact zc50
  ·exact zc1
  ·intro w hw
   have h5:St B w0 (clsP A4 cap4 (C++[c])::clQ c::many (C.map clQ)::schA g5 s::netA g3 n::H) w:=by
    revert w
    exact zc0
   exact h5.perm (.cons _ (YdA clQ C c _))
variable {A A2:Option Addr}{cap cap2 B:Nat}{w0 w:World}{H:List HP}
theorem W7(l m:List Int)(hlen:l.length<=9223372036854775807)(_hlen2:m.length<=9223372036854775807)(hr:Rd B w0 H A (l.flatMap numF))(hr2:Rd B w0 H A2 (m.flatMap numF))(hw:St B w0 H w):
 CX B w0 268 [.slice A l.length cap,.slice A2 m.length cap2] w λu K=>u=.bool (decide (l=m))/\K=H:=by
 refine Ya Tryz.func268 Tryz.ntmps268 rfl rfl hw ?_
 by_cases hll:l.length=m.length
 rotate_left
 ·exact zc8
 refine zX1 ?_<;>intros
 refine Ye (λ(k:Nat)=>[(13,.int .i64 k),(12,.int .i64 l.length),(0,.slice A l.length cap),(1,.slice A2 m.length cap2)]) (λ_=>H) (λk=>k<=l.length/\l.take k=m.take k) (λk=>l.length-k) 0 ⟨Td _,by simp⟩ ?_ (λw hw=>hw) ?_
 ·exact zc1
 rintro k ⟨hk,hi⟩ K hK
 by_cases hlt:k<l.length
 ·obtain⟨a,ha⟩:∃a,l[k]? =some a:=⟨_,Ta hlt⟩
  obtain⟨b,hb⟩:∃b,m[k]? =some b:=⟨_,Ta (by omega)⟩
  repeat'(first|refine zgd ?_|(refine zge ?_ ?_<;>intro _<;>try exact zo)|fail)
  ·exact zc44
  ·rename_i h
   apply hK (k+1)
   ·exact YqZ
   ·omega
   ·exact zc1
   exact zc21
 exact zc7
theorem YdY(a b:RowM)(hl:a.xs.length<=1000000000000/\b.xs.length<=1000000000000)(hr:Rd B w0 H a.A (a.xs.flatMap numF))(hr2:Rd B w0 H b.A (b.xs.flatMap numF))(hw:St B w0 H w):
 CX B w0 265 [.slice a.A a.xs.length a.cap,.slice b.A b.xs.length b.cap] w λu K=>u=.bool (decide (a.xs=b.xs))/\K=H:=by
 refine Ya Tryz.func265 Tryz.ntmps265 rfl rfl hw ?_
 repeat'(first|((apply Yb Ypm);exact za;exact rfl;exactλ_ hw=>(Ybl a.xs b.xs (by omega) (by omega) hr hr2 hw))|refine zga ?_|fail)
 exact zc10
theorem YaI(l m:List RowM)(hlen:l.length<=1000000000000)(_hlen2:m.length<=1000000000000)(hl2:∀r∈l,r.xs.length<=1000000000000)(hm2:∀r∈m,r.xs.length<=1000000000000)(hr:Rd B w0 H A (l.flatMap rowF))(hr2:Rd B w0 H A2 (m.flatMap rowF))(hrl:∀r∈l,Rd B w0 H r.A (r.xs.flatMap numF))(hrm:∀r∈m,Rd B w0 H r.A (r.xs.flatMap numF))(hw:St B w0 H w):
 CX B w0 269 [.slice A l.length cap,.slice A2 m.length cap2,.func (.func 265) #[] #[]] w λu K=>u=.bool (decide (l.map (·.xs)=m.map (·.xs)))/\K=H:=by
 refine Ya Tryz.func269 Tryz.ntmps269 rfl rfl hw ?_
 by_cases hll:l.length=m.length
 rotate_left
 ·exact zc18
 refine zX1 ?_<;>intros
 refine Ye (λ(k:Nat)=>[(17,.int .i64 k),(16,.int .i64 l.length),(15,.slice A l.length cap),(0,.slice A l.length cap),(1,.slice A2 m.length cap2),(2,.func (.func 265) #[] #[])]) (λ_=>H) (λk=>k<=l.length/\(l.take k).map (·.xs)=(m.take k).map (·.xs)) (λk=>l.length-k) 0 ⟨Td _,by simp⟩ ?_ (λw hw=>hw) ?_
 ·exact zc1
 rintro k ⟨hk,hi⟩ K hK
 by_cases hlt:k<l.length
 ·obtain⟨a,ha⟩:∃a,l[k]? =some a:=⟨_,Ta hlt⟩
  obtain⟨b,hb⟩:∃b,m[k]? =some b:=⟨_,Ta (by omega)⟩
  have ham:=Tc ha
  have hbm:=Tc hb
  have hss:=λ{w:World}(hw:St B w0 H w)=>YdY a b ⟨hl2 a ham,hm2 b hbm⟩ (hrl a ham) (hrm b hbm) hw
  by_cases hab:a.xs=b.xs
  ·rw[Tf hab]at hss
   refine zX98 ?_<;>intros
   apply hK (k+1)
   ·exact zc58
   ·omega
   ·exact zc1
   exact zc21
  ·rw[Ti hab]at hss
   refine zX98 ?_<;>intros
   exact zc25
 exact zc7
theorem YeP(a b:RowM)(hl:a.xs.length<=1000000000000/\b.xs.length<=1000000000000)(hr:Rd B w0 H a.A (a.xs.flatMap numF))(hr2:Rd B w0 H b.A (b.xs.flatMap numF))(hw:St B w0 H w):
 CX B w0 267 [.slice a.A a.xs.length a.cap,.slice b.A b.xs.length b.cap] w λu K=>u=.bool (decide (a.xs=b.xs))/\K=H:=by
 refine Ya Tryz.func267 Tryz.ntmps267 rfl rfl hw ?_
 repeat'(first|((apply Yb Yfd);exact za;exact rfl;exactλ_ hw=>(W7 a.xs b.xs (by omega) (by omega) hr hr2 hw))|refine zga ?_|fail)
 exact zc10
theorem YbS(l m:List RowM)(hlen:l.length<=1000000000000)(_hlen2:m.length<=1000000000000)(hl2:∀r∈l,r.xs.length<=1000000000000)(hm2:∀r∈m,r.xs.length<=1000000000000)(hr:Rd B w0 H A (l.flatMap rowF))(hr2:Rd B w0 H A2 (m.flatMap rowF))(hrl:∀r∈l,Rd B w0 H r.A (r.xs.flatMap numF))(hrm:∀r∈m,Rd B w0 H r.A (r.xs.flatMap numF))(hw:St B w0 H w):
 CX B w0 270 [.slice A l.length cap,.slice A2 m.length cap2,.func (.func 267) #[] #[]] w λu K=>u=.bool (decide (l.map (·.xs)=m.map (·.xs)))/\K=H:=by
 refine Ya Tryz.func270 Tryz.ntmps270 rfl rfl hw ?_
 by_cases hll:l.length=m.length
 rotate_left
 ·exact zc18
 refine zX1 ?_<;>intros
 refine Ye (λ(k:Nat)=>[(17,.int .i64 k),(16,.int .i64 l.length),(15,.slice A l.length cap),(0,.slice A l.length cap),(1,.slice A2 m.length cap2),(2,.func (.func 267) #[] #[])]) (λ_=>H) (λk=>k<=l.length/\(l.take k).map (·.xs)=(m.take k).map (·.xs)) (λk=>l.length-k) 0 ⟨Td _,by simp⟩ ?_ (λw hw=>hw) ?_
 ·exact zc1
 rintro k ⟨hk,hi⟩ K hK
 by_cases hlt:k<l.length
 ·obtain⟨a,ha⟩:∃a,l[k]? =some a:=⟨_,Ta hlt⟩
  obtain⟨b,hb⟩:∃b,m[k]? =some b:=⟨_,Ta (by omega)⟩
  have ham:=Tc ha
  have hbm:=Tc hb
  have hss:=λ{w:World}(hw:St B w0 H w)=>YeP a b ⟨hl2 a ham,hm2 b hbm⟩ (hrl a ham) (hrm b hbm) hw
  by_cases hab:a.xs=b.xs
  ·rw[Tf hab]at hss
   refine YtC ?_<;>intros
   apply hK (k+1)
   ·exact zc58
   ·omega
   ·exact zc1
   exact zc21
  ·rw[Ti hab]at hss
   refine YtC ?_<;>intros
   exact zc25
 exact zc7
theorem Yo3{c d:ClM}:c.clm=d.clm↔c.flow=d.flow/\c.rs.map (·.xs)=d.rs.map (·.xs)/\c.bs=d.bs/\c.ws=d.ws/\c.ss.map (·.xs)=d.ss.map (·.xs):=by
 unfold ClM.clm
 simp_all
theorem Yk0(c d:ClM)(hc:c.In B w0 H)(hd:d.In B w0 H)(hw:St B w0 H w):
 CX B w0 183 [clV c,clV d] w λu K=>u=.bool (decide (c.clm=d.clm))/\K=H:=by
 refine Ya Tryz.func183 Tryz.ntmps183 rfl rfl hw ?_
 have hcl:=hc.ln
 have hdl:=hd.ln
 have p1:=λ{H':List HP}{w:World}(hc:c.In B w0 H') (hd:d.In B w0 H') (hw:St B w0 H' w)=>YaI c.rs d.rs (cap:=c.rcap) (cap2:=d.rcap) hcl.1 hdl.1 hc.rl hd.rl hc.rt hd.rt hc.rw_ hd.rw_ hw
 have p2:=λ{H':List HP}{w:World}(hc:c.In B w0 H') (hd:d.In B w0 H') (hw:St B w0 H' w)=>W7 c.bs d.bs (cap:=c.bcap) (cap2:=d.bcap) (by omega) (by omega) hc.bd hd.bd hw
 have p3:=λ{H':List HP}{w:World}(hc:c.In B w0 H') (hd:d.In B w0 H') (hw:St B w0 H' w)=>W7 c.ws d.ws (cap:=c.wcap) (cap2:=d.wcap) (by omega) (by omega) hc.ws hd.ws hw
 have p4:=λ{H':List HP}{w:World}(hc:c.In B w0 H') (hd:d.In B w0 H') (hw:St B w0 H' w)=>YbS c.ss d.ss (cap:=c.scap) (cap2:=d.scap) hcl.2.2.2 hdl.2.2.2 hc.sl hd.sl hc.st hd.st hc.sw hd.sw hw
 have hce:=@Yo3 c d
 unfold clV
 by_cases h1:c.flow=d.flow
 rotate_left
 ·rw[Ti (λh=>h1 (hce.1 h).1)]
  refine zX79 ?_<;>intros
  apply Yf H
  ·exact zc0
  exact zc3
 by_cases h2:c.rs.map (·.xs)=d.rs.map (·.xs)
 rotate_left
 ·rw[Ti (λh=>h2 (hce.1 h).2.1)]
  rw[Ti h2]at p1
  refine Ymm ?_<;>intros
  apply Yb YlN
  exact za
  exact rfl
  exactλ_ hw=>(p1 (hc.mono zc0) (hd.mono zc0) hw)
  refine zX3 ?_
  apply Yf H
  ·exact zc0
  exact zc3
 rw[Tf h2]at p1
 by_cases h3:c.bs=d.bs
 rotate_left
 ·rw[Ti (λh=>h3 (hce.1 h).2.2.1)]
  rw[Ti h3]at p2
  refine Ymm ?_<;>intros
  apply Yb YlN
  exact za
  exact rfl
  exactλ_ hw=>(p1 (hc.mono zc0) (hd.mono zc0) hw)
  refine zX10 ?_
  apply Yb Yfd
  exact za
  exact rfl
  exactλ_ hw=>(p2 (hc.mono zc0) (hd.mono zc0) hw)
  refine zX3 ?_
  apply Yf H
  ·exact zc0
  exact zc3
 rw[Tf h3]at p2
 by_cases h4:c.ws=d.ws
 rotate_left
 ·rw[Ti (λh=>h4 (hce.1 h).2.2.2.1)]
  rw[Ti h4]at p3
  refine Ymm ?_<;>intros
  apply Yb YlN
  exact za
  exact rfl
  exactλ_ hw=>(p1 (hc.mono zc0) (hd.mono zc0) hw)
  refine zX10 ?_
  apply Yb Yfd
  exact za
  exact rfl
  exactλ_ hw=>(p2 (hc.mono zc0) (hd.mono zc0) hw)
  refine zX10 ?_
  apply Yb Yfd
  exact za
  exact rfl
  exactλ_ hw=>(p3 (hc.mono zc0) (hd.mono zc0) hw)
  refine zX3 ?_
  apply Yf H
  ·exact zc0
  exact zc3
 rw[Tf h4]at p3
 have h5:decide (c.clm=d.clm)=decide (c.ss.map (·.xs)=d.ss.map (·.xs)):=decide_eq_decide.2 ⟨λh=>(hce.1 h).2.2.2.2,λh=>hce.2 ⟨h1,h2,h3,h4,h⟩⟩
 rw[h5]
 refine Ymm ?_<;>intros
 apply Yb YlN
 exact za
 exact rfl
 exactλ_ hw=>(p1 (hc.mono zc0) (hd.mono zc0) hw)
 refine zX10 ?_
 apply Yb Yfd
 exact za
 exact rfl
 exactλ_ hw=>(p2 (hc.mono zc0) (hd.mono zc0) hw)
 refine zX10 ?_
 apply Yb Yfd
 exact za
 exact rfl
 exactλ_ hw=>(p3 (hc.mono zc0) (hd.mono zc0) hw)
 refine zX10 ?_
 apply Yb Ywq
 exact za
 exact rfl
 exactλ_ hw=>(p4 (hc.mono zc0) (hd.mono zc0) hw)
 refine zX10 ?_
 apply Yf H
 ·exact zc0
 exact zc3
theorem VF{c:List ClM}{i:Nat}{x:ClM}(h:c[i]? =some x):Uh (c.map ClM.clm) i=x.clm:=by
 grind [Uh]
variable {B:Nat}{w0:World}{H:List HP}
theorem YgE{C:List ClM}{c:ClM}(hm:many (C.map clQ)∈H)(hc:c∈C)(hl:c.lens):c.In B w0 H:=by
 have hb:∀w,St B w0 H w->St B w0 (C.map clQ) w:=λw hw=>hw.inM hm
 refine ClM.In.mono (H:=C.map clQ) (Yu3 (RJ hc) ⟨⟨?_,?_,?_,?_⟩,?_,?_⟩) hb
 ·have:=hl.1.1;omega
 ·have:=hl.1.2.1;omega
 ·have:=hl.1.2.2.1;omega
 ·have:=hl.1.2.2.2;omega
 ·exactλr hr=>TX (hl.2.1 r hr) (by decide)
 ·exactλr hr=>TX (hl.2.2 r hr) (by decide)
theorem Ygd(n:NetM)(q:List RqM)(s:SchM)(c:List ClM){A A1:Option Addr}{cap cap1:Nat}{w:World}(ht:TabsB B w0)(hin:n.In B w0 H)(hq:QIn B w0 H A q)(hrs:Rd B w0 H s.A (s.cells.flatMap celF))(hsl:s.cells.length<=1000000000000)(hc:CIn B w0 H A1 c)(hw:St B w0 H w):
 CX B w0 91 [n.val,.slice A q.length cap,s.val,.slice A1 c.length cap1] w λv K=>v=.tuple #[.int .i64 (chkE n.net (q.map RqM.rq) s.sch (c.map ClM.clm)).1,.int .i64 (chkE n.net (q.map RqM.rq) s.sch (c.map ClM.clm)).2]/\K=H:=by
 refine Ya Tryz.func91 Tryz.ntmps91 rfl rfl hw ?_
 have hcl:=hc.ln
 have hcr:=hc.rd
 have p1:=λ{H':List HP}{w:World}(hin:n.In B w0 H') (hq:QIn B w0 H' A q) (hrs:Rd B w0 H' s.A (s.cells.flatMap celF)) (hw:St B w0 H' w)=>UY n q s (cap:=cap) ht hin hq hrs hsl hw
 obtain⟨⟨RC,ri,re⟩,hR⟩:∃R,YJ n.net (q.map RqM.rq) s.sch=R:=⟨_,rfl⟩
 unfold chkE
 rw[To]
 rw[hR]at p1⊢
 unfold OutC at p1
 dsimp only at p1⊢
 unfold NetM.val SchM.val
 by_cases h0:re=0
 rotate_left
 ·rw[Tn h0]
  repeat'(first|refine zgb ?_|(refine zgh ?_;intro _)|fail)
  apply Yg _ en90
  exact za
  exact rfl
  exactλ_ hw=>(p1 (hin.mono zc0) (hq.mono zc0) (hrs.mono zc0) (hw))
  rintro _ _ ⟨A2,cap2,C,rfl,hC,hCl,rfl⟩
  repeat'(first|refine zgc ?_|(refine zge ?_ ?_<;>intro _<;>try exact zo)|fail)
  apply Yf H
  ·exact zc0
  exact zc5
 subst h0
 rw[Tj (λe=>e rfl)]
 repeat'(first|refine zgb ?_|(refine zgh ?_;intro _)|fail)
 apply Yg _ en90
 exact za
 exact rfl
 exactλ_ hw=>(p1 (hin.mono zc0) (hq.mono zc0) (hrs.mono zc0) (hw))
 rintro _ _ ⟨A2,cap2,C,rfl,hC,hCl,rfl⟩
 subst hC
 rw[To]
 by_cases h1:c.length=C.length
 rotate_left
 ·rw[Tn h1]
  repeat'(first|refine zgc ?_|(refine zge ?_ ?_<;>intro _<;>try exact zo)|fail)
  apply Yf H
  ·exact zc0
  exact zc5
 rw[Tj (λe=>e h1)]
 obtain⟨F,hF⟩:∃F:Nat->Int,(λi=>if Uh (c.map ClM.clm) i=Uh (C.map ClM.clm) i then(0:Int)else 20)=F:=⟨_,rfl⟩
 rw[hF]
 have hFv:∀{k:Nat}{x y:ClM},c[k]? =some x->C[k]? =some y->F k=if x.clm=y.clm then 0 else 20:=λhx hy=>by rw[<-hF];show(if _=_ then _ else _)=_;rw[VF hx,VF hy]
 repeat'(first|refine zgc ?_|(refine zge ?_ ?_<;>intro _<;>try exact zo)|fail)
 refine Ye (λk:Nat=>[(33,.int .i64 (k:Nat)),(32,.int .i64 C.length),(10,.slice A2 C.length cap2),(3,.slice A1 c.length cap1)]) (λ_=>clsP A2 cap2 C::many (C.map clQ)::H) (λk=>k<=C.length/\∀j,0<=j->j<k->F j=0) (λk=>C.length-k) 0 ⟨Td _,λj _ h=>absurd h (TZ _)⟩ ?_ ?_ ?_
 ·exact zc1
 ·exact zc0
 rintro k ⟨hk,hz⟩ K hK
 have hcr':Rd B w0 (clsP A2 cap2 C::many (C.map clQ)::H) A1 (c.flatMap clF):=hcr.cons.cons
 have hCr':Rd B w0 (clsP A2 cap2 C::many (C.map clQ)::H) A2 (C.flatMap clF):=.sl (.head _)
 by_cases hlt:k<C.length
 ·obtain⟨x,hx⟩:∃x,c[k]? =some x:=⟨_,Ta (by omega)⟩
  obtain⟨y,hy⟩:∃y,C[k]? =some y:=⟨_,Ta hlt⟩
  have hym:=Tc hy
  have hFk:=hFv hx hy
  have hxi:=hc.x x (Tc hx)
  have p2:=λ{H':List HP}{w:World}(hx:x.In B w0 H') (hy:y.In B w0 H') (hw:St B w0 H' w)=>Yk0 x y hx hy hw
  by_cases he:x.clm=y.clm
  ·rw[Tn he]at hFk
   rw[Tf he]at p2
   repeat'(first|refine zgb ?_|(refine zge ?_ ?_<;>intro _<;>try exact zo)|fail)
   apply YV [0,1,2,3,4,5,6,7,8,9] []
   kernel_rfl
   kernel_rfl
   (simp only[Yc,nthO];rfl)
   exact rfl
   repeat'(first|refine zgd ?_|fail)
   apply Yb YsN
   exact za
   exact rfl
   exactλ_ hw=>(p2 (hxi.mono zc0) (YgE (by(focus exact zc2)) hym (hCl y hym)) hw)
   repeat'(first|(apply Yh;(repeat(first|with_reducible exact YY|(with_reducible apply YN;(repeat(first|with_reducible exact Yo|with_reducible apply Yw))))))|refine zgd ?_|fail)
   ·show Perm H (H++[])
    exact zc28
   repeat'(first|fail)
   apply hK (k+1)
   ·exact⟨by omega,λj h1 h2=>by
     rcases Rk.1 h2 with h|rfl
     ·exact hz j h1 h
     ·exact hFk⟩
   ·omega
   ·exact zc1
   ·exact zc0
  ·rw[Tj he]at hFk
   rw[Ti he]at p2
   have hfe:=Xh (f:=F) (r:=c.length) (i0:=0) (i:=k) (λj h1 h2=>hz j h1 h2) (Td _) (by omega) (by rw[hFk];decide)
   rw[hfe,hFk]
   clear hK
   repeat'(first|refine zgb ?_|(refine zge ?_ ?_<;>intro _<;>try exact zo)|fail)
   apply YV [0,1,2,3,4,5,6,7,8,9] []
   kernel_rfl
   kernel_rfl
   (simp only[Yc,nthO];rfl)
   exact rfl
   repeat'(first|refine zgd ?_|fail)
   apply Yb YsN
   exact za
   exact rfl
   exactλ_ hw=>(p2 (hxi.mono zc0) (YgE (by(focus exact zc2)) hym (hCl y hym)) hw)
   repeat'(first|(apply Yh;(repeat(first|with_reducible exact YY|(with_reducible apply YN;(repeat(first|with_reducible exact Yo|with_reducible apply Yw))))))|refine zgd ?_|fail)
   ·show Perm H (H++[])
    exact zc28
   repeat'(first|fail)
   apply Yf H
   ·exact zc0
   exact zc5
 ·obtain rfl:k=C.length:=by omega
  have hfe:=Xy (f:=F) (r:=c.length) (i0:=0) λj h1 h2=>hz j h1 (by omega)
  rw[hfe]
  clear hK
  repeat'(first|refine zgc ?_|(refine zge ?_ ?_<;>intro _<;>try exact zo)|fail)
  apply Yf H
  ·exact zc0
  exact zc5
variable {B:Nat}{w0 w:World}{H:List HP}
theorem Yev(z a b:Int)(ga gb:Nat)(h1:blk ga (.cells #[.int .i64 a] 3 (0,0))∈H)(h2:blk gb (.cells #[.int .i64 b] 3 (0,0))∈H)(hw:St B w0 H w):
 CX B w0 382 [.int .i64 z,.pointer (some ⟨ga,0,none⟩),.pointer (some ⟨gb,0,none⟩)] w λv K=>v=.bool (!decide (a<=z/\z<=b))/\K=H:=by
 refine Ya Tryz.func382 Tryz.ntmps382 rfl rfl hw ?_
 by_cases h:a<=z/\z<=b
 ·rw[Tf h]
  refine zX0 ?_<;>intros
  exact zc10
 ·rw[Ti h]
  repeat'(first|refine zgd ?_|(refine zge ?_ ?_<;>intro _<;>try exact zo)|fail)
  all_goals(apply Yd;exact rfl;exact rfl;exact⟨rfl,rfl⟩)
theorem Vw(l:List Int)(a b:Int)(hl:l.length<=1000000000000){A:Option Addr}{cap:Nat}(hr:Rd B w0 H A (l.flatMap numF))(hw:St B w0 H w):
 CX B w0 320 [.slice A l.length cap,.int .i64 a,.int .i64 b] w λv K=>v=.bool (inL l a b)/\K=H:=by
 refine Ya Tryz.func320 Tryz.ntmps320 rfl rfl hw ?_
 have e1:inL l a b=!(l.any λz=>!decide (a<=z/\z<=b)):=by
  unfold inL
  grind
 rw[e1]
 obtain⟨o,ho⟩:∃o,(l.any λz=>!decide (a<=z/\z<=b))=o:=⟨_,rfl⟩
 rw[ho]
 repeat'(first|((refine zs53 ?_;intro _))|((apply Ys;exact za;exact rfl))|refine zga ?_|fail)
 rename_i ga gb
 have p1:∀w,St B w0 (blk gb (.cells #[.int .i64 b] 3 (0,0))::blk ga (.cells #[.int .i64 a] 3 (0,0))::H) w->CX B w0 341 [.slice A l.length cap,.func (.func 382) #[] [Value.pointer (some ⟨ga,0,none⟩),Value.pointer (some ⟨gb,0,none⟩)].toArray] w λv K=>v=.bool o/\K=blk gb (.cells #[.int .i64 b] 3 (0,0))::blk ga (.cells #[.int .i64 a] 3 (0,0))::H:=λw hw=>by
  have h:=UM (λz=>Value.int .i64 z) (λz=>!decide (a<=z/\z<=b)) l 382 [.pointer (some ⟨ga,0,none⟩),.pointer (some ⟨gb,0,none⟩)] Yw3 (by omega) (cap:=cap) (show Rd B w0 _ A (l.flatMap numF) from hr.cons.cons) (λz _ w hw=>Yev z a b ga gb (.tail _ (.head _)) (.head _) hw) hw
  simp_all
 cases o<;>(
  apply Yb Yti
  exact za
  exact rfl
  exactλ_ hw=>(p1 _ hw)
  repeat'(first|(first|refine zs47 ?_|refine zs48 ?_)|refine zga ?_|fail)
  apply Yf H
  ·(intro w hw;refine hw.perm ?_;focus repeat(first|with_reducible exact Perm.refl _|(with_reducible focus(done))|with_reducible apply Perm.dropK))
  apply Yd;exact rfl;exact rfl;exact⟨rfl,rfl⟩)
theorem ZF{rs:List RowM}{k:Nat}{r:RowM}(h:rs[k]? =some r):rtAt (rs.map (·.xs)) k=r.xs:=by
 have h2:(rs.map (·.xs))[k]? =some r.xs:=by simp_all
 grind [Ya1]
theorem Ygc(c:ClM)(hc:c.In B w0 H)(hw:St B w0 H w):
 CX B w0 251 [clV c] w λv K=>v=.bool (Jd c.clm)/\K=H:=by
 refine Ya Tryz.func251 Tryz.ntmps251 rfl rfl hw ?_
 obtain⟨hl1,hl2,hl3,hl4⟩:=hc.ln
 have q1:=λ{H':List HP}{w:World}(hc:c.In B w0 H') (hw:St B w0 H' w)=>Vw c.bs 1 512 hl2 (cap:=c.bcap) hc.bd hw
 have q2:=λ{H':List HP}{w:World}(hc:c.In B w0 H') (hw:St B w0 H' w)=>Vw c.ws 0 511 hl3 (cap:=c.wcap) hc.ws hw
 obtain⟨F,hF⟩:∃F,Jd c.clm=F:=⟨_,rfl⟩
 have hFe:F=(decide (0<=c.flow/\c.flow<=255/\1<=c.rs.length/\c.rs.length<=2/\c.bs.length=c.rs.length/\c.ws.length=c.rs.length/\c.ss.length=c.rs.length)&&inL c.bs 1 512&&inL c.ws 0 511&&(List.range c.rs.length).all λi=>rtOk (rtAt (c.rs.map (·.xs)) i) (rtAt (c.ss.map (·.xs)) i)):=by
  rw[<-hF]
  unfold Jd ClM.clm
  simp only[To]
 rw[hF]
 unfold clV
 obtain⟨b1,hb1⟩:∃b,inL c.bs 1 512=b:=⟨_,rfl⟩
 obtain⟨b2,hb2⟩:∃b,inL c.ws 0 511=b:=⟨_,rfl⟩
 rw[hb1]at q1 hFe
 rw[hb2]at q2 hFe
 by_cases hP:0<=c.flow/\c.flow<=255/\1<=c.rs.length/\c.rs.length<=2/\c.bs.length=c.rs.length/\c.ws.length=c.rs.length/\c.ss.length=c.rs.length
 rotate_left
 ·rw[Ti hP]at hFe
  simp only[Nb]at hFe
  subst hFe
  repeat'(first|refine zgd ?_|(refine zge ?_ ?_<;>intro _<;>try exact zo)|(refine zgh ?_;intro _)|fail)
  all_goals(
   apply Yf H
   ·exact zk
   apply Yd;exact rfl;exact rfl;exact⟨rfl,rfl⟩)
 rw[Tf hP,RD]at hFe
 obtain⟨f0,f1,n1,n2,e1,e2,e3⟩:=hP
 cases b1 with
 |false=>
  simp only[Nb]at hFe
  subst hFe
  refine YfO ?_<;>intros
  apply Yb W6
  exact za
  exact rfl
  exactλ_ hw=>(q1 (hc.mono zc0) hw)
  refine zX3 ?_
  apply Yf H
  ·exact zc0
  exact zc3
 |true=>
 cases b2 with
 |false=>
  simp only[Nb,Bool.and_false]at hFe
  subst hFe
  refine YfO ?_<;>intros
  apply Yb W6
  exact za
  exact rfl
  exactλ_ hw=>(q1 (hc.mono zc0) hw)
  refine zX10 ?_
  apply Yb W6
  exact za
  exact rfl
  exactλ_ hw=>(q2 (hc.mono zc0) hw)
  refine zX3 ?_
  apply Yf H
  ·exact zc0
  exact zc3
 |true=>
 simp only[RD]at hFe
 refine YfO ?_<;>intros
 rename_i g _ _ _ _ _ _ _
 apply Yb W6
 exact za
 exact rfl
 exactλ_ hw=>(q1 (hc.mono zc0) hw)
 refine zX10 ?_
 apply Yb W6
 exact za
 exact rfl
 exactλ_ hw=>(q2 (hc.mono zc0) hw)
 refine zX10 ?_
 obtain⟨ok,hok⟩:∃ok:Nat->Bool,(λi=>rtOk (rtAt (c.rs.map (·.xs)) i) (rtAt (c.ss.map (·.xs)) i))=ok:=⟨_,rfl⟩
 rw[hok]at hFe
 refine Ye (λk:Nat=>[(61,.int .i64 (k:Nat)),(60,.int .i64 c.rs.length),(59,.slice c.rA c.rs.length c.rcap),(1,.pointer (some ⟨g,0,none⟩))]) (λ_=>clA g c::H) (λk=>k<=c.rs.length/\∀j,j<k->ok j=true) (λk=>c.rs.length-k) 0 ⟨Td _,λj h=>absurd h (TZ _)⟩ ?_ (λw hw=>hw) ?_
 ·exact zc1
 rintro k ⟨hk,hz⟩ K hK
 have hcr:Rd B w0 (clA g c::H) c.rA (c.rs.flatMap rowF):=hc.rt.cons
 have hcs:Rd B w0 (clA g c::H) c.sA (c.ss.flatMap rowF):=hc.st.cons
 by_cases hlt:k<c.rs.length
 rotate_left
 ·obtain rfl:k=c.rs.length:=by omega
  have hFt:F=true:=by
   rw[hFe,TL]
   exactλj hj=>hz j (TQ.1 hj)
  subst hFt
  clear hK
  refine zX0 ?_<;>intros
  apply Yf H
  ·exact zc0
  exact zc3
 obtain⟨r,hr⟩:∃r,c.rs[k]? =some r:=⟨_,Ta hlt⟩
 obtain⟨z,hzz⟩:∃z,c.ss[k]? =some z:=⟨_,Ta (by omega)⟩
 have hrm:=Tc hr
 have hzm:=Tc hzz
 have hkk:ok k=rtOk r.xs z.xs:=by rw[<-hok];show rtOk (rtAt _ _) (rtAt _ _)=_;rw[ZF hr,ZF hzz]
 unfold rtOk at hkk
 have hrl:=hc.rl r hrm
 have hzl:=hc.sl z hzm
 have q3:=λ{H':List HP}{w:World}(hc:c.In B w0 H') (hw:St B w0 H' w)=>Vw r.xs 0 31 hrl (cap:=r.cap) (hc.rw_ r hrm) hw
 have q4:=λ{H':List HP}{w:World}(hc:c.In B w0 H') (hw:St B w0 H' w)=>Vw z.xs 0 511 hzl (cap:=z.cap) (hc.sw z hzm) hw
 obtain⟨b3,hb3⟩:∃b,inL r.xs 0 31=b:=⟨_,rfl⟩
 obtain⟨b4,hb4⟩:∃b,inL z.xs 0 511=b:=⟨_,rfl⟩
 rw[hb3]at q3 hkk
 rw[hb4]at q4 hkk
 have hno:ok k=false->F=false:=λh=>by
  rw[hFe,Nr]
  exact⟨k,TQ.2 hlt,by rw[h];decide⟩
 by_cases hA:2<=r.xs.length/\r.xs.length<=9
 rotate_left
 ·rw[Ti hA]at hkk
  have hFf:=hno (by rw[hkk];rfl)
  subst hFf
  clear hK
  repeat'(first|refine zgd ?_|(refine zge ?_ ?_<;>intro _<;>try exact zo)|fail)
  all_goals(
   apply Yf H
   ·exact zk
   apply Yd;exact rfl;exact rfl;exact⟨rfl,rfl⟩)
 rw[Tf hA]at hkk
 cases b3 with
 |false=>
  have hFf:=hno (by rw[hkk];rfl)
  subst hFf
  clear hK
  refine zX50 ?_<;>intros
  apply Yb W6
  exact za
  exact rfl
  exactλ_ hw=>(q3 (hc.mono zc0) hw)
  refine zX3 ?_
  all_goals(
   apply Yf H
   ·exact zc0
   exact zc3)
 |true=>
 by_cases hB:1<=z.xs.length/\z.xs.length<=64
 rotate_left
 ·rw[Ti hB]at hkk
  have hFf:=hno (by rw[hkk];rfl)
  subst hFf
  clear hK
  refine zX50 ?_<;>intros
  apply Yb W6
  exact za
  exact rfl
  exactλ_ hw=>(q3 (hc.mono zc0) hw)
  repeat'(first|refine zgd ?_|(refine zge ?_ ?_<;>intro _<;>try exact zo)|fail)
  all_goals(
   apply Yf H
   ·exact zk
   apply Yd;exact rfl;exact rfl;exact⟨rfl,rfl⟩)
 rw[Tf hB]at hkk
 cases b4 with
 |false=>
  have hFf:=hno (by rw[hkk];rfl)
  subst hFf
  clear hK
  refine zX50 ?_<;>intros
  apply Yb W6
  exact za
  exact rfl
  exactλ_ hw=>(q3 (hc.mono zc0) hw)
  refine zX50 ?_<;>intros
  apply Yb W6
  exact za
  exact rfl
  exactλ_ hw=>(q4 (hc.mono zc0) hw)
  refine zX3 ?_
  all_goals(
   apply Yf H
   ·exact zc0
   exact zc3)
 |true=>
  have hkt:ok k=true:=hkk
  refine zX50 ?_<;>intros
  apply Yb W6
  exact za
  exact rfl
  exactλ_ hw=>(q3 (hc.mono zc0) hw)
  refine zX50 ?_<;>intros
  apply Yb W6
  exact za
  exact rfl
  exactλ_ hw=>(q4 (hc.mono zc0) hw)
  refine zX10 ?_
  apply hK (k+1)
  ·exact Yt0
  ·omega
  ·exact zc1
  ·exact zc0
theorem YjX(c:List ClM){A:Option Addr}{cap B:Nat}{w0:World}{H:List HP}{w:World}(hc:CIn B w0 H A c)(hw:St B w0 H w):
 CX B w0 170 [.slice A c.length cap] w λv K=>v=.bool (WJ (c.map ClM.clm))/\K=H:=by
 refine Ya Tryz.func170 Tryz.ntmps170 rfl rfl hw ?_
 have hcl:=hc.ln
 have hcr:=hc.rd
 obtain⟨ok,hok⟩:∃ok:Nat->Bool,Ye4 (c.map ClM.clm)=ok:=⟨_,rfl⟩
 obtain⟨F,hF⟩:∃F,WJ (c.map ClM.clm)=F:=⟨_,rfl⟩
 have hFe:F=(decide (c.length<=16)&&(List.range c.length).all ok):=by
  rw[<-hF];unfold WJ;rw[To,hok]
 rw[hF]
 repeat'(first|apply(zs1 ?_)|apply(zs2 ?_)|(apply zg4;refine zs9 ?_)|apply(zs65 ?_)|apply(zs68 ?_)|apply(zs69 ?_)|apply(zs70 ?_)|apply(zs73 ?_)|fail)
 refine Ye (λk:Nat=>[(7,.int .i64 (k:Nat)),(6,.int .i64 c.length),(5,.slice A c.length cap),(0,.slice A c.length cap)]) (λ_=>H) (λk=>k<=c.length/\∀j,j<k->ok j=true) (λk=>c.length-k) 0 ⟨Td _,λj h=>absurd h (TZ _)⟩ ?_ (λw hw=>hw) ?_
 ·exact zc1
 rintro k ⟨hk,hz⟩ K hK
 by_cases hlt:k<c.length
 rotate_left
 ·obtain rfl:k=c.length:=by omega
  have hFt:(List.range c.length).all ok=true:=by
   rw[TL]
   exactλj hj=>hz j (TQ.1 hj)
  rw[hFt,Bool.and_true]at hFe
  clear hK
  by_cases h16:c.length<=16
  ·rw[Tf h16]at hFe
   subst hFe
   repeat'(first|apply(zs1 ?_)|apply(zs2 ?_)|(apply zg4;refine zs9 ?_)|(apply(zs17 ?_ ?_)<;>intro _<;>try exact zo)|(apply(zs18 ?_ ?_)<;>intro _<;>try exact zo)|apply(zs65 ?_)|apply(zs68 ?_)|apply(zs69 ?_)|apply(zs70 ?_)|(apply zg27;refine zs72 ?_)|apply(zs74 ?_)|apply(zs75 ?_)|apply(zs80 ?_)|apply(zs81 ?_)|fail)
   exact zc3
  ·rw[Ti h16]at hFe
   subst hFe
   repeat'(first|apply(zs1 ?_)|apply(zs2 ?_)|(apply zg4;refine zs9 ?_)|(apply(zs17 ?_ ?_)<;>intro _<;>try exact zo)|(apply(zs18 ?_ ?_)<;>intro _<;>try exact zo)|apply(zs65 ?_)|apply(zs68 ?_)|apply(zs69 ?_)|apply(zs70 ?_)|(apply zg27;refine zs72 ?_)|apply(zs74 ?_)|apply(zs75 ?_)|apply(zs80 ?_)|apply(zs81 ?_)|fail)
   exact zc3
 obtain⟨x,hx⟩:∃x,c[k]? =some x:=⟨_,Ta hlt⟩
 have hxi:=hc.x x (Tc hx)
 have q1:=λ{H':List HP}{w:World}(hx:x.In B w0 H') (hw:St B w0 H' w)=>Ygc x hx hw
 have hok1:ok k=(Jd x.clm&&(decide (k=0)||decide ((Uh (c.map ClM.clm) (k-1)).flow<x.flow))):=by
  rw[<-hok];unfold Ye4;rw[VF hx];rfl
 have hno:ok k=false->F=false:=λh=>by
  rw[hFe,Bool.and_eq_false_iff]
  exact .inr (Nr.2 ⟨k,TQ.2 hlt,by rw[h];decide⟩)
 obtain⟨b,hb⟩:∃b,Jd x.clm=b:=⟨_,rfl⟩
 rw[hb]at q1 hok1
 cases b with
 |false=>
  have hFf:=hno hok1
  subst hFf
  clear hK
  repeat'(first|apply(zs1 ?_)|apply(zs2 ?_)|(apply zg3;refine zs61 ?_)|(apply zg5;refine zs57 ?_)|(apply(zs17 ?_ ?_)<;>intro _<;>try exact zo)|(apply zg22;refine zs51 ?_)|(apply zg24;(refine zs54 ?_;intro _))|apply(zs65 ?_)|apply(zs68 ?_)|apply(zs69 ?_)|apply(zs70 ?_)|(apply zg27;refine zs71 ?_)|apply(zs73 ?_)|apply(zs76 ?_)|fail)
  apply YV [0,1,2,3,4,5,6,7,8,9,10,11,12,13,14,15,16,17] []
  kernel_rfl
  kernel_rfl
  (simp only[Yc,nthO];rfl)
  exact rfl
  repeat'(first|(apply zg3;refine zs8 ?_)|apply(zs87 ?_)|fail)
  apply Yb YlL
  exact za
  exact rfl
  exactλ_ hw=>(q1 (hxi.mono zc0) hw)
  repeat'(first|apply(zs1 ?_)|apply(zs2 ?_)|(apply zg1;refine zs3 ?_)|(apply zg6;refine zs11 ?_)|(apply zg20;refine zs48 ?_)|apply(zs65 ?_)|(apply XH;exact zp)|apply(zs68 ?_)|apply(zs69 ?_)|apply(zs70 ?_)|(apply zg27;refine zs71 ?_)|apply(zs74 ?_)|apply(zs77 ?_)|apply(zs78 ?_)|(apply Yh;(repeat(first|with_reducible exact YY|(with_reducible apply YN;(repeat(first|with_reducible exact Yo|with_reducible apply Yw))))))|apply(zs93 ?_)|apply(zs94 ?_)|fail)
  ·show Perm H (H++[])
   exact zc28
  repeat'(first|fail)
  apply Yf H
  ·exact zc0
  exact zc3
 |true=>
  rw[RD]at hok1
  by_cases hk0:k=0
  ·have hkt:ok k=true:=by rw[hok1,Tf hk0];rfl
   repeat'(first|apply(zs1 ?_)|apply(zs2 ?_)|(apply zg3;refine zs61 ?_)|(apply zg5;refine zs57 ?_)|(apply(zs17 ?_ ?_)<;>intro _<;>try exact zo)|(apply zg22;refine zs51 ?_)|(apply zg24;(refine zs54 ?_;intro _))|apply(zs65 ?_)|apply(zs68 ?_)|apply(zs69 ?_)|apply(zs70 ?_)|(apply zg27;refine zs71 ?_)|apply(zs73 ?_)|apply(zs76 ?_)|fail)
   apply YV [0,1,2,3,4,5,6,7,8,9,10,11,12,13,14,15,16,17] []
   kernel_rfl
   kernel_rfl
   (simp only[Yc,nthO];rfl)
   exact rfl
   repeat'(first|(apply zg3;refine zs8 ?_)|apply(zs87 ?_)|fail)
   apply Yb YlL
   exact za
   exact rfl
   exactλ_ hw=>(q1 (hxi.mono zc0) hw)
   repeat'(first|apply(zs1 ?_)|(apply zg1;refine zs4 ?_)|(apply zg20;refine zs47 ?_)|apply(zs65 ?_)|(apply Yh;(repeat(first|with_reducible exact YY|(with_reducible apply YN;(repeat(first|with_reducible exact Yo|with_reducible apply Yw))))))|fail)
   ·show Perm H (H++[])
    exact zc28
   repeat'(first|apply(zs1 ?_)|(apply zg1;first|refine zs3 ?_|refine zs4 ?_)|(apply zg6;refine zs12 ?_)|(apply(zs19 ?_ ?_)<;>intro _<;>try exact zo)|(apply zg13;refine zs30 ?_)|apply(zs65 ?_)|(apply XH;exact zp)|apply(zs68 ?_)|apply(zs70 ?_)|(apply zg27;refine zs72 ?_)|apply(zs76 ?_)|apply(zs79 ?_)|apply(zs93 ?_)|apply(zs94 ?_)|fail)
   apply hK (k+1)
   ·exact Yt0
   ·omega
   ·exact zc1
   ·exact zc0
  obtain⟨y,hy⟩:∃y,c[k-1]? =some y:=⟨_,Ta (by omega)⟩
  have hy2:c[((k:Int)-1).toNat]? =some y:=by rw[show((k:Int)-1).toNat=k-1 by omega];exact hy
  rw[Ti hk0,Nz,VF hy]at hok1
  have hok1:ok k=decide (y.flow<x.flow):=hok1
  by_cases hfl:y.flow<x.flow
  ·rw[Tf hfl]at hok1
   repeat'(first|apply(zs1 ?_)|apply(zs2 ?_)|(apply zg3;refine zs61 ?_)|(apply zg5;refine zs57 ?_)|(apply(zs17 ?_ ?_)<;>intro _<;>try exact zo)|(apply zg22;refine zs51 ?_)|(apply zg24;(refine zs54 ?_;intro _))|apply(zs65 ?_)|apply(zs68 ?_)|apply(zs69 ?_)|apply(zs70 ?_)|(apply zg27;refine zs71 ?_)|apply(zs73 ?_)|apply(zs76 ?_)|fail)
   apply YV [0,1,2,3,4,5,6,7,8,9,10,11,12,13,14,15,16,17] []
   kernel_rfl
   kernel_rfl
   (simp only[Yc,nthO];rfl)
   exact rfl
   repeat'(first|(apply zg3;refine zs8 ?_)|apply(zs87 ?_)|fail)
   apply Yb YlL
   exact za
   exact rfl
   exactλ_ hw=>(q1 (hxi.mono zc0) hw)
   repeat'(first|apply(zs1 ?_)|(apply zg1;refine zs4 ?_)|(apply zg20;refine zs47 ?_)|apply(zs65 ?_)|(apply Yh;(repeat(first|with_reducible exact YY|(with_reducible apply YN;(repeat(first|with_reducible exact Yo|with_reducible apply Yw))))))|fail)
   ·show Perm H (H++[])
    exact zc28
   repeat'(first|apply(zs1 ?_)|(apply zg1;refine zs4 ?_)|(apply zg2;first|refine zs6 ?_|refine zs58 ?_)|(apply zg3;first|refine zs7 ?_|refine zs59 ?_)|(apply zg5;refine zs57 ?_)|(apply zg6;first|refine zs11 ?_|refine zs12 ?_)|(apply(zs19 ?_ ?_)<;>intro _<;>try exact zo)|(apply(zs20 ?_ ?_)<;>intro _<;>try exact zo)|(apply zg13;refine zs30 ?_)|(apply zg14;refine zs31 ?_)|apply(zs65 ?_)|(apply XH;exact zp)|apply(zs68 ?_)|apply(zs70 ?_)|(apply zg27;refine zs72 ?_)|apply(zs76 ?_)|apply(zs79 ?_)|apply(zs93 ?_)|apply(zs94 ?_)|fail)
   apply hK (k+1)
   ·exact⟨by omega,λj h2=>by
     rcases Rk.1 h2 with h|rfl
     ·exact hz j h
     ·exact hok1⟩
   ·omega
   ·exact zc1
   ·exact zc0
  ·rw[Ti hfl]at hok1
   have hFf:=hno hok1
   subst hFf
   clear hK
   repeat'(first|apply(zs1 ?_)|apply(zs2 ?_)|(apply zg3;refine zs61 ?_)|(apply zg5;refine zs57 ?_)|(apply(zs17 ?_ ?_)<;>intro _<;>try exact zo)|(apply zg22;refine zs51 ?_)|(apply zg24;(refine zs54 ?_;intro _))|apply(zs65 ?_)|apply(zs68 ?_)|apply(zs69 ?_)|apply(zs70 ?_)|(apply zg27;refine zs71 ?_)|apply(zs73 ?_)|apply(zs76 ?_)|fail)
   apply YV [0,1,2,3,4,5,6,7,8,9,10,11,12,13,14,15,16,17] []
   kernel_rfl
   kernel_rfl
   (simp only[Yc,nthO];rfl)
   exact rfl
   repeat'(first|(apply zg3;refine zs8 ?_)|apply(zs87 ?_)|fail)
   apply Yb YlL
   exact za
   exact rfl
   exactλ_ hw=>(q1 (hxi.mono zc0) hw)
   repeat'(first|apply(zs1 ?_)|(apply zg1;refine zs4 ?_)|(apply zg20;refine zs47 ?_)|apply(zs65 ?_)|(apply Yh;(repeat(first|with_reducible exact YY|(with_reducible apply YN;(repeat(first|with_reducible exact Yo|with_reducible apply Yw))))))|fail)
   ·show Perm H (H++[])
    exact zc28
   repeat'(first|apply(zs1 ?_)|apply(zs2 ?_)|(apply zg1;refine zs4 ?_)|(apply zg2;first|refine zs6 ?_|refine zs58 ?_)|(apply zg3;first|refine zs7 ?_|refine zs59 ?_)|(apply zg5;refine zs57 ?_)|(apply zg6;first|refine zs11 ?_|refine zs12 ?_)|(apply(zs19 ?_ ?_)<;>intro _<;>try exact zo)|(apply(zs20 ?_ ?_)<;>intro _<;>try exact zo)|(apply zg14;refine zs31 ?_)|apply(zs65 ?_)|(apply XH;exact zp)|apply(zs68 ?_)|apply(zs69 ?_)|apply(zs70 ?_)|(apply zg27;refine zs71 ?_)|apply(zs74 ?_)|apply(zs77 ?_)|apply(zs78 ?_)|apply(zs93 ?_)|apply(zs94 ?_)|fail)
   apply Yf H
   ·exact zc0
   exact zc3
def rt3(x:Clm)(i:Nat):List UInt8:=Y0 wordR (rtAt x.routes i)++Y0 Oy [x.bounds.getD i 0,x.worst.getD i 0]++Y0 Oz (rtAt x.slots i)
def clT(x:Clm)(k:Nat):List UInt8:=Y0 wordF [x.flow]++(List.range k).flatMap (rt3 x)
def Zo(c:List Clm)(k:Nat):List UInt8:=(c.take k).flatMap λx=>clT x x.routes.length
variable {x:Clm}
theorem YnW(h:FormD x):((Yme x).flatMap λp=>p++[10])=clT x x.routes.length:=by
 have e:∀ks:List Nat,(∀i∈ks,i<x.routes.length)->(ks.flatMap (Ymf x)).flatMap (λp=>p++[10])=ks.flatMap (rt3 x):=by
  intro ks
  induction ks with
  |nil=>simp_all
  |cons i ks ih=>
   simp_all [Ymf,rt3,Y0,Go.Proofs.YtjommdkgfbhbdaaGreatDoor.FormD.b,Go.Proofs.YtjommdkgfbhbdaaGreatDoor.FormD.s]
 unfold Yme clT
 rw[Re,e _ λi hi=>TQ.1 hi]
 rfl
variable {c:List Clm}
theorem Ya4(h:∀x∈c,FormD x):Ymk c=Zo c c.length:=by
 unfold Ymk Zo
 induction c with
 |nil=>rfl
 |cons x c ih=>
  grind [YnW]
theorem YaE{k:Nat}(h:c[k]? =some x):Zo c (k+1)=Zo c k++clT x x.routes.length:=by
 grind [Zo,TB]
theorem YcI(x:Clm)(k:Nat):clT x (k+1)=clT x k++rt3 x k:=by
 grind [clT,Rq]
variable {b:Int}
theorem J0{l:List Int}(hb:b<10000)(h:∀x∈l,0<=x/\x<=b):∀n∈l,0<=n/\n<10000:=by grind
theorem Ya5{a:Int}(ha:0<=a/\a<10000)(hb:0<=b/\b<10000):∀n∈[a,b],0<=n/\n<10000:=by simp_all
variable {i B cap:Nat}
theorem YaC(h:FormD x)(hi:i<x.routes.length):(0<=x.bounds.getD i 0/\x.bounds.getD i 0<10000)/\(0<=x.worst.getD i 0/\x.worst.getD i 0<10000):=by
 have h1:=h.bs _ (Yfm (l:=x.bounds) (i:=i) (by rw[h.b];exact hi))
 have h2:=h.ws _ (Yfm (l:=x.worst) (i:=i) (by rw[h.w];exact hi))
 omega
theorem YgM(h:FormD x)(hi:i<x.routes.length):(rt3 x i).length<=500:=by
 have h1:=h.rs i hi
 have h2:=h.ls i hi
 have h3:=YaC h hi
 have k1:=XR (w:=wordR) (J0 (by decide) h1.2.2)
 have k2:=XR (w:=Oy) (Ya5 h3.1 h3.2)
 have k3:=XR (w:=Oz) (J0 (by decide) h2.2.2)
 grind [wordR,Oy,Oz,rt3]
theorem QS{x:Clm}(h:FormD x):∀k,k<=x.routes.length->(clT x k).length<=20+500*k
 |0,_=>by
  have k1:=XR (w:=wordF) (l:=[x.flow]) λn hn=>by have:=h.f;grind
  grind [wordF,clT]
 |k+1,hk=>by
  have ih:=QS h k (by omega)
  grind [YgM,YcI]
theorem OG{c:List Clm}(h:∀x∈c,FormD x):∀k,k<=c.length->(Zo c k).length<=1100*k
 |0,_=>by grind [Zo]
 |k+1,hk=>by
  have ih:=OG h k (by omega)
  obtain⟨x,hx⟩:∃x,c[k]? =some x:=⟨_,Ta (by omega)⟩
  have hf:=h x (Tc hx)
  have h1:=QS hf x.routes.length (TK _)
  have:=hf.n
  grind [YaE]
variable {w0 w:World}{H:List HP}
theorem ClM.In.here{c:ClM}(h:c.In B w0 H)(hw:St B w0 H w):c.In w.heap.size w []:=
 ⟨h.rt.here hw,λr hr=>(h.rw_ r hr).here hw,h.bd.here hw,h.ws.here hw,h.st.here hw,λr hr=>(h.sw r hr).here hw,h.ln,h.rl,h.sl⟩
variable {A:Option Addr}
theorem CIn.here{c:List ClM}(h:CIn B w0 H A c)(hw:St B w0 H w):CIn w.heap.size w [] A c:=⟨h.rd.here hw,λx hx=>(h.x x hx).here hw,h.ln⟩
structure PrM where
 i:Nat
 A:Option Addr
 cap:Nat
theorem Ynb(c:List ClM)(ht:TabsB B w0)(hc:CIn B w0 [] A c)(hw:St B w0 [] w):
 CX B w0 83 [.slice A c.length cap] w λv _=>v=.tuple #[strV (ZH (c.map ClM.clm)).1,.int .i64 (ZH (c.map ClM.clm)).2]:=by
 refine Ya Tryz.func83 Tryz.ntmps83 rfl rfl hw ?_
 have p1:=λ{H':List HP}{w:World}(hc:CIn B w0 H' A c) (hw:St B w0 H' w)=>YjX c (cap:=cap) hc hw
 have hcr:=hc.rd
 cases hf:WJ (c.map ClM.clm)with
 |false=>
  rw[hf]at p1
  repeat'(first|((apply Yb YsH);exact za;exact rfl;exactλ_ hw=>(p1 (hc.mono zk) hw))|apply(zs1 ?_)|apply(zs2 ?_)|(apply zg20;refine zs48 ?_)|apply(zs65 ?_)|apply(zs68 ?_)|apply(zs69 ?_)|apply(zs70 ?_)|(apply zg27;refine zs71 ?_)|apply(zs74 ?_)|apply(zs77 ?_)|fail)
  apply YH;(iterate 3 exact rfl)
  simp_all [ZH]
 |true=>
  rw[hf]at p1
  obtain⟨h16,hfd⟩:=Ydd hf
  rw[To]at h16
  repeat'(first|((apply Yb YsH);exact za;exact rfl;exactλ_ hw=>(p1 (hc.mono zk) hw))|apply(zs1 ?_)|apply(zs2 ?_)|(apply zg4;refine zs9 ?_)|(apply zg20;refine zs47 ?_)|(apply zg24;(refine zs54 ?_;intro _))|apply(zs65 ?_)|apply(zs68 ?_)|apply(zs69 ?_)|apply(zs70 ?_)|(apply zg27;refine zs72 ?_)|apply(zs73 ?_)|apply(zs76 ?_)|fail)
  rename_i gb
  refine Ye (λz:PrM=>[(14,.int .i64 (z.i:Nat)),(13,.int .i64 c.length),(12,.slice A c.length cap),(4,.pointer (some ⟨gb,0,none⟩))]) (λz=>bdP gb (if z.i=0 then .pointer none else .pointer (some ⟨gb,0,none⟩)) z.A z.cap (Zo (c.map ClM.clm) z.i) []) (λz=>z.i<=c.length) (λz=>c.length-z.i) ⟨0,none,0⟩ (Td _) ?_ ?_ ?_
  ·exact zc1
  ·intro w hw
   have h5:St B w0 [blk gb (.cells (Value.agg #[.pointer none,.slice none 0 0]).cells 121 (0,0))] w:=hw
   exact(h5.nilSlice 5 1).perm (.swap _ _ _)
  rintro⟨k,A1,cap1⟩ hk K hK
  dsimp only at hk⊢
  have htl:=OG hfd k (by rw[To];exact hk)
  by_cases hlt:k<c.length
  rotate_left
  ·obtain rfl:k=c.length:=by omega
   obtain⟨p,hp⟩:∃p,(if c.length=0 then Value.pointer none else .pointer (some ⟨gb,0,none⟩))=p:=⟨_,rfl⟩
   have hp2:p=.pointer none\/p=.pointer (some ⟨gb,0,none⟩):=by rw[<-hp];split<;>simp
   rw[hp]
   clear hK
   repeat'(first|(apply(zs17 ?_ ?_)<;>intro _<;>try exact zo)|apply(zs65 ?_)|apply(zs68 ?_)|apply(zs69 ?_)|apply(zs70 ?_)|(apply zg27;refine zs72 ?_)|apply(zs75 ?_)|apply(zs80 ?_)|apply(zs81 ?_)|fail)
   apply Yg _ en84
   exact za
   exact rfl
   exactλ_ hw=>(Oq (l:=Zo (c.map ClM.clm) c.length) hp2 (hw))
   rintro _ _ ⟨rfl,rfl⟩
   repeat'(first|apply(zs2 ?_)|apply(zs65 ?_)|apply(zs68 ?_)|apply(zs74 ?_)|fail)
   apply YH;(iterate 3 exact rfl)
   rw[ZH,Tj (by rw[hf];decide),Ya4 hfd,To]
  obtain⟨x,hx⟩:∃x,c[k]? =some x:=⟨_,Ta hlt⟩
  have hxm:=Tc hx
  have hxd:=hfd x.clm (RJ hxm)
  have hxi:=hc.x x hxm
  obtain⟨p,hp⟩:∃p,(if k=0 then Value.pointer none else .pointer (some ⟨gb,0,none⟩))=p:=⟨_,rfl⟩
  have hp2:p=.pointer none\/p=.pointer (some ⟨gb,0,none⟩):=by rw[<-hp];split<;>simp
  rw[hp]
  unfold bdP
  repeat'(first|(apply zg2;refine zs6 ?_)|(apply zg3;first|refine zs7 ?_|refine zs61 ?_)|(apply zg5;refine zs57 ?_)|(apply(zs17 ?_ ?_)<;>intro _<;>try exact zo)|(apply zg22;refine zs51 ?_)|(apply zg24;(refine zs54 ?_;intro _))|(apply zg26;(refine zs56 ?_;intro _))|apply(zs65 ?_)|apply(zs68 ?_)|apply(zs69 ?_)|apply(zs70 ?_)|(apply zg27;refine zs71 ?_)|apply(zs73 ?_)|apply(zs76 ?_)|fail)
  rename_i gx gl
  have hlen1:x.clm.routes.length=x.rs.length:=by show(x.rs.map (·.xs)).length=_;exact YfR
  have hxn:=hxd.n
  rw[hlen1]at hxn
  have hbl:x.bs.length=x.rs.length:=by have:=hxd.b;rw[hlen1]at this;exact this
  have hwl:x.ws.length=x.rs.length:=by have:=hxd.w;rw[hlen1]at this;exact this
  have hsl:x.ss.length=x.rs.length:=by have:=hxd.s;rw[hlen1]at this;rw[<-this];show _=(x.ss.map (·.xs)).length;exact YfR
  have hrl:∀X,Rd B w0 (blk gl (.cells #[.int .i64 x.flow] 3 (0,0))::X) (some ⟨gl,0,none⟩) ([x.flow].flatMap numF):=λX=>Rd.blk (cs:=#[.int .i64 x.flow]) (.head _)
  have hfl:∀n∈[x.flow],0<=n/\n<10000:=λn hn=>by
   have:=hxd.f
   rw[Ru.1 hn]
   exact⟨this.1,by have:=this.2;show x.clm.flow<_;omega⟩
  have hfl2:=XR (w:=wordF) hfl
  have e1:wordF.length=4:=rfl
  simp only[Ro,Sr]at hfl2
  apply Yb YlG
  exact za
  exact rfl
  exactλ_ hw=>(We wordF [x.flow] hfl (by show 1<=100;decide) (by decide) ht (hrl _) hw)
  apply Zh (bdP gb p A1 cap1 (Zo (c.map ClM.clm) k) [clA gx x])
  ·unfold bdP
   exact zc0
  apply Yg _ en80
  exact za
  exact rfl
  exactλ_ hw=>(J4 gb p hp2 A1 cap1 (Zo (c.map ClM.clm) k) (Y0 wordF [x.flow]) (by omega) (hw))
  rintro _ _ ⟨rfl,A2,cap2,rfl⟩
  unfold bdP
  repeat'(first|apply(zs1 ?_)|(apply zg2;refine zs6 ?_)|(apply zg3;refine zs7 ?_)|(apply zg4;refine zs9 ?_)|apply(zs65 ?_)|apply(zs68 ?_)|apply(zs69 ?_)|apply(zs70 ?_)|apply(zs73 ?_)|fail)
  refine Ye (λz:PrM=>[(26,.int .i64 (z.i:Nat)),(25,.int .i64 x.rs.length),(24,.slice x.rA x.rs.length x.rcap),(6,.pointer (some ⟨gx,0,none⟩)),(14,.int .i64 (k:Nat)),(13,.int .i64 c.length),(12,.slice A c.length cap),(4,.pointer (some ⟨gb,0,none⟩))]) (λz=>bdP gb (.pointer (some ⟨gb,0,none⟩)) z.A z.cap (Zo (c.map ClM.clm) k++clT x.clm z.i) [clA gx x]) (λz=>z.i<=x.rs.length) (λz=>x.rs.length-z.i) ⟨0,A2,cap2⟩ (Td _) ?_ ?_ ?_
  ·exact zc1
  ·have e0:clT x.clm 0=Y0 wordF [x.flow]:=by unfold clT;simp;rfl
   rw[e0]
   unfold bdP
   exact YbM
  rintro⟨j,A3,cap3⟩ hj K2 hK2
  dsimp only at hj⊢
  have hcl2:=QS hxd j (by rw[hlen1];exact hj)
  unfold bdP
  by_cases hjl:j<x.rs.length
  rotate_left
  ·obtain rfl:j=x.rs.length:=by omega
   clear hK2
   have hst:Zo (c.map ClM.clm) (k+1)=Zo (c.map ClM.clm) k++clT x.clm x.rs.length:=by
    rw[YaE (x:=x.clm) (by rw[TN,hx];rfl),hlen1]
   rw[<-hst]
   repeat'(first|apply(zs1 ?_)|(apply(zs17 ?_ ?_)<;>intro _<;>try exact zo)|(apply zg13;refine zs30 ?_)|apply(zs65 ?_)|apply(zs68 ?_)|apply(zs69 ?_)|apply(zs70 ?_)|(apply zg27;refine zs72 ?_)|apply(zs75 ?_)|apply(zs79 ?_)|apply(zs80 ?_)|apply(zs81 ?_)|fail)
   apply hK ⟨k+1,A3,cap3⟩
   ·show k+1<=c.length
    omega
   ·exact zc50
   ·exact zc1
   ·dsimp only
    rw[Tj (Nat.succ_ne_zero k)]
    unfold bdP
    exact zc0
  obtain⟨r,hr⟩:∃r,x.rs[j]? =some r:=⟨_,Ta hjl⟩
  obtain⟨z,hz⟩:∃z,x.ss[j]? =some z:=⟨_,Ta (by omega)⟩
  obtain⟨bv,hbv⟩:∃b,x.bs[j]? =some b:=⟨_,Ta (by omega)⟩
  obtain⟨wv,hwv⟩:∃b,x.ws[j]? =some b:=⟨_,Ta (by omega)⟩
  have hrm:=Tc hr
  have hzm:=Tc hz
  have hjc:j<x.clm.routes.length:=by omega
  have g1:rtAt x.clm.routes j=r.xs:=ZF hr
  have g2:rtAt x.clm.slots j=z.xs:=ZF hz
  have g3:x.clm.bounds.getD j 0=bv:=by show x.bs.getD j 0=bv;rw[Tz,hbv];rfl
  have g4:x.clm.worst.getD j 0=wv:=by show x.ws.getD j 0=wv;rw[Tz,hwv];rfl
  have n1:=hxd.rs j hjc
  have n2:=hxd.ls j hjc
  have n3:=YaC hxd hjc
  have hr3:=YgM hxd hjc
  have hst:=YcI x.clm j
  unfold rt3 at hr3 hst
  rw[g1,g2,g3,g4]at hr3 hst
  rw[g1]at n1
  rw[g2]at n2
  rw[g3,g4]at n3
  have m1:=J0 (b:=31) (by decide) n1.2.2
  have m2:=J0 (b:=511) (by decide) n2.2.2
  have m3:=Ya5 n3.1 n3.2
  have l1:=λ{H':List HP}{w:World}(hr:Rd B w0 H' r.A (r.xs.flatMap numF)) (hw:St B w0 H' w)=>We wordR r.xs m1 (by omega) (by decide) (cap:=r.cap) ht hr hw
  have l2:=λ{g:Nat}{cap:Nat}{H':List HP}{w:World}(hm:blk g (.cells #[.int .i64 bv,.int .i64 wv] 3 (0,0))∈H') (hw:St B w0 H' w)=>We Oy [bv,wv] m3 (by show 2<=100;decide) (by decide) (A:=some ⟨g,0,none⟩) (cap:=cap) ht (show Rd B w0 H' _ ([bv,wv].flatMap numF) from Rd.blk hm) hw
  have l3:=λ{H':List HP}{w:World}(hr:Rd B w0 H' z.A (z.xs.flatMap numF)) (hw:St B w0 H' w)=>We Oz z.xs m2 (by omega) (by decide) (cap:=z.cap) ht hr hw
  obtain⟨s1,hs1⟩:∃s,Y0 wordR r.xs=s:=⟨_,rfl⟩
  obtain⟨s2,hs2⟩:∃s,Y0 Oy [bv,wv]=s:=⟨_,rfl⟩
  obtain⟨s3,hs3⟩:∃s,Y0 Oz z.xs=s:=⟨_,rfl⟩
  rw[hs1]at l1 hr3 hst
  rw[hs2]at l2 hr3 hst
  rw[hs3]at l3 hr3 hst
  rw[Tt,Tt]at hr3
  have hrr:=hxi.rt
  have hbr:=hxi.bd
  have hwr:=hxi.ws
  have hsr:=hxi.st
  repeat'(first|apply(zs1 ?_)|apply(zs2 ?_)|(apply zg3;refine zs60 ?_)|(apply zg5;refine zs57 ?_)|(apply(zs17 ?_ ?_)<;>intro _<;>try exact zo)|apply(zs65 ?_)|apply(zs68 ?_)|apply(zs69 ?_)|apply(zs70 ?_)|(apply zg27;refine zs71 ?_)|apply(zs73 ?_)|apply(zs76 ?_)|fail)
  apply Jb (.n1 0 (.n1 2 (.n1 3 (.n1 4 (.n1 5 (.n1 6 (.n1 7 (.n1 8 (.n1 9 (.n1 10 (.n1 11 (.n1 15 (.n1 16 (.n1 17 (.n1 18 (.n1 19 (.n2 1 (.n1 12 (.n1 13 (.n1 14 (.n1 20 (.n1 21 .done))))) 12 (.n1 1 (.n1 13 (.n1 14 (.n1 20 (.n1 21 .done)))))))))))))))))))))) [22] [false,false,true]
  kernel_rfl
  kernel_rfl
  exact zy
  (simp only[Yc,nthO];rfl)
  repeat'(first|apply(zs1 ?_)|(apply zg2;refine zs6 ?_)|(apply zg3;first|refine zs7 ?_|refine zs60 ?_)|(apply zg5;refine zs57 ?_)|(apply zg26;(refine zs56 ?_;intro _))|apply(zs65 ?_)|(apply XH;exact zp)|apply(zs87 ?_)|(apply Yh;try exact zl)|apply(zs90 ?_)|apply(zs91 ?_ ?_)|(apply Xf;try exact zl)|fail)
  all_goals(
   apply Yb YlG
   exact za
   exact rfl
   exactλ_ hw=>(l1 ((hxi.rw_ r hrm).mono zk) hw)
   repeat'(first|(apply zg26;(refine zs56 ?_;intro _))|apply(zs65 ?_)|(apply XH;exact zp)|apply(zs87 ?_)|(apply Yh;try exact zl)|apply(zs90 ?_)|(apply Xf;try exact zl)|fail)
   apply Yb YlG
   exact za
   exact rfl
   exactλ_ hw=>(l2 zm hw)
   repeat'(first|(apply XY s1 s2;(iterate 3 exact rfl);omega)|apply(zs65 ?_)|(apply XH;exact zp)|apply(zs87 ?_)|(apply Yh;try exact zl)|apply(zs90 ?_)|(apply Xf;try exact zl)|fail)
   apply Yb YlG
   exact za
   exact rfl
   exactλ_ hw=>(l3 ((hxi.sw z hzm).mono zk) hw)
   repeat'(first|(apply XY (s1++s2) s3;(iterate 3 exact rfl);(rw[Tt];omega))|apply(zs65 ?_)|(apply XH;exact zp)|(apply Yh;try exact zl)|(apply Ylr;exact zp)|apply(zs90 ?_)|(apply Xf;try exact zl)|apply(zs93 ?_)|fail)
   apply Zh (bdP gb (.pointer (some ⟨gb,0,none⟩)) A3 cap3 (Zo (c.map ClM.clm) k++clT x.clm j) [clA gx x])
   ·unfold bdP
    exact zk
   apply Yg _ en80
   exact za
   exact rfl
   exactλ_ hw=>(J4 gb _ (.inr rfl) A3 cap3 (Zo (c.map ClM.clm) k++clT x.clm j) (s1++s2++s3) (by rw[Tt,Tt,Tt];omega) (hw))
   rintro _ _ ⟨rfl,A4,cap4,rfl⟩
   repeat'(first|apply(zs1 ?_)|(apply zg13;refine zs30 ?_)|apply(zs65 ?_)|apply(zs68 ?_)|apply(zs70 ?_)|apply(zs79 ?_)|apply(zs94 ?_)|fail)
   apply hK2 ⟨j+1,A4,cap4⟩
   ·show j+1<=x.rs.length
    omega
   ·dsimp only;omega
   ·exact zu
   ·dsimp only
    intro w hw
    rw[hst,show Zo (c.map ClM.clm) k++(clT x.clm j++(s1++s2++s3))=Zo (c.map ClM.clm) k++clT x.clm j++(s1++s2++s3) from(TV _ _ _).symm]
    exact hw)
theorem YhF(c:List ClM)(ht:TabsB B w0)(hc:CIn B w0 H A c)(hw:St B w0 H w):
 CX B w0 83 [.slice A c.length cap] w λv K=>v=.tuple #[strV (ZH (c.map ClM.clm)).1,.int .i64 (ZH (c.map ClM.clm)).2]/\K=H:=
 WW hw (Ynb c (ht.here hw) (hc.here hw) (St.start w))
theorem Yo2{n:Net}{q:List Rqs}{s:Sch}(h:(YJ n q s).2.2=0):chkE n q s (YJ n q s).1=(-1,0):=by
 simp_all [chkE,Xy]
structure AttM where
 slot:Int
 frame:Int
 c:Cel
 o:Int
structure StM where
 frame:Int
 since:Int->Option Int
 acked:Int->Int->Option Int
 done:Bool
structure PlM where
 st:List StM
 atts:List AttM
 dels:List (Int×Int×Int)
def perF(f:Flw):Int:=f.2.2.2.1
def phaF(f:Flw):Int:=f.2.2.2.2.1
def dstF(f:Flw):Int:=f.2.2.1
def Yu5(f:Flw)(k:Int):Int:=phaF f+k*perF f
def newS(f:Flw)(n k:Int):StM:=⟨k,λv=>if v=f.2.1 then some n else none,λ_ _=>none,false⟩
def relS(f:Flw)(n:Int)(x:StM):StM:=if n<phaF f then x else if(n-phaF f)/perF f=x.frame then x else newS f n ((n-phaF f)/perF f)
def canT(f:Flw)(x:StM)(c:Cel)(n:Int):Prop:=0<=x.frame/\(∃a,x.since (YF c)=some a/\a<=n)/\YF c≠dstF f/\∀t,x.acked (YF c) (toC c)=some t->n<=t
def Yxs(f:Flw)(x:StM)(c:Cel)(n o:Int):StM:=
 ⟨x.frame,if o=3\/(x.since (toC c)).isSome then x.since elseλv=>if v=toC c then some (n+1)else x.since v,
  if o=1/\x.acked (YF c) (toC c)=none thenλu v=>if u=YF c/\v=toC c then some n else x.acked u v else x.acked,
  x.done||(decide (o≠3)&&decide (toC c=dstF f))⟩
def delS(f:Flw)(x:StM)(c:Cel)(n o:Int):List (Int×Int×Int):=if o≠3/\toC c=dstF f/\x.done=false then [(f.1,x.frame,n)]else []
def YvC:StM:=⟨-1,λ_=>none,λ_ _=>none,false⟩
inductive Pl (l:List Flw) (s:Sch):Int->Nat->PlM->Prop
 |start:Pl l s 0 0 ⟨l.map λ_=>YvC,[],[]⟩
 |rel {n:Int}{p:PlM}(st:List StM):Pl l s n 0 p->st.length=l.length->(∀(i:Nat) f x,l[i]? =some f->p.st[i]? =some x->st[i]? =some (relS f n x))->Pl l s n 1 ⟨st,p.atts,p.dels⟩
 |skip {n:Int}{j:Nat}{p:PlM}{c:Cel}:Pl l s n (j+1) p->(atE s n)[j]? =some c->(∀(i:Nat) f x,l[i]? =some f->p.st[i]? =some x->f.1=XE c->¬canT f x c n)->Pl l s n (j+2) p
 |att {n:Int}{j i:Nat}{p:PlM}{c:Cel}{f:Flw}{x:StM}(o:Int):Pl l s n (j+1) p->(atE s n)[j]? =some c->l[i]? =some f->p.st[i]? =some x->f.1=XE c->canT f x c n->
  Pl l s n (j+2) ⟨p.st.set i (Yxs f x c n o),p.atts++[⟨n,x.frame,c,o⟩],p.dels++delS f x c n o⟩
 |next {n:Int}{p:PlM}(ds:List (Int×Int×Int)):Pl l s n ((atE s n).length+1) p->ds.Perm p.dels->Pl l s (n+1) 0 ⟨p.st,p.atts,ds⟩
def onK(id k u v:Int)(a:AttM):Bool:=decide (XE a.c=id/\a.frame=k/\YF a.c=u/\toC a.c=v)
def keyL(atts:List AttM)(id k u v:Int):List AttM:=atts.filter (onK id k u v)
def cntL(s:Sch)(q:Cel->Bool):Nat->Int->Nat
 |0,_=>0
 |m+1,a=>((atE s a).filter q).length+cntL s q m (a+1)
def Yl6(s:Sch)(q:Cel->Bool)(b:Option Int)(a0 n:Int)(j:Nat):Nat:=
 match b with
 |some b=>cntL s q (b-1-a0).toNat a0
 |none=>cntL s q (n-a0).toNat a0+if a0<=n then(((atE s n).take j).filter q).length else 0
def Hop(s:Sch)(f:Flw)(k:Int)(atts:List AttM)(since:Int->Option Int)(n:Int)(j:Nat):Prop:=
 ∀u v a0,u≠dstF f->since u=some a0->∃K1,K1<+:keyL atts f.1 k u v/\(∀a∈K1,a.o=3)/\Yl6 s (onP f.1 u v) (since v) a0 n j<=K1.length
def Dlv(f:Flw)(k:Int)(dels:List (Int×Int×Int))(since:Int->Option Int):Prop:=
 (∀d∈dels,d.1=f.1->d.2.1=k->since (dstF f)=some (d.2.2+1))/\∀b,since (dstF f)=some b->(f.1,k,b-1)∈dels
structure Arch(s:Sch)(f:Flw)(k n:Int)(j:Nat)(p:PlM)(since:Int->Option Int):Prop where
 src:since f.2.1=some (Yu5 f k)
 hop:Hop s f k p.atts since n j
 dlv:Dlv f k p.dels since
variable {s:Sch}{f:Flw}{k n:Int}{j:Nat}{p:PlM}{since:Int->Option Int}
theorem Arch.mono{p':PlM}(h:Arch s f k n j p since)
 (ha:∀u v,keyL p.atts f.1 k u v<+:keyL p'.atts f.1 k u v) (hd:∀d,d.1=f.1->d.2.1=k->(d∈p'.dels↔d∈p.dels)):Arch s f k n j p' since:=by
 refine⟨h.src,λu v a0 hu hs=>?_,?_,?_⟩
 ·obtain⟨K1,h1,h2,h3⟩:=h.hop u v a0 hu hs
  grind
 ·intro d hm h1 h2
  exact h.dlv.1 d ((hd d h1 h2).1 hm) h1 h2
 ·intro b hb
  exact(hd (f.1,k,b-1) rfl rfl).2 (h.dlv.2 b hb)
theorem Yk7{α:Type}{L:List α}{c:α}(h:L[j]? =some c):L.take (j+1)=L.take j++[c]:=zc76
variable {c:Cel}
theorem Ynn{L:List Cel}(h:L[j]? =some c)(q:Cel->Bool):((L.take (j+1)).filter q).length=((L.take j).filter q).length+if q c then 1 else 0:=by
 rw[Yk7 h,SI,Tt]
 grind
theorem Yp1{a0:Int}(h:(atE s n)[j]? =some c){q:Cel->Bool}(hq:q c=false)(b:Option Int):Yl6 s q b a0 n (j+1)=Yl6 s q b a0 n j:=by
 simp_all [Yl6,Ynn]
theorem YrX{id u v:Int}:onP id u v c=true↔XE c=id/\YF c=u/\toC c=v:=by simp[onP]
theorem Arch.offs(h:Arch s f k n j p since)(hc:(atE s n)[j]? =some c)(hf:XE c≠f.1):Arch s f k n (j+1) p since:=by
 refine⟨h.src,λu v a0 hu hs=>?_,h.dlv⟩
 obtain⟨K1,h1,h2,h3⟩:=h.hop u v a0 hu hs
 grind [Yp1,YrX]
def Chain(d:Int):Int->List Lk->Prop
 |u,[]=>u=d
 |u,l::ls=>u=l.1/\u≠d/\Chain d l.2.1 ls
theorem Ykt{x:List (Cel×Int)}{a:Int}(hx:x≠[]):Zk (x.map Prod.snd)+1=XB x a:=by
 grind [Zk,XB,List.getLast?_eq_none_iff]
variable {B:Nat}{w0 w:World}{H:List HP}
theorem YbT(c d:ClM)(hc:c.In B w0 H)(hd:d.In B w0 H)(hw:St B w0 H w):
 CX B w0 145 [clV c,clV d] w λu K=>u=.bool (decide (c.clm=d.clm))/\K=H:=by
 refine Ya Tryz.func145 Tryz.ntmps145 rfl rfl hw ?_
 have hcl:=hc.ln
 have hdl:=hd.ln
 have p1:=λ{H':List HP}{w:World}(hc:c.In B w0 H') (hd:d.In B w0 H') (hw:St B w0 H' w)=>YbV c.rs d.rs (cap:=c.rcap) (cap2:=d.rcap) hcl.1 hdl.1 hc.rl hd.rl hc.rt hd.rt hc.rw_ hd.rw_ hw
 have p2:=λ{H':List HP}{w:World}(hc:c.In B w0 H') (hd:d.In B w0 H') (hw:St B w0 H' w)=>ZW c.bs d.bs (cap:=c.bcap) (cap2:=d.bcap) (by omega) (by omega) hc.bd hd.bd hw
 have p3:=λ{H':List HP}{w:World}(hc:c.In B w0 H') (hd:d.In B w0 H') (hw:St B w0 H' w)=>ZW c.ws d.ws (cap:=c.wcap) (cap2:=d.wcap) (by omega) (by omega) hc.ws hd.ws hw
 have hce:=@Yo3 c d
 unfold clV
 by_cases h1:c.flow=d.flow
 rotate_left
 ·rw[Ti (λh=>h1 (hce.1 h).1)]
  repeat'(first|refine zgd ?_|(refine zge ?_ ?_<;>intro _<;>try exact zo)|(refine zgh ?_;intro _)|fail)
  apply Yf H
  ·exact zc0
  exact zc3
 by_cases h2:c.rs.map (·.xs)=d.rs.map (·.xs)
 rotate_left
 ·rw[Ti (λh=>h2 (hce.1 h).2.1)]
  rw[Ti h2]at p1
  repeat'(first|refine zgc ?_|(refine zge ?_ ?_<;>intro _<;>try exact zo)|(refine zgh ?_;intro _)|fail)
  apply Yb YhL
  exact za
  exact rfl
  exactλ_ hw=>(p1 (hc.mono zc0) (hd.mono zc0) hw)
  repeat'(first|refine zgd ?_|fail)
  apply Yf H
  ·exact zc0
  exact zc3
 rw[Tf h2]at p1
 by_cases h3:c.bs=d.bs
 rotate_left
 ·rw[Ti (λh=>h3 (hce.1 h).2.2.1)]
  rw[Ti h3]at p2
  repeat'(first|refine zgc ?_|(refine zge ?_ ?_<;>intro _<;>try exact zo)|(refine zgh ?_;intro _)|fail)
  apply Yb YhL
  exact za
  exact rfl
  exactλ_ hw=>(p1 (hc.mono zc0) (hd.mono zc0) hw)
  repeat'(first|refine zgc ?_|fail)
  apply Yb WH
  exact za
  exact rfl
  exactλ_ hw=>(p2 (hc.mono zc0) (hd.mono zc0) hw)
  repeat'(first|refine zgd ?_|fail)
  apply Yf H
  ·exact zc0
  exact zc3
 rw[Tf h3]at p2
 by_cases h4:c.ws=d.ws
 rotate_left
 ·rw[Ti (λh=>h4 (hce.1 h).2.2.2.1)]
  rw[Ti h4]at p3
  repeat'(first|refine zgc ?_|(refine zge ?_ ?_<;>intro _<;>try exact zo)|(refine zgh ?_;intro _)|fail)
  apply Yb YhL
  exact za
  exact rfl
  exactλ_ hw=>(p1 (hc.mono zc0) (hd.mono zc0) hw)
  repeat'(first|refine zgc ?_|fail)
  apply Yb WH
  exact za
  exact rfl
  exactλ_ hw=>(p2 (hc.mono zc0) (hd.mono zc0) hw)
  repeat'(first|refine zgc ?_|fail)
  apply Yb WH
  exact za
  exact rfl
  exactλ_ hw=>(p3 (hc.mono zc0) (hd.mono zc0) hw)
  repeat'(first|refine zgd ?_|fail)
  apply Yf H
  ·exact zc0
  exact zc3
 rw[Tf h4]at p3
 have h5:decide (c.clm=d.clm)=decide (c.ss.map (·.xs)=d.ss.map (·.xs)):=decide_eq_decide.2 ⟨λh=>(hce.1 h).2.2.2.2,λh=>hce.2 ⟨h1,h2,h3,h4,h⟩⟩
 rw[h5]
 by_cases h6:c.ss.length=d.ss.length
 rotate_left
 ·rw[Ti (λe=>h6 (by have:=TF List.length e;rwa [To,To]at this))]
  repeat'(first|refine zgc ?_|(refine zge ?_ ?_<;>intro _<;>try exact zo)|(refine zgh ?_;intro _)|fail)
  apply Yb YhL
  exact za
  exact rfl
  exactλ_ hw=>(p1 (hc.mono zc0) (hd.mono zc0) hw)
  repeat'(first|refine zgc ?_|fail)
  apply Yb WH
  exact za
  exact rfl
  exactλ_ hw=>(p2 (hc.mono zc0) (hd.mono zc0) hw)
  repeat'(first|refine zgc ?_|fail)
  apply Yb WH
  exact za
  exact rfl
  exactλ_ hw=>(p3 (hc.mono zc0) (hd.mono zc0) hw)
  repeat'(first|refine zgc ?_|(refine zge ?_ ?_<;>intro _<;>try exact zo)|fail)
  apply Yf H
  ·exact zc0
  exact zc3
 repeat'(first|refine zgc ?_|(refine zge ?_ ?_<;>intro _<;>try exact zo)|(refine zgh ?_;intro _)|fail)
 apply Yb YhL
 exact za
 exact rfl
 exactλ_ hw=>(p1 (hc.mono zc0) (hd.mono zc0) hw)
 repeat'(first|refine zgc ?_|fail)
 apply Yb WH
 exact za
 exact rfl
 exactλ_ hw=>(p2 (hc.mono zc0) (hd.mono zc0) hw)
 repeat'(first|refine zgc ?_|fail)
 apply Yb WH
 exact za
 exact rfl
 exactλ_ hw=>(p3 (hc.mono zc0) (hd.mono zc0) hw)
 repeat'(first|refine zgc ?_|(refine zge ?_ ?_<;>intro _<;>try exact zo)|fail)
 rename_i g2 g3 _ _
 refine Ye (λk:Nat=>[(5,.int .i64 (k:Nat)),(3,.pointer (some ⟨g3,0,none⟩)),(2,.pointer (some ⟨g2,0,none⟩))]) (λ_=>clA g3 d::clA g2 c::H) (λk=>k<=c.ss.length/\(c.ss.take k).map (·.xs)=(d.ss.take k).map (·.xs)) (λk=>c.ss.length-k) 0 ⟨Td _,by simp⟩ ?_ (λw hw=>hw) ?_
 ·exact zc1
 rintro k ⟨hk,hz⟩ K hK
 have hcs:Rd B w0 (clA g3 d::clA g2 c::H) c.sA (c.ss.flatMap rowF):=hc.st.cons.cons
 have hds:Rd B w0 (clA g3 d::clA g2 c::H) d.sA (d.ss.flatMap rowF):=hd.st.cons.cons
 by_cases hlt:k<c.ss.length
 ·obtain⟨a,ha⟩:∃a,c.ss[k]? =some a:=⟨_,Ta hlt⟩
  obtain⟨b,hb⟩:∃b,d.ss[k]? =some b:=⟨_,Ta (by omega)⟩
  have ham:=Tc ha
  have hbm:=Tc hb
  have p4:=λ{H':List HP}{w:World}(hc:c.In B w0 H') (hd:d.In B w0 H') (hw:St B w0 H' w)=>ZW a.xs b.xs (cap:=a.cap) (cap2:=b.cap) (hc.sl a ham) (hd.sl b hbm) (hc.sw a ham) (hd.sw b hbm) hw
  by_cases he:a.xs=b.xs
  ·rw[Tf he]at p4
   repeat'(first|refine zgb ?_|(refine zge ?_ ?_<;>intro _<;>try exact zo)|fail)
   apply YV [0,1,2,3,4,5,6,7,8,9,10,11] []
   kernel_rfl
   kernel_rfl
   (simp only[Yc,nthO];rfl)
   exact rfl
   repeat'(first|refine zgd ?_|fail)
   apply Yb WH
   exact za
   exact rfl
   exactλ_ hw=>(p4 (hc.mono zc0) (hd.mono zc0) hw)
   repeat'(first|(apply Yh;(repeat(first|with_reducible exact YY|(with_reducible apply YN;(repeat(first|with_reducible exact Yo|with_reducible apply Yw))))))|refine zgd ?_|fail)
   ·show Perm H (H++[])
    exact zc28
   repeat'(first|fail)
   apply hK (k+1)
   ·exact YtX
   ·omega
   ·exact zc1
   exact zc21
  ·rw[Ti he]at p4
   have hne:¬(c.ss.map (·.xs)=d.ss.map (·.xs)):=λe=>by
    have h1:(c.ss.map (·.xs))[k]? =(d.ss.map (·.xs))[k]? :=by rw[e]
    exact Yue
   rw[Ti hne]
   clear hK
   repeat'(first|refine zgb ?_|(refine zge ?_ ?_<;>intro _<;>try exact zo)|fail)
   apply YV [0,1,2,3,4,5,6,7,8,9,10,11] []
   kernel_rfl
   kernel_rfl
   (simp only[Yc,nthO];rfl)
   exact rfl
   repeat'(first|refine zgd ?_|fail)
   apply Yb WH
   exact za
   exact rfl
   exactλ_ hw=>(p4 (hc.mono zc0) (hd.mono zc0) hw)
   repeat'(first|(apply Yh;(repeat(first|with_reducible exact YY|(with_reducible apply YN;(repeat(first|with_reducible exact Yo|with_reducible apply Yw))))))|refine zgd ?_|fail)
   ·show Perm H (H++[])
    exact zc28
   repeat'(first|fail)
   apply Yf H
   ·exact zc0
   exact zc3
 ·rw[TM (by omega),TM (by omega)]at hz
  rw[Tf hz]
  clear hK
  repeat'(first|refine zgc ?_|(refine zge ?_ ?_<;>intro _<;>try exact zo)|fail)
  apply Yf H
  ·exact zc0
  exact zc3
theorem YdU(c d:List ClM){A A2:Option Addr}{cap cap2:Nat}(hc:CIn B w0 H A c)(hd:CIn B w0 H A2 d)(hw:St B w0 H w):
 CX B w0 58 [.slice A c.length cap,.slice A2 d.length cap2] w λu K=>u=.bool (decide (c.map ClM.clm=d.map ClM.clm))/\K=H:=by
 refine Ya Tryz.func58 Tryz.ntmps58 rfl rfl hw ?_
 have hcl:=hc.ln
 have hdl:=hd.ln
 have hcr:=hc.rd
 have hdr:=hd.rd
 by_cases h6:c.length=d.length
 rotate_left
 ·rw[Ti (λe=>h6 (by have:=TF List.length e;grind))]
  repeat'(first|refine zgb ?_|(refine zge ?_ ?_<;>intro _<;>try exact zo)|fail)
  exact zc10
 repeat'(first|refine zgb ?_|(refine zge ?_ ?_<;>intro _<;>try exact zo)|fail)
 refine Ye (λk:Nat=>[(5,.int .i64 (k:Nat)),(0,.slice A c.length cap),(1,.slice A2 d.length cap2)]) (λ_=>H) (λk=>k<=c.length/\(c.take k).map ClM.clm=(d.take k).map ClM.clm) (λk=>c.length-k) 0 ⟨Td _,by simp⟩ ?_ (λw hw=>hw) ?_
 ·exact zc1
 rintro k ⟨hk,hz⟩ K hK
 by_cases hlt:k<c.length
 ·obtain⟨a,ha⟩:∃a,c[k]? =some a:=⟨_,Ta hlt⟩
  obtain⟨b,hb⟩:∃b,d[k]? =some b:=⟨_,Ta (by omega)⟩
  have hax:=hc.x a (Tc ha)
  have hbx:=hd.x b (Tc hb)
  have p2:=λ{H':List HP}{w:World}(hx:a.In B w0 H') (hy:b.In B w0 H') (hw:St B w0 H' w)=>YbT a b hx hy hw
  by_cases he:a.clm=b.clm
  ·rw[Tf he]at p2
   repeat'(first|refine zgb ?_|(refine zge ?_ ?_<;>intro _<;>try exact zo)|fail)
   apply YV [0,1,2,3,4,5,6,7,8,9] []
   kernel_rfl
   kernel_rfl
   (simp only[Yc,nthO];rfl)
   exact rfl
   repeat'(first|refine zgd ?_|fail)
   apply Yb YsB
   exact za
   exact rfl
   exactλ_ hw=>(p2 hax hbx hw)
   repeat'(first|(apply Yh;(repeat(first|with_reducible exact YY|(with_reducible apply YN;(repeat(first|with_reducible exact Yo|with_reducible apply Yw))))))|refine zgd ?_|fail)
   ·show Perm H (H++[])
    exact zc28
   repeat'(first|fail)
   apply hK (k+1)
   ·exact YtX
   ·omega
   ·exact zc1
   exact zc21
  ·rw[Ti he]at p2
   have hne:¬(c.map ClM.clm=d.map ClM.clm):=λe=>by
    have h1:(c.map ClM.clm)[k]? =(d.map ClM.clm)[k]? :=by rw[e]
    exact Yue
   rw[Ti hne]
   clear hK
   repeat'(first|refine zgb ?_|(refine zge ?_ ?_<;>intro _<;>try exact zo)|fail)
   apply YV [0,1,2,3,4,5,6,7,8,9] []
   kernel_rfl
   kernel_rfl
   (simp only[Yc,nthO];rfl)
   exact rfl
   repeat'(first|refine zgd ?_|fail)
   apply Yb YsB
   exact za
   exact rfl
   exactλ_ hw=>(p2 hax hbx hw)
   repeat'(first|(apply Yh;(repeat(first|with_reducible exact YY|(with_reducible apply YN;(repeat(first|with_reducible exact Yo|with_reducible apply Yw))))))|refine zgd ?_|fail)
   ·show Perm H (H++[])
    exact zc28
   repeat'(first|fail)
   exact zc3
 ·rw[TM (by omega),TM (by omega)]at hz
  rw[Tf hz]
  repeat'(first|refine zgc ?_|(refine zge ?_ ?_<;>intro _<;>try exact zo)|fail)
  exact zc3
def slC(len:Int)(cs:List Cel)(a:Int):Nat:=(cs.filter λc=>decide (c.1=a.tmod len)).length
def cntS(len:Int)(cs:List Cel):Nat->Int->Nat
 |0,_=>0
 |m+1,a=>slC len cs a+cntS len cs m (a+1)
theorem Yqv(len:Int)(c:Cel)(cs:List Cel)(a:Int):slC len (c::cs) a=(if c.1=a.tmod len then 1 else 0)+slC len cs a:=by
 unfold slC
 grind
theorem Qw(len a:Int):∀(cs:List Cel) (k:Nat),(Xs len a cs k).length=min k (slC len cs a)
 |[],k=>by simp[Xs,slC]
 |c::cs,k=>by
  rw[Yqv]
  unfold Xs
  by_cases h:c.1=a.tmod len
  ·by_cases hk:k=0
   ·simp_all [Yn1]
   ·rw[Tn ⟨h,hk⟩,Tn h,Ro,Qw len a cs (k-1)];omega
  ·rw[Tj (λe=>h e.1),Tj h,Qw len a cs k];omega
theorem YhC(len:Int)(cs:List Cel):∀(m k:Nat) (a:Int),cntS len cs (m+k) a=cntS len cs m a+cntS len cs k (a+m)
 |0,k,a=>by simp[cntS]
 |m+1,k,a=>by
  rw[show m+1+k=(m+k)+1 by omega,cntS,YhC len cs m k (a+1),cntS]
  grind
variable {a b y:Int}
theorem Ym8(len:Int)(cs:List Cel){z:Int}(h1:a<=b)(h2:b<=z):cntS len cs (z-b).toNat b<=cntS len cs (z-a).toNat a:=by
 obtain⟨x,hx⟩:∃x:Nat,b=a+x:=⟨(b-a).toNat,by omega⟩
 obtain⟨y,hy⟩:∃y:Nat,z=b+y:=⟨(z-b).toNat,by omega⟩
 rw[show(z-b).toNat=y by omega,show(z-a).toNat=x+y by omega,YhC,hx]
 omega
theorem QG(x r:List (Cel×Int))(a:Int):XB (x++r) a=XB r (XB x a):=by
 grind [XB]
theorem YoU{x:List (Cel×Int)}(h:XB x a<=y)(hb:b<=y):XB x b<=y:=by
 grind [XB]
theorem Yia{len:Int}{cs:List Cel}:∀(f k:Nat) (a y:Int),a<=y->y<=a+f->k<=cntS len cs (y-a).toNat a->(hopP len cs f k a).length=k/\XB (hopP len cs f k a) a<=y
 |0,k,a,y,h1,h2,h3=>by
  obtain rfl:y=a:=by omega
  rw[show(y-y).toNat=0 by omega]at h3
  obtain rfl:k=0:=by grind [cntS]
  exact⟨rfl,h1⟩
 |f+1,k,a,y,h1,h2,h3=>by
  by_cases hk:k=0
  ·subst hk
   rw[Ydj]
   exact⟨rfl,h1⟩
  have hlt:a<y:=by
   by_cases e:a=y
   ·simp_all [cntS]
   ·omega
  rw[show(y-a).toNat=(y-(a+1)).toNat+1 by omega,cntS]at h3
  have hs:=Qw len a cs k
  obtain⟨e1,e2⟩:=Yia (len:=len) (cs:=cs) f (k-(Xs len a cs k).length) (a+1) y (by omega) (by omega) (by omega)
  rw[hopP,Tt,e1,QG]
  refine⟨by omega,YoU e2 ?_⟩
  grind [XB,Oo]
def WayT(len:Int)(C:Lk->List Cel):List Lk->Int->Int->Prop
 |[],a,y=>a<=y
 |l::ls,a,y=>∃z,a<=z/\Y2 l<=cntS len (C l) (z-a).toNat a/\WayT len C ls z y
variable {C:Lk->List Cel}
theorem WayT.le{len:Int}:∀{ls:List Lk}{a y:Int},WayT len C ls a y->a<=y
 |[],_,_,h=>h
 |_::_,_,_,⟨_,h1,_,h3⟩=>Int.le_trans h1 h3.le
theorem Yml{len:Int}{C:Lk->List Cel}{endd:Int}:∀{ls:List Lk}{a a' y:Int},WayT len C ls a y->a'<=a->y<=endd->(runP len C endd ls a').length=Zq ls/\XB (runP len C endd ls a') a'<=y
 |[],a,a',y,h,h1,_=>⟨rfl,Int.le_trans h1 h⟩
 |l::ls,a,a',y,⟨z,h1,h2,h3⟩,h4,h5=>by
  have hz:=h3.le
  obtain⟨e1,e2⟩:=Yia (len:=len) (cs:=C l) (endd-a').toNat (Y2 l) a' z (by omega) (by omega) (TX h2 (Ym8 len (C l) h4 h1))
  obtain⟨i1,i2⟩:=Yml (endd:=endd) h3 e2 h5
  simp_all [runP,QG,Zq]
theorem WayT.mono{len:Int}{D:Lk->List Cel}(h:∀l a,slC len (C l) a<=slC len (D l) a):∀{ls:List Lk}{a y:Int},WayT len C ls a y->WayT len D ls a y
 |[],_,_,hw=>hw
 |l::ls,a,y,⟨z,h1,h2,h3⟩=>by
  refine⟨z,h1,TX h2 ?_,h3.mono h⟩
  have:∀(m:Nat) (a:Int),cntS len (C l) m a<=cntS len (D l) m a:=λm=>by
   induction m with
   |zero=>exactλ_=>TK _
   |succ m ih=>grind [cntS]
  simp_all
theorem Yly{S:Int->Option (List Int)}{len per d:Int}(hp:1<=per):∀{fuel:Nat}{rel:Int}{b:Int×Int×List Int},b.1<=d->(∀i:Nat,rel+i*per<len->∃l,S (rel+i*per)=some l/\Zk l-(rel+i*per)+1<=d)->∃r,UI S len per fuel rel b=some r/\r.1<=d
 |0,rel,b,hb,_=>⟨b,rfl,hb⟩
 |fuel+1,rel,b,hb,h=>by
  rw[UI]
  by_cases hle:len<=rel
  ·simp_all
  rw[Tj hle]
  obtain⟨l,h1,h2⟩:=h 0 (by omega)
  have h1:S rel=some l:=by simp_all
  rw[h1]
  refine Yly hp ?_ λi hi=>?_
  ·grind
  ·have e:rel+((i+1:Nat):Int)*per=rel+per+(i:Int)*per:=by
    grind
   have:=h (i+1) (by omega)
   simp_all
theorem Yoh{n:Net}{s:Sch}{f:Flw}{r:List Int}{rel:Int}(hne:Yp n r≠[])(hloss:∀x∈Yp n r,0<=x.2.2)(hy:y<=rel+f.2.2.2.1)(h:WayT s.len (XT s f.1) (Yp n r) rel y):
 ∃l,Zx n s f r rel=some l/\Zk l-rel+1<=y-rel:=by
 obtain⟨h1,h2⟩:=Yml (endd:=rel+f.2.2.2.1) h (SK _) hy
 refine⟨(runP s.len (XT s f.1) (rel+f.2.2.2.1) (Yp n r) rel).map Prod.snd,?_,?_⟩
 ·simp_all [Zx,YgQ]
 ·have hn:1<=Zq (Yp n r):=by
   cases hl:Yp n r with
   |nil=>simp_all
   |cons x xs=>
    grind [Zq,Y2]
  have:=Ykt (x:=runP s.len (XT s f.1) (rel+f.2.2.2.1) (Yp n r) rel) (a:=rel) (λe=>by grind)
  omega
structure Sm(n:Net)(l:List Flw)(s:Sch):Prop where
 ck:Yl n=0
 fl:(YB n.nodes l).2=0
 per:∀f∈l,s.len.tmod f.2.2.2.1=0
 sized:Zw s=true
 formed:∀c∈s.cells,XJ s c=true
 ord:Ord s.cells
 good:∀c∈s.cells,YX n (YF c) (toC c)=true/\0<=ZB l (XE c)
 once:s.cells.Pairwise λa b=>a.1=b.1->Yx a b=false
 clear:∀c∈s.cells,VW n s.cells c=true
variable {n:Net}{l:List Flw}{s:Sch}
theorem Sem.sm(h:Sem n l s):Sm n l s:=⟨h.ck,h.fl,h.per,h.frm.sized,h.frm.formed,h.frm.ord,h.good,h.once,h.clear⟩
theorem Sm.sem(h:Sm n l s)(hl:s.cells.length<=512):Sem n l s:=⟨h.ck,h.fl,h.per,⟨h.sized,hl,h.formed,h.ord⟩,h.good,h.once,h.clear⟩
theorem YfM{node:Int}{l m:List Cel}(h:l.Perm m):Go.Proofs.YtjommdkgfbhbdaaGreatDoor.sumC n node l=Go.Proofs.YtjommdkgfbhbdaaGreatDoor.sumC n node m:=by
 induction h with
 |nil=>rfl
 |cons a _ ih=>simp_all [ZG]
 |swap a b l=>rw[ZG,ZG,ZG,ZG];omega
 |trans _ _ h1 h2=>omega
variable {slot o a b:Int}
theorem YhZ{l:List Cel}(h:fitE n l slot o a b=true)(id:Int):(∀d∈l,d.1=slot->Yx d (slot,o,a,b,id)=false)/\JE n (l.filter (atP slot o)++[(slot,o,a,b,id)])=true:=by
 unfold fitE at h
 rw[Tq]at h
 obtain⟨h1,h2⟩:=h
 refine⟨λd hd e=>?_,?_⟩
 ·rw[R9,RE]at h1
  have:=h1 d hd
  rw[Tf e,RD,Bool.not_eq_true]at this
  rw[<-this]
  exact(Ou (c:=(slot,o,a,b,id)) (c':=(0,0,a,b,0)) rfl rfl).2
 ·rw[<-h2,Ydg (c':=(slot,o,a,b,id)) rfl rfl,Ydg (c:=(0,0,a,b,0)) (c':=(slot,o,a,b,id)) rfl rfl]
theorem YrD{l:List Cel}(h:fitE n l slot o a b=true)(id:Int):(slot,o,a,b,id)∉l:=λhm=>by
 have:=(YhZ h id).1 _ hm rfl
 grind [Yx]
theorem Yh9{m d:Int}(h:Zu n m d=true):XQ n m d=true:=by
 simp_all [Zu]
theorem Sm.ins(h:Sm n l s){id:Int}(hs:0<=slot/\slot<s.len)(ho:0<=o/\o<s.off)(hg:YX n a b=true)(hid:0<=ZB l id)(hib:0<=id/\id<256)(hfit:fitE n s.cells slot o a b=true):
 Sm n l ⟨s.len,s.off,insC s.cells (slot,o,a,b,id)⟩:=by
 have hok:=YO h.ck
 have hgn:=Xo hok hg
 have hn:=hok.n1
 obtain⟨ht,hgl⟩:=YhZ hfit id
 have hnew:=YrD hfit id
 have hperm:=Yie s.cells (slot,o,a,b,id)
 refine⟨h.ck,h.fl,h.per,h.sized,λc hc=>?_,YrO h.ord hnew,λc hc=>?_,?_,λc hc=>?_⟩
 ·rcases OM.1 hc with rfl|hc
  ·grind [XJ,XK,insE]
  ·exact h.formed c hc
 ·rcases OM.1 hc with rfl|hc
  ·exact⟨hg,hid⟩
  ·exact h.good c hc
 ·refine(hperm.pairwise_iff (λ{x y} hxy e=>by rw[Jn];simp_all)).2 (.cons (λd hd e=>?_) h.once)
  rw[Jn]
  grind
 ·by_cases hp:c.1=slot/\c.2.1=o
  ·have hX:(s.cells.filter (atP slot o)++[(slot,o,a,b,id)]).Nodup:=by
    rw[ND]
    refine⟨(YfA h.ord).sublist SO,by simp,λx hx y hy e=>?_⟩
    rw[Ru.1 hy]at e
    subst e
    exact hnew (RU.1 hx).1
   generalize hXe:s.cells.filter (atP slot o)++[(slot,o,a,b,id)]=X at hX hgl
   have hcX:c∈X:=by
    rw[<-hXe]
    rcases OM.1 hc with rfl|hc
    ·simp
    ·exact List.mem_append_left _ (RU.2 ⟨hc,Tf hp⟩)
   obtain⟨j,hj⟩:=TP.1 hcX
   have hjl:=(Tu.1 hj).1
   have hd:∀node,Yu n X j node X.length=UP n (insC s.cells (slot,o,a,b,id)) c node:=λnode=>by
    rw[YcT hX hj node _ (TK _),TI]
    refine YfM ?_
    have e1:(insC s.cells (slot,o,a,b,id)).filter (λd=>Y9 c d&&decide (d≠c))=((insC s.cells (slot,o,a,b,id)).filter (Y9 c)).filter λd=>decide (d≠c):=by
     rw[List.filter_filter]
     exact Nq λx _=>Bool.and_comm _ _
    rw[e1]
    refine List.Perm.filter _ ?_
    have e2:Y9 c=atP slot o:=by
     obtain⟨rfl,rfl⟩:=hp
     rfl
    rw[e2,<-hXe]
    refine List.Perm.trans ?_ (hperm.filter _).symm
    rw[Nx,Tn (show atP slot o (slot,o,a,b,id)=true from Tf ⟨rfl,rfl⟩)]
    exact Np
   unfold JE at hgl
   rw[Tq]at hgl
   have hpf:=TL.1 hgl.2 j (TQ.2 hjl)
   simp_all [celL,ZM,VW,Yh9]
  ·have hcs:c∈s.cells:=by
    rcases OM.1 hc with rfl|hc
    ·exact absurd ⟨rfl,rfl⟩ hp
    ·exact hc
   have hd:∀node,UP n (insC s.cells (slot,o,a,b,id)) c node=UP n s.cells c node:=λnode=>by
    unfold UP
    refine(YfM (hperm.filter _)).trans ?_
    rw[Nx,Tj]
    rw[Tq]
    rintro⟨h1,-⟩
    exact hp (by have:=TT h1;exact⟨this.1.symm,this.2.symm⟩)
   have:=h.clear c hcs
   unfold VW at this⊢
   rw[hd,hd]
   exact this
end Go.Proofs.YtjommdkgfbhbdaaGreatDoor
