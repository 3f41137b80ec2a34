/- Lemmas. -/
import Derived.Test.YtjommdkgfbhbdaaGreatDoorQ9
set_option maxRecDepth 100000
set_option maxHeartbeats 8000000
set_option linter.all false
namespace Go.Proofs.YtjommdkgfbhbdaaGreatDoor
open Go.RowKit Go.Eng Go.Nw Go.Rt
def relE(x:WayM)(a:Int):Int×List Int×Bool:=match Zx x.n.net x.s.sch x.f x.r a with
 |none=>(0,[],false)
 |some l=>(XR l-a+1,l.map (λz=>z-a),true)
theorem Oo(x:WayM)(a:Int):Zx x.n.net x.s.sch x.f x.r a=if(runW x a).length<XF (Yr x.n.net x.r)then none else some ((runW x a).map Prod.snd):=YbK _ _ _ _ _
variable {B:Nat}{w0 w:World}{H:List HP}
theorem Yho(x:WayM)(a:Int)(hw:St B w0 H w):
 CX B w0 217 [x.val,.int .i64 a] w λv K=>∃ga gw,v=.func (.func 291) #[] #[.pointer (some ⟨ga,0,none⟩),.pointer (some ⟨gw,0,none⟩)]/\K=intB ga a::wayB gw x::H:=by
 refine Ya Tryz.func217 Tryz.ntmps217 rfl rfl hw ?_
 unfold WayM.val intB
 repeat'(first|(first|(refine zs52 ?_;intro _)|(refine zs53 ?_;intro _))|((apply Yu;exact za;exact rfl))|refine zga ?_|fail)
 exact zc38
structure NlM where
 A:Option Addr
 cap:Nat
 l:List Int
variable {x:WayM}
theorem Yip(hok:JR x):1<=XF (Yr x.n.net x.r):=by
 have hl:=hok.len
 have h0:=UZ (n:=x.n.net) (r:=x.r) (i:=0) (by omega)
 have hbd:=WN hok h0
 have hne:(Yr x.n.net x.r)=XN x.n.net x.r 0::(Yr x.n.net x.r).tail:=by
  cases h:Yr x.n.net x.r with
  |nil=>simp_all
  |cons a t=>simp_all
 grind [XF,Y1]
theorem Ygo(x:WayM)(at0:Int)(hok:JR x)(hat:0<=at0/\at0<=1000000)(hi:x.In B w0 H)(hw:St B w0 H w):
 CX B w0 354 [x.val,.int .i64 at0] w λv K=>∃A cap,v=.tuple #[.int .i64 (relE x at0).1,.slice A (relE x at0).2.1.length cap,.bool (relE x at0).2.2]/\K=nrs A cap (relE x at0).2.1::H:=by
 refine ZK Tryz.func354 Tryz.ntmps354 rfl rfl hw ?_
 have hper:=hok.per
 have hl9:=hok.len
 have hnp:=Yip hok
 have hnl:XF (Yr x.n.net x.r)<=72:=by
  have h1:=QC hok (Yr x.n.net x.r).length
  rw[TC,JF]at h1
  omega
 have hRE:relE x at0=if(runW x at0).length<XF (Yr x.n.net x.r)then(0,[],false)else(XR ((runW x at0).map Prod.snd)-at0+1,((runW x at0).map Prod.snd).map (λz=>z-at0),true):=by
  unfold relE
  rw[Oo]
  by_cases h:(runW x at0).length<XF (Yr x.n.net x.r)
  ·rw[To h,To h]
  ·rw[Tf h,Tf h]
 have hWl:(runW x at0).length<=XF (Yr x.n.net x.r):=QP _ _ _ _ _
 have hWs:∀z∈runW x at0,at0<=z.2/\z.2<at0+x.f.2.2.2.1:=λz hz=>YbL (by omega) hz
 have hiter:=λ{ga gw:Nat}{H':List HP}(hi:x.In B w0 H')=>YfU x at0 hok hat ga gw hi
 have hxs:Ylk x at0=(runW x at0).map cntV:=rfl
 rw[hxs]at hiter
 obtain⟨W,hW⟩:∃W,runW x at0=W:=⟨_,rfl⟩
 obtain⟨nd,hnd⟩:∃nd,XF (Yr x.n.net x.r)=nd:=⟨_,rfl⟩
 have hned:=λ{H':List HP}{w:World}(hi:x.In B w0 H') (hw:St B w0 H' w)=>Yiq x hok hi hw
 rw[hW,hnd]at hRE hWl
 rw[hW]at hWs hiter
 rw[hnd]at hnp hnl hned
 rw[hRE]
 unfold WayM.val
 unfold intB at hiter
 repeat'(first|(apply zg23;first|(refine zs52 ?_;intro _)|(refine zs53 ?_;intro _))|refine zgb ?_|(refine zgh ?_;intro _)|fail)
 rename_i g2 g3 gO
 apply Yg _ YwL
 exact za
 exact rfl
 exactλ_ hw=>(Yho x at0 (hw))
 rintro _ _ ⟨ga,gw,rfl,rfl⟩
 unfold intB
 repeat'(first|refine zgb ?_|fail)
 refine XI 3 1 ?_
 refine ZL (gf:=291) (lb:=[.pointer (some ⟨ga,0,none⟩),.pointer (some ⟨gw,0,none⟩)]) (xs:=W.map cntV) (blk ga (.cells #[.int .i64 at0] 3 (0,0))::wayB gw x::blk g3 (.cells #[.int .i64 at0] 3 (0,0))::wayB g2 x::H) (λy:NlM=>[blk gO (.cells #[.slice y.A y.l.length y.cap] 24 (0,0)),nrs y.A y.cap y.l]) (λi y=>y.l=(W.take i).map (λz=>z.2-at0)) (λ_ _=>False) ⟨none,0,[]⟩ rfl Yxc (hiter hi.cons.cons) rfl ?_ (by kernel_rfl) (by kernel_rfl) ?_ rfl ?_ ?_ (λ_ _ _ h=>h.elim)
 ·intro args h
  obtain⟨z,_,rfl⟩:=TG.1 h
  rfl
 ·simp only[TJ,TF,RV]
  intro w hw
  have h1:St B w0 (nrs none 0 []::blk ga (.cells #[.int .i64 at0] 3 (0,0))::wayB gw x::blk gO (.cells #[.slice none 0 0] 24 (0,0))::blk g3 (.cells #[.int .i64 at0] 3 (0,0))::wayB g2 x::H) w:=hw
  clear hw
  revert w
  exact zc0
 ·rintro l k args R ⟨A,cap,xs⟩ hk hI
  rw[TU]at hk
  obtain⟨⟨d,sl⟩,hz,rfl⟩:∃z,W[k]? =some z/\args=cntV z:=by
   cases h:W[k]? with
   |none=>rw[h]at hk;cases hk
   |some z=>rw[h]at hk;exact⟨z,rfl,(Tz hk).symm⟩
  have hzb:=hWs _ (Tc hz)
  have hI:xs=(W.take k).map (λz=>z.2-at0):=hI
  have hxl:xs.length<=72:=by
   rw[hI,Tu,TO];omega
  dsimp only at hzb
  dsimp only[U5,cntV,List.cons_append,List.nil_append]
  repeat'(first|refine zga ?_|fail)
  apply Vh YB
  intro R'
  repeat'(first|refine zgd ?_|(refine zgh ?_;intro _)|(refine zgi ?_;intro _ _)|fail)
  rename_i A' cap'
  apply UJ (NlM.mk A' cap' (xs++[sl-at0]))
  ·show xs++[sl-at0]=_
   rw[TD,hz,Rx,TY,hI];rfl
  ·dsimp only[List.cons_append,List.nil_append]
   rw[JW,show xs.length+1=(xs++[sl-at0]).length by simp]
   exact zc0
 ·rintro D ⟨A,cap,xs⟩ hI
  have hI:xs=(W.take (W.map cntV).length).map (λz=>z.2-at0):=hI
  rw[Tu,TC]at hI
  have hxl:xs.length=W.length:=by rw[hI,Tu]
  dsimp only[List.cons_append,List.nil_append]
  have hll:((W.map Prod.snd).map (λz=>z-at0))=xs:=by rw[hI,Ny];rfl
  by_cases hlt:W.length<nd
  ·rw[To hlt]
   repeat'(first|refine zgc ?_|fail)
   apply Y8 [0,1,2,3,4] []
   kernel_rfl
   kernel_rfl
   (simp only[Yd,nthO];rfl)
   exact rfl
   repeat'(first|refine zgd ?_|fail)
   apply Yb Ytu
   exact za
   exact rfl
   exactλ_ hw=>(hned (hi.mono zc0) hw)
   repeat'(first|(apply Yh;(repeat(first|with_reducible exact Y7|(with_reducible apply Y0;(repeat(first|with_reducible exact YB|with_reducible apply YR))))))|refine zga ?_|fail)
   ·show Perm H (H++[])
    exact zc37
   repeat'(first|refine zgd ?_|(refine zge ?_ ?_<;>intro _<;>try exact zo)|fail)
   apply Z2 YB
   apply VQ_m
   apply Yf (nrs none 0 []::H)
   ·intro w hw
    have h5:St B w0 H w:=by
     revert w
     exact zc0
    exact YdU
   apply Jh;(iterate 4 exact rfl)
   exact⟨none,0,rfl,rfl⟩
  ·rw[Tf hlt,hll]
   obtain⟨z,hz⟩:∃z,W[W.length-1]? =some z:=⟨_,Ta (by omega)⟩
   have hzb:=hWs _ (Tc hz)
   have hx1:xs[((xs.length:Int)-1).toNat]? =some (z.2-at0):=by
    rw[show((xs.length:Int)-1).toNat=W.length-1 by omega,hI,TU,hz];rfl
   have hla:XR (W.map Prod.snd)=z.2:=by
    unfold XR
    rw[Tu,TB,TU,hz];rfl
   rw[hla]
   repeat'(first|refine zgc ?_|fail)
   apply Y8 [0,1,2,3,4] []
   kernel_rfl
   kernel_rfl
   (simp only[Yd,nthO];rfl)
   exact rfl
   repeat'(first|refine zgd ?_|fail)
   apply Yb Ytu
   exact za
   exact rfl
   exactλ_ hw=>(hned (hi.mono zc0) hw)
   repeat'(first|(apply Yh;(repeat(first|with_reducible exact Y7|(with_reducible apply Y0;(repeat(first|with_reducible exact YB|with_reducible apply YR))))))|refine zga ?_|fail)
   ·show Perm H (H++[])
    exact zc37
   repeat'(first|refine zgd ?_|(refine zge ?_ ?_<;>intro _<;>try exact zo)|fail)
   apply Z2 YB
   apply VQ_m
   apply Yf (nrs A cap xs::H)
   ·exact zc0
   apply Jh;(iterate 4 exact rfl)
   exact⟨A,cap,rfl,rfl⟩
def UM(R:Option (Int×Int×List Int)):Int×Int×List Int×Bool:=match R with
 |none=>(0,0,[],false)
 |some b=>(b.1,b.2.1,b.2.2,true)
def ZT(x:WayM):Int×Int×List Int×Bool:=UM (ZS x.n.net x.s.sch x.f x.r)
theorem YdD(hok:JR x){a:Int}{l:List Int}(h:Zx x.n.net x.s.sch x.f x.r a=some l):1<=l.length/\a<=XR l/\XR l<a+x.f.2.2.2.1:=by
 have hper:=hok.per
 have hnp:=Yip hok
 rw[Oo]at h
 split at h
 ·cases h
 obtain rfl:=Tz h
 rw[Tu]
 obtain⟨z,hz⟩:∃z,(runW x a)[(runW x a).length-1]? =some z:=⟨_,Ta (by omega)⟩
 have hzb:=YbL (by omega) (Tc hz)
 have hla:XR ((runW x a).map Prod.snd)=z.2:=by
  grind [XR]
 omega
structure BdM where
 k:Nat
 rel:Int
 b:Int×Int×List Int
 A:Option Addr
 cap:Nat
theorem YjF(x:WayM)(hok:JR x)(hi:x.In B w0 H)(hw:St B w0 H w):
 CX B w0 290 [x.val] w λv K=>∃A cap,v=.tuple #[.int .i64 (ZT x).1,.int .i64 (ZT x).2.1,.slice A (ZT x).2.2.1.length cap,.bool (ZT x).2.2.2]/\K=nrs A cap (ZT x).2.2.1::H:=by
 refine Ya Tryz.func290 Tryz.ntmps290 rfl rfl hw ?_
 have hper:=hok.per
 have hph:=hok.ph
 have hsl:=hok.slen
 obtain⟨R,hR⟩:∃R,ZS x.n.net x.s.sch x.f x.r=R:=⟨_,rfl⟩
 have hO:ZT x=UM R:=by unfold ZT;rw[hR]
 rw[hO]
 unfold ZS at hR
 rw[show x.s.sch.len=x.s.len from rfl]at hR
 obtain⟨S,hS⟩:∃S,Zx x.n.net x.s.sch x.f x.r=S:=⟨_,rfl⟩
 rw[hS]at hR
 have hrl:=λ{H':List HP}{w:World}(a:Int) (ha:0<=a/\a<=1000000) (hi:x.In B w0 H') (hw:St B w0 H' w)=>Ygo x a hok ha hi hw
 unfold WayM.val
 repeat'(first|refine zgb ?_|(refine zgh ?_;intro _)|fail)
 rename_i g
 refine XI 3 1 ?_
 refine Ye (λz:BdM=>[(9,.int .i64 z.rel),(8,.slice z.A z.b.2.2.length z.cap),(7,.int .i64 z.b.2.1),(6,.int .i64 z.b.1),(1,.pointer (some ⟨g,0,none⟩))]) (λz=>nrs z.A z.cap z.b.2.2::wayB g x::H)
  (λz=>Ji S x.s.len x.f.2.2.2.1 z.k z.rel z.b=R/\x.s.len-z.rel<=z.k/\0<=z.rel/\z.rel<=2000/\0<=z.b.1/\z.b.1<=2000) (λz=>z.k) ⟨x.s.len.toNat,x.f.2.2.2.2.1,(0,0,[]),none,0⟩ ⟨hR,by exact YuP,hph.1,by show x.f.2.2.2.2.1<=2000;omega,RP _,by show(0:Int)<=2000;decide⟩ ?_ (λw hw=>hw) ?_
 ·exact zc1
 rintro⟨k,rel,⟨b1,b2,bl⟩,A,cap⟩ ⟨hb,hk,h0,h1,hb0,hb1⟩ K hK
 dsimp only at hb hk h0 h1 hb0 hb1⊢
 by_cases hge:x.s.len<=rel
 ·have hRe:R=some (b1,b2,bl):=by
   rw[<-hb]
   cases k with
   |zero=>rfl
   |succ k=>unfold Ji;rw[To hge]
  rw[hRe]
  clear hK
  repeat'(first|refine zgc ?_|(refine zge ?_ ?_<;>intro _<;>try exact zo)|fail)
  apply Yf (nrs A cap bl::H)
  ·exact zc0
  exact Yuq
 obtain⟨k,rfl⟩:∃k',k=k'+1:=⟨k-1,by omega⟩
 unfold Ji at hb
 rw[Tf hge]at hb
 have hrr:=λ{H':List HP}{w:World}(hi:x.In B w0 H') (hw:St B w0 H' w)=>hrl rel (by omega) hi hw
 unfold relE at hrr
 rw[hS]at hrr
 cases hSr:S rel with
 |none=>
  rw[hSr]at hb hrr
  dsimp only at hb hrr
  rw[<-hb]
  clear hK
  repeat'(first|refine zgb ?_|(refine zge ?_ ?_<;>intro _<;>try exact zo)|fail)
  apply Yg _ Ytm
  exact za
  exact rfl
  exactλ_ hw=>(hrr (hi.mono zc0) (hw))
  rintro _ _ ⟨A2,cap2,rfl,rfl⟩
  repeat'(first|refine zgd ?_|fail)
  apply Yf (nrs none 0 []::H)
  ·intro w hw
   have h5:St B w0 H w:=by
    revert w
    exact zc0
   exact YdU
  exact zc45
 |some l=>
  rw[hSr]at hb hrr
  dsimp only at hb hrr
  have hlb:0<=XR l-rel+1/\XR l-rel+1<=513:=by
   have:=YdD hok (a:=rel) (l:=l) (by rw[hS];exact hSr)
   omega
  obtain⟨m,hm⟩:∃m,XR l-rel+1=m:=⟨_,rfl⟩
  rw[hm]at hb hrr hlb
  repeat'(first|refine zgb ?_|(refine zge ?_ ?_<;>intro _<;>try exact zo)|fail)
  apply Yg _ Ytm
  exact za
  exact rfl
  exactλ_ hw=>(hrr (hi.mono zc0) (hw))
  rintro _ _ ⟨A2,cap2,rfl,rfl⟩
  by_cases hgt:b1<m
  ·rw[To hgt]at hb
   repeat'(first|refine zgd ?_|(refine zgf ?_ ?_<;>intro _<;>try exact zo)|fail)
   apply hK ⟨k,rel+x.f.2.2.2.1,(m,rel,l.map λz=>z-rel),A2,cap2⟩
   ·exact⟨hb,by exact YuT,by show 0<=rel+x.f.2.2.2.1;omega,by show rel+x.f.2.2.2.1<=2000;omega,hlb.1,by show m<=2000;omega⟩
   ·exact zc73
   ·exact zc1
   ·exact zc0
  ·rw[Tf hgt]at hb
   repeat'(first|refine zgd ?_|(refine zgf ?_ ?_<;>intro _<;>try exact zo)|fail)
   apply hK ⟨k,rel+x.f.2.2.2.1,(b1,b2,bl),A,cap⟩
   ·exact zc91
   ·exact zc73
   ·exact zc1
   ·exact zc0
abbrev flws(A:Option Addr)(cap:Nat)(l:List Flw):HP:=sl 45 6 A l.length cap (l.flatMap flwF)
theorem Uo(A:Option Addr)(cap:Nat)(l:List Flw)(f:Flw):sl 45 6 A (l.length+1) cap (l.flatMap flwF++#[.int .i64 f.1,.int .i64 f.2.1,.int .i64 f.2.2.1,.int .i64 f.2.2.2.1,.int .i64 f.2.2.2.2.1,.int .i64 f.2.2.2.2.2].toList)=flws A cap (l++[f]):=by simp[flws,List.flatMap_append,flwF]
structure FlM where
 i:Nat
 A:Option Addr
 cap:Nat
def RqM.fl(q:List RqM):List Flw:=q.map (·.f)
variable {A:Option Addr}{cap B:Nat}{w0 w:World}{H:List HP}
theorem YaC(q:List RqM)(hl:q.length<=1000000000000)(hr:Rd B w0 H A (q.flatMap rqF))(hw:St B w0 H w):
 CX B w0 181 [.slice A q.length cap] w λv K=>∃A2 cap2,v=.slice A2 (RqM.fl q).length cap2/\K=flws A2 cap2 (RqM.fl q)::H:=by
 refine Ya Tryz.func181 Tryz.ntmps181 rfl rfl hw ?_
 repeat'(first|refine zgb ?_|fail)
 refine XI 45 6 ?_
 refine Ye (λz:FlM=>[(8,.int .i64 (z.i:Nat)),(7,.int .i64 q.length),(6,.slice A q.length cap),(3,.slice z.A (RqM.fl (q.take z.i)).length z.cap)]) (λz=>flws z.A z.cap (RqM.fl (q.take z.i))::H) (λz=>z.i<=q.length) (λz=>q.length-z.i) ⟨0,none,0⟩ (Td _) ?_ (λw hw=>hw) ?_
 ·exact zu
 rintro⟨i,A2,cap2⟩ hi K hK
 dsimp only at hi⊢
 have hlen:(RqM.fl (q.take i)).length=i:=by grind [Go.Proofs.YtjommdkgfbhbdaaGreatDoor.RqM.fl]
 have hr':=hr.cons (X:=flws A2 cap2 (RqM.fl (q.take i)))
 by_cases hlt:i<q.length
 ·obtain⟨x,hx⟩:∃x,q[i]? =some x:=⟨_,Ta hlt⟩
  have hst:RqM.fl (q.take (i+1))=RqM.fl (q.take i)++[x.f]:=by grind [Go.Proofs.YtjommdkgfbhbdaaGreatDoor.RqM.fl,TD]
  repeat'(first|refine Yi T ?_|refine zgd ?_|(refine zge ?_ ?_<;>intro _<;>try exact zo)|(refine zgh ?_;intro _)|(refine zgi ?_;intro _ _)|fail)
  rename_i A' cap'
  rw[Uo,<-hst,show(RqM.fl (q.take i)).length+1=(RqM.fl (q.take (i+1))).length from by rw[hst];simp]
  apply hK ⟨i+1,A',cap'⟩
  ·show i+1<=_
   omega
  ·dsimp only;omega
  ·exact zu
  ·exact zk
 ·obtain rfl:i=q.length:=by omega
  rw[TC]
  repeat'(first|refine zgc ?_|(refine zge ?_ ?_<;>intro _<;>try exact zo)|fail)
  apply Yc;exact rfl;exact rfl
  exact⟨A2,cap2,rfl,rfl⟩
variable {x:RqM}
theorem Uy{k:Nat}{r:RowM}(h:x.rows[k]? =some r):rtAt x.rq.2 k=r.xs:=by
 have h2:x.rq.2[k]? =some r.xs:=by
  show(x.rows.map (·.xs))[k]? =_
  simp_all
 grind [Yff]
theorem Q9(n:NetM)(x:RqM)(hin:n.In B w0 H)(hx:x.In B w0 H)(hw:St B w0 H w):
 CX B w0 260 [n.val,rqV x] w λv K=>v=.int .i64 (rtsE n.net x.rq)/\K=H:=by
 refine Ya Tryz.func260 Tryz.ntmps260 rfl rfl hw ?_
 have hln:x.rq.2.length=x.rows.length:=by unfold RqM.rq;rw[Tu]
 have hlx:=hx.ln
 have e1:x.rq.1=x.f:=rfl
 unfold rtsE
 rw[hln,e1]
 have p1:=λ{H':List HP}{w:World}(r:RowM) (hr:r∈x.rows) (hin:n.In B w0 H') (hx:x.In B w0 H') (hw:St B w0 H' w)=>YbQ n x.f.2.1 x.f.2.2.1 r.xs (cap:=r.cap) hin (hx.rw_ r hr) (TX (hx.rl r hr).1 (by decide)) (hx.rl r hr).2 hw
 unfold NetM.val rqV
 by_cases h0:x.rows.length=0
 ·rw[To h0]
  repeat'(first|refine zgb ?_|(refine zge ?_ ?_<;>intro _<;>try exact zo)|(refine zgh ?_;intro _)|fail)
  apply Yf H
  ·exact zc0
  exact zc3
 rw[Tf h0]
 by_cases h2:2<x.rows.length
 ·rw[To h2]
  repeat'(first|refine zgb ?_|(refine zgf ?_ ?_<;>intro _<;>try exact zo)|(refine zgh ?_;intro _)|fail)
  apply Yf H
  ·exact zc0
  exact zc3
 rw[Tf h2]
 obtain⟨F,hF⟩:∃F,(λk=>Xw n.net x.f.2.1 x.f.2.2.1 (rtAt x.rq.2 k))=F:=⟨_,rfl⟩
 rw[hF]
 have hFv:∀{k:Nat}{r:RowM},x.rows[k]? =some r->F k=Xw n.net x.f.2.1 x.f.2.2.1 r.xs:=λh=>by rw[<-hF];show Xw _ _ _ _=_;rw[Uy h]
 repeat'(first|refine zgb ?_|(refine zgf ?_ ?_<;>intro _<;>try exact zo)|(refine zgh ?_;intro _)|fail)
 rename_i gn gx _ _
 refine Ye (λk:Nat=>[(19,.int .i64 (k:Nat)),(18,.int .i64 x.rows.length),(17,.slice x.A x.rows.length x.cap),(3,.pointer (some ⟨gx,0,none⟩)),(2,.pointer (some ⟨gn,0,none⟩))]) (λ_=>rqA gx x::netA gn n::H) (λk=>k<=x.rows.length/\∀j,0<=j->j<k->F j=0) (λk=>x.rows.length-k) 0 ⟨Td _,λj _ h=>absurd h (Re _)⟩ ?_ (λw hw=>hw) ?_
 ·exact zc1
 rintro k ⟨hk,hz⟩ K hK
 have hrt:Rd B w0 (rqA gx x::netA gn n::H) x.A (x.rows.flatMap rowF):=hx.rt.cons.cons
 by_cases hlt:k<x.rows.length
 ·obtain⟨r,hr⟩:∃r,x.rows[k]? =some r:=⟨_,Ta hlt⟩
  have hFk:=hFv hr
  have p2:=λ{H':List HP}{w:World}(hin:n.In B w0 H') (hx:x.In B w0 H') (hw:St B w0 H' w)=>p1 r (Tc hr) hin hx hw
  rw[<-hFk]at p2
  by_cases hFz:F k=0
  ·rw[hFz]at p2
   repeat'(first|((apply Yb Yo2);exact za;exact rfl;exactλ_ hw=>(p2 (hin.mono zk) (hx.mono zk) hw))|refine zgd ?_|(refine zge ?_ ?_<;>intro _<;>try exact zo)|fail)
   apply hK (k+1)
   ·exact Yui
   ·omega
   ·exact zc1
   ·exact zc0
  ·have hfe:=Xe (f:=F) (r:=x.rows.length) (i0:=0) (i:=k) (λj h1 h2=>hz j h1 h2) (Td _) (by omega) hFz
   rw[hfe,To hFz]
   clear hK
   repeat'(first|((apply Yb Yo2);exact za;exact rfl;exactλ_ hw=>(p2 (hin.mono zk) (hx.mono zk) hw))|refine zgd ?_|(refine zge ?_ ?_<;>intro _<;>try exact zo)|fail)
   apply Yf H
   ·exact zc0
   exact zc3
 ·obtain rfl:k=x.rows.length:=by omega
  have hfe:=Xn (f:=F) (r:=x.rows.length) (i0:=0) λj h1 h2=>hz j h1 (by omega)
  rw[hfe,Tf (λe=>e rfl)]
  clear hK
  by_cases h3:x.rows.length=2
  rotate_left
  ·rw[Tf (λe=>h3 e.1)]
   repeat'(first|(apply zg28;refine zs84 ?_)|refine zgd ?_|(refine zge ?_ ?_<;>intro _<;>try exact zo)|fail)
   apply Yf H
   ·exact zc0
   exact zc3
  obtain⟨r0,hr0⟩:∃r,x.rows[0]? =some r:=⟨_,Ta (by omega)⟩
  obtain⟨r1,hr1⟩:∃r,x.rows[1]? =some r:=⟨_,Ta (by omega)⟩
  rw[Uy hr0,Uy hr1]
  have p3:=λ{H':List HP}{w:World}(hx:x.In B w0 H') (hw:St B w0 H' w)=>YaF r0.xs r1.xs (cap:=r0.cap) (cap2:=r1.cap) (TX (hx.rl r0 (Tc hr0)).1 (by decide)) (TX (hx.rl r1 (Tc hr1)).1 (by decide)) (hx.rw_ r0 (Tc hr0)) (hx.rw_ r1 (Tc hr1)) hw
  by_cases heq:r0.xs=r1.xs
  ·rw[To ⟨h3,heq⟩]
   rw[Ti heq]at p3
   repeat'(first|refine zgc ?_|(refine zge ?_ ?_<;>intro _<;>try exact zo)|fail)
   apply Y8 [0,1,2,3,4,5,6,7,8,9,10,11,12,13,14] []
   kernel_rfl
   kernel_rfl
   (simp only[Yd,nthO];rfl)
   exact rfl
   repeat'(first|refine zgd ?_|(refine zge ?_ ?_<;>intro _<;>try exact zo)|fail)
   apply Yb Yo0
   exact za
   exact rfl
   exactλ_ hw=>(p3 (hx.mono zc0) hw)
   repeat'(first|(apply Yh;(repeat(first|with_reducible exact Y7|(with_reducible apply Y0;(repeat(first|with_reducible exact YB|with_reducible apply YR))))))|refine zgd ?_|fail)
   ·show Perm H (H++[])
    exact zc37
   repeat'(first|fail)
   apply Yf H
   ·exact zc0
   exact zc3
  ·rw[Tf (λe=>heq e.2)]
   rw[Tn heq]at p3
   repeat'(first|refine zgc ?_|(refine zge ?_ ?_<;>intro _<;>try exact zo)|fail)
   apply Y8 [0,1,2,3,4,5,6,7,8,9,10,11,12,13,14] []
   kernel_rfl
   kernel_rfl
   (simp only[Yd,nthO];rfl)
   exact rfl
   repeat'(first|refine zgd ?_|(refine zge ?_ ?_<;>intro _<;>try exact zo)|fail)
   apply Yb Yo0
   exact za
   exact rfl
   exactλ_ hw=>(p3 (hx.mono zc0) hw)
   repeat'(first|(apply Yh;(repeat(first|with_reducible exact Y7|(with_reducible apply Y0;(repeat(first|with_reducible exact YB|with_reducible apply YR))))))|refine zgd ?_|fail)
   ·show Perm H (H++[])
    exact zc37
   repeat'(first|fail)
   apply Yf H
   ·exact zc0
   exact zc3
theorem YeP(q:List RqM):RqM.fl q=YG (q.map RqM.rq):=by unfold RqM.fl YG;rw[Ny];rfl
theorem QN{q:List RqM}{i:Nat}(h:q[i]? =some x):rqAt (q.map RqM.rq) i=x.rq:=by
 have h2:(q.map RqM.rq)[i]? =some x.rq:=by simp_all
 grind [Vk]
theorem Yef(n:NetM)(q:List RqM)(hin:n.In B w0 H)(hq:QIn B w0 H A q)(hw:St B w0 H w):
 CX B w0 179 [n.val,.slice A q.length cap] w λv K=>v=.tuple #[.int .i64 (rqsE n.net (q.map RqM.rq)).1,.int .i64 (rqsE n.net (q.map RqM.rq)).2]/\K=H:=by
 refine Ya Tryz.func179 Tryz.ntmps179 rfl rfl hw ?_
 have hql:=hq.ln
 have hqr:=hq.rd
 have p1:=λ{H':List HP}{w:World}(hin:n.In B w0 H') (hw:St B w0 H' w)=>Xa n hin hw
 have p2:=λ{H':List HP}{w:World}(hq:QIn B w0 H' A q) (hw:St B w0 H' w)=>YaC q (cap:=cap) hql hq.rd hw
 have p3:=λ{A2:Option Addr}{cap2:Nat}{H':List HP}{w:World}(hr:Rd B w0 H' A2 ((RqM.fl q).flatMap flwF)) (hw:St B w0 H' w)=>Y3 n.nodes (RqM.fl q) Yl3 (cap:=cap2) hr hw
 unfold rqsE
 rw[<-YeP,Tu]
 rw[show n.net.nodes=n.nodes from rfl]
 obtain⟨c,hc⟩:∃c,Yo n.net=c:=⟨_,rfl⟩
 obtain⟨⟨fi,fe⟩,hf⟩:∃f,Yt n.nodes (RqM.fl q)=f:=⟨_,rfl⟩
 obtain⟨F,hF⟩:∃F,(λi=>rtsE n.net (rqAt (q.map RqM.rq) i))=F:=⟨_,rfl⟩
 rw[hc]at p1⊢
 rw[hf]at p3⊢
 rw[hF]
 dsimp only at p3⊢
 have hFv:∀{k:Nat}{x:RqM},q[k]? =some x->F k=rtsE n.net x.rq:=λh=>by rw[<-hF];show rtsE _ _=_;rw[QN h]
 unfold NetM.val
 by_cases h0:c=0
 rotate_left
 ·rw[To h0]
  repeat'(first|((apply Yb XQ);exact za;exact rfl;exactλ_ hw=>(p1 hin.cons hw))|refine zgb ?_|(refine zge ?_ ?_<;>intro _<;>try exact zo)|(refine zgh ?_;intro _)|fail)
  apply Yf H
  ·exact zc0
  exact zc4
 subst h0
 rw[Tf (λe=>e rfl)]
 by_cases h1:fe=0
 rotate_left
 ·rw[To h1]
  repeat'(first|((apply Yb XQ);exact za;exact rfl;exactλ_ hw=>(p1 hin.cons hw))|refine zgb ?_|(refine zge ?_ ?_<;>intro _<;>try exact zo)|(refine zgh ?_;intro _)|fail)
  apply YC [0,1,2,3,4,5,6,7,8,9] [] [true]
  kernel_rfl
  kernel_rfl
  exact zy
  (simp only[Yd,nthO];rfl)
  exact rfl
  repeat'(first|refine zgd ?_|fail)
  apply Yg _ Yln
  exact za
  exact rfl
  exactλ_ hw=>(p2 (hq.mono zc0) (hw))
  rintro _ _ ⟨A2,cap2,rfl,rfl⟩
  repeat'(first|(apply Yh;(repeat(first|with_reducible exact Y7|(with_reducible apply Y0;(repeat(first|with_reducible exact YB|with_reducible apply YR))))))|refine zgd ?_|fail)
  apply Yb en39
  exact za
  exact rfl
  exactλ_ hw=>(p3 (Rd.sl (by(focus exact zc2))) hw)
  repeat'(first|(apply Yh;(repeat(first|with_reducible exact Y7|(with_reducible apply Y0;(repeat(first|with_reducible exact YB|with_reducible apply YR))))))|refine zgd ?_|(refine zge ?_ ?_<;>intro _<;>try exact zo)|fail)
  apply Yf H
  ·exact zc0
  exact zc4
 subst h1
 rw[Tf (λe=>e rfl)]
 repeat'(first|((apply Yb XQ);exact za;exact rfl;exactλ_ hw=>(p1 hin.cons hw))|refine zgb ?_|(refine zge ?_ ?_<;>intro _<;>try exact zo)|(refine zgh ?_;intro _)|fail)
 first|(rename_i gn;guard_hyp gn:Nat)|(rename_i gn _;guard_hyp gn:Nat)|(rename_i gn _ _;guard_hyp gn:Nat)
 apply YC [0,1,2,3,4,5,6,7,8,9] [] [true]
 kernel_rfl
 kernel_rfl
 exact zy
 (simp only[Yd,nthO];rfl)
 exact rfl
 repeat'(first|refine zgd ?_|fail)
 apply Yg _ Yln
 exact za
 exact rfl
 exactλ_ hw=>(p2 (hq.mono zc0) (hw))
 rintro _ _ ⟨A2,cap2,rfl,rfl⟩
 repeat'(first|(apply Yh;(repeat(first|with_reducible exact Y7|(with_reducible apply Y0;(repeat(first|with_reducible exact YB|with_reducible apply YR))))))|refine zgd ?_|fail)
 apply Yb en39
 exact za
 exact rfl
 exactλ_ hw=>(p3 (Rd.sl (by(focus exact zc2))) hw)
 repeat'(first|(apply Yh;(repeat(first|with_reducible exact Y7|(with_reducible apply Y0;(repeat(first|with_reducible exact YB|with_reducible apply YR))))))|refine zgd ?_|(refine zge ?_ ?_<;>intro _<;>try exact zo)|fail)
 refine Ye (λk:Nat=>[(28,.int .i64 (k:Nat)),(27,.int .i64 q.length),(26,.slice A q.length cap),(2,.pointer (some ⟨gn,0,none⟩))]) (λ_=>netA gn n::H) (λk=>k<=q.length/\∀j,0<=j->j<k->F j=0) (λk=>q.length-k) 0 ⟨Td _,λj _ h=>absurd h (Re _)⟩ ?_ ?_ ?_
 ·exact zc1
 ·exact zc0
 rintro k ⟨hk,hz⟩ K hK
 have hqr':Rd B w0 (netA gn n::H) A (q.flatMap rqF):=hqr.cons
 by_cases hlt:k<q.length
 ·obtain⟨x,hx⟩:∃x,q[k]? =some x:=⟨_,Ta hlt⟩
  have hFk:=hFv hx
  have hxi:=hq.x x (Tc hx)
  have p4:=λ{H':List HP}{w:World}(hin:n.In B w0 H') (hx:x.In B w0 H') (hw:St B w0 H' w)=>Q9 n x hin hx hw
  rw[<-hFk]at p4
  by_cases hFz:F k=0
  ·rw[hFz]at p4
   repeat'(first|((apply Yb Yta);exact za;exact rfl;exactλ_ hw=>(p4 (hin.mono zk) (hxi.mono zk) hw))|refine zgd ?_|(refine zge ?_ ?_<;>intro _<;>try exact zo)|(refine zgh ?_;intro _)|fail)
   apply hK (k+1)
   ·exact Yui
   ·omega
   ·exact zc1
   ·exact zc0
  ·have hfe:=Xe (f:=F) (r:=q.length) (i0:=0) (i:=k) (λj h1 h2=>hz j h1 h2) (Td _) (by omega) hFz
   rw[hfe]
   clear hK
   repeat'(first|((apply Yb Yta);exact za;exact rfl;exactλ_ hw=>(p4 (hin.mono zk) (hxi.mono zk) hw))|refine zgd ?_|(refine zge ?_ ?_<;>intro _<;>try exact zo)|(refine zgh ?_;intro _)|fail)
   apply Yf H
   ·exact zc0
   exact zc4
 ·obtain rfl:k=q.length:=by omega
  have hfe:=Xn (f:=F) (r:=q.length) (i0:=0) λj h1 h2=>hz j h1 (by omega)
  rw[hfe]
  clear hK
  repeat'(first|refine zgc ?_|(refine zge ?_ ?_<;>intro _<;>try exact zo)|fail)
  apply Yf H
  ·exact zc0
  exact zc4
open Go.RowKit Go.Eng Go.Nw
variable {s:Sch}{slot:Int}{j n:Nat}
theorem Ym7(h:(Yl s j).1=slot)(hj:j<n):∃R,inI s slot n=inI s slot j++j::R/\∀x∈R,j<x:=by
 obtain⟨m,rfl⟩:∃m,n=j+(m+1):=⟨n-j-1,by omega⟩
 have e:inI s slot (j+(m+1))=inI s slot j++((List.range (m+1)).map (j+·)).filter λi=>decide ((Yl s i).1=slot):=by
  grind [inI,List.range_add]
 rw[e,Sv,RI,S7,To (by simp_all)]
 simp_all
theorem Yps{k:Nat}(h:(inI s slot n)[k]? =some j):(inI s slot n).take k=inI s slot j:=by
 have hm:=Og.1 (Tc h)
 obtain⟨R,hR,hRx⟩:=Ym7 hm.2 hm.1
 rw[hR]at h⊢
 have hk:k=(inI s slot j).length:=by
  rcases Nl k (inI s slot j).length with h1|h1|h1
  ·rw[List.getElem?_append_left h1]at h
   have:=(Og.1 (Tc h)).1
   omega
  ·exact h1
  ·rw[SO (by omega)]at h
   obtain⟨q,hq⟩:∃q,k-(inI s slot j).length=q+1:=⟨k-(inI s slot j).length-1,by omega⟩
   rw[hq,List.getElem?_cons_succ]at h
   have:=hRx j (Tc h)
   omega
 simp_all
theorem YfY{α:Type}{p:α->Bool}{l:List α}{i:Nat}{x:α}(h:l[i]? =some x):(l.take (i+1)).filter p=(l.take i).filter p++if p x=true then [x]else []:=zc78
def WV(s:Sch)(c:Cel)(l:List Nat):List Cel:=(l.filter λj=>decide ((Yl s j).2.1=c.2.1)).map (Yl s)
theorem Yao{s:Sch}{c:Cel}:∀{m:Nat},m<=s.cells.length->WV s c (inI s c.1 m)=(s.cells.take m).filter (Xg c)
 |0,_=>by simp[WV,inI]
 |m+1,h=>by
  have ih:=Yao (s:=s) (c:=c) (m:=m) (by omega)
  have hg:=YS (s:=s) (i:=m) (by omega)
  rw[YfY hg,<-ih]
  have hp:Xg c (Yl s m)=true↔(Yl s m).1=c.1/\(Yl s m).2.1=c.2.1:=by simp_all [Xg]
  by_cases h1:(Yl s m).1=c.1
  ·rw[YlB h1]
   unfold WV
   grind
  simp_all [Ypr]
theorem YiA(s:Sch)(c:Cel)(l:List Nat)(j:Nat):WV s c (l++[j])=WV s c l++if(Yl s j).2.1=c.2.1 then [Yl s j]else []:=by
 unfold WV
 grind
structure DsM where
 A:Option Addr
 cap:Nat
 M:List Cel
 a:Int
theorem Ycu(n:NetM)(s:SchM)(i:Nat)(hck:Yo n.net=0)(hgood:∀c∈s.cells,YZ n.net (YM c) (toC c)=true)(hi:i<s.cells.length)(hl:s.cells.length<=1000){B:Nat}{w0:World}{H:List HP}{w:World}(hin:n.In B w0 H)(hr:Rd B w0 H s.A (s.cells.flatMap celF))(hw:St B w0 H w):
 CX B w0 264 [n.val,s.val,.int .i64 i] w λv K=>v=.bool (ZX n.net s.sch i)/\K=H:=by
 refine ZK Tryz.func264 Tryz.ntmps264 rfl rfl hw ?_
 have hget:s.cells[i]? =some (Yl s.sch i):=YS (s:=s.sch) hi
 obtain⟨c,hc⟩:∃c,Yl s.sch i=c:=⟨_,rfl⟩
 rw[hc]at hget
 have hrm:Rd B w0 [many H] s.A (s.cells.flatMap celF):=hr.tail
 clear hr
 refine YX [many H] (λw hw=>hw.perm (.closeT H)) ?_
 refine zX78 ?_<;>intros
 rename_i gn gs gi g7 g8
 apply YC [0,1,2,3,4,5,6] [7] [false,false,true,true,false,true]
 kernel_rfl
 kernel_rfl
 exact zy
 (simp only[Yd,nthO];rfl)
 (simp only[Yd,nthO];rfl)
 refine zX3 ?_
 apply Yg _ Ytk
 exact za
 exact rfl
 exactλ_ hw=>(Yh2 s c.1 (hw))
 rintro _ _ ⟨g1,g2,rfl,rfl⟩
 refine zX3 ?_
 obtain⟨L,hL⟩:∃L,inI s.sch c.1 s.cells.length=L:=⟨_,rfl⟩
 have hiL:i∈L:=by
  rw[<-hL]
  exact Og.2 ⟨hi,by rw[hc]⟩
 have hr7:Rd B w0 (intB g2 c.1::schB g1 s::blk gi (.cells #[.int .i64 i] 3 (0,0))::schB gs s::netN gn n::[many H]) s.A (s.cells.flatMap celF):=hrm.cons.cons.cons.cons.cons
 rw[show(Value.slice none 0 0).cells=#[Value.slice none 0 0] from rfl]
 refine XI 162 5 ?_
 refine ZL (gf:=385) (lb:=[.pointer (some ⟨g1,0,none⟩),.pointer (some ⟨g2,0,none⟩)]) (xs:=inXs s.sch c.1) (intB g2 c.1::schB g1 s::blk gi (.cells #[.int .i64 i] 3 (0,0))::schB gs s::netN gn n::[many H]) (λx:DsM=>[blk g7 (.cells #[.slice x.A x.M.length x.cap] 31 (0,0)),cels x.A x.cap x.M,blk g8 (.cells #[.int .i64 x.a] 3 (0,0))])
  (λk x=>x.M=WV s.sch c (L.take k)/\x.a=if i∈L.take k then(YK s.sch i:Int)else 0) (λ_ _=>False) ⟨none,0,[],0⟩ rfl Ytp (Yh1 s c.1 g1 g2 hr7 (by omega) (.tail _ (.head _)) (.head _)) rfl ?_ (by kernel_rfl) (by kernel_rfl) ?_ ⟨by simp[WV],by simp⟩ ?_ ?_ (λ_ _ _ h=>h.elim)
 ·intro args h
  obtain⟨k,hk⟩:=TL.1 h
  obtain⟨i,_,_,rfl⟩:=Qv hk
  rfl
 ·unfold schB intB cels netN
  simp only[TJ,TF,RV,Nx]
  exact zc0
 ·rintro l k args R ⟨A,cap,M,a⟩ hk ⟨hM,ha⟩
  obtain⟨j,hj,hlt,rfl⟩:=Qv hk
  have hlt2:j<s.cells.length:=hlt
  have hj:L[k]? =some j:=by rw[<-hL];exact hj
  dsimp only at hM ha⊢
  dsimp only[U5,List.cons_append,List.nil_append]
  have hgj:s.cells[j]? =some (Yl s.sch j):=YS (s:=s.sch) hlt
  have htj:L.take k=inI s.sch c.1 j:=by
   rw[<-hL]at hj⊢
   exact Yps hj
  have htk:L.take (k+1)=L.take k++[j]:=by rw[TD,hj,Rx]
  have hMf:M=(s.cells.take j).filter (Xg c):=by
   rw[hM,htj]
   exact Yao (s:=s.sch) (by show j<=s.cells.length;omega)
  have hMl:M.length<=s.cells.length:=by
   rw[hMf]
   have h1:=Sj (Xg c) (s.cells.take j)
   rw[TO]at h1
   omega
  have hps:=YiA s.sch c (L.take k) j
  rw[<-htk,<-hM]at hps
  obtain⟨d,hd⟩:∃d,Yl s.sch j=d:=⟨_,rfl⟩
  rw[hd]at hgj hps
  refine zX2 ?_
  apply Vh YB
  intro R'
  unfold intB schB netN cels
  clear hr7
  by_cases hoff:d.2.1=c.2.1
  rotate_left
  ·have hij:i≠j:=by
    rintro rfl
    rw[hc]at hd
    subst hd
    exact hoff rfl
   refine zX50 ?_<;>intros
   all_goals(
    apply UJ ⟨A,cap,M,a⟩
    ·refine⟨?_,?_⟩
     ·show M=_
      rw[hps,Tf hoff,Ru]
     ·show a=_
      rw[ha,htk]
      simp[hij]
    ·dsimp only[List.cons_append,List.nil_append]
     exact zc0)
  by_cases hji:j=i
  ·obtain rfl:=hji
   obtain rfl:d=c:=hd.symm.trans hc
   have hsa:(M.length:Int)=(YK s.sch j:Int):=by
    rw[hMf]
    unfold YK
    rw[hc]
    rfl
   refine zX50 ?_<;>intros
   apply Ws [0,1,2,3,4,5,6] [7,8] [false,true,false,false,false,false,false,true,false,true]
   kernel_rfl
   kernel_rfl
   exact zy
   (simp only[Yd,nthO];rfl)
   (simp only[Yd,nthO];rfl)
   refine zX81 ?_<;>intros
   rename_i A9 cap9
   apply UJ ⟨A9,cap9,M++[d],(M.length:Int)⟩
   ·refine⟨?_,?_⟩
    ·show M++[d]=_
     rw[hps,To hoff]
    ·show(M.length:Int)=_
     rw[htk,To (by simp),hsa]
   ·dsimp only[List.cons_append,List.nil_append]
    intro w hw
    rw[Z7,Yc3 M d]at hw
    unfold cels at hw
    revert w
    exact zc0
  ·have hji2:i≠j:=λe=>hji e.symm
   refine zX50 ?_<;>intros
   apply Ws [0,1,2,3,4,5,6] [7,8] [false,true,false,false,false,false,false,true,false,true]
   kernel_rfl
   kernel_rfl
   exact zy
   (simp only[Yd,nthO];rfl)
   (simp only[Yd,nthO];rfl)
   refine zX81 ?_<;>intros
   rename_i A9 cap9
   apply UJ ⟨A9,cap9,M++[d],a⟩
   ·refine⟨?_,?_⟩
    ·show M++[d]=_
     rw[hps,To hoff]
    ·show a=_
     rw[ha,htk]
     simp[hji2]
   ·dsimp only[List.cons_append,List.nil_append]
    intro w hw
    rw[Z7,Yc3 M d]at hw
    unfold cels at hw
    revert w
    exact zc0
 ·rintro D ⟨A,cap,M,a⟩ ⟨hM,ha⟩
  have hLl:(inXs s.sch c.1).length=L.length:=by rw[inXs,Tu];exact TA List.length hL
  dsimp only at hM ha⊢
  rw[hLl,TC]at hM ha
  rw[To hiL]at ha
  subst ha
  have hMS:M=YH s.sch i:=by
   rw[hM,<-hL]
   have h1:=Yao (s:=s.sch) (c:=c) (TS _)
   rw[TC]at h1
   rw[show s.cells.length=s.sch.cells.length from rfl,h1]
   unfold YH
   rw[hc]
  have hMl:M.length<=1000:=by
   rw[hMS]
   have h1:=Sj (Xg (Yl s.sch i)) s.sch.cells
   exact TX h1 hl
  have hgM:M[((YK s.sch i:Nat):Int).toNat]? =some c:=by rw[hMS,Rm,W0 (s:=s.sch) hi,hc]
  have hal:YK s.sch i<M.length:=(Tj.1 hgM).1
  have hok:=YP hck
  have hcm:c∈s.cells:=Tc hget
  have hgd:=hgood c hcm
  obtain⟨⟨f0,f1⟩,⟨t0,t1⟩,_,k1,k2⟩:(0<=c.2.2.1/\c.2.2.1<n.net.nodes)/\(0<=c.2.2.2.1/\c.2.2.2.1<n.net.nodes)/\c.2.2.1≠c.2.2.2.1/\0<=Yv n.net c.2.2.1 c.2.2.2.1/\0<=Yv n.net c.2.2.2.1 c.2.2.1:=Xu hok hgd
  have hno:M.any (V0 n.net)=false:=by
   rw[RG]
   intro x hx
   have hxm:x∈s.cells:=by
    rw[hMS]at hx
    exact(RB.1 hx).1
   obtain⟨h1,h2,_⟩:=Xu hok (hgood x hxm)
   unfold V0
   rw[show insE (YM x) n.net.nodes=true from Ti h1,show insE (toC x) n.net.nodes=true from Ti h2]
   simp
  have hinm:n.In B w0 [many H]:=⟨hin.pw.tail,λr hr=>(hin.rw_ r hr).tail,hin.lk.tail,hin.mg.tail,hin.s1,hin.s2,hin.s3,hin.s4⟩
  have hmg:=hinm.mg
  have hs4:=hin.s4
  have hml:n.margin.length=n.net.links.length:=hok.k1
  have x1:=XP k1
  have x2:=XP k2
  have hix:∀u v:Int,Zb n.net u v=Yv n.net u v:=λu v=>by unfold Zb;rw[Tf (by omega)]
  have p1:=λ{H':List HP}{w:World}(hin:n.In B w0 H') (hw:St B w0 H' w)=>Zl n c.2.2.1 c.2.2.2.1 hin hw
  have p2:=λ{H':List HP}{w:World}(hin:n.In B w0 H') (hw:St B w0 H' w)=>Zl n c.2.2.2.1 c.2.2.1 hin hw
  rw[hix]at p1 p2
  obtain⟨i1,hi1⟩:∃z,Yv n.net c.2.2.1 c.2.2.2.1=z:=⟨_,rfl⟩
  obtain⟨i2,hi2⟩:∃z,Yv n.net c.2.2.2.1 c.2.2.1=z:=⟨_,rfl⟩
  rw[hi1]at p1 k1 x1
  rw[hi2]at p2 k2 x2
  have hm1:n.margin[i1.toNat]? =some (mar n.net i1.toNat):=zc33
  have hm2:n.margin[i2.toNat]? =some (mar n.net i2.toNat):=zc33
  have q1:=λ{H':List HP}{w:World}(hin:n.In B w0 H') (hr:Rd B w0 H' A (M.flatMap celF)) (hw:St B w0 H' w)=>Uh n M (YK s.sch i) c.2.2.2.1 hck ⟨t0,t1⟩ hal hMl hno (cap:=cap) hin hr hw
  have q2:=λ{H':List HP}{w:World}(hin:n.In B w0 H') (hr:Rd B w0 H' A (M.flatMap celF)) (hw:St B w0 H' w)=>Uh n M (YK s.sch i) c.2.2.1 hck ⟨f0,f1⟩ hal hMl hno (cap:=cap) hin hr hw
  have r1:=λ{H':List HP}{w:World}(hin:n.In B w0 H') (hw:St B w0 H' w)=>OM n (mar n.net i1.toNat) (Uf n.net M (YK s.sch i) c.2.2.2.1) hin hw
  have r2:=λ{H':List HP}{w:World}(hin:n.In B w0 H') (hw:St B w0 H' w)=>OM n (mar n.net i2.toNat) (Uf n.net M (YK s.sch i) c.2.2.1) hin hw
  have hres:ZX n.net s.sch i=(!(Zk n.net (mar n.net i1.toNat) (Uf n.net M (YK s.sch i) c.2.2.2.1))||!(Zk n.net (mar n.net i2.toNat) (Uf n.net M (YK s.sch i) c.2.2.1))):=by
   unfold ZX
   rw[hc,<-hMS]
   unfold YM toC
   rw[hi1,hi2]
  obtain⟨b1,hb1⟩:∃b,Zk n.net (mar n.net i1.toNat) (Uf n.net M (YK s.sch i) c.2.2.2.1)=b:=⟨_,rfl⟩
  obtain⟨b2,hb2⟩:∃b,Zk n.net (mar n.net i2.toNat) (Uf n.net M (YK s.sch i) c.2.2.1)=b:=⟨_,rfl⟩
  rw[hb1]at r1 hres
  rw[hb2]at r2 hres
  rw[hres]
  dsimp only[List.cons_append,List.nil_append]
  unfold cels intB schB netN
  cases b1 with
  |false=>
   refine zX82 ?_<;>intros
   apply Ym Jy
   exact za
   exact rfl
   exactλ_ hw=>(p1 zc24 hw)
   refine zX9 ?_
   apply Ym Jy
   exact za
   exact rfl
   exactλ_ hw=>(p2 zc24 hw)
   refine zX83 ?_
   apply Ym Yhy
   exact za
   exact rfl
   exactλ_ hw=>(q1 zc24 (Rd.sl (by(focus exact zc2))) hw)
   refine zX6 ?_
   apply Ym YeJ
   exact za
   exact rfl
   exactλ_ hw=>(r1 zc24 hw)
   refine zX3 ?_
   apply Z2
   ·exact YqE
   apply VQ_m
   apply Yf H
   ·intro w hw
    have h5:St B w0 [many H] w:=by
     revert w
     exact zc0
    exact W5
   exact zc3
  |true=>
   cases b2 with
   |false=>
    refine zX82 ?_<;>intros
    apply Ym Jy
    exact za
    exact rfl
    exactλ_ hw=>(p1 zc24 hw)
    refine zX9 ?_
    apply Ym Jy
    exact za
    exact rfl
    exactλ_ hw=>(p2 zc24 hw)
    refine zX83 ?_
    apply Ym Yhy
    exact za
    exact rfl
    exactλ_ hw=>(q1 zc24 (Rd.sl (by(focus exact zc2))) hw)
    refine zX6 ?_
    apply Ym YeJ
    exact za
    exact rfl
    exactλ_ hw=>(r1 zc24 hw)
    refine zX3 ?_
    apply Ym Yhy
    exact za
    exact rfl
    exactλ_ hw=>(q2 zc24 (Rd.sl (by(focus exact zc2))) hw)
    refine zX11 ?_
    apply Ym YeJ
    exact za
    exact rfl
    exactλ_ hw=>(r2 zc24 hw)
    refine zX3 ?_
    apply Z2
    ·exact YqE
    apply VQ_m
    apply Yf H
    ·intro w hw
     have h5:St B w0 [many H] w:=by
      revert w
      exact zc0
     exact W5
    exact zc3
   |true=>
    refine zX82 ?_<;>intros
    apply Ym Jy
    exact za
    exact rfl
    exactλ_ hw=>(p1 zc24 hw)
    refine zX9 ?_
    apply Ym Jy
    exact za
    exact rfl
    exactλ_ hw=>(p2 zc24 hw)
    refine zX83 ?_
    apply Ym Yhy
    exact za
    exact rfl
    exactλ_ hw=>(q1 zc24 (Rd.sl (by(focus exact zc2))) hw)
    refine zX6 ?_
    apply Ym YeJ
    exact za
    exact rfl
    exactλ_ hw=>(r1 zc24 hw)
    refine zX3 ?_
    apply Ym Yhy
    exact za
    exact rfl
    exactλ_ hw=>(q2 zc24 (Rd.sl (by(focus exact zc2))) hw)
    refine zX11 ?_
    apply Ym YeJ
    exact za
    exact rfl
    exactλ_ hw=>(r2 zc24 hw)
    refine zX3 ?_
    apply Z2
    ·exact YqE
    apply VQ_m
    apply Yf H
    ·intro w hw
     have h5:St B w0 [many H] w:=by
      revert w
      exact zc0
     exact W5
    exact zc3
theorem YkI(x:WayM){B:Nat}{w0:World}{H:List HP}{w:World}(ht:TabsB B w0)(hi:x.In B w0 H)(hw:St B w0 H w):
 CX B w0 216 [x.n.val,x.s.val,flwV x.f,.slice x.A x.r.length x.cap] w λv K=>∃A cap,v=.tuple #[.int .i64 (YY x.n.net x.s.sch x.f x.r).1.1,.int .i64 (YY x.n.net x.s.sch x.f x.r).1.2.1,.slice A (YY x.n.net x.s.sch x.f x.r).1.2.2.length cap,.int .i64 (YY x.n.net x.s.sch x.f x.r).2]/\K=nrs A cap (YY x.n.net x.s.sch x.f x.r).1.2.2::H:=by
 refine Ya Tryz.func216 Tryz.ntmps216 rfl rfl hw ?_
 have p1:=λ{H':List HP}{w:World}(hi:x.In B w0 H') (hw:St B w0 H' w)=>Yi9 x ht hi hw
 obtain⟨R,hR⟩:∃R,YY x.n.net x.s.sch x.f x.r=R:=⟨_,rfl⟩
 rw[hR]
 unfold YY at hR
 obtain⟨e,he⟩:∃e,wayE x.n.net x.s.sch x.f x.r=e:=⟨_,rfl⟩
 rw[he]at p1 hR
 unfold NetM.val SchM.val flwV
 by_cases h0:e=0
 rotate_left
 ·rw[To h0]at hR
  subst hR
  refine zX70 ?_<;>intros
  apply Yf (nrs none 0 []::H)
  ·intro w hw
   have h5:St B w0 H w:=by
    revert w
    exact zc0
   exact YdU
  exact zc45
 subst h0
 rw[Tf (λh=>h rfl)]at hR
 have hok:=YbO he
 have p2:=λ{H':List HP}{w:World}(hi:x.In B w0 H') (hw:St B w0 H' w)=>YjF x hok hi hw
 unfold ZT at p2
 cases hb:ZS x.n.net x.s.sch x.f x.r with
 |none=>
  rw[hb]at hR p2
  dsimp only[UM]at hR p2
  subst hR
  refine zX70 ?_<;>intros
  apply Yg _ Ytg
  exact za
  exact rfl
  exactλ_ hw=>(p2 (hi.mono zc0) (hw))
  rintro _ _ ⟨A2,cap2,rfl,rfl⟩
  refine zX3 ?_
  apply Yf (nrs none 0 []::H)
  ·intro w hw
   have h5:St B w0 H w:=by
    revert w
    exact zc0
   exact YdU
  exact zc45
 |some b=>
  rw[hb]at hR p2
  dsimp only[UM]at hR p2
  subst hR
  refine zX70 ?_<;>intros
  apply Yg _ Ytg
  exact za
  exact rfl
  exactλ_ hw=>(p2 (hi.mono zc0) (hw))
  rintro _ _ ⟨A2,cap2,rfl,rfl⟩
  refine zX3 ?_
  apply Yf (nrs A2 cap2 b.2.2::H)
  ·exact zc0
  exact Yup
variable {A:Option Addr}{cap B:Nat}{w0 w:World}{H:List HP}
theorem Wj(l:List Int)(hlen:l.length<=1000)(hr:Rd B w0 H A (l.flatMap numF))(hw:St B w0 H w):
 CX B w0 132 [.slice A l.length cap] w λv K=>∃A' cap',v=.slice A' l.length cap'/\K=sl 3 1 A' l.length cap' (l.flatMap numF)::H:=by
 cases A with
 |none=>
  have hl:l=[]:=by
   cases l with
   |nil=>rfl
   |cons x l=>
    exact zc53
  subst hl
  refine Ya Tryz.func132 Tryz.ntmps132 rfl rfl hw ?_
  exact zc22
 |some a=>
  refine Ya Tryz.func132 Tryz.ntmps132 rfl rfl hw ?_
  exact zc10
theorem Wi(l:List Int)(hlen:l.length<=1000)(hr:Rd B w0 H A (l.flatMap numF))(hw:St B w0 H w):
 CX B w0 129 [.slice A l.length cap] w λv K=>∃A' cap',v=.slice A' l.length cap'/\K=sl 3 1 A' l.length cap' (l.flatMap numF)::H:=by
 cases A with
 |none=>
  have hl:l=[]:=by
   cases l with
   |nil=>rfl
   |cons x l=>
    exact zc53
  subst hl
  refine Ya Tryz.func129 Tryz.ntmps129 rfl rfl hw ?_
  exact zc22
 |some a=>
  refine Ya Tryz.func129 Tryz.ntmps129 rfl rfl hw ?_
  exact zc10
theorem Ybk(l:List RowM)(hlen:l.length<=1000)(hr:Rd B w0 H A (l.flatMap rowF))(hw:St B w0 H w):
 CX B w0 130 [.slice A l.length cap] w λv K=>∃A' cap',v=.slice A' l.length cap'/\K=sl 24 1 A' l.length cap' (l.flatMap rowF)::H:=by
 cases A with
 |none=>
  have hl:l=[]:=by
   cases l with
   |nil=>rfl
   |cons x l=>
    exact zc53
  subst hl
  refine Ya Tryz.func130 Tryz.ntmps130 rfl rfl hw ?_
  refine zX8 ?_
  apply Xx 24 1;exact zc64
 |some a=>
  refine Ya Tryz.func130 Tryz.ntmps130 rfl rfl hw ?_
  repeat'(first|(apply ZN;(iterate 3 exact rfl))|(apply Yw T;exact rfl;exact rfl;intro g2)|refine zga ?_|fail)
  apply YI T (f:=rowF) (l2:=l) (e:=24) (size:=1) (xs:=[]);(iterate 3 exact rfl);exact hr.cons;exact(λ_=>rfl);exact(λ_=>rfl);exact rfl;(intro _ _;exact zd);omega;intro A' cap'
  exact zc49
abbrev clA(g:Nat)(c:ClM):HP:=blk g (.cells #[.int .i64 c.flow,.slice c.rA c.rs.length c.rcap,.slice c.bA c.bs.length c.bcap,.slice c.wA c.ws.length c.wcap,.slice c.sA c.ss.length c.scap] 189 (0,0))
theorem QM(e:Nat)(A:Option Addr)(cap:Nat)(l:List RowM)(r:RowM):sl e 1 A (l.length+1) cap (l.flatMap rowF++#[Value.slice r.A r.xs.length r.cap].toList)=sl e 1 A (l++[r]).length cap ((l++[r]).flatMap rowF):=by grind [rowF]
theorem Vj(f:RowM->HP)(l:List RowM)(r:RowM)(H:List HP):Perm (f r::many (l.map f)::H) (many ((l++[r]).map f)::H):=by
 have:=Perm.push (f r) (l.map f) [] H
 simp_all
theorem Yhd{S:Int->Option (List Int)}{len per:Int}{N:Nat}(hS:∀a l,S a=some l->l.length<=N):∀{k:Nat}{rel:Int}{b0 b:Int×Int×List Int},b0.2.2.length<=N->Ji S len per k rel b0=some b->b.2.2.length<=N
 |0,rel,b0,b,h0,h=>by
  grind [Ji]
 |k+1,rel,b0,b,h0,h=>by
  unfold Ji at h
  split at h
  ·simp_all
  cases hs:S rel with
  |none=>simp_all
  |some l=>
   rw[hs]at h
   refine Yhd hS ?_ h
   grind
theorem YmK{x:WayM}(hok:JR x){b:Int×Int×List Int}(h:ZS x.n.net x.s.sch x.f x.r=some b):b.2.2.length<=72:=by
 have hl:=hok.len
 refine Yhd (λa l hs=>?_) (Td _) h
 rw[Oo]at hs
 split at hs
 ·cases hs
 have h1:(runW x a).length<=XF (Yr x.n.net x.r):=QP _ _ _ _ _
 have h2:=QC hok (Yr x.n.net x.r).length
 grind [JF]
structure M8(xs:List Int) where
 A1:Option Addr
 c1:Nat
 r:RowM
 hr:r.xs=xs
 A3:Option Addr
 c3:Nat
structure CkM where
 i:Nat
 c:ClM
def ClM.lens(c:ClM):Prop:=(c.rs.length<=1000/\c.bs.length<=1000/\c.ws.length<=1000/\c.ss.length<=1000)/\(∀r∈c.rs,r.xs.length<=1000)/\∀r∈c.ss,r.xs.length<=1000
theorem YjL(n:NetM)(s:SchM)(x:RqM)(ht:TabsB B w0)(hin:n.In B w0 H)(hrs:Rd B w0 H s.A (s.cells.flatMap celF))(hsl:s.cells.length<=1000000000000)(hx:x.In B w0 H)(hr9:x.rows.length<=9)(hw:St B w0 H w):
 CX B w0 182 [n.val,s.val,rqV x] w λv K=>∃c:ClM,v=.tuple #[clV c,.bool (!(ZE n.net s.sch x.rq))]/\(ZE n.net s.sch x.rq=false->c.clm=clmE n.net s.sch x.rq/\c.lens)/\K=clQ c::H:=by
 refine Ya Tryz.func182 Tryz.ntmps182 rfl rfl hw ?_
 have e1:x.rq.1=x.f:=rfl
 have p1:=λ{H':List HP}{w:World}(r:RowM) (hr:r∈x.rows) (hin:n.In B w0 H') (hrs:Rd B w0 H' s.A (s.cells.flatMap celF)) (hx:x.In B w0 H') (hw:St B w0 H' w)=>YkI ⟨n,s,x.f,r.A,r.cap,r.xs⟩ ht ⟨hin,hrs,hx.rw_ r hr,hsl,(hx.rl r hr).1,(hx.rl r hr).2⟩ hw
 unfold NetM.val SchM.val rqV
 refine zX26 ?_<;>intros
 rename_i g3 g4 g5 g6 g8
 have hln:x.rq.2=x.rows.map (·.xs):=rfl
 obtain⟨P,hP⟩:∃P,badR n.net s.sch x.f=P:=⟨_,rfl⟩
 have hla:ZE n.net s.sch x.rq=(x.rows.map (·.xs)).any P:=by unfold ZE;rw[hln,e1,hP]
 rw[hla]
 refine Ye (λz:CkM=>[(22,.int .i64 (z.i:Nat)),(21,.int .i64 x.rows.length),(20,.slice x.A x.rows.length x.cap),(8,.pointer (some ⟨g8,0,none⟩)),(6,.pointer (some ⟨g6,0,none⟩)),(5,.pointer (some ⟨g5,0,none⟩)),(4,.pointer (some ⟨g4,0,none⟩)),(3,.pointer (some ⟨g3,0,none⟩))]) (λz=>clA g8 z.c::clQ z.c::clA g6 (nilC 0)::rqA g5 x::schA g4 s::netA g3 n::H)
  (λz=>z.i<=x.rows.length/\z.c.clm=Ycf n.net s.sch x.rq ((x.rows.take z.i).map (·.xs))/\z.c.lens/\((x.rows.take z.i).map (·.xs)).any P=false) (λz=>x.rows.length-z.i) ⟨0,nilC x.f.1⟩ ⟨Td _,rfl,⟨by unfold nilC;simp,by unfold nilC;simp,by unfold nilC;simp⟩,by simp⟩ ?_ ?_ ?_
 ·exact zc1
 ·intro w hw
  have h1:=QD x.f.1 hw
  have h2:St B w0 (clQ (nilC x.f.1)::clA g8 (nilC x.f.1)::clA g6 (nilC 0)::rqA g5 x::schA g4 s::netA g3 n::H) w:=h1
  clear hw h1
  revert w
  exact zc0
 rintro⟨i,c⟩ ⟨hi,hcm,hlen,hno⟩ K hK
 dsimp only at hi hcm hlen hno⊢
 have hrt:Rd B w0 (clA g8 c::clQ c::clA g6 (nilC 0)::rqA g5 x::schA g4 s::netA g3 n::H) x.A (x.rows.flatMap rowF):=hx.rt.cons.cons.cons.cons.cons.cons
 by_cases hlt:i<x.rows.length
 rotate_left
 ·obtain rfl:i=x.rows.length:=by omega
  rw[TC]at hcm hno
  rw[hno]
  clear hK
  refine zX1 ?_<;>intros
  apply Yn T (H2:=clQ c::H);(iterate 3 exact rfl);(focus exact zc2);exact rfl;exact rfl;(intro w hw;refine hw.perm ?_;focus exact zc5)
  exact⟨c,rfl,λ_=>⟨hcm,hlen⟩,rfl⟩
 obtain⟨r,hr⟩:∃r,x.rows[i]? =some r:=⟨_,Ta hlt⟩
 have hrm:=Tc hr
 have hri:=hx.rw_ r hrm
 have p2:=λ{H':List HP}{w:World}(hin:n.In B w0 H') (hrs:Rd B w0 H' s.A (s.cells.flatMap celF)) (hx:x.In B w0 H') (hw:St B w0 H' w)=>p1 r hrm hin hrs hx hw
 dsimp only at p2
 obtain⟨⟨⟨m,wst,sx⟩,e⟩,hRt⟩:∃z,YY n.net s.sch x.f r.xs=z:=⟨_,rfl⟩
 rw[hRt]at p2
 dsimp only at p2
 unfold flwV at p2
 refine zX71 ?_<;>intros
 apply Yg _ YwK
 exact za
 exact rfl
 exactλ_ hw=>(p2 (hin.mono zc0) (hrs.mono zc0) (hx.mono zc0) (hw))
 rintro _ _ ⟨A2,cap2,rfl,rfl⟩
 have hPr:P r.xs=decide (e≠0\/x.f.2.2.2.2.2<m):=by rw[<-hP];unfold badR;rw[hRt]
 by_cases hbad:e≠0\/x.f.2.2.2.2.2<m
 ·rw[Ti hbad]at hPr
  have hany:(x.rows.map (·.xs)).any P=true:=TM.2 ⟨r.xs,RD hrm,hPr⟩
  rw[hany]
  clear hK
  by_cases he0:e=0
  all_goals(
   repeat'(first|refine zgd ?_|(refine zgf ?_ ?_<;>intro _<;>try exact zo)|fail)
   apply Yn T (H2:=clQ (nilC 0)::H);(iterate 3 exact rfl);exact zm;exact rfl;exact rfl
   ·intro w hw
    have h5:St B w0 H w:=by
     revert w
     exact zk
    exact QD 0 h5
   exact⟨nilC 0,rfl,(λh=>by cases h),rfl⟩)
 rw[Tn hbad]at hPr
 have he0:e=0:=SC λh=>hbad (.inl h)
 have hml:m<=x.f.2.2.2.2.2:=by omega
 subst he0
 obtain⟨hri9,hsx9⟩:r.xs.length<=9/\sx.length<=72:=zc57
 have hinv:∀(A1:Option Addr) (c1:Nat) (r8:RowM) (_:r8.xs=r.xs) (A3:Option Addr) (c3:Nat) (A4:Option Addr) (c4:Nat) (A5:Option Addr) (c5:Nat),(i+1<=x.rows.length/\(ClM.mk c.flow A1 c1 (c.rs++[r8]) A3 c3 (c.bs++[m]) A4 c4 (c.ws++[wst]) A5 c5 (c.ss++[⟨A2,cap2,sx⟩])).clm=Ycf n.net s.sch x.rq ((x.rows.take (i+1)).map (·.xs))/\(ClM.mk c.flow A1 c1 (c.rs++[r8]) A3 c3 (c.bs++[m]) A4 c4 (c.ws++[wst]) A5 c5 (c.ss++[⟨A2,cap2,sx⟩])).lens/\((x.rows.take (i+1)).map (·.xs)).any P=false):=zc13
 refine zX42 ?_<;>intros
 refine YX (nrs A2 cap2 sx::clA g8 c::sl 127 1 c.rA c.rs.length c.rcap (c.rs.flatMap rowF)::many (c.rs.map rowQ)::nrs c.bA c.bcap c.bs::nrs c.wA c.wcap c.ws::sl 24 1 c.sA c.ss.length c.scap (c.ss.flatMap rowF)::many (c.ss.map rowQ)::clA g6 (nilC 0)::rqA g5 x::schA g4 s::netA g3 n::H) (λw hw=>hw.perm (.cons _ (.cons _ (.open_ (clP c) _)))) ?_
 have hl1:=hlen.1
 refine Z1 (λz:M8 r.xs=>[(22,.int .i64 (i:Nat)),(21,.int .i64 x.rows.length),(20,.slice x.A x.rows.length x.cap),(8,.pointer (some ⟨g8,0,none⟩)),(6,.pointer (some ⟨g6,0,none⟩)),(5,.pointer (some ⟨g5,0,none⟩)),(4,.pointer (some ⟨g4,0,none⟩)),(3,.pointer (some ⟨g3,0,none⟩)),(13,.slice A2 sx.length cap2),(12,.int .i64 wst)])
  (λz=>nrs A2 cap2 sx::blk g8 (.cells #[.int .i64 c.flow,.slice z.A1 (c.rs++[z.r]).length z.c1,.slice z.A3 (c.bs++[m]).length z.c3,.slice c.wA c.ws.length c.wcap,.slice c.sA c.ss.length c.scap] 189 (0,0))::sl 127 1 z.A1 (c.rs++[z.r]).length z.c1 ((c.rs++[z.r]).flatMap rowF)::many ((c.rs++[z.r]).map rowQ)::nrs z.A3 z.c3 (c.bs++[m])::nrs c.wA c.wcap c.ws::sl 24 1 c.sA c.ss.length c.scap (c.ss.flatMap rowF)::many (c.ss.map rowQ)::clA g6 (nilC 0)::rqA g5 x::schA g4 s::netA g3 n::H) ?_ ?_
 ·intro K8 hK8
  apply V6 (.n1 0 (.n1 1 (.n1 2 (.n1 6 (.n1 7 (.n1 8 (.n2 3 (.n2 4 (.n2 5 (.n1 11 (.n1 9 (.n1 10 .done))) 9 (.n1 5 (.n1 11 (.n1 10 .done)))) 9 (.n1 4 (.n1 5 (.n1 11 (.n1 10 .done))))) 9 (.n1 3 (.n1 4 (.n1 5 (.n1 11 (.n1 10 .done)))))))))))) [12,13,14] [false,true]
  kernel_rfl
  kernel_rfl
  exact zy
  (simp only[Yd,nthO];rfl)
  repeat'(first|((apply Yg _ YsJ);exact za;exact rfl;exactλ_ hw=>Wj r.xs (by omega) (hri.mono zk) hw;rintro _ _ ⟨A8,cap8,rfl,rfl⟩)|(apply Yex;(simp only[nthO];rfl);(simp only[nthO];rfl))|(apply Yew;(simp only[nthO];rfl))|(apply V7;try exact zl)|(apply Yh;try exact zl)|refine zgd ?_|(refine zgh ?_;intro _)|(refine zgi ?_;intro _ _)|fail)
  all_goals(
   first
    |(rename_i A1 c1 g A3 c3;guard_hyp g:Nat;guard_hyp A1:Option Addr)
    |(rename_i A1 c1 A3 c3;guard_hyp A1:Option Addr)
   refine hK8 ⟨A1,c1,⟨A8,cap8,r.xs⟩,rfl,A3,c3⟩ _ _ zu ?_
   intro w hw
   have q1:sl 127 1 A1 (c.rs.length+1) c1 (c.rs.flatMap rowF++#[Value.slice A8 r.xs.length cap8].toList)=sl 127 1 A1 (c.rs++[(⟨A8,cap8,r.xs⟩:RowM)]).length c1 ((c.rs++[(⟨A8,cap8,r.xs⟩:RowM)]).flatMap rowF):=QM _ _ _ _ ⟨A8,cap8,r.xs⟩
   rw[q1,JW,show c.rs.length+1=(c.rs++[(⟨A8,cap8,r.xs⟩:RowM)]).length by simp,show c.bs.length+1=(c.bs++[m]).length by simp]at hw
   have h5:St B w0 (nrs A2 cap2 sx::blk g8 (.cells #[.int .i64 c.flow,.slice A1 (c.rs++[(⟨A8,cap8,r.xs⟩:RowM)]).length c1,.slice A3 (c.bs++[m]).length c3,.slice c.wA c.ws.length c.wcap,.slice c.sA c.ss.length c.scap] 189 (0,0))::sl 127 1 A1 (c.rs++[(⟨A8,cap8,r.xs⟩:RowM)]).length c1 ((c.rs++[(⟨A8,cap8,r.xs⟩:RowM)]).flatMap rowF)::sl 3 1 A8 r.xs.length cap8 (r.xs.flatMap numF)::many (c.rs.map rowQ)::nrs A3 c3 (c.bs++[m])::nrs c.wA c.wcap c.ws::sl 24 1 c.sA c.ss.length c.scap (c.ss.flatMap rowF)::many (c.ss.map rowQ)::clA g6 (nilC 0)::rqA g5 x::schA g4 s::netA g3 n::H) w:=by
    clear q1
    revert w
    exact zk
   exact h5.perm (.cons _ (.cons _ (.cons _ (Vj rowQ c.rs ⟨A8,cap8,r.xs⟩ _)))))
 rintro⟨A1,c1,r8,hr8,A3,c3⟩
 dsimp only
 refine zX6 ?_
 apply V6 (.n1 0 (.n1 1 (.n1 2 (.n1 5 (.n1 6 (.n1 7 (.n2 3 (.n2 4 (.n1 10 (.n1 8 (.n1 9 .done))) 8 (.n1 4 (.n1 10 (.n1 9 .done)))) 8 (.n1 3 (.n1 4 (.n1 10 (.n1 9 .done))))))))))) [11,12,13] [false,true]
 kernel_rfl
 kernel_rfl
 exact zy
 (simp only[Yd,nthO];rfl)
 repeat'(first|(apply Yex;(simp only[nthO];rfl);(simp only[nthO];rfl))|(apply Yew;(simp only[nthO];rfl))|(apply V7;try exact zl)|(apply Yh;try exact zl)|refine zgd ?_|(refine zgh ?_;intro _)|(refine zgi ?_;intro _ _)|fail)
 all_goals(
  first
   |(rename_i A4 c4 g A5 c5;guard_hyp g:Nat;guard_hyp A4:Option Addr)
   |(rename_i A4 c4 A5 c5;guard_hyp A4:Option Addr)
  refine hK ⟨i+1,⟨c.flow,A1,c1,c.rs++[r8],A3,c3,c.bs++[m],A4,c4,c.ws++[wst],A5,c5,c.ss++[⟨A2,cap2,sx⟩]⟩⟩ ?_ ?_ _ _ zu ?_
  ·exact hinv A1 c1 r8 hr8 A3 c3 A4 c4 A5 c5
  ·dsimp only;omega
  intro w hw
  have q1:sl 24 1 A5 (c.ss.length+1) c5 (c.ss.flatMap rowF++#[Value.slice A2 sx.length cap2].toList)=sl 24 1 A5 (c.ss++[(⟨A2,cap2,sx⟩:RowM)]).length c5 ((c.ss++[(⟨A2,cap2,sx⟩:RowM)]).flatMap rowF):=QM _ _ _ _ ⟨A2,cap2,sx⟩
  rw[q1,JW,show c.ss.length+1=(c.ss++[(⟨A2,cap2,sx⟩:RowM)]).length by simp,show c.ws.length+1=(c.ws++[wst]).length by simp]at hw
  have h5:St B w0 (blk g8 (.cells #[.int .i64 c.flow,.slice A1 (c.rs++[r8]).length c1,.slice A3 (c.bs++[m]).length c3,.slice A4 (c.ws++[wst]).length c4,.slice A5 (c.ss++[(⟨A2,cap2,sx⟩:RowM)]).length c5] 189 (0,0))::sl 127 1 A1 (c.rs++[r8]).length c1 ((c.rs++[r8]).flatMap rowF)::many ((c.rs++[r8]).map rowQ)::nrs A3 c3 (c.bs++[m])::nrs A4 c4 (c.ws++[wst])::sl 24 1 A5 (c.ss++[(⟨A2,cap2,sx⟩:RowM)]).length c5 ((c.ss++[(⟨A2,cap2,sx⟩:RowM)]).flatMap rowF)::nrs A2 cap2 sx::many (c.ss.map rowQ)::clA g6 (nilC 0)::rqA g5 x::schA g4 s::netA g3 n::H) w:=by
   clear q1
   revert w
   exact zk
  have h6:=h5.perm (.cons _ (.cons _ (.cons _ (.cons _ (.cons _ (.cons _ (Vj rowQ c.ss ⟨A2,cap2,sx⟩ _)))))))
  exact h6.perm (.cons _ (.close [_,_,_,_,_,_] _)))
variable {l:List Flw}
theorem YjH{n:Net}{s:Sch}(h1:(XZ n l s).2=0):∀c∈s.cells,YZ n (YM c) (toC c)=true:=by
 have k1:=YF.1 h1
 exact zc83
theorem YeS{nodes:Int}(h:(Yt nodes l).2=0):l.length<=16:=by
 grind [Yt]
theorem Yep(n:NetM)(l:List Flw)(s:SchM)(hlf:l.length<=9223372036854775807)(hl:s.cells.length<=1000000000000){A:Option Addr}{cap B:Nat}{w0:World}{H:List HP}{w:World}(hin:n.In B w0 H)(hrf:Rd B w0 H A (l.flatMap flwF))(hr:Rd B w0 H s.A (s.cells.flatMap celF))(hw:St B w0 H w):
 CX B w0 180 [n.val,.slice A l.length cap,s.val] w λv K=>v=.tuple #[.int .i64 (schE n.net l s.sch).1,.int .i64 (schE n.net l s.sch).2]/\K=H:=by
 refine Ya Tryz.func180 Tryz.ntmps180 rfl rfl hw ?_
 have e4:s.sch.cells.length=s.cells.length:=rfl
 have e5:s.sch.len=s.len:=rfl
 have hchk:=λ{H':List HP}{w:World}(hin:n.In B w0 H') (hw:St B w0 H' w)=>Xa n hin hw
 have hsz:=λ{H':List HP}{w:World}(hw:St B w0 H' w)=>YdA s hw
 by_cases h1:Yo n.net=0
 rotate_left
 ·have hS:schE n.net l s.sch=(-1,1):=by
   have hw1:Xv n.net l s.sch=1:=by unfold Xv;rw[To h1]
   unfold schE;rw[hw1];rfl
  rw[hS]
  repeat'(first|((apply Yb XQ);exact za;exact rfl;exactλ_ hw=>(hchk hin.cons.cons hw))|refine zgb ?_|(refine zge ?_ ?_<;>intro _<;>try exact zo)|(refine zgh ?_;intro _)|fail)
  apply Yf H
  ·exact zc0
  exact zc4
 rw[h1]at hchk
 by_cases h2:(Yt n.nodes l).2=0
 rotate_left
 ·have hS:schE n.net l s.sch=(-1,1):=by
   have hw1:Xv n.net l s.sch=1:=by unfold Xv;rw[Tf (by omega)];exact To h2
   unfold schE;rw[hw1];rfl
  rw[hS]
  repeat'(first|((apply Yb XQ);exact za;exact rfl;exactλ_ hw=>(hchk hin.cons.cons hw))|((apply Yb en39);exact za;exact rfl;exactλ_ hw=>(Y3 n.nodes l hlf hrf.cons.cons hw))|refine zgc ?_|(refine zge ?_ ?_<;>intro _<;>try exact zo)|(refine zgh ?_;intro _)|fail)
  apply Yf H
  ·exact zc0
  exact zc4
 have hl16:=YeS h2
 have hper:=Yae h2
 cases h3:Zf s.sch with
 |false=>
  rw[h3]at hsz
  have hS:schE n.net l s.sch=(-1,2):=by
   have hw1:Xv n.net l s.sch=2:=by unfold Xv;rw[Tf (by omega),Tf (λh=>h h2),To h3]
   unfold schE;rw[hw1];rfl
  rw[hS]
  repeat'(first|((apply Yb XQ);exact za;exact rfl;exactλ_ hw=>(hchk hin.cons.cons hw))|((apply Yb en39);exact za;exact rfl;exactλ_ hw=>(Y3 n.nodes l hlf hrf.cons.cons hw))|((apply Yb Yhx);exact za;exact rfl;exactλ_ hw=>(hsz hw))|refine zgd ?_|(refine zge ?_ ?_<;>intro _<;>try exact zo)|(refine zgh ?_;intro _)|fail)
  apply Yf H
  ·exact zc0
  exact zc4
 |true=>
 rw[h3]at hsz
 have hsl:1<=s.len/\s.len<=512:=by
  have:=TI h3
  exact⟨this.1,this.2.1⟩
 obtain⟨b,hb⟩:∃b,(l.any λf=>decide (s.len.tmod f.2.2.2.1≠0))=b:=⟨_,rfl⟩
 have hw0:Xv n.net l s.sch=if b=true then 11 else if 512<s.cells.length then 8 else 0:=by
  unfold Xv
  rw[Tf (by omega),Tf (λh=>h h2),h3,Tf (by decide),e5,hb]
  rfl
 have hcf:=λ{H':List HP}{w:World}(gs:Nat) (hm:blk gs (.cells #[.int .i64 s.len,.int .i64 s.off,.slice s.A s.cells.length s.cap] 33 (0,0))∈H') (hr:Rd B w0 H' A (l.flatMap flwF)) (hw:St B w0 H' w)=>WB (λf=>decide (s.len.tmod f.2.2.2.1≠0)) l 261 [.pointer (some ⟨gs,0,none⟩)] YwT (by omega) (cap:=cap) hr (λf hf w hw=>Ygg s f gs hsl ⟨(hper f hf).2.2.1,(hper f hf).2.2.2⟩ hm hw) hw
 rw[hb]at hcf
 cases b with
 |true=>
  rw[To rfl]at hw0
  have hS:schE n.net l s.sch=(-1,11):=by unfold schE;rw[hw0];rfl
  rw[hS]
  repeat'(first|((apply Yb XQ);exact za;exact rfl;exactλ_ hw=>(hchk hin.cons.cons hw))|((apply Yb en39);exact za;exact rfl;exactλ_ hw=>(Y3 n.nodes l hlf hrf.cons.cons hw))|((apply Yb Yhx);exact za;exact rfl;exactλ_ hw=>(hsz hw))|((apply Yb en40);exact za;exact rfl;exactλ_ hw=>(hcf _ zm hrf.cons.cons hw))|(apply zg29;(apply Yu;exact za;exact rfl))|refine zgd ?_|(refine zge ?_ ?_<;>intro _<;>try exact zo)|(refine zgh ?_;intro _)|fail)
  apply Yf H
  ·exact zc0
  exact zc4
 |false=>
 rw[Tf (by decide)]at hw0
 by_cases h5:512<s.cells.length
 ·rw[To h5]at hw0
  have hS:schE n.net l s.sch=(-1,8):=by unfold schE;rw[hw0];rfl
  rw[hS]
  repeat'(first|((apply Yb XQ);exact za;exact rfl;exactλ_ hw=>(hchk hin.cons.cons hw))|((apply Yb en39);exact za;exact rfl;exactλ_ hw=>(Y3 n.nodes l hlf hrf.cons.cons hw))|((apply Yb Yhx);exact za;exact rfl;exactλ_ hw=>(hsz hw))|((apply Yb en40);exact za;exact rfl;exactλ_ hw=>(hcf _ zm hrf.cons.cons hw))|(apply zg29;(apply Yu;exact za;exact rfl))|refine zgd ?_|(refine zgf ?_ ?_<;>intro _<;>try exact zo)|(refine zgh ?_;intro _)|fail)
  apply Yf H
  ·exact zc0
  exact zc4
 rw[Tf h5]at hw0
 have hS:schE n.net l s.sch=if(XZ n.net l s.sch).2≠0 then XZ n.net l s.sch else if(Zn s.sch).2≠0 then Zn s.sch else Yco n.net s.sch:=by
  unfold schE;rw[hw0];rfl
 rw[hS]
 have hcc:=λ{H':List HP}{w:World}(hin:n.In B w0 H') (hrf:Rd B w0 H' A (l.flatMap flwF)) (hr:Rd B w0 H' s.A (s.cells.flatMap celF)) (hw:St B w0 H' w)=>Ybi n l s h1 (by omega) hl (cap:=cap) hin hrf hr hw
 obtain⟨⟨c1,c2⟩,hcv⟩:∃R,XZ n.net l s.sch=R:=⟨_,rfl⟩
 rw[hcv]at hcc⊢
 dsimp only at hcc⊢
 by_cases h6:c2≠0
 ·rw[To h6]
  refine zX89 ?_<;>intros
  apply Yf H
  ·exact zc0
  exact zc4
 obtain rfl:c2=0:=TQ.1 h6
 rw[Tf h6]
 have hgood:=YjH (n:=n.net) (l:=l) (s:=s.sch) (by rw[hcv])
 refine zX89 ?_<;>intros
 first|(rename_i gn gs;guard_hyp gn:Nat;guard_hyp gs:Nat)|(rename_i gn gs _;guard_hyp gn:Nat;guard_hyp gs:Nat)|(rename_i gn gs _ _;guard_hyp gn:Nat;guard_hyp gs:Nat)|(rename_i gn gs _ _ _;guard_hyp gn:Nat;guard_hyp gs:Nat)|(rename_i gn gs _ _ _ _;guard_hyp gn:Nat;guard_hyp gs:Nat)|(rename_i gn gs _ _ _ _ _;guard_hyp gn:Nat;guard_hyp gs:Nat)|(rename_i gn gs _ _ _ _ _ _;guard_hyp gn:Nat;guard_hyp gs:Nat)
 refine Ye (λ(k:Nat)=>[(53,.int .i64 k),(52,.int .i64 s.cells.length),(51,.slice s.A s.cells.length s.cap),(3,.pointer (some ⟨gn,0,none⟩)),(5,.pointer (some ⟨gs,0,none⟩))]) (λ_=>blk gs (.cells #[.int .i64 s.len,.int .i64 s.off,.slice s.A s.cells.length s.cap] 33 (0,0))::netN gn n::H) (λk=>k<=s.cells.length/\∀j,j<k->X5 s.sch j=false) (λk=>s.cells.length-k) 0 ⟨Td _,λj hj=>absurd hj (Re _)⟩ ?_ (λw hw=>hw) ?_
 ·exact zc1
 rintro k ⟨hk,hall⟩ K hK
 have hF:Zn s.sch=Yz (λi=>if X5 s.sch i=true then 6 else 0) s.cells.length 0:=rfl
 unfold netN
 by_cases hlt:k<s.cells.length
 ·have htc:=λ{H':List HP}{w:World}(hr:Rd B w0 H' s.A (s.cells.flatMap celF)) (hw:St B w0 H' w)=>YkZ s k hlt (by omega) hr hw
  cases htw:X5 s.sch k with
  |true=>
   rw[htw]at htc
   have hT:Zn s.sch=((k:Int),6):=Yuc
   rw[hT,To (show(6:Int)≠0 by decide)]
   repeat'(first|((apply Yb Ytb);exact za;exact rfl;exactλ_ hw=>(htc hr.cons.cons hw))|refine zgd ?_|(refine zge ?_ ?_<;>intro _<;>try exact zo)|fail)
   apply Yf H
   ·exact zc0
   exact zc4
  |false=>
   rw[htw]at htc
   repeat'(first|((apply Yb Ytb);exact za;exact rfl;exactλ_ hw=>(htc hr.cons.cons hw))|refine zgc ?_|(refine zge ?_ ?_<;>intro _<;>try exact zo)|fail)
   apply hK (k+1)
   ·exact Yum
   ·omega
   ·exact zc1
   ·unfold netN
    exact zc0
 have hT:(Zn s.sch).2=0:=by
  rw[hF,YF]
  intro j _ hj
  simp only[hall j (by omega)]
  rfl
 rw[Tf (λh=>h hT)]
 clear hK
 refine zX1 ?_<;>intros
 refine Ye (λ(k:Nat)=>[(64,.int .i64 k),(63,.int .i64 s.cells.length),(62,.slice s.A s.cells.length s.cap),(3,.pointer (some ⟨gn,0,none⟩)),(5,.pointer (some ⟨gs,0,none⟩))]) (λ_=>blk gs (.cells #[.int .i64 s.len,.int .i64 s.off,.slice s.A s.cells.length s.cap] 33 (0,0))::netN gn n::H) (λk=>k<=s.cells.length/\∀j,j<k->ZX n.net s.sch j=false) (λk=>s.cells.length-k) 0 ⟨Td _,λj hj=>absurd hj (Re _)⟩ ?_ (λw hw=>hw) ?_
 ·exact zc1
 rintro k ⟨hk,hall⟩ K2 hK
 have hF:Yco n.net s.sch=Yz (λi=>if ZX n.net s.sch i=true then 16 else 0) s.cells.length 0:=rfl
 unfold netN
 by_cases hlt:k<s.cells.length
 ·have htc:=λ{H':List HP}{w:World}(hin:n.In B w0 H') (hr:Rd B w0 H' s.A (s.cells.flatMap celF)) (hw:St B w0 H' w)=>Ycu n s k h1 hgood hlt (by omega) hin hr hw
  cases htw:ZX n.net s.sch k with
  |true=>
   rw[htw]at htc
   have hT:Yco n.net s.sch=((k:Int),16):=Yuc
   rw[hT]
   repeat'(first|((apply Yb Ytc);exact za;exact rfl;exactλ_ hw=>(htc hin.cons.cons hr.cons.cons hw))|refine zgd ?_|(refine zge ?_ ?_<;>intro _<;>try exact zo)|fail)
   apply Yf H
   ·exact zc0
   exact zc4
  |false=>
   rw[htw]at htc
   repeat'(first|((apply Yb Ytc);exact za;exact rfl;exactλ_ hw=>(htc hin.cons.cons hr.cons.cons hw))|refine zgc ?_|(refine zge ?_ ?_<;>intro _<;>try exact zo)|fail)
   apply hK (k+1)
   ·exact Yum
   ·omega
   ·exact zc1
   ·unfold netN
    exact zc0
 ·have hT:Yco n.net s.sch=(-1,0):=by
   rw[hF]
   exact Xn λj _ hj=>by simp only[hall j (by omega)];rfl
  rw[hT]
  refine zX1 ?_<;>intros
  apply Yf H
  ·exact zc0
  exact zc4
theorem Yc8{α:Type}(f:α->HP)(l:List α)(r:α)(H:List HP):Perm (f r::many (l.map f)::H) (many ((l++[r]).map f)::H):=by
 have:=Perm.push (f r) (l.map f) [] H
 simp_all
abbrev clsP(A:Option Addr)(cap:Nat)(C:List ClM):HP:=sl 189 5 A C.length cap (C.flatMap clF)
theorem Yhm(A:Option Addr)(cap:Nat)(l:List ClM)(c:ClM):sl 189 5 A (l.length+1) cap (l.flatMap clF++#[Value.int .i64 c.flow,.slice c.rA c.rs.length c.rcap,.slice c.bA c.bs.length c.bcap,.slice c.wA c.ws.length c.wcap,.slice c.sA c.ss.length c.scap].toList)=clsP A cap (l++[c]):=by simp[clsP,List.flatMap_append,clF]
def OutC(H:List HP)(R:List Clm×(Int×Int))(v:Value)(K:List HP):Prop:=∃A cap C,v=.tuple #[.slice A (C:List ClM).length cap,.int .i64 R.2.1,.int .i64 R.2.2]/\C.map ClM.clm=R.1/\(∀c∈C,c.lens)/\K=clsP A cap C::many (C.map clQ)::H
variable {B:Nat}{w0 w:World}{H:List HP}
theorem Ydd(h:St B w0 H w):St B w0 (clsP none 0 []::many (([]:List ClM).map clQ)::H) w:=(h.perm (.noMany H)).nilSlice _ _
theorem YlF{R:List Clm×(Int×Int)}{v:Value}(h1:R.1=[])(hv:v=.tuple #[.slice none 0 0,.int .i64 R.2.1,.int .i64 R.2.2]):OutC H R v (clsP none 0 []::many (([]:List ClM).map clQ)::H):=⟨none,0,[],hv,h1.symm,(λc hc=>by cases hc),rfl⟩
structure MkM where
 i:Nat
 A:Option Addr
 cap:Nat
 C:List ClM
theorem Us(n:NetM)(q:List RqM)(s:SchM){A:Option Addr}{cap:Nat}(ht:TabsB B w0)(hin:n.In B w0 H)(hq:QIn B w0 H A q)(hrs:Rd B w0 H s.A (s.cells.flatMap celF))(hsl:s.cells.length<=1000000000000)(hw:St B w0 H w):
 CX B w0 90 [n.val,.slice A q.length cap,s.val] w (OutC H (YD n.net (q.map RqM.rq) s.sch)):=by
 refine Ya Tryz.func90 Tryz.ntmps90 rfl rfl hw ?_
 have hql:=hq.ln
 have hqr:=hq.rd
 have p1:=λ{H':List HP}{w:World}(hin:n.In B w0 H') (hq:QIn B w0 H' A q) (hw:St B w0 H' w)=>Yef n q (cap:=cap) hin hq hw
 have p2:=λ{H':List HP}{w:World}(hq:QIn B w0 H' A q) (hw:St B w0 H' w)=>YaC q (cap:=cap) hql hq.rd hw
 have p3:=λ{A2:Option Addr}{cap2:Nat}{H':List HP}{w:World}(hin:n.In B w0 H') (hf:Rd B w0 H' A2 ((RqM.fl q).flatMap flwF)) (hrs:Rd B w0 H' s.A (s.cells.flatMap celF)) (hw:St B w0 H' w)=>Yep n (RqM.fl q) s Yl3 hsl (cap:=cap2) hin hf hrs hw
 have p4:=λ{H':List HP}{w:World}(x:RqM) (h9:x.rows.length<=9) (hin:n.In B w0 H') (hrs:Rd B w0 H' s.A (s.cells.flatMap celF)) (hx:x.In B w0 H') (hw:St B w0 H' w)=>YjL n s x ht hin hrs hsl hx h9 hw
 obtain⟨R,hR⟩:∃R,YD n.net (q.map RqM.rq) s.sch=R:=⟨_,rfl⟩
 rw[hR]
 unfold YD at hR
 rw[Tu]at hR
 have hrq:(rqsE n.net (q.map RqM.rq)).2=0->∀x∈q,x.rows.length<=9:=λh x hx=>by
  exact zc41
 obtain⟨⟨ri,re⟩,hr⟩:∃r,rqsE n.net (q.map RqM.rq)=r:=⟨_,rfl⟩
 obtain⟨⟨ci,ce⟩,hc⟩:∃r,schE n.net (YG (q.map RqM.rq)) s.sch=r:=⟨_,rfl⟩
 obtain⟨F,hF⟩:∃F:Nat->Int,(λi=>if ZE n.net s.sch (rqAt (q.map RqM.rq) i)=true then 15 else 0)=F:=⟨_,rfl⟩
 rw[hr]at p1 hR hrq
 rw[YeP]at p3
 rw[hc]at p3 hR
 rw[hF]at hR
 have hFv:∀{k:Nat}{x:RqM},q[k]? =some x->F k=if ZE n.net s.sch x.rq=true then 15 else 0:=λh=>by exact YuI
 rw[<-YeP]at p3
 dsimp only at p1 p3 hR hrq
 unfold NetM.val SchM.val
 by_cases h0:re=0
 rotate_left
 ·rw[To h0]at hR
  subst hR
  refine zX94 ?_<;>intros
  apply Yf (clsP none 0 []::many (([]:List ClM).map clQ)::H)
  ·intro w hw
   have h5:St B w0 H w:=by
    revert w
    exact zc0
   exact Ydd h5
  exact zc54
 subst h0
 rw[Tf (λe=>e rfl)]at hR
 have hrq:=hrq rfl
 by_cases h1:ce=0
 rotate_left
 ·rw[To h1]at hR
  subst hR
  refine zX94 ?_<;>intros
  apply YC [0,1,3,2,4,5,6,7,8,9] [] [true,true]
  kernel_rfl
  kernel_rfl
  exact zy
  (simp only[Yd,nthO];rfl)
  exact rfl
  refine zX3 ?_
  apply Yg _ Yln
  exact za
  exact rfl
  exactλ_ hw=>(p2 (hq.mono zc0) (hw))
  rintro _ _ ⟨A2,cap2,rfl,rfl⟩
  refine zX17 ?_
  apply Yb YsP
  exact za
  exact rfl
  exactλ_ hw=>(p3 (hin.mono zc0) (Rd.sl (by(focus exact zc2))) (hrs.mono zc0) hw)
  refine zX95 ?_<;>intros
  apply Yf (clsP none 0 []::many (([]:List ClM).map clQ)::H)
  ·intro w hw
   have h5:St B w0 H w:=by
    revert w
    exact zc0
   exact Ydd h5
  exact zc54
 subst h1
 rw[Tf (λe=>e rfl)]at hR
 refine zX94 ?_<;>intros
 first|(rename_i g3 g5;guard_hyp g3:Nat;guard_hyp g5:Nat)|(rename_i g3 g5 _;guard_hyp g3:Nat;guard_hyp g5:Nat)|(rename_i g3 g5 _ _;guard_hyp g3:Nat;guard_hyp g5:Nat)
 apply YC [0,1,3,2,4,5,6,7,8,9] [] [true,true]
 kernel_rfl
 kernel_rfl
 exact zy
 (simp only[Yd,nthO];rfl)
 exact rfl
 refine zX3 ?_
 apply Yg _ Yln
 exact za
 exact rfl
 exactλ_ hw=>(p2 (hq.mono zc0) (hw))
 rintro _ _ ⟨A2,cap2,rfl,rfl⟩
 refine zX17 ?_
 apply Yb YsP
 exact za
 exact rfl
 exactλ_ hw=>(p3 (hin.mono zc0) (Rd.sl (by(focus exact zc2))) (hrs.mono zc0) hw)
 refine zX95 ?_<;>intros
 refine Ye (λz:MkM=>[(40,.int .i64 (z.i:Nat)),(39,.int .i64 q.length),(38,.slice A q.length cap),(13,.slice z.A z.C.length z.cap),(5,.pointer (some ⟨g5,0,none⟩)),(3,.pointer (some ⟨g3,0,none⟩))]) (λz=>clsP z.A z.cap z.C::many (z.C.map clQ)::schA g5 s::netA g3 n::H)
  (λz=>z.i<=q.length/\z.C.map ClM.clm=(q.take z.i).map (λx=>clmE n.net s.sch x.rq)/\(∀c∈z.C,c.lens)/\∀j,0<=j->j<z.i->F j=0) (λz=>q.length-z.i) ⟨0,none,0,[]⟩ ⟨Td _,rfl,(λc hc=>by cases hc),λj _ h=>absurd h (Re _)⟩ ?_ ?_ ?_
 ·exact zc1
 ·intro w hw
  have h5:St B w0 (schA g5 s::netA g3 n::H) w:=by
   revert w
   exact zc0
  exact Ydd h5
 rintro⟨i,A3,cap3,C⟩ ⟨hi,hC,hCl,hz⟩ K hK
 dsimp only at hi hC hCl hz⊢
 have hqr':Rd B w0 (clsP A3 cap3 C::many (C.map clQ)::schA g5 s::netA g3 n::H) A (q.flatMap rqF):=hqr.cons.cons.cons.cons
 have hCn:C.length<=q.length:=Yun
 by_cases hlt:i<q.length
 rotate_left
 ·obtain rfl:i=q.length:=by omega
  have hfe:=Xn (f:=F) (r:=q.length) (i0:=0) λj h1 h2=>hz j h1 (by omega)
  rw[hfe,Tf (λe=>e rfl)]at hR
  subst hR
  rw[TC]at hC
  clear hK
  refine zX1 ?_<;>intros
  apply Yf (clsP A3 cap3 C::many (C.map clQ)::H)
  ·exact zc0
  exact Yug
 obtain⟨x,hx⟩:∃x,q[i]? =some x:=⟨_,Ta hlt⟩
 have hxm:=Tc hx
 have hFx:=hFv hx
 have p5:=λ{H':List HP}{w:World}(hin:n.In B w0 H') (hrs:Rd B w0 H' s.A (s.cells.flatMap celF)) (hxi:x.In B w0 H') (hw:St B w0 H' w)=>p4 x (hrq x hxm) hin hrs hxi hw
 have hxi:=hq.x x hxm
 cases hlb:ZE n.net s.sch x.rq with
 |true=>
  rw[hlb,To rfl]at hFx
  rw[hlb]at p5
  have hfe:=Xe (f:=F) (r:=q.length) (i0:=0) (i:=i) (λj h1 h2=>hz j h1 h2) (Td _) (by omega) (by rw[hFx];decide)
  rw[hfe,hFx]at hR
  rw[To (show(15:Int)≠0 from by decide)]at hR
  subst hR
  clear hK
  refine zX45 ?_<;>intros
  apply Yg _ YsQ
  exact za
  exact rfl
  exactλ_ hw=>(p5 (hin.mono zc0) (hrs.mono zc0) (hxi.mono zc0) (hw))
  rintro _ _ ⟨c,rfl,_,rfl⟩
  unfold clV
  refine zX26 ?_<;>intros
  apply Yf (clsP none 0 []::many (([]:List ClM).map clQ)::H)
  ·intro w hw
   have h5:St B w0 H w:=by
    revert w
    exact zc0
   exact Ydd h5
  exact zc54
 |false=>
  rw[hlb,Tf (by decide)]at hFx
  rw[hlb]at p5
  refine zX45 ?_<;>intros
  apply Yg _ YsQ
  exact za
  exact rfl
  exactλ_ hw=>(p5 (hin.mono zc0) (hrs.mono zc0) (hxi.mono zc0) (hw))
  rintro _ _ ⟨c,rfl,hcc,rfl⟩
  obtain⟨hcm,hcl⟩:=hcc rfl
  unfold clV
  repeat'(first|refine zgd ?_|(refine zgh ?_;intro _)|(refine zgi ?_;intro _ _)|fail)
  first|(rename_i A4 cap4;guard_hyp A4:Option Addr)
  rw[Yhm,show C.length+1=(C++[c]).length by simp]
  apply hK ⟨i+1,A4,cap4,C++[c]⟩
  ·refine⟨by exact Ybf,?_,λy hy=>?_,λj h1 h2=>?_⟩
   ·show(C++[c]).map ClM.clm=_
    rw[TD,hx,Rx,TY,TY,hC]
    simp[hcm]
   ·rcases T9.1 hy with h|h
    ·exact hCl y h
    ·rw[Ry.1 h];exact hcl
   ·rcases RJ.1 h2 with h|rfl
    ·exact hz j h1 h
    ·exact hFx
  ·exact zc73
  ·exact zc1
  ·intro w hw
   have h5:St B w0 (clsP A4 cap4 (C++[c])::clQ c::many (C.map clQ)::schA g5 s::netA g3 n::H) w:=by
    revert w
    exact zc0
   exact h5.perm (.cons _ (Yc8 clQ C c _))
variable {A A2:Option Addr}{cap cap2 B:Nat}{w0 w:World}{H:List HP}
theorem WF(l m:List Int)(hlen:l.length<=9223372036854775807)(_hlen2:m.length<=9223372036854775807)(hr:Rd B w0 H A (l.flatMap numF))(hr2:Rd B w0 H A2 (m.flatMap numF))(hw:St B w0 H w):
 CX B w0 268 [.slice A l.length cap,.slice A2 m.length cap2] w λu K=>u=.bool (decide (l=m))/\K=H:=by
 refine Ya Tryz.func268 Tryz.ntmps268 rfl rfl hw ?_
 by_cases hll:l.length=m.length
 rotate_left
 ·exact zc6
 refine zX0 ?_<;>intros
 refine Ye (λ(k:Nat)=>[(13,.int .i64 k),(12,.int .i64 l.length),(0,.slice A l.length cap),(1,.slice A2 m.length cap2)]) (λ_=>H) (λk=>k<=l.length/\l.take k=m.take k) (λk=>l.length-k) 0 ⟨Td _,by simp⟩ ?_ (λw hw=>hw) ?_
 ·exact zc1
 rintro k ⟨hk,hi⟩ K hK
 by_cases hlt:k<l.length
 ·obtain⟨a,ha⟩:∃a,l[k]? =some a:=⟨_,Ta hlt⟩
  obtain⟨b,hb⟩:∃b,m[k]? =some b:=⟨_,Ta (by omega)⟩
  repeat'(first|refine zgd ?_|(refine zge ?_ ?_<;>intro _<;>try exact zo)|fail)
  ·exact zc39
  ·rename_i h
   apply hK (k+1)
   ·exact YqV
   ·omega
   ·exact zc1
   exact zc18
 exact zc8
theorem Ydw(a b:RowM)(hl:a.xs.length<=1000000000000/\b.xs.length<=1000000000000)(hr:Rd B w0 H a.A (a.xs.flatMap numF))(hr2:Rd B w0 H b.A (b.xs.flatMap numF))(hw:St B w0 H w):
 CX B w0 265 [.slice a.A a.xs.length a.cap,.slice b.A b.xs.length b.cap] w λu K=>u=.bool (decide (a.xs=b.xs))/\K=H:=by
 refine Ya Tryz.func265 Tryz.ntmps265 rfl rfl hw ?_
 repeat'(first|((apply Yb Yo0);exact za;exact rfl;exactλ_ hw=>(YaF a.xs b.xs (by omega) (by omega) hr hr2 hw))|refine zga ?_|fail)
 exact zc9
theorem Yac(l m:List RowM)(hlen:l.length<=1000000000000)(_hlen2:m.length<=1000000000000)(hl2:∀r∈l,r.xs.length<=1000000000000)(hm2:∀r∈m,r.xs.length<=1000000000000)(hr:Rd B w0 H A (l.flatMap rowF))(hr2:Rd B w0 H A2 (m.flatMap rowF))(hrl:∀r∈l,Rd B w0 H r.A (r.xs.flatMap numF))(hrm:∀r∈m,Rd B w0 H r.A (r.xs.flatMap numF))(hw:St B w0 H w):
 CX B w0 269 [.slice A l.length cap,.slice A2 m.length cap2,.func (.func 265) #[] #[]] w λu K=>u=.bool (decide (l.map (·.xs)=m.map (·.xs)))/\K=H:=by
 refine Ya Tryz.func269 Tryz.ntmps269 rfl rfl hw ?_
 by_cases hll:l.length=m.length
 rotate_left
 ·exact zc19
 refine zX0 ?_<;>intros
 refine Ye (λ(k:Nat)=>[(17,.int .i64 k),(16,.int .i64 l.length),(15,.slice A l.length cap),(0,.slice A l.length cap),(1,.slice A2 m.length cap2),(2,.func (.func 265) #[] #[])]) (λ_=>H) (λk=>k<=l.length/\(l.take k).map (·.xs)=(m.take k).map (·.xs)) (λk=>l.length-k) 0 ⟨Td _,by simp⟩ ?_ (λw hw=>hw) ?_
 ·exact zc1
 rintro k ⟨hk,hi⟩ K hK
 by_cases hlt:k<l.length
 ·obtain⟨a,ha⟩:∃a,l[k]? =some a:=⟨_,Ta hlt⟩
  obtain⟨b,hb⟩:∃b,m[k]? =some b:=⟨_,Ta (by omega)⟩
  have ham:=Tc ha
  have hbm:=Tc hb
  have hss:=λ{w:World}(hw:St B w0 H w)=>Ydw a b ⟨hl2 a ham,hm2 b hbm⟩ (hrl a ham) (hrm b hbm) hw
  by_cases hab:a.xs=b.xs
  ·rw[Ti hab]at hss
   refine zX98 ?_<;>intros
   apply hK (k+1)
   ·exact zc63
   ·omega
   ·exact zc1
   exact zc18
  ·rw[Tn hab]at hss
   refine zX98 ?_<;>intros
   exact zc26
 exact zc8
theorem Yeo(a b:RowM)(hl:a.xs.length<=1000000000000/\b.xs.length<=1000000000000)(hr:Rd B w0 H a.A (a.xs.flatMap numF))(hr2:Rd B w0 H b.A (b.xs.flatMap numF))(hw:St B w0 H w):
 CX B w0 267 [.slice a.A a.xs.length a.cap,.slice b.A b.xs.length b.cap] w λu K=>u=.bool (decide (a.xs=b.xs))/\K=H:=by
 refine Ya Tryz.func267 Tryz.ntmps267 rfl rfl hw ?_
 repeat'(first|((apply Yb YeH);exact za;exact rfl;exactλ_ hw=>(WF a.xs b.xs (by omega) (by omega) hr hr2 hw))|refine zga ?_|fail)
 exact zc9
theorem Ybm(l m:List RowM)(hlen:l.length<=1000000000000)(_hlen2:m.length<=1000000000000)(hl2:∀r∈l,r.xs.length<=1000000000000)(hm2:∀r∈m,r.xs.length<=1000000000000)(hr:Rd B w0 H A (l.flatMap rowF))(hr2:Rd B w0 H A2 (m.flatMap rowF))(hrl:∀r∈l,Rd B w0 H r.A (r.xs.flatMap numF))(hrm:∀r∈m,Rd B w0 H r.A (r.xs.flatMap numF))(hw:St B w0 H w):
 CX B w0 270 [.slice A l.length cap,.slice A2 m.length cap2,.func (.func 267) #[] #[]] w λu K=>u=.bool (decide (l.map (·.xs)=m.map (·.xs)))/\K=H:=by
 refine Ya Tryz.func270 Tryz.ntmps270 rfl rfl hw ?_
 by_cases hll:l.length=m.length
 rotate_left
 ·exact zc19
 refine zX0 ?_<;>intros
 refine Ye (λ(k:Nat)=>[(17,.int .i64 k),(16,.int .i64 l.length),(15,.slice A l.length cap),(0,.slice A l.length cap),(1,.slice A2 m.length cap2),(2,.func (.func 267) #[] #[])]) (λ_=>H) (λk=>k<=l.length/\(l.take k).map (·.xs)=(m.take k).map (·.xs)) (λk=>l.length-k) 0 ⟨Td _,by simp⟩ ?_ (λw hw=>hw) ?_
 ·exact zc1
 rintro k ⟨hk,hi⟩ K hK
 by_cases hlt:k<l.length
 ·obtain⟨a,ha⟩:∃a,l[k]? =some a:=⟨_,Ta hlt⟩
  obtain⟨b,hb⟩:∃b,m[k]? =some b:=⟨_,Ta (by omega)⟩
  have ham:=Tc ha
  have hbm:=Tc hb
  have hss:=λ{w:World}(hw:St B w0 H w)=>Yeo a b ⟨hl2 a ham,hm2 b hbm⟩ (hrl a ham) (hrm b hbm) hw
  by_cases hab:a.xs=b.xs
  ·rw[Ti hab]at hss
   refine YtF ?_<;>intros
   apply hK (k+1)
   ·exact zc63
   ·omega
   ·exact zc1
   exact zc18
  ·rw[Tn hab]at hss
   refine YtF ?_<;>intros
   exact zc26
 exact zc8
theorem YoG{c d:ClM}:c.clm=d.clm↔c.flow=d.flow/\c.rs.map (·.xs)=d.rs.map (·.xs)/\c.bs=d.bs/\c.ws=d.ws/\c.ss.map (·.xs)=d.ss.map (·.xs):=by
 unfold ClM.clm
 simp_all
theorem YkO(c d:ClM)(hc:c.In B w0 H)(hd:d.In B w0 H)(hw:St B w0 H w):
 CX B w0 183 [clV c,clV d] w λu K=>u=.bool (decide (c.clm=d.clm))/\K=H:=by
 refine Ya Tryz.func183 Tryz.ntmps183 rfl rfl hw ?_
 have hcl:=hc.ln
 have hdl:=hd.ln
 have p1:=λ{H':List HP}{w:World}(hc:c.In B w0 H') (hd:d.In B w0 H') (hw:St B w0 H' w)=>Yac c.rs d.rs (cap:=c.rcap) (cap2:=d.rcap) hcl.1 hdl.1 hc.rl hd.rl hc.rt hd.rt hc.rw_ hd.rw_ hw
 have p2:=λ{H':List HP}{w:World}(hc:c.In B w0 H') (hd:d.In B w0 H') (hw:St B w0 H' w)=>WF c.bs d.bs (cap:=c.bcap) (cap2:=d.bcap) (by omega) (by omega) hc.bd hd.bd hw
 have p3:=λ{H':List HP}{w:World}(hc:c.In B w0 H') (hd:d.In B w0 H') (hw:St B w0 H' w)=>WF c.ws d.ws (cap:=c.wcap) (cap2:=d.wcap) (by omega) (by omega) hc.ws hd.ws hw
 have p4:=λ{H':List HP}{w:World}(hc:c.In B w0 H') (hd:d.In B w0 H') (hw:St B w0 H' w)=>Ybm c.ss d.ss (cap:=c.scap) (cap2:=d.scap) hcl.2.2.2 hdl.2.2.2 hc.sl hd.sl hc.st hd.st hc.sw hd.sw hw
 have hce:=@YoG c d
 unfold clV
 by_cases h1:c.flow=d.flow
 rotate_left
 ·rw[Tn (λh=>h1 (hce.1 h).1)]
  refine Yjf ?_<;>intros
  apply Yf H
  ·exact zc0
  exact zc3
 by_cases h2:c.rs.map (·.xs)=d.rs.map (·.xs)
 rotate_left
 ·rw[Tn (λh=>h2 (hce.1 h).2.1)]
  rw[Tn h2]at p1
  refine Yjf ?_<;>intros
  apply Yb Ylr
  exact za
  exact rfl
  exactλ_ hw=>(p1 (hc.mono zc0) (hd.mono zc0) hw)
  refine zX11 ?_
  apply Yf H
  ·exact zc0
  exact zc3
 rw[Ti h2]at p1
 by_cases h3:c.bs=d.bs
 rotate_left
 ·rw[Tn (λh=>h3 (hce.1 h).2.2.1)]
  rw[Tn h3]at p2
  refine Yjf ?_<;>intros
  apply Yb Ylr
  exact za
  exact rfl
  exactλ_ hw=>(p1 (hc.mono zc0) (hd.mono zc0) hw)
  refine zX11 ?_
  apply Yb YeH
  exact za
  exact rfl
  exactλ_ hw=>(p2 (hc.mono zc0) (hd.mono zc0) hw)
  refine zX11 ?_
  apply Yf H
  ·exact zc0
  exact zc3
 rw[Ti h3]at p2
 by_cases h4:c.ws=d.ws
 rotate_left
 ·rw[Tn (λh=>h4 (hce.1 h).2.2.2.1)]
  rw[Tn h4]at p3
  refine Yjf ?_<;>intros
  apply Yb Ylr
  exact za
  exact rfl
  exactλ_ hw=>(p1 (hc.mono zc0) (hd.mono zc0) hw)
  refine zX11 ?_
  apply Yb YeH
  exact za
  exact rfl
  exactλ_ hw=>(p2 (hc.mono zc0) (hd.mono zc0) hw)
  refine zX11 ?_
  apply Yb YeH
  exact za
  exact rfl
  exactλ_ hw=>(p3 (hc.mono zc0) (hd.mono zc0) hw)
  refine zX11 ?_
  apply Yf H
  ·exact zc0
  exact zc3
 rw[Ti h4]at p3
 have h5:decide (c.clm=d.clm)=decide (c.ss.map (·.xs)=d.ss.map (·.xs)):=decide_eq_decide.2 ⟨λh=>(hce.1 h).2.2.2.2,λh=>hce.2 ⟨h1,h2,h3,h4,h⟩⟩
 rw[h5]
 refine Yjf ?_<;>intros
 apply Yb Ylr
 exact za
 exact rfl
 exactλ_ hw=>(p1 (hc.mono zc0) (hd.mono zc0) hw)
 refine zX11 ?_
 apply Yb YeH
 exact za
 exact rfl
 exactλ_ hw=>(p2 (hc.mono zc0) (hd.mono zc0) hw)
 refine zX11 ?_
 apply Yb YeH
 exact za
 exact rfl
 exactλ_ hw=>(p3 (hc.mono zc0) (hd.mono zc0) hw)
 refine zX11 ?_
 apply Yb YwX
 exact za
 exact rfl
 exactλ_ hw=>(p4 (hc.mono zc0) (hd.mono zc0) hw)
 refine zX11 ?_
 apply Yf H
 ·exact zc0
 exact zc3
theorem YeC{c:List ClM}{i:Nat}{x:ClM}(h:c[i]? =some x):Ow (c.map ClM.clm) i=x.clm:=by
 grind [Ow]
variable {B:Nat}{w0:World}{H:List HP}
theorem Ydi{C:List ClM}{c:ClM}(hm:many (C.map clQ)∈H)(hc:c∈C)(hl:c.lens):c.In B w0 H:=by
 have hb:∀w,St B w0 H w->St B w0 (C.map clQ) w:=λw hw=>hw.inM hm
 refine ClM.In.mono (H:=C.map clQ) (Yvl (RD hc) ⟨⟨?_,?_,?_,?_⟩,?_,?_⟩) hb
 ·have:=hl.1.1;omega
 ·have:=hl.1.2.1;omega
 ·have:=hl.1.2.2.1;omega
 ·have:=hl.1.2.2.2;omega
 ·exactλr hr=>TX (hl.2.1 r hr) (by decide)
 ·exactλr hr=>TX (hl.2.2 r hr) (by decide)
theorem YfT(n:NetM)(q:List RqM)(s:SchM)(c:List ClM){A A1:Option Addr}{cap cap1:Nat}{w:World}(ht:TabsB B w0)(hin:n.In B w0 H)(hq:QIn B w0 H A q)(hrs:Rd B w0 H s.A (s.cells.flatMap celF))(hsl:s.cells.length<=1000000000000)(hc:CIn B w0 H A1 c)(hw:St B w0 H w):
 CX B w0 91 [n.val,.slice A q.length cap,s.val,.slice A1 c.length cap1] w λv K=>v=.tuple #[.int .i64 (chkE n.net (q.map RqM.rq) s.sch (c.map ClM.clm)).1,.int .i64 (chkE n.net (q.map RqM.rq) s.sch (c.map ClM.clm)).2]/\K=H:=by
 refine Ya Tryz.func91 Tryz.ntmps91 rfl rfl hw ?_
 have hcl:=hc.ln
 have hcr:=hc.rd
 have p1:=λ{H':List HP}{w:World}(hin:n.In B w0 H') (hq:QIn B w0 H' A q) (hrs:Rd B w0 H' s.A (s.cells.flatMap celF)) (hw:St B w0 H' w)=>Us n q s (cap:=cap) ht hin hq hrs hsl hw
 obtain⟨⟨RC,ri,re⟩,hR⟩:∃R,YD n.net (q.map RqM.rq) s.sch=R:=⟨_,rfl⟩
 unfold chkE
 rw[Tu]
 rw[hR]at p1⊢
 unfold OutC at p1
 dsimp only at p1⊢
 unfold NetM.val SchM.val
 by_cases h0:re=0
 rotate_left
 ·rw[To h0]
  repeat'(first|refine zgb ?_|(refine zgh ?_;intro _)|fail)
  apply Yg _ en90
  exact za
  exact rfl
  exactλ_ hw=>(p1 (hin.mono zc0) (hq.mono zc0) (hrs.mono zc0) (hw))
  rintro _ _ ⟨A2,cap2,C,rfl,hC,hCl,rfl⟩
  repeat'(first|refine zgc ?_|(refine zge ?_ ?_<;>intro _<;>try exact zo)|fail)
  apply Yf H
  ·exact zc0
  exact zc4
 subst h0
 rw[Tf (λe=>e rfl)]
 repeat'(first|refine zgb ?_|(refine zgh ?_;intro _)|fail)
 apply Yg _ en90
 exact za
 exact rfl
 exactλ_ hw=>(p1 (hin.mono zc0) (hq.mono zc0) (hrs.mono zc0) (hw))
 rintro _ _ ⟨A2,cap2,C,rfl,hC,hCl,rfl⟩
 subst hC
 rw[Tu]
 by_cases h1:c.length=C.length
 rotate_left
 ·rw[To h1]
  repeat'(first|refine zgc ?_|(refine zge ?_ ?_<;>intro _<;>try exact zo)|fail)
  apply Yf H
  ·exact zc0
  exact zc4
 rw[Tf (λe=>e h1)]
 obtain⟨F,hF⟩:∃F:Nat->Int,(λi=>if Ow (c.map ClM.clm) i=Ow (C.map ClM.clm) i then(0:Int)else 20)=F:=⟨_,rfl⟩
 rw[hF]
 have hFv:∀{k:Nat}{x y:ClM},c[k]? =some x->C[k]? =some y->F k=if x.clm=y.clm then 0 else 20:=λhx hy=>by rw[<-hF];show(if _=_ then _ else _)=_;rw[YeC hx,YeC hy]
 repeat'(first|refine zgc ?_|(refine zge ?_ ?_<;>intro _<;>try exact zo)|fail)
 refine Ye (λk:Nat=>[(33,.int .i64 (k:Nat)),(32,.int .i64 C.length),(10,.slice A2 C.length cap2),(3,.slice A1 c.length cap1)]) (λ_=>clsP A2 cap2 C::many (C.map clQ)::H) (λk=>k<=C.length/\∀j,0<=j->j<k->F j=0) (λk=>C.length-k) 0 ⟨Td _,λj _ h=>absurd h (Re _)⟩ ?_ ?_ ?_
 ·exact zc1
 ·exact zc0
 rintro k ⟨hk,hz⟩ K hK
 have hcr':Rd B w0 (clsP A2 cap2 C::many (C.map clQ)::H) A1 (c.flatMap clF):=hcr.cons.cons
 have hCr':Rd B w0 (clsP A2 cap2 C::many (C.map clQ)::H) A2 (C.flatMap clF):=.sl (.head _)
 by_cases hlt:k<C.length
 ·obtain⟨x,hx⟩:∃x,c[k]? =some x:=⟨_,Ta (by omega)⟩
  obtain⟨y,hy⟩:∃y,C[k]? =some y:=⟨_,Ta hlt⟩
  have hym:=Tc hy
  have hFk:=hFv hx hy
  have hxi:=hc.x x (Tc hx)
  have p2:=λ{H':List HP}{w:World}(hx:x.In B w0 H') (hy:y.In B w0 H') (hw:St B w0 H' w)=>YkO x y hx hy hw
  by_cases he:x.clm=y.clm
  ·rw[To he]at hFk
   rw[Ti he]at p2
   repeat'(first|refine zgb ?_|(refine zge ?_ ?_<;>intro _<;>try exact zo)|fail)
   apply Y8 [0,1,2,3,4,5,6,7,8,9] []
   kernel_rfl
   kernel_rfl
   (simp only[Yd,nthO];rfl)
   exact rfl
   repeat'(first|refine zgd ?_|fail)
   apply Yb YsR
   exact za
   exact rfl
   exactλ_ hw=>(p2 (hxi.mono zc0) (Ydi (by(focus exact zc2)) hym (hCl y hym)) hw)
   repeat'(first|(apply Yh;(repeat(first|with_reducible exact Y7|(with_reducible apply Y0;(repeat(first|with_reducible exact YB|with_reducible apply YR))))))|refine zgd ?_|fail)
   ·show Perm H (H++[])
    exact zc37
   repeat'(first|fail)
   apply hK (k+1)
   ·exact⟨by omega,λj h1 h2=>by
     rcases RJ.1 h2 with h|rfl
     ·exact hz j h1 h
     ·exact hFk⟩
   ·omega
   ·exact zc1
   ·exact zc0
  ·rw[Tf he]at hFk
   rw[Tn he]at p2
   have hfe:=Xe (f:=F) (r:=c.length) (i0:=0) (i:=k) (λj h1 h2=>hz j h1 h2) (Td _) (by omega) (by rw[hFk];decide)
   rw[hfe,hFk]
   clear hK
   repeat'(first|refine zgb ?_|(refine zge ?_ ?_<;>intro _<;>try exact zo)|fail)
   apply Y8 [0,1,2,3,4,5,6,7,8,9] []
   kernel_rfl
   kernel_rfl
   (simp only[Yd,nthO];rfl)
   exact rfl
   repeat'(first|refine zgd ?_|fail)
   apply Yb YsR
   exact za
   exact rfl
   exactλ_ hw=>(p2 (hxi.mono zc0) (Ydi (by(focus exact zc2)) hym (hCl y hym)) hw)
   repeat'(first|(apply Yh;(repeat(first|with_reducible exact Y7|(with_reducible apply Y0;(repeat(first|with_reducible exact YB|with_reducible apply YR))))))|refine zgd ?_|fail)
   ·show Perm H (H++[])
    exact zc37
   repeat'(first|fail)
   apply Yf H
   ·exact zc0
   exact zc4
 ·obtain rfl:k=C.length:=by omega
  have hfe:=Xn (f:=F) (r:=c.length) (i0:=0) λj h1 h2=>hz j h1 (by omega)
  rw[hfe]
  clear hK
  repeat'(first|refine zgc ?_|(refine zge ?_ ?_<;>intro _<;>try exact zo)|fail)
  apply Yf H
  ·exact zc0
  exact zc4
structure Pst where
 c:List Clm
 last:Nat
def YkU:Pst:=⟨[],3⟩
structure Rdr(p:Pst):Prop where
 full:∀i x,p.c[i]? =some x->i+1<p.c.length->x.bounds.length=x.routes.length/\x.worst.length=x.routes.length/\x.slots.length=x.routes.length/\1<=x.routes.length/\x.routes.length<=2
 some_:p.c=[]->p.last=3
 at_:∀cs x,p.c=cs++[x]->
  (p.last=0/\x.routes=[]/\x.bounds=[]/\x.worst=[]/\x.slots=[])\/
  (p.last=1/\1<=x.routes.length/\x.routes.length<=2/\x.bounds.length+1=x.routes.length/\x.worst.length+1=x.routes.length/\x.slots.length+1=x.routes.length)\/
  (p.last=2/\1<=x.routes.length/\x.routes.length<=2/\x.bounds.length=x.routes.length/\x.worst.length=x.routes.length/\x.slots.length+1=x.routes.length)\/
  (p.last=3/\1<=x.routes.length/\x.routes.length<=2/\x.bounds.length=x.routes.length/\x.worst.length=x.routes.length/\x.slots.length=x.routes.length)
theorem Rdr.start:Rdr YkU:=⟨λi x h=>by simp[YkU]at h,λ_=>rfl,λcs x h=>by simp[YkU]at h⟩
end Go.Proofs.YtjommdkgfbhbdaaGreatDoor
