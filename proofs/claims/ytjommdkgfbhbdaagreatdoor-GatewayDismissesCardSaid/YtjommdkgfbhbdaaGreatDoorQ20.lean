/- Lemmas. -/
import Derived.Test.YtjommdkgfbhbdaaGreatDoorQ17
import Derived.Test.YtjommdkgfbhbdaaGreatDoorQ18
set_option maxRecDepth 100000
set_option maxHeartbeats 8000000
set_option linter.all false
namespace Go.Proofs.YtjommdkgfbhbdaaGreatDoor
open Go.RowKit Go.Eng Go.Nw Go.Rt
variable {B:Nat}{w0 w:World}{H:List HP}
theorem Ygk(nodes a:Int)(hw:St B w0 H w):
 CX B w0 279 [.int .i64 nodes,.int .i64 a] w λu K=>u=.bool (insE a nodes)/\K=H:=by
 refine Ya Tryz.func279 Tryz.ntmps279 rfl rfl hw ?_
 repeat'(first|refine zgc ?_|(refine zgf ?_ ?_<;>intro _<;>try exact zo)|fail)
 all_goals(
  apply Yc;exact rfl;exact rfl
  first
   |exact⟨by rw[show insE a nodes=true from Ti (by omega)],rfl⟩
   |exact⟨by rw[show insE a nodes=false from Tn (by omega)],rfl⟩)
theorem V2(nodes:Int)(f:Lop)(hw:St B w0 H w):
 CX B w0 201 [.int .i64 nodes,lopV f] w λv K=>v=.int .i64 (lopE nodes f)/\K=H:=by
 refine Ya Tryz.func201 Tryz.ntmps201 rfl rfl hw ?_
 obtain⟨e,he⟩:∃e,lopE nodes f=e:=⟨_,rfl⟩
 rw[he]
 unfold lopV
 repeat'(first|((apply YT Yw4);exact za;exact rfl;exactλ_ hw=>(Ygk nodes _ hw);all_goals(intro hB;(try simp only[Tm,Tv]at hB);try exact zo))|refine zgd ?_|(refine zgf ?_ ?_<;>intro _<;>try exact zo)|(refine zgh ?_;intro _)|fail)
 all_goals(
  apply Yf H
  ·exact zk
  apply Yc;exact rfl;exact rfl
  refine⟨?_,rfl⟩
  rw[<-he]
  unfold lopE
  first
   |(rw[To (by first|exact .inl (by omega)|exact .inr (.inl (by omega))|exact .inr (.inr (.inl (by assumption)))|exact .inr (.inr (.inr (.inl (by assumption))))|exact .inr (.inr (.inr (.inr (by assumption)))))];done)
   |(rw[Tf (by rintro(h|h|h|h|h)<;>first|omega|simp_all)]
     first
      |(rw[To (by omega)];done)
      |(rw[Tf (by omega),To (by omega)];done)
      |(rw[Tf (by omega),Tf (by omega)];done)))
theorem Yap(nodes:Int)(l:List Lop)(hl:l.length<=9223372036854775807){A:Option Addr}{cap:Nat}(hr:Rd B w0 H A (l.flatMap lopF))(hw:St B w0 H w):
 CX B w0 109 [.int .i64 nodes,.slice A l.length cap] w λv K=>v=.tuple #[.int .i64 (XD nodes l).1,.int .i64 (XD nodes l).2]/\K=H:=by
 refine Ya Tryz.func109 Tryz.ntmps109 rfl rfl hw ?_
 by_cases hn:nodes<2\/32<nodes
 ·have hE:XD nodes l=(-1,2):=by simp_all [XD]
  exact zc31
 by_cases h16:8<l.length
 ·have hE:XD nodes l=(-1,8):=by simp_all [XD]
  rw[hE]
  refine zX42 ?_<;>intros
  exact zc28
 have hE:XD nodes l=Yz (Xb nodes l) l.length 0:=by simp_all [XD,if_neg]
 rw[hE]
 refine zX42 ?_<;>intros
 refine Ye (λ(i:Nat)=>[(6,.int .i64 i),(0,.int .i64 nodes),(1,.slice A l.length cap)]) (λ_=>H) (λi=>i<=l.length/\∀k,k<i->Xb nodes l k=0) (λi=>l.length-i) 0 ⟨Td _,λk hk=>absurd hk (Re _)⟩ ?_ (λw hw=>hw) ?_
 ·exact zc1
 rintro i ⟨hi,hall⟩ K hK
 by_cases hlt:i<l.length
 ·have hget:l[i]? =some (XS l i):=OS hlt
  have hbad:Xb nodes l i≠0->Yz (Xb nodes l) l.length 0=((i:Int),Xb nodes l i):=λh=>Xe (λk _ hk=>hall k hk) (Td _) (by omega) h
  have hstep:Xb nodes l i=0->∀k,k<i+1->Xb nodes l k=0:=λh k hk=>by
   grind
  by_cases he:lopE nodes (XS l i)≠0
  ·have hf:Xb nodes l i=lopE nodes (XS l i):=by unfold Xb;exact To he
   rw[hbad (by rw[hf];exact he),hf]
   repeat'(first|((apply Yb Ylo);exact za;exact rfl;exactλ_ hw=>(V2 nodes (XS l i) hw))|refine zgd ?_|(refine zge ?_ ?_<;>intro _<;>try exact zo)|fail)
   apply Yf H
   ·exact zc0
   exact zc4
  have he0:=TQ.1 he
  have hck:=λ{H':List HP}{w:World}(hw:St B w0 H' w)=>V2 nodes (XS l i) hw
  rw[he0]at hck
  rcases RU i with h0|h0
  ·subst h0
   have hf:Xb nodes l 0=0:=by unfold Xb;exact Yl6
   refine YqC ?_<;>intros
   apply hK (0+1)
   ·exact Ybe
   ·omega
   ·exact zc1
   ·exact zc0
  have hget2:l[((i:Int)-1).toNat]? =some (XS l (i-1)):=YuJ
  by_cases hle:(XS l i).1<=(XS l (i-1)).1
  ·have hf:Xb nodes l i=5:=by unfold Xb;exact Yl5
   rw[hbad (by rw[hf];decide),hf]
   refine YqC ?_<;>intros
   apply Yf H
   ·exact zc0
   exact zc4
  ·have hf:Xb nodes l i=0:=by unfold Xb;exact Yl4
   refine YqC ?_<;>intros
   apply hK (i+1)
   ·exact Ybe
   ·omega
   ·exact zc1
   ·exact zc0
 ·refine zX1 ?_<;>intros
  rw[show i=l.length by omega]at hall
  rw[Xn λk _ hk=>hall k (by omega)]
  exact zc4
theorem OF(l:Lop)(s:Spl)(h1:1<=l.2.2.2.2.1/\l.2.2.2.2.1<=512)(h2:(1<=s.1/\s.1<=512)/\(1<=s.2/\s.2<=512))(hw:St B w0 H w):
 CX B w0 278 [lopV l,splV s] w λv K=>v=.int .i64 (YdO l s)/\K=H:=by
 refine Ya Tryz.func278 Tryz.ntmps278 rfl rfl hw ?_
 unfold lopV splV
 refine zX26 ?_<;>intros
 apply Yf H
 ·exact zc0
 exact zc3
theorem Ygj(l:Lop)(s:Spl)(h1:1<=l.2.2.2.2.1/\l.2.2.2.2.1<=512)(hw:St B w0 H w):
 CX B w0 202 [lopV l,splV s] w λv K=>v=.bool (fitS l s)/\K=H:=by
 refine Ya Tryz.func202 Tryz.ntmps202 rfl rfl hw ?_
 obtain⟨b,hb⟩:∃b,fitS l s=b:=⟨_,rfl⟩
 rw[hb]
 unfold fitS at hb
 have p1:=λ(h2:(1<=s.1/\s.1<=512)/\(1<=s.2/\s.2<=512)) {H':List HP}{w:World}(hw:St B w0 H' w)=>OF l s h1 h2 hw
 unfold lopV splV at p1⊢
 repeat'(first|((apply Ym Yte);exact za;exact rfl;exactλ_ hw=>(p1 (by omega) hw))|(apply zg28;refine zs84 ?_)|refine zgd ?_|(refine zgf ?_ ?_<;>intro _<;>try exact zo)|(refine zgh ?_;intro _)|fail)
 all_goals(
  apply Yf H
  ·exact zk
  apply Yc;exact rfl;exact rfl
  refine⟨?_,rfl⟩
  rw[<-hb]
  first
   |(rw[Ti (by omega)];done)
   |(rw[Tn (by omega)];done))
theorem OE(l:Lop)(s:Spl)(hw:St B w0 H w):
 CX B w0 277 [lopV l,splV s] w λv K=>v=.int .i64 (Xc l s)/\K=H:=by
 refine Ya Tryz.func277 Tryz.ntmps277 rfl rfl hw ?_
 have p1:=λ{H':List HP}{w:World}(hw:St B w0 H' w)=>V2 32 l hw
 unfold Xc
 by_cases h:lopE 32 l=0
 rotate_left
 ·rw[To h]
  unfold lopV at p1⊢
  unfold splV
  repeat'(first|((apply Yb Ylo);exact za;exact rfl;exactλ_ hw=>(p1 hw))|refine zgb ?_|(refine zge ?_ ?_<;>intro _<;>try exact zo)|(refine zgh ?_;intro _)|fail)
  apply Yf H
  ·exact zc0
  exact zc9
 have p2:=λ{H':List HP}{w:World}(hw:St B w0 H' w)=>Ygj l s (ZF h).2.1 hw
 rw[Tf (λe=>e h)]
 rw[h]at p1
 unfold lopV at p1
 unfold lopV splV at p2
 unfold lopV splV
 cases hb:fitS l s with
 |false=>
  rw[hb]at p2
  rw[To rfl]
  refine Yt5 ?_<;>intros
  apply Yf H
  ·exact zc0
  exact zc9
 |true=>
  rw[hb]at p2
  rw[Tf (by decide)]
  refine Yt5 ?_<;>intros
  apply Yf H
  ·exact zc0
  exact zc9
theorem Yea(l:Lop)(s:Spl)(hw:St B w0 H w):
 CX B w0 199 [lopV l,splV s] w λv K=>(∃z,v=.tuple #[.int .i64 z,.int .i64 (Xc l s)])/\K=H:=by
 refine Ya Tryz.func199 Tryz.ntmps199 rfl rfl hw ?_
 have p1:=λ{H':List HP}{w:World}(hw:St B w0 H' w)=>OE l s hw
 by_cases h:Xc l s=0
 ·obtain⟨h1,h2,h3,-⟩:=Vz h
  have p2:=λ{H':List HP}{w:World}(hw:St B w0 H' w)=>OF l s (ZF h1).2.1 ⟨h2,h3⟩ hw
  rw[h]at p1⊢
  unfold lopV splV at p1 p2⊢
  repeat'(first|((apply Yb Ytd);exact za;exact rfl;exactλ_ hw=>(p1 hw))|((apply Yb Yte);exact za;exact rfl;exactλ_ hw=>(p2 hw))|refine zgb ?_|(refine zge ?_ ?_<;>intro _<;>try exact zo)|(refine zgh ?_;intro _)|fail)
  apply Yf H
  ·exact zc0
  exact zc28
 ·unfold lopV splV at p1⊢
  refine Yt6 ?_<;>intros
  apply Yf H
  ·exact zc0
  exact zc28
theorem Yeb(l:Lop)(s:Spl)(h:Xc l s=0)(hw:St B w0 H w):
 CX B w0 280 [lopV l,splV s] w λv K=>∃A,v=.slice A 2 2/\K=flws A 2 [Zz l s,Zi l s]::H:=by
 refine Ya Tryz.func280 Tryz.ntmps280 rfl rfl hw ?_
 obtain⟨h1,h2,h3,-⟩:=Vz h
 obtain⟨h4,h5,h6,h7⟩:=ZF h1
 have e2:Zi l s=(2*l.1+1,l.2.2.1,l.2.2.2.1,l.2.2.2.2.1,(l.2.2.2.2.2.1+s.1)%l.2.2.2.2.1,s.2):=by
  grind [Zi]
 rw[e2,show Zz l s=(2*l.1,l.2.1,l.2.2.1,l.2.2.2.2.1,l.2.2.2.2.2.1,s.1) from rfl]
 unfold lopV splV
 refine YX [many H] (λw hw=>hw.perm (.closeT H)) ?_
 refine zX15 ?_<;>intros
 apply YC [0,1,2,3,4,5,6,7,8,9,10,11,12,13,14,15,16,17,18,19,20,21,22,23,24,25,26,27,28,29,30,31,32,33,34,35,36] [] [true,true,true]
 kernel_rfl
 kernel_rfl
 exact zy
 (simp only[Yd,nthO];rfl)
 exact rfl
 refine Yqv ?_<;>intros
 rename_i g
 apply Yf (flws (some ⟨g,0,none⟩) 2 [(2*l.1,l.2.1,l.2.2.1,l.2.2.2.2.1,l.2.2.2.2.2.1,s.1),(2*l.1+1,l.2.2.1,l.2.2.2.1,l.2.2.2.2.1,(l.2.2.2.2.2.1+s.1)%l.2.2.2.2.1,s.2)]::H)
 ·intro w hw
  have h5:St B w0 (blk g (.cells #[.int .i64 (2*l.1),.int .i64 l.2.1,.int .i64 l.2.2.1,.int .i64 l.2.2.2.2.1,.int .i64 l.2.2.2.2.2.1,.int .i64 s.1,.int .i64 (2*l.1+1),.int .i64 l.2.2.1,.int .i64 l.2.2.2.1,.int .i64 l.2.2.2.2.1,.int .i64 ((l.2.2.2.2.2.1+s.1)%l.2.2.2.2.1),.int .i64 s.2] 45 (0,0))::[many H]) w:=by
   revert w
   exact zc0
  exact(h5.perm (.cons _ (.openT H))).blk_sl (cs:=[(2*l.1,l.2.1,l.2.2.1,l.2.2.2.2.1,l.2.2.2.2.2.1,s.1),(2*l.1+1,l.2.2.1,l.2.2.2.1,l.2.2.2.2.1,(l.2.2.2.2.2.1+s.1)%l.2.2.2.2.1,s.2)].flatMap flwF) (len:=2) (size:=6) rfl (by omega)
 exact zc9
theorem Yd9(l:Lop)(s:Spl)(h:Xc l s=0)(hw:St B w0 H w):
 CX B w0 203 [lopV l,splV s] w λv K=>∃A,v=.tuple #[.slice A 2 2,.int .i64 0]/\K=flws A 2 [Zz l s,Zi l s]::H:=by
 refine Ya Tryz.func203 Tryz.ntmps203 rfl rfl hw ?_
 have p1:=λ{H':List HP}{w:World}(hw:St B w0 H' w)=>OE l s hw
 have p2:=λ{H':List HP}{w:World}(hw:St B w0 H' w)=>Yeb l s h hw
 rw[h]at p1
 unfold lopV splV at p1 p2⊢
 refine Yt6 ?_<;>intros
 apply Yg _ Yw5
 exact za
 exact rfl
 exactλ_ hw=>(p2 (hw))
 rintro _ _ ⟨A,rfl,rfl⟩
 refine zX2 ?_
 apply Yf (flws A 2 [Zz l s,Zi l s]::H)
 ·exact zc0
 exact zc28
theorem OQ{f:Nat->Int}:∀{r i:Nat},(Yz f r i).2≠0->0<=(Yz f r i).1
 |0,_,h=>absurd rfl h
 |r+1,i,h=>by
  unfold Yz at h⊢
  split
  ·rename_i h0
   rw[To h0]at h
   exact OQ h
  omega
variable {n:Net}
theorem YjK{s t:Int}{r:List Int}:Xw n s t r≠15:=by
 grind [Xw,Zq,Jk]
theorem Ysk{x:Rqs}:rtsE n x≠15:=by
 grind [rtsE,Vs,YjK]
theorem Ypi{nodes:Int}{l:List Flw}{i:Nat}:YV nodes l i≠15:=by
 grind [YV,Xl]
theorem Ysj{q:List Rqs}(hck:Yo n=0)(h:(rqsE n q).2≠0):(rqsE n q).2≠15/\((rqsE n q).2=1->0<=(rqsE n q).1):=by
 unfold rqsE at h⊢
 rw[Tf (λe=>e hck)]at h⊢
 split
 ·rename_i h1
  unfold Yt at h1⊢
  split
  ·omega
  split
  ·omega
  ·rename_i h2 h3
   rw[Tf h2,Tf h3]at h1
   obtain⟨k,-,-,e,-⟩:=Vs h1
   exact⟨by grind [Ypi],λ_=>OQ h1⟩
 ·rename_i h1
  rw[Tf h1]at h
  obtain⟨k,-,-,e,-⟩:=Vs h
  exact⟨by grind [Ysk],λ_=>OQ h⟩
theorem Yrv(p:Pln):chkP p=if(rqsE p.n p.q).2≠0 then 1 else if(YD p.n p.q p.s).2.2≠0 then 18 else if(YD p.n p.q p.s).1≠p.c then 20 else if(Y9 p.s).2≠0\/(Y9 p.s).1≠p.f then 11 else 0:=by
 unfold chkP
 by_cases hck:Yo p.n=0
 rotate_left
 ·simp_all [rqsE]
 rw[Tf (show¬Yo p.n≠0 fromλe=>e hck)]
 by_cases hrq:(rqsE p.n p.q).2=0
 rotate_left
 ·obtain⟨h1,h2⟩:=Ysj hck hrq
  simp_all [YD]
 have hq0:¬(rqsE p.n p.q).2≠0:=λe=>e hrq
 rw[Tf hq0]
 by_cases hce:(YD p.n p.q p.s).2.2=0
 rotate_left
 ·have hor:(YD p.n p.q p.s).2.2=15\/(YD p.n p.q p.s).2.2=1/\(YD p.n p.q p.s).2.1<0:=by
   unfold YD at hce⊢
   rw[Tf hq0]at hce⊢
   split
   ·simp_all
   rename_i h1
   rw[Tf h1]at hce
   split
   ·rename_i h2
    obtain⟨k,-,-,e,h3⟩:=Vs h2
    simp_all
   simp_all
  omega
 have hc0:¬(YD p.n p.q p.s).2.2≠0:=λe=>e hce
 rw[Tf (show¬((YD p.n p.q p.s).2.2=15\/(YD p.n p.q p.s).2.2=1/\(YD p.n p.q p.s).2.1<0) by omega),Tf hc0,Tf hc0]
 have hk:(chkE p.n p.q p.s p.c).2=0↔(YD p.n p.q p.s).1=p.c:=by
  constructor
  ·intro h
   unfold chkE at h
   rw[Tf hc0]at h
   split at h
   ·cases h
   rename_i hl
   have hl:=TQ.1 hl
   rw[YF]at h
   refine List.ext_getElem hl.symm λi h1 h2=>?_
   have h3:=h i (Td _) (by omega)
   split at h3
   ·rename_i h4
    unfold Ow at h4
    rw[TB,TB,Ta h1,Ta h2]at h4
    exact h4.symm
   ·cases h3
  grind [Yhk]
 simp_all
variable {B:Nat}{w0 w:World}{H:List HP}
theorem YiH(n:NetM)(hin:n.In B w0 H)(h1:n.rows.length<=1000)(h2:∀r∈n.rows,r.xs.length<=1000)(h3:n.links.length<=1000)(h4:n.margin.length<=1000)(hw:St B w0 H w):
 CX B w0 141 [n.val] w λv K=>∃pA pcap,∃rs:List RowM,∃lA lcap mA mcap,rs.map (·.xs)=n.rows.map (·.xs)/\v=.agg #[.int .i64 n.nodes,.slice pA rs.length pcap,.int .i64 n.noise,.int .i64 n.thr,.slice lA n.links.length lcap,.slice mA n.margin.length mcap]/\K=ints mA mcap n.margin::sl 164 3 lA n.links.length lcap (n.links.flatMap lkF)::sl 24 1 pA rs.length pcap (rs.flatMap rowF)::many (rs.map rowQ)::H:=by
 refine Ya Tryz.func141 Tryz.ntmps141 rfl rfl hw ?_
 have hpw:=hin.pw
 have hlp:=hin.lk
 have hmp:=hin.mg
 (apply Y5;apply YL;apply Yx;exact rfl;exact rfl;intro g)
 repeat'(first|(apply Yw T;exact rfl;exact rfl;intro g2)|refine zgd ?_|(refine zgh ?_;intro _)|fail)
 rename_i g1 g3
 refine YgI (λ(rs:List RowM) (A:Option Addr) (cap:Nat)=>[(4,.int .i64 rs.length),(3,.pointer (some ⟨g3,0,none⟩)),(2,.pointer (some ⟨g1,0,none⟩)),(1,.pointer (some ⟨g,0,none⟩))])
  (λrs A cap=>many (rs.map rowQ)::sl 24 1 A rs.length cap (rs.flatMap rowF)::blk g3 (.cells #[.int .i64 n.nodes,.slice A rs.length cap,.int .i64 n.noise,.int .i64 n.thr,.slice n.lA n.links.length n.lcap,.slice n.mA n.margin.length n.mcap] 26 (0,0))::blk g1 (.cells #[.int .i64 0,.slice none 0 0,.int .i64 0,.int .i64 0,.slice none 0 0,.slice none 0 0] 26 (0,0))::netB g n::H)
  (λrs _ _=>rs.length<=n.rows.length/\rs.map (·.xs)=(n.rows.take rs.length).map (·.xs)) (λrs _ _=>n.rows.length-rs.length) [] (some ⟨g2,0,none⟩) 0 ⟨Td _,rfl⟩ ?_ (λw hw=>hw.perm (.noMany _)) ?_
 ·exact zc1
 rintro rs A cap ⟨hk,hrs⟩ K hK
 by_cases hlt:rs.length<n.rows.length
 rotate_left
 ·have hrl:rs.length=n.rows.length:=by omega
  rw[hrl,TC]at hrs
  repeat'(first|(apply Yw T;exact rfl;exact rfl;intro g5)|refine zgc ?_|(refine zge ?_ ?_<;>intro _<;>try exact zo)|fail)
  apply YI T (f:=lkF) (l2:=n.links) (e:=164) (size:=3) (xs:=[]);(iterate 3 exact rfl);exact zr;exact(λ_=>rfl);exact(λ_=>rfl);exact rfl;(intro _ _;exact zd);omega;intro lA lcap
  repeat'(first|(apply Yw T;exact rfl;exact rfl;intro g6)|refine zgd ?_|fail)
  apply YI T (f:=numF) (l2:=n.margin) (e:=3) (size:=1) (xs:=[]);(iterate 3 exact rfl);exact zr;exact(λ_=>rfl);exact(λ_=>rfl);exact rfl;(intro _ _;exact zd);omega;intro mA mcap
  refine zX3 ?_
  rw[Rl,Rl,TF,TF]
  apply Qa T (H2:=ints mA mcap n.margin::sl 164 3 lA n.links.length lcap (n.links.flatMap lkF)::sl 24 1 A rs.length cap (rs.flatMap rowF)::many (rs.map rowQ)::H)
  ·exact rfl
  ·exact rfl
  ·(focus exact zc2)
  ·exact rfl
  ·exact rfl
  ·intro w hw
   have h5:St B w0 (ints mA mcap n.margin::sl 164 3 lA n.links.length lcap (n.links.flatMap lkF)::sl 24 1 A rs.length cap (rs.flatMap rowF)::many (rs.map rowQ)::H) w:=by
    revert w
    exact zc0
   exact h5
  ·exact⟨_,_,rs,lA,lcap,mA,mcap,hrs,rfl,rfl⟩
 obtain⟨r,hr⟩:∃r,n.rows[rs.length]? =some r:=⟨_,Ta hlt⟩
 have hrm:=Tc hr
 have hxl:=h2 r hrm
 refine YX (many (rs.map rowQ)::sl 24 1 A rs.length cap (rs.flatMap rowF)::blk g3 (.cells #[.int .i64 n.nodes,.slice A rs.length cap,.int .i64 n.noise,.int .i64 n.thr,.slice n.lA n.links.length n.lcap,.slice n.mA n.margin.length n.mcap] 26 (0,0))::blk g1 (.cells #[.int .i64 0,.slice none 0 0,.int .i64 0,.int .i64 0,.slice none 0 0,.slice none 0 0] 26 (0,0))::netB g n::[many H]) (λw hw=>hw.perm (.cons _ (.cons _ (.cons _ (.cons _ (.cons _ (.closeT _))))))) ?_
 have hpw':Rd B w0 [many H] n.pA (n.rows.flatMap rowF):=hpw.mono λw hw=>hw.perm (.openT _)
 have hrw':Rd B w0 [many H] r.A (r.xs.flatMap numF):=(hin.rw_ r hrm).mono λw hw=>hw.perm (.openT _)
 refine zX0 ?_<;>intros
 apply Ws [0,1,3,4,5,6,7,2,8,9] [10,11,12] [false,false,true,false,true,true]
 kernel_rfl
 kernel_rfl
 exact zy
 (simp only[Yd,nthO];rfl)
 (simp only[Yd,nthO];rfl)
 repeat'(first|(apply Yw T;exact rfl;exact rfl;intro g5)|(apply Yh;try exact zl)|refine zgd ?_|fail)
 apply YI T (f:=numF) (l2:=r.xs) (e:=3) (size:=1) (xs:=[]);(iterate 3 exact rfl);exact((hin.rw_ r hrm).mono λw hw=>hw.inM (by(focus exact zc2)));exact(λ_=>rfl);exact(λ_=>rfl);exact rfl;(intro _ _;exact zd);omega;intro xA xcap
 rw[Rl r.xs.length,TF (r.xs.flatMap numF)]
 repeat'(first|(apply Yh;try exact zl)|refine zgd ?_|(refine zgh ?_;intro _)|(refine zgi ?_;intro _ _)|fail)
 have e1:∀(A:Option Addr) (cap:Nat),sl 24 1 A (rs.length+1) cap (rs.flatMap rowF++#[Value.slice xA r.xs.length xcap].toList)=sl 24 1 A (rs++[RowM.mk xA xcap r.xs]).length cap ((rs++[RowM.mk xA xcap r.xs]).flatMap rowF):=λA cap=>by simp[rowF,List.flatMap_append]
 rw[e1]
 rename_i A' cap'
 apply hK (rs++[RowM.mk xA xcap r.xs]) A' cap'
 ·rw[Tt,TP]
  refine⟨by omega,?_⟩
  rw[TD,hr]
  simp only[TY,hrs]
  rfl
 ·rw[Tt,TP];omega
 ·rw[Tt,TP];exact zc1
 ·intro w hw
  have h5:St B w0 (ints xA xcap r.xs::many (rs.map rowQ)::sl 24 1 A' (rs++[RowM.mk xA xcap r.xs]).length cap' ((rs++[RowM.mk xA xcap r.xs]).flatMap rowF)::blk g3 (.cells #[.int .i64 n.nodes,.slice A' (rs.length+1) cap',.int .i64 n.noise,.int .i64 n.thr,.slice n.lA n.links.length n.lcap,.slice n.mA n.margin.length n.mcap] 26 (0,0))::blk g1 (.cells #[.int .i64 0,.slice none 0 0,.int .i64 0,.int .i64 0,.slice none 0 0,.slice none 0 0] 26 (0,0))::netB g n::[many H]) w:=by
   revert w
   exact zc0
  have h6:=h5.perm (.cons _ (.cons _ (.cons _ (.cons _ (.cons _ (.cons _ (.openT _)))))))
  rw[TY]
  refine h6.perm (.trans (by rw[<-Ru (rs.map rowQ)];exact Perm.push _ _ [] _) ?_)
  rw[List.map_singleton,Tt,TP]
  exact .refl _
theorem Ynj{n:NetM}(hok:Ok n.net):n.rows.length<=1000/\(∀r∈n.rows,r.xs.length<=1000)/\n.links.length<=1000/\n.margin.length<=1000:=by
 have h0:=hok.n1
 have h1:=hok.p0
 have h2:=hok.k0
 have h3:=hok.k1
 have e1:n.net.power.length=n.rows.length:=by simp[NetM.net]
 have e2:n.net.links=n.links:=rfl
 have e3:n.net.margin=n.margin:=rfl
 rw[e2]at h2 h3;rw[e3]at h3
 refine⟨by omega,λr hr=>?_,by omega,by omega⟩
 have:=hok.p1 r.xs (RD hr)
 omega
theorem Ydq(n:NetM)(q:List RqM)(s:SchM)(hc:(YD n.net (q.map RqM.rq) s.sch).2.2=0){A:Option Addr}{cap:Nat}(hin:n.In B w0 H)(hq:QIn B w0 H A q)(hrs:Rd B w0 H s.A (s.cells.flatMap celF))(hsl:s.cells.length<=1000000000000)(hw:St B w0 H w):
 CX B w0 54 [n.val,.slice A q.length cap,s.val] w λv K=>∃(p:PnM) (X:List HP),v=p.val/\(p.pln=⟨n.net,q.map RqM.rq,s.sch,(YD n.net (q.map RqM.rq) s.sch).1,(Y9 s.sch).1⟩/\p.q=q/\p.qcap=cap)/\(∀H',QIn B w0 H' A q->Rd B w0 H' s.A (s.cells.flatMap celF)->p.In B w0 (many X::H'))/\K=many X::H:=by
 refine Ya Tryz.func54 Tryz.ntmps54 rfl rfl hw ?_
 have hinM:∀{H':List HP},many H∈H'->n.In B w0 H':=λhm=>hin.mono λw hw=>hw.inM hm
 have hqM:∀{H':List HP},many H∈H'->QIn B w0 H' A q:=λhm=>hq.mono λw hw=>hw.inM hm
 have hrM:∀{H':List HP},many H∈H'->Rd B w0 H' s.A (s.cells.flatMap celF):=λhm=>hrs.mono λw hw=>hw.inM hm
 have hrq:(rqsE n.net (q.map RqM.rq)).2=0:=TQ.1 λh1=>by
  unfold YD at hc;rw[To h1]at hc;exact h1 hc
 obtain⟨hck,-,-⟩:=V4 hrq
 obtain⟨s1,s2,s3,s4⟩:=Ynj (YP hck)
 have p1:=λ{H':List HP}{w:World}(hin:n.In B w0 H') (hq:QIn B w0 H' A q) (hrs:Rd B w0 H' s.A (s.cells.flatMap celF)) (hw:St B w0 H' w)=>Yds n q s (cap:=cap) hin hq hrs hsl hw
 have p2:=λ{H':List HP}{w:World}(hrs:Rd B w0 H' s.A (s.cells.flatMap celF)) (hw:St B w0 H' w)=>QI s hrs hsl hw
 have p3:=λ{H':List HP}{w:World}(hin:n.In B w0 H') (hw:St B w0 H' w)=>YiH n hin s1 s2 s3 s4 hw
 have hqn:=hq.ln
 have hfm:=Oa hc
 have hcl:(YD n.net (q.map RqM.rq) s.sch).1.length=q.length:=by rw[YbA hc];simp
 have hfl:(Y9 s.sch).1.length<=1000000000000:=by
  unfold Y9
  rw[hfm,Tf (by decide)]
  show(XT s.sch).length<=_
  unfold XT
  rw[Zd,TR]
  have h4:=TI (Xm.1 hfm).sized
  omega
 obtain⟨⟨RC,ri,re⟩,hR⟩:∃R,YD n.net (q.map RqM.rq) s.sch=R:=⟨_,rfl⟩
 obtain⟨⟨RF,fe⟩,hRF⟩:∃R,Y9 s.sch=R:=⟨_,rfl⟩
 rw[hR]at p1 hc hcl⊢
 rw[hRF]at p2 hfl⊢
 unfold OutC NetM.val SchM.val at p1
 unfold SchM.val at p2
 unfold NetM.val at p3
 unfold NetM.val SchM.val
 dsimp only at p1 p2 hc hcl hfl⊢
 refine YX [many H] (λw hw=>hw.perm (.closeT H)) ?_
 repeat'(first|refine Yi T ?_|refine zga ?_|(refine zgh ?_;intro _)|fail)
 apply Yg _ en94
 exact za
 exact rfl
 exactλ_ hw=>(p1 (hinM zm) (hqM zm) (hrM zm) (hw))
 rintro _ _ ⟨A2,c2,C,rfl,hC,hCl,rfl⟩
 repeat'(first|refine Yi T ?_|refine zgc ?_|fail)
 apply Yg _ en95
 exact za
 exact rfl
 exactλ_ hw=>(p2 (hrM zm) (hw))
 rintro _ _ ⟨A3,c3,rfl,rfl⟩
 repeat'(first|refine Yi T ?_|refine zgc ?_|fail)
 apply YC [0,2,3,4,5,1,6] [7] [true,true,true,true,true,true,true]
 kernel_rfl
 kernel_rfl
 exact zy
 (simp only[Yd,nthO];rfl)
 (simp only[Yd,nthO];rfl)
 repeat'(first|refine Yi T ?_|refine zgd ?_|fail)
 apply Yg _ Ywi
 exact za
 exact rfl
 exactλ_ hw=>(p3 (hinM zm) (hw))
 rintro _ _ ⟨pA,pcap,rs,lA,lcap,mA,mcap,hrw,rfl,rfl⟩
 repeat'(first|refine Yi T ?_|(apply Yh;try exact zl)|refine zgd ?_|fail)
 apply Qa T (H2:=many [ints mA mcap n.margin,sl 164 3 lA n.links.length lcap (n.links.flatMap lkF),sl 24 1 pA rs.length pcap (rs.flatMap rowF),many (rs.map rowQ),nrs A3 c3 RF,clsP A2 c2 C,many (C.map clQ)]::H);exact rfl;exact rfl;exact zm;exact rfl;exact rfl
 ·intro w hw
  have h5:St B w0 (ints mA mcap n.margin::sl 164 3 lA n.links.length lcap (n.links.flatMap lkF)::sl 24 1 pA rs.length pcap (rs.flatMap rowF)::many (rs.map rowQ)::nrs A3 c3 RF::clsP A2 c2 C::many (C.map clQ)::[many H]) w:=by
   revert w
   exact zk
  exact(h5.perm (.close [_,_,_,_,_,_,_] _)).perm (.cons _ (.openT H))
 have hrl:rs.length=n.rows.length:=by simpa using TA List.length hrw
 have hCn:C.length=RC.length:=by rw[<-hC,Tu]
 refine⟨⟨⟨n.nodes,pA,pcap,rs,n.noise,n.thr,lA,lcap,n.links,mA,mcap,n.margin⟩,A,cap,q,s,A2,c2,C,A3,c3,RF⟩,_,rfl,⟨?_,rfl,rfl⟩,λH' hq' hrs'=>?_,rfl⟩
 ·show Pln.mk ⟨n.nodes,rs.map (·.xs),n.noise,n.thr,n.links,n.margin⟩ (q.map RqM.rq) s.sch (C.map ClM.clm) RF=Pln.mk n.net (q.map RqM.rq) s.sch RC RF
  rw[hrw,hC];rfl
 ·have hb:∀{L:List HP}(w:World),St B w0 (many L::H') w->St B w0 L w:=λw hw=>hw.inM (.head _)
  refine⟨⟨Rd.mono (.sl (.tail _ (.tail _ (.head _)))) hb,λr hr=>Rd.mono (Rd.many (L:=rs.map rowQ) (.tail _ (.tail _ (.tail _ (.head _)))) (RD hr)) hb,Rd.mono (.sl (.tail _ (.head _))) hb,Rd.mono (.sl (.head _)) hb,by show rs.length<=_;omega,λr hr=>?_,by show n.links.length<=_;omega,by show n.margin.length<=_;omega⟩,
   hq'.cons,hrs'.cons,hsl,
   ⟨Rd.mono (.sl (.tail _ (.tail _ (.tail _ (.tail _ (.tail _ (.head _))))))) hb,λx hx=>ClM.In.mono (Ydi (C:=C) (.tail _ (.tail _ (.tail _ (.tail _ (.tail _ (.tail _ (.head _))))))) hx (hCl x hx)) hb,by show C.length<=_;omega⟩,
   Rd.mono (.sl (.tail _ (.tail _ (.tail _ (.tail _ (.head _)))))) hb,hfl⟩
  have h1:r.xs∈n.rows.map (·.xs):=by rw[<-hrw];exact TG.2 ⟨r,hr,rfl⟩
  obtain⟨r2,h2,h3⟩:=TG.1 h1
  have h4:=s2 r2 h2
  have h3:r2.xs=r.xs:=h3
  rw[h3]at h4
  omega
theorem OG(p:PnM){B:Nat}{w0:World}{H:List HP}{w:World}(hp:p.In B w0 H)(hw:St B w0 H w):
 CX B w0 23 [p.val] w λv K=>v=.int .i64 (chkP p.pln)/\K=H:=by
 refine Ya Tryz.func23 Tryz.ntmps23 rfl rfl hw ?_
 have hop:∀w,St B w0 [many H] w->St B w0 H w:=λw hw=>hw.perm (.openT H)
 have hpM:∀{H':List HP},many H∈H'->p.In B w0 H':=λhm=>hp.mono λw hw=>hw.inM hm
 rw[Yrv]
 rw[show p.pln.n=p.n.net from rfl,show p.pln.q=p.q.map RqM.rq from rfl,show p.pln.s=p.s.sch from rfl,show p.pln.c=p.c.map ClM.clm from rfl,show p.pln.f=p.f from rfl]
 have p1:=λ{H':List HP}{w:World}(hp:p.In B w0 H') (hw:St B w0 H' w)=>OI p.n p.q (cap:=p.qcap) hp.n hp.q hw
 have p2:=λ{H':List HP}{w:World}(hp:p.In B w0 H') (hw:St B w0 H' w)=>Yds p.n p.q p.s (cap:=p.qcap) hp.n hp.q hp.s hp.sl hw
 have p4:=λ{H':List HP}{w:World}(hp:p.In B w0 H') (hw:St B w0 H' w)=>QI p.s hp.s hp.sl hw
 obtain⟨⟨fi,fe⟩,hF⟩:∃R,rqsE p.n.net (p.q.map RqM.rq)=R:=⟨_,rfl⟩
 obtain⟨⟨RC,ri,re⟩,hR⟩:∃R,YD p.n.net (p.q.map RqM.rq) p.s.sch=R:=⟨_,rfl⟩
 obtain⟨⟨RF,ge⟩,hG⟩:∃R,Y9 p.s.sch=R:=⟨_,rfl⟩
 rw[hF]at p1⊢
 rw[hR]at p2⊢
 rw[hG]at p4⊢
 have hRF:RF.length<=1000000000000:=by
  have h2:=TA (λz=>z.1.length) hG
  dsimp only at h2
  unfold Y9 at h2
  split at h2
  ·exact YqY
  ·rename_i h0
   unfold XT at h2
   rw[Zd,TR]at h2
   have h4:=TI (Xm.1 (by simpa using h0)).sized
   omega
 have hRCl:re=0->RC.length<=1000000000000:=λe=>by
  have hq:=hp.q.ln
  have h1:=YbA (n:=p.n.net) (q:=p.q.map RqM.rq) (s:=p.s.sch) (by rw[hR];exact e)
  rw[hR]at h1
  have h2:=TA (λz=>z.1.length) h1
  dsimp only at h2
  rw[Tu,Tu]at h2
  omega
 have hge:re=0->ge=0:=λe=>by
  have h1:=Oa (n:=p.n.net) (q:=p.q.map RqM.rq) (s:=p.s.sch) (by rw[hR];exact e)
  have h2:=TA (λz=>z.2) hG
  dsimp only at h2
  unfold Y9 at h2
  rw[Tf (by rw[h1];decide)]at h2
  exact h2.symm
 unfold OutC at p2
 dsimp only at p1 p2 p4⊢
 clear hF hR hG
 unfold PnM.val
 unfold NetM.val at p1
 unfold NetM.val SchM.val at p2
 unfold SchM.val at p4
 refine YX [many H] (λw hw=>hw.perm (.closeT H)) ?_
 by_cases h1:fe=0
 rotate_left
 ·rw[To h1]
  refine Yt2 ?_<;>intros
  apply Yf H
  ·intro w hw
   have h5:St B w0 [many H] w:=by
    revert w
    exact zc0
   exact hop w h5
  exact zc3
 rw[Tf (λe=>e h1)]
 subst h1
 refine Yt2 ?_<;>intros
 apply Yg _ en94
 exact za
 exact rfl
 exactλ_ hw=>(p2 (hpM (by(focus exact zc2))) (hw))
 rintro _ _ ⟨A2,c2,C,rfl,hC,hCl,rfl⟩
 by_cases h2:re=0
 rotate_left
 ·rw[To h2]
  refine QX ?_<;>intros
  apply Yf H
  ·intro w hw
   have h5:St B w0 [many H] w:=by
    revert w
    exact zc0
   exact hop w h5
  exact zc3
 rw[Tf (λe=>e h2)]
 subst h2
 have hCn:C.length<=1000000000000:=by have h5:=TA List.length hC;have h6:=hRCl rfl;rw[Tu]at h5;omega
 have hci:∀{H':List HP},clsP A2 c2 C∈H'->many (C.map clQ)∈H'->CIn B w0 H' A2 C:=λh1 h2=>⟨.sl h1,λx hx=>Ydi h2 hx (hCl x hx),hCn⟩
 obtain rfl:=hge rfl
 have p3:=λ{H':List HP}{w:World}(hc:CIn B w0 H' A2 C) (hp:p.In B w0 H') (hw:St B w0 H' w)=>WZ C p.c (cap:=c2) (cap2:=p.ccap) hc hp.c hw
 rw[hC]at p3
 by_cases h3:RC=p.c.map ClM.clm
 rotate_left
 ·rw[To h3]
  rw[Tn h3]at p3
  refine Yt3 ?_<;>intros
  apply Yf H
  ·intro w hw
   have h5:St B w0 [many H] w:=by
    revert w
    exact zc0
   exact hop w h5
  exact zc3
 rw[Tf (λe=>e h3)]
 rw[Ti h3]at p3
 refine Yt3 ?_<;>intros
 apply Yg _ en95
 exact za
 exact rfl
 exactλ_ hw=>(p4 (hpM (by(focus exact zc2))) (hw))
 rintro _ _ ⟨A3,c3,rfl,rfl⟩
 have p5:=λ{H':List HP}{w:World}(h1:Rd B w0 H' A3 (RF.flatMap numF)) (hp:p.In B w0 H') (hw:St B w0 H' w)=>Yem RF p.f hRF (cap:=c3) (cap2:=p.fcap) h1 hp.f hw
 by_cases h4:RF=p.f
 ·rw[Ti h4]at p5
  rw[Tf (by rintro(e|e);exact e rfl;exact e h4)]
  refine Yt4 ?_
  apply Yf H
  ·intro w hw
   have h5:St B w0 [many H] w:=by
    revert w
    exact zc0
   exact hop w h5
  exact zc3
 ·rw[Tn h4]at p5
  rw[To (.inr h4)]
  refine Yt4 ?_
  apply Yf H
  ·intro w hw
   have h5:St B w0 [many H] w:=by
    revert w
    exact zc0
   exact hop w h5
  exact zc3
structure PnM.Bg(B:Nat)(w0:World)(H:List HP)(p:PnM):Prop where
 n:p.n.In B w0 H
 q:QBg B w0 H p.qA p.q
 s:Rd B w0 H p.s.A (p.s.cells.flatMap celF)
 sl:p.s.cells.length<=9223372036854775807
 c:CBg B w0 H p.cA p.c
 f:Rd B w0 H p.fA (p.f.flatMap numF)
 fl:p.f.length<=9223372036854775807
def FewP(p:PnM):Prop:=FewQ p.q p.s/\FewC p.c/\p.f.length<=600/\(p.s.len<=24\/512<p.s.len)
variable {B:Nat}{w0:World}{H H':List HP}
theorem PnM.Bg.small{p:PnM}(h:p.Bg B w0 H)(hf:FewP p):p.In B w0 H:=
 ⟨h.n,h.q.small hf.1,h.s,by have:=hf.1.2.1;omega,h.c.small hf.2.1,h.f,by have:=hf.2.2.1;omega⟩
theorem ClM.Bg.mono5{c:ClM}(h:c.Bg B w0 H)(hH:∀w,St B w0 H' w->St B w0 H w):c.Bg B w0 H':=⟨h.rt.mono hH,λr hr=>(h.rw_ r hr).mono hH,h.bd.mono hH,h.ws.mono hH,h.st.mono hH,λr hr=>(h.sw r hr).mono hH,h.ln,h.rl,h.sl⟩
theorem CBg.mono5{A:Option Addr}{c:List ClM}(h:CBg B w0 H A c)(hH:∀w,St B w0 H' w->St B w0 H w):CBg B w0 H' A c:=⟨h.rd.mono hH,λx hx=>(h.x x hx).mono5 hH,h.ln⟩
theorem Yj0(p:PnM){w:World}(hp:p.Bg B w0 H)(hw:St B w0 H w):
 CX B w0 13 [p.val] w λv K=>(∃b,v=.bool b/\(b=true->FewP p))/\K=H:=by
 refine Ya Tryz.func13 Tryz.ntmps13 rfl rfl hw ?_
 have p1:=λ{H':List HP}{w:World}(hin:p.n.In B w0 H') (hq:QBg B w0 H' p.qA p.q) (hw:St B w0 H' w)=>YjZ p.n p.q p.s (cap:=p.qcap) hin hq hp.sl hw
 have p2:=λ{H':List HP}{w:World}(hc:CBg B w0 H' p.cA p.c) (hw:St B w0 H' w)=>YcE p.c (cap:=p.ccap) hc hw
 have hfl:=hp.fl
 have hs1:=hp.n.s1
 unfold PnM.val
 unfold NetM.val SchM.val at p1
 (apply Y5;apply YL;apply Yx;exact rfl;exact rfl;intro g)
 repeat'(first|refine Yi T ?_|refine zgc ?_|(refine zgf ?_ ?_<;>intro _<;>try exact zo)|fail)
 rotate_left
 ·apply Yj;exact zc9
 apply Yg _ en60
 exact za
 exact rfl
 exactλ_ hw=>(p1 (hp.n.mono zc0) (hp.q.mono zc0) (hw))
 rintro _ _ ⟨⟨b,rfl,hb⟩,hK⟩
 rw[hK]
 cases b with
 |false=>
  refine YlY ?_
  apply Yj;exact zc9
 |true=>
 refine YlY ?_
 apply Yg _ en61
 exact za
 exact rfl
 exactλ_ hw=>(p2 (hp.c.mono5 zc0) (hw))
 rintro _ _ ⟨⟨b2,rfl,hb2⟩,hK2⟩
 rw[hK2]
 cases b2 with
 |false=>
  refine YlY ?_
  apply Yj;exact zc96
 |true=>
 repeat'(first|refine Yi T ?_|refine zgc ?_|(refine zgf ?_ ?_<;>intro _<;>try exact zo)|fail)
 all_goals(
  apply Yj
  apply Yc;exact rfl;exact rfl
  exact⟨⟨_,rfl,λh=>by first|(exact absurd h (by decide))|exact⟨hb rfl,hb2 rfl,by omega,by omega⟩⟩,rfl⟩)
open Go.ChangeShapes Go.WideShapes Go.ChangeAt Go.RowKit Go.Eng Go.Nw Go.Rt
def plnF(p:PnM):List Value:=[.int .i64 p.n.nodes,.slice p.n.pA p.n.rows.length p.n.pcap,.int .i64 p.n.noise,.int .i64 p.n.thr,.slice p.n.lA p.n.links.length p.n.lcap,.slice p.n.mA p.n.margin.length p.n.mcap,.slice p.qA p.q.length p.qcap,.int .i64 p.s.len,.int .i64 p.s.off,.slice p.s.A p.s.cells.length p.s.cap,.slice p.cA p.c.length p.ccap,.slice p.fA p.f.length p.fcap]
section
variable {H:Type}{enc:TypeId×Value->H}{W:World}{spare:Nat->Bool}{held:Bool}
structure PlnG(W:World)(p:PnM):Prop where
 n:NetG W p.n
 q:SlG W rqF (RqG W) ⟨p.qA,p.qcap,p.q⟩
 s:SchG W p.s
 c:SlG W clF (ClG W) ⟨p.cA,p.ccap,p.c⟩
 f:SlG W numF I64 ⟨p.fA,p.fcap,p.f⟩
theorem Yr5:Opn enc Tryz.prog W spare held 36 (λs:SlM Int=>[s.val]) (SlG W numF I64):=Zs (q:=1) Tryz.underlying36 (by kernel_rfl) (by decide) op_i
theorem Yr8:Opn enc Tryz.prog W spare held 38 plnF (PlnG W):=
 JH (Ze (ts:=[26,30,33,35,36]) (by kernel_rfl) (Ys Yvv (Ys Yiu (Ys Yvw (Ys Yno (Ys Yr5 Jm))))))
  (λx=>⟨x.1,x.2.1.A,x.2.1.cap,x.2.1.xs,x.2.2.1,x.2.2.2.1.A,x.2.2.2.1.cap,x.2.2.2.1.xs,x.2.2.2.2.1.A,x.2.2.2.2.1.cap,x.2.2.2.2.1.xs⟩) (λx=>by simp[plnF,netF,schF,SlM.val])
  (λx h=>by
   obtain⟨h1,h2,h3,h4,h5,_⟩:=h
   exact⟨h1,h2,h3,h4,h5⟩)
theorem PlnG.bg{p:PnM}{K:List HP}(h:PlnG W p):p.Bg W.heap.size W K:=
 ⟨h.n.In,YvB h.q,h.s.old.rd,h.s.few,Yru h.c,h.f.old.rd,TX h.f.len maxL⟩
end
end Go.Proofs.YtjommdkgfbhbdaaGreatDoor
