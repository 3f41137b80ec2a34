/- Lemmas. -/
import Derived.Test.YtjommdkgfbhbdaaGreatDoorQ11
import Derived.Test.YtjommdkgfbhbdaaGreatDoorQ12
set_option maxRecDepth 100000
set_option maxHeartbeats 8000000
set_option linter.all false
namespace Go.Eng
open Go.RowKit
end Go.Eng
namespace Go.Proofs.YtjommdkgfbhbdaaGreatDoor
open Go.RowKit Go.Eng Go.Nw Go.Rt
def YpK(s t:Int)(l:List Lk):List Lk:=l.filter λa=>!decide (a.1=s/\a.2.1=t)
end Go.Proofs.YtjommdkgfbhbdaaGreatDoor
namespace Go.Eng
open Go.RowKit
end Go.Eng
namespace Go.Proofs.YtjommdkgfbhbdaaGreatDoor
open Go.RowKit Go.Eng Go.Nw Go.Rt
def YlO(pre:List Int)(v:Int):Bool:=decide (v∈pre.drop 1)
def YtD(pre:List Int)(to v:Int):Bool:=!decide (v=to)&&YlO pre v
def YhW(pre:List Int):Int:=pre.getD 0 0
def Ypw(pre:List Int):Int:=pre.getD (pre.length-1) 0
def YtA(l:List Lk)(pre:List Int)(to:Int):List Lk:=(if pre.length=2 then YpK (YhW pre) to l else l).filter λa=>!(YtD pre to a.1||YtD pre to a.2.1)
def badB(pre:List Int)(a:Lk):Bool:=YlO pre a.2.1||(YlO pre a.1&&decide (a.1≠Ypw pre))||decide (a.2.1=YhW pre)
def YxX(l:List Lk)(pre:List Int):List Lk:=l.filter λa=>!badB pre a
noncomputable def Yx4(fuel nodes:Nat)(l:List Lk)(pre:List Int)(to:Int):Option (Int×Bool):=
 if Ypw pre=to then some (Yk (VH nodes (YtA l pre to) to) (YhW pre),decide (Yk (VH nodes (YtA l pre to) to) (YhW pre)<Xy))
 else match Ov fuel nodes (YxX l pre) (Ypw pre) (YhW pre) to (YlO pre)with
  |none=>none
  |some r=>some (r.1,r.2.1)
theorem ArcsOk.sub{nodes:Nat}{l m:List Lk}(h:ArcsOk nodes l)(hm:∀a∈m,a∈l):ArcsOk nodes m:=λa ha=>h a (hm a ha)
end Go.Proofs.YtjommdkgfbhbdaaGreatDoor
namespace Go.Eng
open Go.RowKit
theorem Ybq{P:Program}{n:Shp}{B:Nat}{w0:World}{ops:Array Oper}{Q:Exit->Act->World->Prop}{env:Env}{H:List HP}{l:List Oper}{e size k cap:Nat}{A:Option Addr}{xs:List Value}(hm:sl e size A k cap xs∈H)(h:k<=cap->VL P none n B w0 ops Q l env H):VL P none n B w0 ops Q l env H:=by
 refine⟨λa ha w hw=>?_⟩
 have hown:=hw.sl hm
 have hkc:k<=cap:=zc99
 exact(h hkc).run a ha w hw
end Go.Eng
namespace Go.Proofs.YtjommdkgfbhbdaaGreatDoor
open Go.RowKit Go.Eng Go.Nw Go.Rt
section
variable (fuel nodes:Nat) (L:List Lk) (to total:Int)
noncomputable def YpV(r:List Int)(spent at_:Int)(st:Int×Int)(a:Lk):Option (Int×Int):=
 if a.1≠at_\/a.2.1∈r\/(0<=st.1/\st.1<a.2.1)then some st else
  match Yx4 fuel nodes L (r++[a.2.1]) to with
  |none=>none
  |some s=>if s.2=true/\spent+a.2.2+s.1=total then some (a.2.1,a.2.2)else some st
noncomputable def Yiw(r:List Int)(spent at_:Int):List Lk->Int×Int->Option (Int×Int)
 |[],st=>some st
 |a::m,st=>match YpV fuel nodes L to total r spent at_ st a with
  |none=>none
  |some st2=>Yiw r spent at_ m st2
noncomputable def Yiv:Nat->List Int->Int->Int->Option (List Int)
 |0,_,_,_=>none
 |k+1,r,spent,at_=>if at_=to then some r else
  match Yiw fuel nodes L to total r spent at_ L (-1,0)with
  |none=>none
  |some st=>if st.1<0 then none else Yiv k (r++[st.1]) (spent+st.2) st.1
end
def midP(r:List Int):List Int:=(r.drop 1).take (r.length-2)
def YtB(l:List Lk)(s to:Int)(r:List Int):List Lk:=(if r.length=2 then YpK s to l else l).filter λa=>!(decide (a.1∈midP r)||decide (a.2.1∈midP r))
noncomputable def Yvy(nodes:Nat)(l:List Lk)(s to:Int)(r:List Int):List Int:=wayF (YtB l s to r) (VH nodes (YtB l s to r) to) s to
noncomputable def YlH(fuel nodes:Nat)(L:List Lk)(s to:Int):Option (Option (List Int×List Int)):=
 match Ov fuel nodes L s s to (λ_=>false)with
 |none=>none
 |some r=>if r.2.1=false then some none else
  match Yiv fuel nodes L to r.1 400 [s] 0 s with
  |none=>none
  |some p=>some (some (p,Yvy nodes L s to p))
noncomputable def Yk9(fuel:Nat)(n:Net)(s t:Int):Option (Option (List Int×List Int)×Int):=
 if Zq n s t≠0 then some (none,Zq n s t)else
  match YlH fuel n.nodes.toNat (Jx n) s t with
  |none=>none
  |some none=>some (none,17)
  |some (some pq)=>if 9<pq.1.length\/9<pq.2.length then some (none,21)else some (some pq,0)
variable {B:Nat}{w0 w:World}{H:List HP}
theorem Yky(n:NetM)(s to:Int)(nodes:Nat)(hck:Yo n.net=0)(hnn:n.nodes=nodes)(hs:0<=s/\s<nodes)(ht:0<=to/\to<nodes)(hbo:(Ov 100000 nodes (Jx n.net) s s to (λ_=>false)).map (λr=>r.2.1)=some false)
 (hin:n.In B w0 H) (hw:St B w0 H w):
 CX B w0 288 [n.val,.int .i64 s,.int .i64 to] w λv K=>v=.slice none 0 0/\K=H:=by
 have hok:=YP hck
 have hn0:=hok.n0
 have hn1:=hok.n1
 have hnn2:n.net.nodes=n.nodes:=rfl
 have hal:(Jx n.net).length<=128:=TX (UL _ _) hok.k0
 have hLo:=Ylf hok (nodes:=nodes) hnn
 obtain⟨L,hL⟩:∃L,Jx n.net=L:=⟨_,rfl⟩
 have hspecA:=λ{H:List HP}{w:World}(hin:n.In B w0 H) (hw:St B w0 H w)=>YeA n hin hck hw
 rw[hL]at hal hLo hbo hspecA
 refine Ya Tryz.func288 Tryz.ntmps288 rfl rfl hw ?_
 (apply Y5;apply YL;apply Yx;exact rfl;exact rfl;intro g)
 refine zX9 ?_
 apply Yg _ Ys5
 exact za
 exact rfl
 exactλ_ hw=>(hspecA hin.cons (hw))
 rintro _ _ ⟨A,cap,rfl,rfl⟩
 obtain⟨⟨total,ok,es0⟩,hb,hf⟩:=Nb.1 hbo
 obtain rfl:ok=false:=hf
 have hboth:=λ{H:List HP}{w:World}(hr:Rd B w0 H A (L.flatMap lkF)) (hw:St B w0 H w)=>YmJ nodes L s s to none (λ_=>false) 100000 (total,false,es0) (capL:=cap) (by omega) (by omega) hLo hs hs ht (TS _) hb (λ_=>rfl) hr hw
 rw[<-hnn]at hboth
 refine zX9 ?_
 apply Yg _ Yxu
 exact za
 exact rfl
 exactλ_ hw=>(hboth (.sl (by(focus exact zc2))) (hw))
 rintro _ _ ⟨g0,A0,cap0,rfl,⟨_,_,b3,b4⟩,rfl⟩
 dsimp only at b3 b4⊢
 apply ZV (Yb5 A cap L::netB g n::H)
 ·unfold gpcs
  exactλw hw=>hw.tail.tail
 refine zX3 ?_
 apply Yf H
 ·exactλw hw=>hw.tail.tail
 exact zc25
theorem Yjq(n:NetM)(s to:Int)(he:Zq n.net s to=0)(hbo:(Ov 100000 n.net.nodes.toNat (Jx n.net) s s to (λ_=>false)).map (λr=>r.2.1)=some false)(hin:n.In B w0 H)(hw:St B w0 H w):
 CX B w0 213 [n.val,.int .i64 s,.int .i64 to] w λv K=>v=.tuple #[.slice none 0 0,.int .i64 17]/\K=H:=by
 refine Ya Tryz.func213 Tryz.ntmps213 rfl rfl hw ?_
 (apply Y5;apply YL;apply Yx;exact rfl;exact rfl;intro g)
 obtain⟨hck,⟨s0,s1⟩,⟨t0,t1⟩,-⟩:=Ylw he
 have hen:=λ{H:List HP}{w:World}(hin:n.In B w0 H) (hw:St B w0 H w)=>Uj n s to hin hw
 rw[he]at hen
 have hok:=YP hck
 have hn0:=hok.n0
 have hn1:=hok.n1
 have hnn:((n.net.nodes.toNat:Nat):Int)=n.net.nodes:=by omega
 have hnn2:n.nodes=((n.net.nodes.toNat:Nat):Int):=by rw[hnn];rfl
 have hp:=λ{H:List HP}{w:World}(hin:n.In B w0 H) (hw:St B w0 H w)=>Yky n s to n.net.nodes.toNat hck hnn2 ⟨s0,by omega⟩ ⟨t0,by omega⟩ hbo hin hw
 refine YtH ?_<;>intros
 apply Yb Yxa
 exact za
 exact rfl
 exactλ_ hw=>(hp hin.cons hw)
 refine zX8 ?_
 apply Yj
 exact YqN
def Yv0(n:Net)(u v:Int):Int:=QB n u v+1
def rt(s t:Int)(ms:List Int):List Int:=s::(ms++[t])
structure IsRt(n:Net)(s t:Int)(ms:List Int):Prop where
 path:YvW (YZ n) n.nodes.toNat t s ms
 nd:(rt s t ms).Nodup
structure Two(n:Net)(s t:Int)(mp mq:List Int):Prop where
 p:IsRt n s t mp
 q:IsRt n s t mq
 ne:mp≠mq
 dis:∀x∈mp,x∉mq
theorem Two.symm{n:Net}{s t:Int}{mp mq:List Int}(h:Two n s t mp mq):Two n s t mq mp:=⟨h.q,h.p,NM h.ne,λx hx hy=>h.dis x hy hx⟩
def key(n:Net)(s t:Int)(ms:List Int):Int:=keyG (Yv0 n) (rt s t ms)
theorem getD_some{l:List (List Int)}{i:Nat}{x:List Int}(h:l[i]? =some x):l.getD i []=x:=by
 rw[TB,h];rfl
open Go.RowKit Go.Eng Go.Nw
variable {B cap:Nat}{w0 w:World}{H:List HP}
theorem U8(a lo hi:Int)(hw:St B w0 H w):
 CX B w0 159 [.int .i64 a,.int .i64 lo,.int .i64 hi] w λv K=>v=.bool (decide (lo<=a/\a<=hi))/\K=H:=by
 refine Ya Tryz.func159 Tryz.ntmps159 rfl rfl hw ?_
 exact zc29
theorem U6(nodes:Int)(f:Flw)(hn:2<=nodes/\nodes<=32)(hw:St B w0 H w):
 CX B w0 160 [.int .i64 nodes,flwV f] w λv K=>v=.int .i64 (Xl nodes f)/\K=H:=by
 refine Ya Tryz.func160 Tryz.ntmps160 rfl rfl hw ?_
 have hi:∀x:Int,insE x nodes=false↔¬(0<=x/\x<nodes):=λx=>by grind [insE]
 have hE:Xl nodes f=if f.1<0\/255<f.1\/¬(0<=f.2.1/\f.2.1<nodes)\/¬(0<=f.2.2.1/\f.2.2.1<nodes)then 2
  else if f.2.2.2.1<1\/512<f.2.2.2.1\/f.2.2.2.2.1<0\/f.2.2.2.1<=f.2.2.2.2.1\/f.2.2.2.2.2<1\/f.2.2.2.1<f.2.2.2.2.2 then 2
  else if f.2.1=f.2.2.1 then 1 else 0:=by grind [Xl]
 rw[hE]
 repeat'(first|((apply YT Ylm);exact za;exact rfl;exactλ_ hw=>(U8 _ _ _ hw);all_goals(intro hB;(try simp only[Tm,Tv]at hB);try exact zo))|refine zgd ?_|(refine zge ?_ ?_<;>intro _<;>try exact zo)|(refine zgh ?_;intro _)|fail)
 all_goals(
  apply Yf H
  ·exact zk
  apply Yc;exact rfl;exact rfl
  refine⟨TA _ ?_,rfl⟩
  first
   |(rw[To (by omega)];done)
   |(rw[Tf (by omega),To (by omega)];done)
   |(rw[Tf (by omega),Tf (by omega),To (by omega)];done)
   |(rw[Tf (by omega),Tf (by omega),Tf (by omega)];done))
variable {A:Option Addr}
theorem Ve(nodes:Int)(l:List Flw)(hl:l.length<=9223372036854775807)(hr:Rd B w0 H A (l.flatMap flwF))(hw:St B w0 H w):
 CX B w0 72 [.int .i64 nodes,.slice A l.length cap] w λv K=>v=.tuple #[.int .i64 (Yt nodes l).1,.int .i64 (Yt nodes l).2]/\K=H:=by
 refine Ya Tryz.func72 Tryz.ntmps72 rfl rfl hw ?_
 by_cases hn:nodes<2\/32<nodes
 ·have hE:Yt nodes l=(-1,2):=by simp_all [Yt]
  rw[hE]
  repeat'(first|((apply YT Ylm);exact za;exact rfl;exactλ_ hw=>(U8 _ _ _ hw);all_goals(intro hB;(try simp only[Tm,Tv]at hB);try exact zo))|refine zgd ?_|fail)
  all_goals(exact zc28)
 by_cases h16:16<l.length
 ·have hE:Yt nodes l=(-1,8):=by simp_all [Yt]
  rw[hE]
  repeat'(first|((apply YT Ylm);exact za;exact rfl;exactλ_ hw=>(U8 _ _ _ hw);all_goals(intro hB;(try simp only[Tm,Tv]at hB);try exact zo))|refine zgd ?_|(refine zgf ?_ ?_<;>intro _<;>try exact zo)|fail)
  exact zc28
 have hE:Yt nodes l=Yz (YV nodes l) l.length 0:=by simp_all [Yt,if_neg]
 rw[hE]
 repeat'(first|((apply YT Ylm);exact za;exact rfl;exactλ_ hw=>(U8 _ _ _ hw);all_goals(intro hB;(try simp only[Tm,Tv]at hB);try exact zo))|refine zgd ?_|(refine zgf ?_ ?_<;>intro _<;>try exact zo)|fail)
 refine Ye (λ(i:Nat)=>[(6,.int .i64 i),(0,.int .i64 nodes),(1,.slice A l.length cap)]) (λ_=>H) (λi=>i<=l.length/\∀k,k<i->YV nodes l k=0) (λi=>l.length-i) 0 ⟨Td _,λk hk=>absurd hk (Re _)⟩ ?_ (λw hw=>hw) ?_
 ·exact zc1
 rintro i ⟨hi,hall⟩ K hK
 by_cases hlt:i<l.length
 ·have hget:l[i]? =some (Y4 l i):=Vt hlt
  have hbad:YV nodes l i≠0->Yz (YV nodes l) l.length 0=((i:Int),YV nodes l i):=λh=>Xe (λk _ hk=>hall k hk) (Td _) (by omega) h
  have hstep:YV nodes l i=0->∀k,k<i+1->YV nodes l k=0:=λh k hk=>by
   exact zc93
  by_cases he:Xl nodes (Y4 l i)≠0
  ·have hf:YV nodes l i=Xl nodes (Y4 l i):=by unfold YV;exact To he
   rw[hbad (by rw[hf];exact he),hf]
   repeat'(first|((apply Yb Yhv);exact za;exact rfl;exactλ_ hw=>(U6 nodes (Y4 l i) (by omega) hw))|refine zgd ?_|(refine zge ?_ ?_<;>intro _<;>try exact zo)|fail)
   exact zc4
  have he0:=TQ.1 he
  have hck:=λ{H':List HP}{w:World}(hw:St B w0 H' w)=>U6 nodes (Y4 l i) (by omega) hw
  rw[he0]at hck
  rcases RU i with h0|h0
  ·subst h0
   have hf:YV nodes l 0=0:=by unfold YV;exact Yl6
   refine YqA ?_<;>intros
   apply hK (0+1)
   ·exact Ybe
   ·omega
   ·exact zc1
   ·exact zc0
  have hget2:l[((i:Int)-1).toNat]? =some (Y4 l (i-1)):=YuH
  by_cases hle:(Y4 l i).1<=(Y4 l (i-1)).1
  ·have hf:YV nodes l i=5:=by unfold YV;exact Yl5
   rw[hbad (by rw[hf];decide),hf]
   refine YqA ?_<;>intros
   exact zc4
  ·have hf:YV nodes l i=0:=by unfold YV;exact Yl4
   refine YqA ?_<;>intros
   apply hK (i+1)
   ·exact Ybe
   ·omega
   ·exact zc1
   ·exact zc0
 ·refine zX1 ?_<;>intros
  rw[show i=l.length by omega]at hall
  rw[Xn λk _ hk=>hall k (by omega)]
  exact zc4
theorem Yow{α:Type}{p:α->Bool}{l:List α}{i:Nat}{x:α}(h:l[i]? =some x):(l.take (i+1)).any p=((l.take i).any p||p x):=zc78
theorem YiS(n:NetM)(l:List Flw)(s:SchM)(hlf:l.length<=9223372036854775807)(hl:s.cells.length<=1000000000000)(hin:n.In B w0 H)(hrf:Rd B w0 H A (l.flatMap flwF))(hw:St B w0 H w):
 CX B w0 333 [n.val,.slice A l.length cap,s.val] w λv K=>v=.int .i64 (Xv n.net l s.sch)/\K=H:=by
 refine Ya Tryz.func333 Tryz.ntmps333 rfl rfl hw ?_
 have e5:s.sch.len=s.len:=rfl
 have hE:Xv n.net l s.sch=if Yo n.net≠0 then 1 else if(Yt n.nodes l).2≠0 then 1 else if Zf s.sch=false then 2
  else if(l.any λf=>decide (s.len.tmod f.2.2.2.1≠0))=true then 11 else if 512<s.cells.length then 8 else 0:=rfl
 obtain⟨ck,hck⟩:∃z,Yo n.net=z:=⟨_,rfl⟩
 have h31:=λ{H':List HP}{w:World}(hin:n.In B w0 H') (hw:St B w0 H' w)=>JX n hin hw
 rw[hck]at h31 hE
 by_cases h1:ck≠0
 ·rw[To h1]at hE
  rw[hE]
  refine YtW ?_<;>intros
  all_goals(
   apply Yf H
   ·exact zc0
   exact zc3)
 rw[Tf h1]at hE
 by_cases h2:(Yt n.nodes l).2≠0
 ·rw[To h2]at hE
  rw[hE]
  refine YtW ?_<;>intros
  all_goals(
   apply Yf H
   ·exact zc0
   exact zc3)
 rw[Tf h2]at hE
 have hper:=Yae (TQ.1 h2)
 have hsd:Zf s.sch=false↔¬(1<=s.len/\s.len<=512/\1<=s.off/\s.off<=16):=by unfold Zf;rw[Tv];rfl
 by_cases h3:1<=s.len/\s.len<=512/\1<=s.off/\s.off<=16
 rotate_left
 ·rw[To (hsd.2 h3)]at hE
  rw[hE]
  repeat'(first|((apply Yb en72);exact za;exact rfl;exactλ_ hw=>(Ve n.nodes l hlf hrf.cons.cons hw))|((apply Yb Wk);exact za;exact rfl;exactλ_ hw=>(h31 hin.cons.cons hw))|((apply YT WE);exact za;exact rfl;exactλ_ hw=>(ZH _ _ _ hw);all_goals(intro hB;(try simp only[Tm,Tv]at hB);try exact zo))|refine zgd ?_|(refine zge ?_ ?_<;>intro _<;>try exact zo)|(refine zgh ?_;intro _)|fail)
  all_goals(
   apply Yf H
   ·exact zk
   apply Yc;exact rfl;exact rfl;exact⟨rfl,rfl⟩)
 rw[Tf (λh=>hsd.1 h h3)]at hE
 rw[hE]
 repeat'(first|((apply Yb en72);exact za;exact rfl;exactλ_ hw=>(Ve n.nodes l hlf hrf.cons.cons hw))|((apply Yb Wk);exact za;exact rfl;exactλ_ hw=>(h31 hin.cons.cons hw))|((apply YT WE);exact za;exact rfl;exactλ_ hw=>(ZH _ _ _ hw);all_goals(intro hB;(try simp only[Tm,Tv]at hB);try exact zo))|refine zgd ?_|(refine zge ?_ ?_<;>intro _<;>try exact zo)|(refine zgh ?_;intro _)|fail)
 first|(rename_i gn gs;guard_hyp gn:Nat;guard_hyp gs:Nat)|(rename_i gn gs _;guard_hyp gn:Nat;guard_hyp gs:Nat)|(rename_i gn gs _ _;guard_hyp gn:Nat;guard_hyp gs:Nat)|(rename_i gn gs _ _ _;guard_hyp gn:Nat;guard_hyp gs:Nat)|(rename_i gn gs _ _ _ _;guard_hyp gn:Nat;guard_hyp gs:Nat)|(rename_i gn gs _ _ _ _ _;guard_hyp gn:Nat;guard_hyp gs:Nat)|(rename_i gn gs _ _ _ _ _ _;guard_hyp gn:Nat;guard_hyp gs:Nat)|(rename_i gn gs _ _ _ _ _ _ _;guard_hyp gn:Nat;guard_hyp gs:Nat)|(rename_i gn gs _ _ _ _ _ _ _ _;guard_hyp gn:Nat;guard_hyp gs:Nat)|(rename_i gn gs _ _ _ _ _ _ _ _ _;guard_hyp gn:Nat;guard_hyp gs:Nat)
 refine Ye (λ(k:Nat)=>[(9,.int .i64 k),(1,.slice A l.length cap),(3,.pointer (some ⟨gn,0,none⟩)),(5,.pointer (some ⟨gs,0,none⟩))]) (λ_=>blk gs (.cells #[.int .i64 s.len,.int .i64 s.off,.slice s.A s.cells.length s.cap] 33 (0,0))::netN gn n::H) (λk=>k<=l.length/\(l.take k).any (λf=>decide (s.len.tmod f.2.2.2.1≠0))=false) (λk=>l.length-k) 0 ⟨Td _,rfl⟩ ?_ (λw hw=>hw) ?_
 ·exact zc1
 rintro k ⟨hk,hall⟩ K hK
 unfold netN
 by_cases hlt:k<l.length
 ·have hget:l[k]? =some (Y4 l k):=Vt hlt
  have hpk:=hper _ (Tc hget)
  have hst:=Yow (p:=λf:Flw=>decide (s.len.tmod f.2.2.2.1≠0)) hget
  rw[hall,NF]at hst
  have hem:s.len.tmod (Y4 l k).2.2.2.1=s.len%(Y4 l k).2.2.2.1:=Rb (by omega)
  rw[hem]at hst
  by_cases hz:s.len%(Y4 l k).2.2.2.1=0
  ·rw[Tn (λh=>h hz)]at hst
   refine zX50 ?_<;>intros
   apply hK (k+1)
   ·exact Ymc
   ·omega
   ·exact zc1
   ·unfold netN
    exact zc0
  ·have ha:(l.any λf=>decide (s.len.tmod f.2.2.2.1≠0))=true:=by
    rw[TM]
    exact⟨_,Tc hget,by rw[hem];exact Ti hz⟩
   rw[ha,To rfl]
   refine zX50 ?_<;>intros
   apply Yf H
   ·exact zc0
   exact zc3
 rw[show k=l.length by omega,TC]at hall
 rw[hall,Tf (by decide)]
 clear hK
 by_cases h5:512<s.cells.length
 ·rw[To h5]
  refine zX42 ?_<;>intros
  apply Yf H
  ·exact zc0
  exact zc3
 ·rw[Tf h5]
  refine zX42 ?_<;>intros
  apply Yf H
  ·exact zc0
  exact zc3
variable {B:Nat}{w0 w:World}{H:List HP}
theorem QL(n:NetM)(v:Int)(hw:St B w0 H w):
 CX B w0 419 [n.val,.int .i64 v] w λu K=>u=.bool (insE v n.net.nodes)/\K=H:=by
 have e1:n.net.nodes=n.nodes:=rfl
 refine Ya Tryz.func419 Tryz.ntmps419 rfl rfl hw ?_
 exact zc15
theorem VX(n:NetM)(a b:Int)(hok:Ok n.net)(hin:n.In B w0 H)(hw:St B w0 H w):
 CX B w0 392 [n.val,.int .i64 a,.int .i64 b] w λv K=>v=.int .i64 (powN n.net a b)/\K=H:=by
 refine Ya Tryz.func392 Tryz.ntmps392 rfl rfl hw ?_
 have e1:n.net.nodes=n.nodes:=rfl
 have na:=λ{H':List HP}{w:World}(hw:St B w0 H' w)=>QL n a hw
 have nb:=λ{H':List HP}{w:World}(hw:St B w0 H' w)=>QL n b hw
 cases ha:insE a n.net.nodes with
 |false=>
  rw[ha]at na
  rw[show powN n.net a b=0 by grind [powN]]
  repeat'(first|((apply Yb YhA);exact za;exact rfl;exactλ_ hw=>(na hw))|refine zgd ?_|(refine zgh ?_;intro _)|fail)
  apply Yf H
  ·exact zc0
  exact zc9
 |true=>
 rw[ha]at na
 cases hb:insE b n.net.nodes with
 |false=>
  rw[hb]at nb
  rw[show powN n.net a b=0 by grind [powN]]
  refine zX72 ?_<;>intros
  apply Yb YhA
  exact za
  exact rfl
  exactλ_ hw=>(na hw)
  refine zX3 ?_
  apply Yb YhA
  exact za
  exact rfl
  exactλ_ hw=>(nb hw)
  refine zX3 ?_
  apply Yf H
  ·exact zc0
  exact zc9
 |true=>
 rw[hb]at nb
 have ha2:0<=a/\a<n.net.nodes:=TI ha
 have hb2:0<=b/\b<n.net.nodes:=TI hb
 have hp0:(n.rows.length:Int)=n.net.nodes:=Yur
 obtain⟨r,hrw⟩:∃r,n.rows[a.toNat]? =some r:=⟨_,Ta (by omega)⟩
 have hrm:=Tc hrw
 have hrl:(r.xs.length:Int)=n.net.nodes:=hok.p1 r.xs (TG.2 ⟨r,hrm,rfl⟩)
 obtain⟨q,hq⟩:∃q,r.xs[b.toNat]? =some q:=⟨_,Ta (by omega)⟩
 have hpw:powN n.net a b=q:=by
  unfold powN
  rw[To ⟨ha,hb⟩]
  exact YuQ
 rw[hpw]
 have hpd:=hin.pw
 have hrd:=hin.rw_ r hrm
 have hs1:=hin.s1
 have hs2:=hin.s2 r hrm
 refine zX72 ?_<;>intros
 apply Yb YhA
 exact za
 exact rfl
 exactλ_ hw=>(na hw)
 refine zX3 ?_
 apply Yb YhA
 exact za
 exact rfl
 exactλ_ hw=>(nb hw)
 refine zX3 ?_
 apply Yf H
 ·exact zc0
 exact zc9
theorem YiJ(n:NetM)(l:List Cel)(i:Nat)(c:Cel)(hok:Ok n.net)(hci:l[i]? =some c)(hg:YZ n.net c.2.2.1 c.2.2.2.1=true)(hto:∀k x,l[k]? =some x->k≠i->YE c x=false)(hlen:l.length<=16){A:Option Addr}{cap:Nat}(hin:n.In B w0 H)(hr:Rd B w0 H A (l.flatMap celF))(hw:St B w0 H w):
 CX B w0 335 [n.val,.slice A l.length cap,.int .i64 i] w λv K=>v=.bool (!(XM n.net (mar n.net (Yv n.net c.2.2.1 c.2.2.2.1).toNat) (Yy n.net l i c.2.2.2.1 l.length))||!(XM n.net (mar n.net (Yv n.net c.2.2.2.1 c.2.2.1).toNat) (Yy n.net l i c.2.2.1 l.length)))/\K=H:=by
 refine Ya Tryz.func335 Tryz.ntmps335 rfl rfl hw ?_
 have hil:i<l.length:=(Tj.1 hci).1
 obtain⟨⟨f0,f1⟩,⟨t0,t1⟩,_,k1,k2⟩:(0<=c.2.2.1/\c.2.2.1<n.net.nodes)/\(0<=c.2.2.2.1/\c.2.2.2.1<n.net.nodes)/\c.2.2.1≠c.2.2.2.1/\0<=Yv n.net c.2.2.1 c.2.2.2.1/\0<=Yv n.net c.2.2.2.1 c.2.2.1:=Xu hok hg
 have x1:=XP k1
 have x2:=XP k2
 have hml:n.margin.length=n.net.links.length:=hok.k1
 have mb1:=OW hok x1
 have mb2:=OW hok x2
 have hgs:=λ{H':List HP}{w:World}(hin:n.In B w0 H') (hw:St B w0 H' w)=>Yaj n c.2.2.1 c.2.2.2.1 hin hok hw
 rw[hg]at hgs
 have p1:=λ{H':List HP}{w:World}(hin:n.In B w0 H') (hw:St B w0 H' w)=>Vy n c.2.2.1 c.2.2.2.1 hin hw
 have p2:=λ{H':List HP}{w:World}(hin:n.In B w0 H') (hw:St B w0 H' w)=>Vy n c.2.2.2.1 c.2.2.1 hin hw
 obtain⟨i1,hi1⟩:∃z,Yv n.net c.2.2.1 c.2.2.2.1=z:=⟨_,rfl⟩
 obtain⟨i2,hi2⟩:∃z,Yv n.net c.2.2.2.1 c.2.2.1=z:=⟨_,rfl⟩
 rw[hi1]at p1 k1 x1 mb1⊢
 rw[hi2]at p2 k2 x2 mb2⊢
 repeat'(first|((apply Yb Ycx);exact za;exact rfl;exactλ_ hw=>(hgs hin.cons.cons hw))|refine zgd ?_|(refine zgh ?_;intro _)|fail)
 first|(rename_i gn gc;guard_hyp gn:Nat;guard_hyp gc:Nat)|(rename_i gn gc _;guard_hyp gn:Nat;guard_hyp gc:Nat)|(rename_i gn gc _ _;guard_hyp gn:Nat;guard_hyp gc:Nat)|(rename_i gn gc _ _ _;guard_hyp gn:Nat;guard_hyp gc:Nat)
 have hTo:=λk=>Ql hok l i c.2.2.2.1 k
 have hFr:=λk=>Ql hok l i c.2.2.1 k
 refine Ye (λ(k:Nat)=>[(10,.int .i64 k),(8,.int .i64 (Yy n.net l i c.2.2.2.1 k)),(9,.int .i64 (Yy n.net l i c.2.2.1 k)),(1,.slice A l.length cap),(2,.int .i64 i),(3,.pointer (some ⟨gn,0,none⟩)),(7,.pointer (some ⟨gc,0,none⟩))]) (λ_=>blk gc (.cells (celF c).toArray 162 (0,0))::netN gn n::H) (λk=>k<=l.length) (λk=>l.length-k) 0 (Td _) ?_ (λw hw=>hw) ?_
 ·exact zc1
 rintro k hk K hK
 have b1:=hTo k
 have b2:=hFr k
 unfold netN
 by_cases hlt:k<l.length
 ·obtain⟨x,hx⟩:∃x,l[k]? =some x:=⟨_,Ta hlt⟩
  have hcl:celL l k=x:=by unfold celL;rw[TB,hx];rfl
  have s1:∀node,Yy n.net l i node (k+1)=Yy n.net l i node k+if k=i then 0 else powN n.net x.2.2.1 node+powN n.net x.2.2.2.1 node:=λnode=>by
   rw[Yy,hcl];rfl
  have s2:=s1 c.2.2.2.1
  have s3:=s1 c.2.2.1
  by_cases hki:k=i
  ·rw[To hki,NA]at s2 s3
   refine zX1 ?_<;>intros
   apply hK (k+1)
   ·exact Yfu
   ·omega
   ·rw[s2,s3]
    exact zc1
   ·unfold netN
    exact zc0
  rw[Tf hki]at s2 s3
  have ht:=hto k x hx hki
  have ht2:¬(c.2.2.1=x.2.2.1\/c.2.2.1=x.2.2.2.1\/c.2.2.2.1=x.2.2.1\/c.2.2.2.1=x.2.2.2.1):=by
   unfold YE YM toC at ht
   exact of_decide_eq_false ht
  have q1:=λ{H':List HP}{w:World}(hin:n.In B w0 H') (hw:St B w0 H' w)=>VX n x.2.2.1 c.2.2.2.1 hok hin hw
  have q2:=λ{H':List HP}{w:World}(hin:n.In B w0 H') (hw:St B w0 H' w)=>VX n x.2.2.2.1 c.2.2.2.1 hok hin hw
  have q3:=λ{H':List HP}{w:World}(hin:n.In B w0 H') (hw:St B w0 H' w)=>VX n x.2.2.1 c.2.2.1 hok hin hw
  have q4:=λ{H':List HP}{w:World}(hin:n.In B w0 H') (hw:St B w0 H' w)=>VX n x.2.2.2.1 c.2.2.1 hok hin hw
  have w1:=Jq hok x.2.2.1 c.2.2.2.1
  have w2:=Jq hok x.2.2.2.1 c.2.2.2.1
  have w3:=Jq hok x.2.2.1 c.2.2.1
  have w4:=Jq hok x.2.2.2.1 c.2.2.1
  repeat'(first|(apply zg28;first|refine zs83 ?_|refine zs84 ?_)|refine zgd ?_|(refine zge ?_ ?_<;>intro _<;>try exact zo)|fail)
  apply Ym Ylv
  exact za
  exact rfl
  exactλ_ hw=>(q1 zc36 hw)
  refine zX3 ?_
  apply Ym Ylv
  exact za
  exact rfl
  exactλ_ hw=>(q2 zc36 hw)
  refine zX83 ?_
  apply Ym Ylv
  exact za
  exact rfl
  exactλ_ hw=>(q3 zc36 hw)
  refine zX3 ?_
  apply Ym Ylv
  exact za
  exact rfl
  exactλ_ hw=>(q4 zc36 hw)
  refine zX3 ?_
  apply hK (k+1)
  ·exact Yfu
  ·omega
  ·rw[s2,s3,<-Int.add_assoc,<-Int.add_assoc]
   exact zc1
  ·unfold netN
   exact zc0
 obtain rfl:k=l.length:=by omega
 clear hK
 have r1:=λ{H':List HP}{w:World}(hw:St B w0 H' w)=>WX n (mar n.net i1.toNat) (Yy n.net l i c.2.2.2.1 l.length) hok (by omega) (by omega) hw
 have r2:=λ{H':List HP}{w:World}(hw:St B w0 H' w)=>WX n (mar n.net i2.toNat) (Yy n.net l i c.2.2.1 l.length) hok (by omega) (by omega) hw
 obtain⟨v1,hv1⟩:∃b,XM n.net (mar n.net i1.toNat) (Yy n.net l i c.2.2.2.1 l.length)=b:=⟨_,rfl⟩
 obtain⟨v2,hv2⟩:∃b,XM n.net (mar n.net i2.toNat) (Yy n.net l i c.2.2.1 l.length)=b:=⟨_,rfl⟩
 rw[hv1]at r1⊢
 rw[hv2]at r2⊢
 have hm1:n.margin[i1.toNat]? =some (mar n.net i1.toNat):=zc33
 have hm2:n.margin[i2.toNat]? =some (mar n.net i2.toNat):=zc33
 have hmg:=hin.mg
 have hs4:=hin.s4
 cases v1 with
 |false=>
  repeat'(first|(apply zg28;refine zs84 ?_)|refine zgc ?_|(refine zge ?_ ?_<;>intro _<;>try exact zo)|fail)
  apply Ym YeK
  exact za
  exact rfl
  exactλ_ hw=>(p1 zc36 hw)
  refine zX3 ?_
  apply Ym Ylu
  exact za
  exact rfl
  exactλ_ hw=>(r1 hw)
  refine zX3 ?_
  apply Yf H
  ·exact zc0
  exact zc3
 |true=>
  cases v2
  all_goals(
   repeat'(first|(apply zg28;refine zs84 ?_)|refine zgc ?_|(refine zge ?_ ?_<;>intro _<;>try exact zo)|fail)
   apply Ym YeK
   exact za
   exact rfl
   exactλ_ hw=>(p1 (by repeat(first|exact hin|apply NetM.In.cons)) hw)
   repeat'(first|refine zgd ?_|fail)
   apply Ym Ylu
   exact za
   exact rfl
   exactλ_ hw=>(r1 hw)
   repeat'(first|refine zgd ?_|fail)
   apply Ym YeK
   exact za
   exact rfl
   exactλ_ hw=>(p2 (by repeat(first|exact hin|apply NetM.In.cons)) hw)
   repeat'(first|refine zgd ?_|fail)
   apply Ym Ylu
   exact za
   exact rfl
   exactλ_ hw=>(r2 hw)
   repeat'(first|refine zgd ?_|fail)
   apply Yf H
   ·exact zk
   apply Yc;exact rfl;exact rfl;exact⟨rfl,rfl⟩)
variable {n:Net}{s:Sch}{i:Nat}
theorem YiX(hf:Fine n s)(hi:i<s.cells.length):∀k x,(YH s i)[k]? =some x->k≠YK s i->YE (Yl s i) x=false:=by
 intro k x hx hk
 have ha:=W0 hi
 have hpw:(YH s i).Pairwise λa b=>a.1=b.1->YE a b=false:=hf.once.sublist SK
 have hsx:x.1=(Yl s i).1:=by
  have:=(RB.1 (Tc hx)).2
  simp_all [Xg]
 obtain⟨l1,l2⟩:=Tj.1 hx
 obtain⟨l3,l4⟩:=Tj.1 ha
 rcases Nat.lt_or_gt_of_ne hk with h|h
 ·grind [TT,Z9]
 ·have:=TT.1 hpw (YK s i) k l3 l1 h
  simp_all
theorem Ynu{l:List Cel}{c:Cel}(hci:l[i]? =some c)(hg:YZ n c.2.2.1 c.2.2.2.1=true)(hto:∀k x,l[k]? =some x->k≠i->YE c x=false):
 Vd n l i=(!(XM n (mar n (Yv n c.2.2.1 c.2.2.2.1).toNat) (Yy n l i c.2.2.2.1 l.length))||!(XM n (mar n (Yv n c.2.2.2.1 c.2.2.1).toNat) (Yy n l i c.2.2.1 l.length))):=by
 have hcl:celL l i=c:=by grind [celL]
 have hany:((List.range l.length).any λk=>decide (k≠i)&&YE c (celL l k))=false:=by
  rw[RG]
  intro k hk
  have hx:l[k]? =some (celL l k):=by grind [celL]
  grind
 unfold Vd
 rw[hcl,hany]
 show(!(YZ n c.2.2.1 c.2.2.2.1)||false||_)=_
 rw[hg]
 rfl
theorem Yj4{l:List Flw}(h1:∀k,k<s.cells.length->Zy n l s k=0)(h2:∀k,k<s.cells.length->X5 s k=false):Fine n s:=
 YfZ (l:=l) (by grind [XZ,YF]) (by grind [Zn,YF])
theorem Ydt(n:NetM)(l:List Flw)(s:SchM)(hlf:l.length<=9223372036854775807)(hl:s.cells.length<=1000000000000){A:Option Addr}{cap B:Nat}{w0:World}{H:List HP}{w:World}(hin:n.In B w0 H)(hrf:Rd B w0 H A (l.flatMap flwF))(hr:Rd B w0 H s.A (s.cells.flatMap celF))(hw:St B w0 H w):
 CX B w0 272 [n.val,.slice A l.length cap,s.val] w λv K=>v=.tuple #[.int .i64 (schE n.net l s.sch).1,.int .i64 (schE n.net l s.sch).2]/\K=H:=by
 refine Ya Tryz.func272 Tryz.ntmps272 rfl rfl hw ?_
 have e4:s.sch.cells.length=s.cells.length:=rfl
 rw[Ysl]
 have hinm:n.In B w0 [many H]:=⟨hin.pw.tail,λr hr=>(hin.rw_ r hr).tail,hin.lk.tail,hin.mg.tail,hin.s1,hin.s2,hin.s3,hin.s4⟩
 have hrm:Rd B w0 [many H] s.A (s.cells.flatMap celF):=hr.tail
 have hrfm:Rd B w0 [many H] A (l.flatMap flwF):=hrf.tail
 clear hr hrf hin
 refine YX [many H] (λw hw=>hw.perm (.closeT H)) ?_
 have hwl:=λ{H':List HP}{w:World}(hin:n.In B w0 H') (hrf:Rd B w0 H' A (l.flatMap flwF)) (hw:St B w0 H' w)=>YiS n l s hlf hl (cap:=cap) hin hrf hw
 obtain⟨wh,hwh⟩:∃z,Xv n.net l s.sch=z:=⟨_,rfl⟩
 rw[hwh]at hwl
 by_cases h0:wh≠0
 ·have hS:Yfe n.net l s.sch=(-1,wh):=by unfold Yfe;rw[hwh];exact To h0
  rw[hS]
  refine Yt1 ?_<;>intros
  apply Yf H
  ·intro w hw
   have h5:St B w0 [many H] w:=by
    revert w
    exact zc0
   exact W5
  exact zc4
 obtain rfl:wh=0:=TQ.1 h0
 obtain⟨hck,hfl,hsd,_,hle⟩:=J1 hwh
 have hle:s.cells.length<=512:=hle
 have hl16:=YeS hfl
 have hok:=YP hck
 have hsz:1<=s.len/\s.len<=512/\1<=s.off/\s.off<=16:=TI hsd
 have hS:Yfe n.net l s.sch=if(XZ n.net l s.sch).2≠0 then XZ n.net l s.sch else if(Zn s.sch).2≠0 then Zn s.sch else Ygm n.net s.sch:=by
  unfold Yfe;rw[hwh];rfl
 rw[hS]
 have hC:XZ n.net l s.sch=Yz (Zy n.net l s.sch) s.cells.length 0:=rfl
 have hF:Zn s.sch=Yz (λi=>if X5 s.sch i=true then 6 else 0) s.cells.length 0:=rfl
 have hR:Ygm n.net s.sch=Yz (λi=>if Vd n.net (YH s.sch i) (YK s.sch i)=true then 16 else 0) s.cells.length 0:=rfl
 refine Yt1 ?_<;>intros
 first|(rename_i gn gs;guard_hyp gn:Nat;guard_hyp gs:Nat)|(rename_i gn gs _;guard_hyp gn:Nat;guard_hyp gs:Nat)|(rename_i gn gs _ _;guard_hyp gn:Nat;guard_hyp gs:Nat)|(rename_i gn gs _ _ _;guard_hyp gn:Nat;guard_hyp gs:Nat)|(rename_i gn gs _ _ _ _;guard_hyp gn:Nat;guard_hyp gs:Nat)|(rename_i gn gs _ _ _ _ _;guard_hyp gn:Nat;guard_hyp gs:Nat)
 refine Ye (λ(k:Nat)=>[(9,.int .i64 k),(3,.pointer (some ⟨gn,0,none⟩)),(5,.pointer (some ⟨gs,0,none⟩)),(1,.slice A l.length cap)]) (λ_=>blk gs (.cells #[.int .i64 s.len,.int .i64 s.off,.slice s.A s.cells.length s.cap] 33 (0,0))::netN gn n::[many H]) (λk=>k<=s.cells.length/\∀j,j<k->Zy n.net l s.sch j=0) (λk=>s.cells.length-k) 0 ⟨Td _,λj hj=>absurd hj (Re _)⟩ ?_ (λw hw=>hw) ?_
 ·exact zc1
 rintro k ⟨hk,hall⟩ K hK
 unfold netN
 by_cases hlt:k<s.cells.length
 ·have hget:s.cells[k]? =some (Yl s.sch k):=YS (s:=s.sch) hlt
  have hbad:Zy n.net l s.sch k≠0->XZ n.net l s.sch=((k:Int),Zy n.net l s.sch k):=λh=>hC.trans (Xe (λj _ hj=>hall j hj) (Td _) (by omega) h)
  have hstep:Zy n.net l s.sch k=0->∀j,j<k+1->Zy n.net l s.sch j=0:=λh j hj=>by
   by_cases e:j=k
   ·rw[e];exact h
   ·exact hall j (by omega)
  obtain⟨c,hc⟩:∃c,Yl s.sch k=c:=⟨_,rfl⟩
  have hce:Zy n.net l s.sch k=if XB s.sch c=false then 2 else if YZ n.net c.2.2.1 c.2.2.2.1=false\/Zr l c.2.2.2.2<0 then 7 else if 0<k/\Xp (Yl s.sch (k-1)) c=false then 5 else 0:=by
   unfold Zy
   rw[hc];rfl
  rw[hc]at hget
  have hpl:XB s.sch c=false↔¬((0<=c.1/\c.1<=s.len-1)/\(0<=c.2.1/\c.2.1<=s.off-1)):=by
   unfold XB insE
   rw[RE]
   simp only[ne_eq,Tq,Tm]
   show¬((0<=c.1/\c.1<s.len)/\0<=c.2.1/\c.2.1<s.off)↔_
   omega
  by_cases hp:(0<=c.1/\c.1<=s.len-1)/\(0<=c.2.1/\c.2.1<=s.off-1)
  rotate_left
  ·rw[To (hpl.2 hp)]at hce
   rw[hbad (by rw[hce];decide),hce,To (show(2:Int)≠0 by decide)]
   clear hK
   repeat'(first|((apply YT WE);exact za;exact rfl;exactλ_ hw=>(ZH _ _ _ hw);all_goals(intro hB;(try simp only[Tm,Tv]at hB);try exact zo))|refine zgd ?_|(refine zge ?_ ?_<;>intro _<;>try exact zo)|(refine zgh ?_;intro _)|fail)
   all_goals(
    apply Yf H
    ·intro w hw
     have h5:St B w0 [many H] w:=by
      revert w
      exact zk
     exact h5.perm (.openT H)
    apply YJ;(iterate 3 exact rfl);exact⟨rfl,rfl⟩)
  rw[Tf (λh=>hpl.1 h hp)]at hce
  have hgs:=λ{H':List HP}{w:World}(hin:n.In B w0 H') (hw:St B w0 H' w)=>Yaj n c.2.2.1 c.2.2.2.1 hin hok hw
  have hfi:=λ{H':List HP}{w:World}(hr:Rd B w0 H' A (l.flatMap flwF)) (hw:St B w0 H' w)=>Ya1 l c.2.2.2.2 (by omega) (cap:=cap) hr hw
  obtain⟨gd,hgd⟩:∃b,YZ n.net c.2.2.1 c.2.2.2.1=b:=⟨_,rfl⟩
  rw[hgd]at hgs hce
  cases gd with
  |false=>
   rw[To (.inl rfl)]at hce
   rw[hbad (by rw[hce];decide),hce,To (show(7:Int)≠0 by decide)]
   clear hK
   repeat'(first|((apply YT WE);exact za;exact rfl;exactλ_ hw=>(ZH _ _ _ hw);all_goals(intro hB;(try simp only[Tm,Tv]at hB);try exact zo))|((apply Yb Ycx);exact za;exact rfl;exactλ_ hw=>(hgs (by repeat(first|exact hinm|apply NetM.In.cons)) hw))|refine zgd ?_|(refine zge ?_ ?_<;>intro _<;>try exact zo)|(refine zgh ?_;intro _)|fail)
   apply Yf H
   ·intro w hw
    have h5:St B w0 [many H] w:=by
     revert w
     exact zc0
    exact W5
   exact zc4
  |true=>
  by_cases hneg:Zr l c.2.2.2.2<0
  ·rw[To (.inr hneg)]at hce
   rw[hbad (by rw[hce];decide),hce,To (show(7:Int)≠0 by decide)]
   clear hK
   repeat'(first|((apply YT WE);exact za;exact rfl;exactλ_ hw=>(ZH _ _ _ hw);all_goals(intro hB;(try simp only[Tm,Tv]at hB);try exact zo))|((apply Yb Ycx);exact za;exact rfl;exactλ_ hw=>(hgs (by repeat(first|exact hinm|apply NetM.In.cons)) hw))|((apply Yb en71);exact za;exact rfl;exactλ_ hw=>(hfi zr hw))|refine zgd ?_|(refine zge ?_ ?_<;>intro _<;>try exact zo)|(refine zgh ?_;intro _)|fail)
   apply Yf H
   ·intro w hw
    have h5:St B w0 [many H] w:=by
     revert w
     exact zc0
    exact W5
   exact zc4
  rw[Tf (by rintro(h|h);cases h;exact hneg h)]at hce
  rcases RU k with h0|h0
  ·subst h0
   rw[Tf (by omega)]at hce
   repeat'(first|((apply YT WE);exact za;exact rfl;exactλ_ hw=>(ZH _ _ _ hw);all_goals(intro hB;(try simp only[Tm,Tv]at hB);try exact zo))|((apply Yb Ycx);exact za;exact rfl;exactλ_ hw=>(hgs (by repeat(first|exact hinm|apply NetM.In.cons)) hw))|((apply Yb en71);exact za;exact rfl;exactλ_ hw=>(hfi zr hw))|(apply zg28;refine zs84 ?_)|refine zgd ?_|(refine zgf ?_ ?_<;>intro _<;>try exact zo)|(refine zgh ?_;intro _)|fail)
   apply hK (0+1)
   ·exact Yl7
   ·omega
   ·exact zc1
   ·unfold netN
    exact zc0
  have hget2:s.cells[((k:Int)-1).toNat]? =some (Yl s.sch (k-1)):=by
   rw[show((k:Int)-1).toNat=k-1 by omega]
   exact YS (s:=s.sch) (show k-1<s.cells.length by omega)
  obtain⟨p,hpv⟩:∃p,Yl s.sch (k-1)=p:=⟨_,rfl⟩
  rw[hpv]at hce hget2
  have hls:=λ{H':List HP}{w:World}(hw:St B w0 H' w)=>Ydr p c hw
  cases hlv:Xp p c with
  |true=>
   rw[hlv]at hls hce
   rw[Tf (by simp)]at hce
   repeat'(first|((apply YT WE);exact za;exact rfl;exactλ_ hw=>(ZH _ _ _ hw);all_goals(intro hB;(try simp only[Tm,Tv]at hB);try exact zo))|((apply Yb Ycx);exact za;exact rfl;exactλ_ hw=>(hgs (by repeat(first|exact hinm|apply NetM.In.cons)) hw))|((apply Yb en71);exact za;exact rfl;exactλ_ hw=>(hfi zr hw))|((apply Ym YoZ);exact za;exact rfl;exactλ_ hw=>(hls hw))|(apply zg28;refine zs84 ?_)|refine zgd ?_|(refine zgf ?_ ?_<;>intro _<;>try exact zo)|(refine zgh ?_;intro _)|fail)
   apply hK (k+1)
   ·exact Yl7
   ·omega
   ·exact zc1
   ·unfold netN
    exact zc0
  |false=>
   rw[hlv]at hls hce
   rw[To ⟨h0,rfl⟩]at hce
   rw[hbad (by rw[hce];decide),hce,To (show(5:Int)≠0 by decide)]
   clear hK
   repeat'(first|((apply YT WE);exact za;exact rfl;exactλ_ hw=>(ZH _ _ _ hw);all_goals(intro hB;(try simp only[Tm,Tv]at hB);try exact zo))|((apply Yb Ycx);exact za;exact rfl;exactλ_ hw=>(hgs (by repeat(first|exact hinm|apply NetM.In.cons)) hw))|((apply Yb en71);exact za;exact rfl;exactλ_ hw=>(hfi zr hw))|((apply Ym YoZ);exact za;exact rfl;exactλ_ hw=>(hls hw))|(apply zg28;refine zs84 ?_)|refine zgd ?_|(refine zgf ?_ ?_<;>intro _<;>try exact zo)|(refine zgh ?_;intro _)|fail)
   apply Yf H
   ·intro w hw
    have h5:St B w0 [many H] w:=by
     revert w
     exact zc0
    exact W5
   exact zc4
 have hcells:∀j,j<s.cells.length->Zy n.net l s.sch j=0:=λj hj=>hall j (by omega)
 rw[Tf (λh=>h (by rw[hC,YF];exactλj _ hj=>hcells j (by omega)))]
 clear hK
 refine zX1 ?_<;>intros
 refine Ye (λ(i:Nat)=>[(11,.int .i64 i),(3,.pointer (some ⟨gn,0,none⟩)),(5,.pointer (some ⟨gs,0,none⟩))]) (λ_=>blk gs (.cells #[.int .i64 s.len,.int .i64 s.off,.slice s.A s.cells.length s.cap] 33 (0,0))::netN gn n::[many H]) (λi=>i<=s.cells.length/\∀m,m<i->X5 s.sch m=false) (λi=>s.cells.length-i) 0 ⟨Td _,λj hj=>absurd hj (Re _)⟩ ?_ (λw hw=>hw) ?_
 ·exact zc1
 rintro i ⟨hi,htw⟩ K2 hK
 unfold netN
 by_cases hli:i<s.cells.length
 ·have hgi:s.cells[i]? =some (Yl s.sch i):=YS (s:=s.sch) hli
  obtain⟨c,hc⟩:∃c,Yl s.sch i=c:=⟨_,rfl⟩
  refine zX0 ?_<;>intros
  refine Ye (λ(j:Nat)=>[(12,.int .i64 j),(11,.int .i64 i),(3,.pointer (some ⟨gn,0,none⟩)),(5,.pointer (some ⟨gs,0,none⟩))]) (λ_=>blk gs (.cells #[.int .i64 s.len,.int .i64 s.off,.slice s.A s.cells.length s.cap] 33 (0,0))::netN gn n::[many H]) (λj=>j<=i/\∀m,m<j->(decide ((Yl s.sch m).1=c.1)&&YE c (Yl s.sch m))=false) (λj=>i-j) 0 ⟨Td _,λj hj=>absurd hj (Re _)⟩ ?_ (λw hw=>hw) ?_
  ·exact zc1
  rintro j ⟨hj,hnt⟩ K3 hK2
  unfold netN
  by_cases hlj:j<i
  ·have hgj:s.cells[j]? =some (Yl s.sch j):=YS (s:=s.sch) (show j<s.cells.length by omega)
   obtain⟨d,hd⟩:∃d,Yl s.sch j=d:=⟨_,rfl⟩
   rw[hc]at hgi
   rw[hd]at hgj
   have htc:YE c d=true↔(c.2.2.1=d.2.2.1\/c.2.2.1=d.2.2.2.1\/c.2.2.2.1=d.2.2.1\/c.2.2.2.1=d.2.2.2.1):=by unfold YE YM toC;rw[Tm]
   have hyes:d.1=c.1->YE c d=true->Zn s.sch=((i:Int),6):=λh1 h2=>by
    have htr:X5 s.sch i=true:=Yfr hlj (by rw[hd,hc];exact h1) (by rw[hd,hc];exact h2)
    rw[hF,Xe (i:=i) (λm _ hm=>by simp only[htw m hm];rfl) (Td _) (by omega) (by simp only[htr];decide)]
    simp[htr]
   refine zX0 ?_<;>intros
   apply YbU (.p1 0 (.p1 1 (.p1 2 (.p1 3 (.p1 4 (.p1 5 (.p1 6 (.p1 7 (.p1 8 (.p1 9 (.d2 10 (.d1 11 (.d1 12 (.d1 13 .done))) 11 (.d1 10 (.d1 12 (.d1 13 .done)))))))))))))) [] [true,false,true]
   kernel_rfl
   kernel_rfl
   exact zy
   exact rfl
   repeat'(first|(apply Yos;(simp only[nthO];rfl))|(apply Yoq;(simp only[nthO];rfl);exact zp)|(apply Yor;(simp only[nthO];rfl);(simp only[nthO];rfl);exact zp)|(apply Yb1;try exact zl)|refine zgd ?_|(refine zge ?_ ?_<;>intro _<;>try exact zo)|(refine zgh ?_;intro _)|fail)
   all_goals first
    |(apply hK2 (j+1)
      ·refine⟨by omega,λm hm=>?_⟩
       by_cases e:m=j
       ·rw[e,hd,RE,ne_eq,Tq,Tm,htc]
        omega
       ·exact hnt m (by omega)
      ·omega
      ·exact zu
      ·unfold netN
       exact zk
      done)
    |(have hT:=hyes (by omega) (htc.2 (by omega))
      rw[hT,To (show(6:Int)≠0 by decide)]
      apply Yf H
      ·intro w hw
       have h5:St B w0 [many H] w:=by
        revert w
        exact zk
       exact h5.perm (.openT H)
      apply YJ;(iterate 3 exact rfl);exact⟨rfl,rfl⟩
      done)
  ·refine zX1 ?_<;>intros
   apply hK (i+1)
   ·refine⟨by omega,λm hm=>?_⟩
    by_cases e:m=i
    ·rw[e]
     unfold X5
     rw[RG]
     intro q hq
     have:=hnt q (by have:=Rq.1 hq;omega)
     rw[hc,this]
     decide
    ·exact htw m (by omega)
   ·omega
   ·exact zc1
   ·unfold netN
    exact zc0
 have htwa:∀m,m<s.cells.length->X5 s.sch m=false:=λm hm=>htw m (by omega)
 have hfine:Fine n.net s.sch:=Yj4 (l:=l) hcells htwa
 rw[Tf (λh=>h (by rw[hF,YF];exactλj _ hj=>by simp only[htwa j (by omega)];rfl)),hR]
 clear hK
 refine zX1 ?_<;>intros
 refine Ye (λ(i:Nat)=>[(15,.int .i64 i),(3,.pointer (some ⟨gn,0,none⟩)),(5,.pointer (some ⟨gs,0,none⟩))]) (λ_=>blk gs (.cells #[.int .i64 s.len,.int .i64 s.off,.slice s.A s.cells.length s.cap] 33 (0,0))::netN gn n::[many H]) (λi=>i<=s.cells.length/\∀m,m<i->Vd n.net (YH s.sch m) (YK s.sch m)=false) (λi=>s.cells.length-i) 0 ⟨Td _,λj hj=>absurd hj (Re _)⟩ ?_ (λw hw=>hw) ?_
 ·exact zc1
 rintro i ⟨hi,hrfa⟩ K4 hK
 unfold netN
 by_cases hli:i<s.cells.length
 ·have hgi:s.cells[i]? =some (Yl s.sch i):=YS (s:=s.sch) hli
  have hsa:=W0 (s:=s.sch) hli
  have hap:=YiX hfine (i:=i) hli
  have hsl:=Yfk hok hfine i
  have hgc:=hfine.good _ (Jc (s:=s.sch) hli)
  obtain⟨c,hc⟩:∃c,Yl s.sch i=c:=⟨_,rfl⟩
  rw[hc]at hsa hap hgc
  have hgc:YZ n.net c.2.2.1 c.2.2.2.1=true:=hgc
  have hrq:=Ynu hsa hgc hap
  have hfq:=λ{A:Option Addr}{cap:Nat}{H':List HP}{w:World}(hin:n.In B w0 H') (hr:Rd B w0 H' A ((YH s.sch i).flatMap celF)) (hw:St B w0 H' w)=>YiJ n (YH s.sch i) (YK s.sch i) c hok hsa hgc hap hsl (cap:=cap) hin hr hw
  rw[<-hrq]at hfq
  obtain⟨b,hb⟩:∃b,Vd n.net (YH s.sch i) (YK s.sch i)=b:=⟨_,rfl⟩
  rw[hb]at hfq
  refine zX0 ?_<;>intros
  apply Yg _ Yxk
  exact za
  exact rfl
  exactλ_ hw=>(YiL s i hli (by omega) zr (hw))
  rintro _ _ ⟨A5,cap5,rfl,rfl⟩
  refine zX11 ?_
  apply Yb Yxl
  exact za
  exact rfl
  exactλ_ hw=>(hfq zc24 (Rd.cels (cap:=cap5) (by(focus exact zc2))) hw)
  cases b with
  |true=>
   rw[Xe (i:=i) (λm _ hm=>by simp only[hrfa m hm];rfl) (Td _) (by omega) (by simp only[hb];decide)]
   simp only[hb]
   refine zX3 ?_
   apply Yf H
   ·intro w hw
    have h5:St B w0 [many H] w:=by
     revert w
     exact zc0
    exact W5
   exact zc4
  |false=>
   refine zX11 ?_
   apply hK (i+1)
   ·refine⟨by omega,λm hm=>?_⟩
    by_cases e:m=i
    ·rw[e];exact hb
    ·exact hrfa m (by omega)
   ·omega
   ·exact zc1
   ·unfold netN
    exact zc0
 ·rw[Xn λm _ hm=>by simp only[hrfa m (by omega)];rfl]
  refine zX1 ?_<;>intros
  apply Yf H
  ·intro w hw
   have h5:St B w0 [many H] w:=by
    revert w
    exact zc0
   exact W5
  exact zc4
end Go.Proofs.YtjommdkgfbhbdaaGreatDoor
