/- Lemmas. -/
import Derived.Test.YtjommdkgfbhbdaaGreatDoorQ8
set_option maxRecDepth 100000
set_option maxHeartbeats 8000000
set_option linter.all false
namespace Go.Eng
open Go.RowKit
end Go.Eng
namespace Go.Proofs.YtjommdkgfbhbdaaGreatDoor
open Go.RowKit Go.Eng Go.Nw
theorem Xe{f:Nat->Int}:∀{r i0 i:Nat},(∀k,i0<=k->k<i->f k=0)->i0<=i->i<i0+r->f i≠0->Yz f r i0=((i:Int),f i)
 |0,i0,i,_,h1,h2,_=>by omega
 |r+1,i0,i,h0,h1,h2,h3=>by
  unfold Yz
  by_cases e:i0=i
  ·simp_all
  ·rw[To (h0 i0 (TS _) (by omega))]
   exact Xe (λk hk1 hk2=>h0 k (by omega) hk2) (by omega) (by omega) h3
theorem Xn{f:Nat->Int}{r i0:Nat}(h:∀k,i0<=k->k<i0+r->f k=0):Yz f r i0=(-1,0):=by
 grind [YF,YcJ]
end Go.Proofs.YtjommdkgfbhbdaaGreatDoor
namespace Go.Eng
open Go.RowKit
section
variable {P:Program}{B:Nat}{w0:World}{Q:Exit->Act->World->Prop}{env:Env}{H:List HP}{k:Nat}
def YQr(P:Program)(r:Nat)(ops:Array Oper)(Q:Exit->Act->World->Prop)(l:List Oper):Exit->Act->World->Prop
 |.normal,a,w=>wpListIn (Fence.wide.inRound r) 0 P ops Q l a w
 |e,a,w=>Q e a w
theorem Yal{r:Nat}{ops:Array Oper}{l:List Oper}(hlo:¬LetsOut Q):∀(os:List Oper) (a:Act) (w:World),os.all JP=true->wpList P ops (YQr P r ops Q l) os a w->wpListIn (Fence.wide.inRound r) 0 P ops Q (os++l) a w
 |[],_,_,_,h=>h
 |o::os,a,w,hc,h=>by
  simp only[ND,Tq]at hc
  unfold wpList at h
  rw[TJ]
  unfold wpListIn
  split
  ·rename_i hw
   rw[To hw]at h
   rcases h with h|⟨_,h⟩
   ·have h2:=Oper.wp_mono (λa w h=>Yal hlo os a w hc.2 h) h
    have hs:Oper.semAt (some r) a.eval o=execOp a.eval o:=by grind [Go.Oper.semAt_some,JP]
    refine⟨λf _=>trivial,?_⟩
    rw[Fence.inRound_round,hs]
    unfold Oper.wp at h2
    generalize(execOp a.eval o).run P w=res at h2⊢
    cases res with
    |ok x w'=>
     cases x<;>simp only[Oper.upon,Oper.uponIn]at h2⊢<;>first
      |exact h2
      |(refine⟨λhd=>by simp[Fence.wide]at hd,?_⟩
        refine CallsIn.mono (CallsIn.inRound r (callsIn_wide.2 h2)) λe w'' he=>?_
        cases e<;>exact he)
      |exact⟨λhd=>by simp[Fence.wide]at hd,Ya2 h2⟩
      |exact h2.elim
    |halt x w'=>exact zc90
   ·exact(hlo h).elim
  ·rename_i hw
   rw[Tf hw]at h
   exact⟨λf _=>trivial,Yal hlo os _ w hc.2 h⟩
variable {n r:Nat}{ds:List Deferred}
theorem YgJ{id:Nat}{l:List Oper}(k:Nat){l1 l2:List Oper}(h1:l.take k=l1)(h2:l.drop k=l2)(h:VL P none ⟨n,ds,some r⟩ B w0 l.toArray (YQr P r l.toArray Q l2) l1 env H):
 VC P ⟨n,ds,some r⟩ B w0 (.region id l.toArray false) Q env H:=by
 refine⟨λa w ha hw=>?_⟩
 intro hlo hc
 refine wpIn_region_lit ?_
 have hc2:l.all JP=true:=by grind [calm]
 have:=Yal hlo _ _ _ (by grind) (h.run a ha w hw)
 grind [Rw]
theorem Ymu{ops:Array Oper}{d l:Nat}{x:Operand}{args:List Operand}{tys:Array TypeId}{ty:TypeId}{pos:String}{after:Array Edge}{gd:Option (Nat×Bool)}{vs:List Value}{rest:List Oper}(Φt Φf:List HP->Prop)
 (hgd:∀a:Act,Fits ⟨n,ds,none⟩ a env->Region.wanted ⟨some d,.call ⟨.value x,args.toArray,tys⟩,ty,pos,after,gd⟩ (yielded ops a.tmps)=true)
 (hx:evo env x=some (.func (.yield l) #[] #[])) (hargs:Args env args vs) (hn:Nat.ble (d+1) n=true) (hlo:¬LetsOut Q) (hpl:rest.all JP=true) (hy:Yb3 P l vs B w0 H Φt Φf)
 (ht:∀K,Φt K->VL P none ⟨n,ds,some r⟩ B w0 ops Q rest ((d,.bool true)::env) K)
 (hf:∀K,Φf K->VL P none ⟨n,ds,some r⟩ B w0 ops Q rest ((d,.bool false)::env) K):
 VQ ⟨n,ds,some r⟩ B w0 (YQr P r ops Q (⟨some d,.call ⟨.value x,args.toArray,tys⟩,ty,pos,after,gd⟩::rest)) .normal env H:=by
 refine⟨λa w ha hw=>?_⟩
 show wpListIn (Fence.wide.inRound r) 0 P ops Q _ a w
 unfold wpListIn
 rw[To (hgd a ⟨ha.defers,ha.size,ha.slot⟩)]
 refine⟨λf _=>trivial,?_⟩
 obtain⟨fn,tmps,assign,body,hrun,hround⟩:=hy w hw
 have hmap:args.toArray.map a.eval=vs.toArray:=by grind [VP]
 have hs:Oper.semAt (some r) a.eval ⟨some d,.call ⟨.value x,args.toArray,tys⟩,ty,pos,after,gd⟩=execOp a.eval ⟨some d,.call ⟨.value x,args.toArray,tys⟩,ty,pos,after,gd⟩:=by grind [Go.Oper.semAt_some]
 rw[Fence.inRound_round,hs]
 have hex:(execOp a.eval ⟨some d,.call ⟨.value x,args.toArray,tys⟩,ty,pos,after,gd⟩).run P w=.ok (.round l fn tmps assign body) w:=zc46
 rw[hex,Oper.uponIn_round]
 refine⟨λhd=>by simp[Fence.wide]at hd,?_⟩
 have hround2:RoundIn (Fence.wide.inRound r) 0 P l fn tmps assign body w _:=hround
 refine RoundIn.mono hround2 ?_
 rintro e w' (⟨rfl,K',hΦ,hst⟩|⟨rfl,K',hΦ,hst⟩)
 ·exact Ur hlo _ _ _ hpl ((ht K' hΦ).run _ (ha.put (TV hn) _) _ hst)
 ·exact Ur hlo _ _ _ hpl ((hf K' hΦ).run _ (ha.put (TV hn) _) _ hst)
end
variable {B:Nat}{w0:World}{H K:List HP}
theorem St.inM{w:World}(hw:St B w0 K w)(hm:Eng.many H∈K):St B w0 H w:=by
 obtain⟨S,h1,h2⟩:=hw.at_ hm
 exact⟨hw.below,hw.le,UA h2 h1⟩
variable {A:Option Addr}{xs:List Value}
theorem Rd.inM(h:Rd B w0 H A xs)(hm:Eng.many H∈K):Rd B w0 K A xs:=h.mono λ_ hw=>hw.inM hm
theorem Rd.many{L:List HP}{e size k cap:Nat}(hX:many L∈H)(hm:Eng.sl e size A k cap xs∈L):Rd B w0 H A xs:=λw hw j v hv=>by
 obtain⟨S,_,h2⟩:=hw.at_ hX
 obtain⟨S',_,h3,_⟩:=YlN hm h2
 obtain⟨g,e1,hc,_⟩:=QR h3 hv
 grind
end Go.Eng
namespace Go.Proofs.YtjommdkgfbhbdaaGreatDoor
open Go.RowKit Go.Eng Go.Nw
def flwV(f:Flw):Value:=.agg #[.int .i64 f.1,.int .i64 f.2.1,.int .i64 f.2.2.1,.int .i64 f.2.2.2.1,.int .i64 f.2.2.2.2.1,.int .i64 f.2.2.2.2.2]
theorem Vt{l:List Flw}{i:Nat}(h:i<l.length):l[i]? =some (Y4 l i):=by
 grind [Y4]
variable {B cap:Nat}{w0 w:World}{H:List HP}
theorem Yj8(v nodes:Int)(gn:Nat)(hm:blk gn (.cells #[.int .i64 nodes] 3 (0,0))∈H)(hw:St B w0 H w):
 CX B w0 212 [.int .i64 v,.pointer (some ⟨gn,0,none⟩)] w λu K=>u=.bool (insE v nodes)/\K=H:=by
 refine Ya Tryz.func212 Tryz.ntmps212 rfl rfl hw ?_
 exact zc23
theorem YaK(nodes:Int)(f:Flw)(hw:St B w0 H w):
 CX B w0 118 [.int .i64 nodes,flwV f] w λv K=>v=.int .i64 (Xl nodes f)/\K=H:=by
 refine Ya Tryz.func118 Tryz.ntmps118 rfl rfl hw ?_
 obtain⟨e,he⟩:∃e,Xl nodes f=e:=⟨_,rfl⟩
 rw[he]
 by_cases hA:f.1<0\/255<f.1
 ·repeat'(first|(apply zg23;first|(refine zs52 ?_;intro _)|(refine zs53 ?_;intro _))|(apply zg29;(apply Yu;exact za;exact rfl))|refine zgd ?_|(refine zgf ?_ ?_<;>intro _<;>try exact zo)|fail)
  all_goals(
   apply Yf H
   ·exact zk
   apply Yc;exact rfl;exact rfl
   refine⟨?_,rfl⟩
   rw[<-he]
   unfold Xl
   first
    |(rw[To (by first|exact .inl (by omega)|exact .inr (.inl (by omega))|exact .inr (.inr (.inl (by assumption)))|exact .inr (.inr (.inr (by assumption))))];done)
    |(rw[Tf (by rintro(h|h|h|h)<;>first|omega|simp_all)]
      first
       |(rw[To (by omega)];done)
       |(rw[Tf (by omega),To (by omega)];done)
       |(rw[Tf (by omega),Tf (by omega)];done)))
 ·refine zX41 ?_<;>intros
  rename_i gn gf _ _
  repeat'(first|((apply JA (cs:=[.pointer (some ⟨gn,0,none⟩)]));exact rfl;exact YwI;exact za;exact rfl;exactλ_ hw=>(Yj8 _ nodes gn zm hw);all_goals(intro hB;(try simp only[Tm,Tv]at hB);try exact zo))|refine zgd ?_|(refine zgf ?_ ?_<;>intro _<;>try exact zo)|fail)
  all_goals(
   apply Yf H
   ·exact zk
   apply Yc;exact rfl;exact rfl
   refine⟨?_,rfl⟩
   rw[<-he]
   unfold Xl
   first
    |(rw[To (by first|exact .inl (by omega)|exact .inr (.inl (by omega))|exact .inr (.inr (.inl (by assumption)))|exact .inr (.inr (.inr (by assumption))))];done)
    |(rw[Tf (by rintro(h|h|h|h)<;>first|omega|simp_all)]
      first
       |(rw[To (by omega)];done)
       |(rw[Tf (by omega),To (by omega)];done)
       |(rw[Tf (by omega),Tf (by omega)];done)))
variable {A:Option Addr}
theorem Y3(nodes:Int)(l:List Flw)(hl:l.length<=9223372036854775807)(hr:Rd B w0 H A (l.flatMap flwF))(hw:St B w0 H w):
 CX B w0 39 [.int .i64 nodes,.slice A l.length cap] w λv K=>v=.tuple #[.int .i64 (Yt nodes l).1,.int .i64 (Yt nodes l).2]/\K=H:=by
 refine Ya Tryz.func39 Tryz.ntmps39 rfl rfl hw ?_
 by_cases hn:nodes<2\/32<nodes
 ·have hE:Yt nodes l=(-1,2):=by simp_all [Yt]
  exact zc31
 by_cases h16:16<l.length
 ·have hE:Yt nodes l=(-1,8):=by simp_all [Yt]
  rw[hE]
  refine zX42 ?_<;>intros
  exact zc28
 have hE:Yt nodes l=Yz (YV nodes l) l.length 0:=by simp_all [Yt,if_neg]
 rw[hE]
 refine zX42 ?_<;>intros
 refine Ye (λ(i:Nat)=>[(20,.int .i64 i),(19,.int .i64 l.length),(18,.slice A l.length cap),(0,.int .i64 nodes),(1,.slice A l.length cap)]) (λ_=>H) (λi=>i<=l.length/\∀k,k<i->YV nodes l k=0) (λi=>l.length-i) 0 ⟨Td _,λk hk=>absurd hk (Re _)⟩ ?_ (λw hw=>hw) ?_
 ·exact zc1
 rintro i ⟨hi,hall⟩ K hK
 by_cases hlt:i<l.length
 ·have hget:l[i]? =some (Y4 l i):=Vt hlt
  have hbad:YV nodes l i≠0->Yz (YV nodes l) l.length 0=((i:Int),YV nodes l i):=λh=>Xe (λk _ hk=>hall k hk) (Td _) (by omega) h
  have hstep:YV nodes l i=0->∀k,k<i+1->YV nodes l k=0:=λh k hk=>by
   exact zc93
  by_cases he:Xl nodes (Y4 l i)≠0
  ·have hf:YV nodes l i=Xl nodes (Y4 l i):=by unfold YV;exact To he
   rw[hbad (by rw[hf];exact he),hf]
   repeat'(first|((apply Yb YsE);exact za;exact rfl;exactλ_ hw=>(YaK nodes (Y4 l i) hw))|refine zgd ?_|(refine zge ?_ ?_<;>intro _<;>try exact zo)|(refine zgh ?_;intro _)|fail)
   apply Yf H
   ·exact zc0
   exact zc4
  have he0:=TQ.1 he
  have hck:=λ{H':List HP}{w:World}(hw:St B w0 H' w)=>YaK nodes (Y4 l i) hw
  rw[he0]at hck
  rcases RU i with h0|h0
  ·subst h0
   have hf:YV nodes l 0=0:=by unfold YV;exact Yl6
   refine zX44 ?_<;>intros
   apply hK (0+1)
   ·exact Ybe
   ·omega
   ·exact zc1
   ·exact zc0
  have hget2:l[((i:Int)-1).toNat]? =some (Y4 l (i-1)):=YuH
  by_cases hle:(Y4 l i).1<=(Y4 l (i-1)).1
  ·have hf:YV nodes l i=5:=by unfold YV;exact Yl5
   rw[hbad (by rw[hf];decide),hf]
   refine zX44 ?_<;>intros
   apply Yf H
   ·exact zc0
   exact zc4
  ·have hf:YV nodes l i=0:=by unfold YV;exact Yl4
   refine zX44 ?_<;>intros
   apply hK (i+1)
   ·exact Ybe
   ·omega
   ·exact zc1
   ·exact zc0
 ·refine zX1 ?_<;>intros
  rw[show i=l.length by omega]at hall
  rw[Xn λk _ hk=>hall k (by omega)]
  exact zc4
theorem YcX(p:Flw->Bool)(l:List Flw)(f:Nat)(cs:List Value)(hen:∀xs w,(callFunc f xs).run Tryz.prog w=.ok (.enter f xs) w)(hlen:l.length<=1000)(hr:Rd B w0 H A (l.flatMap flwF))
 (hp:∀a∈l,∀w,St B w0 H w->Calls Tryz.prog f ([flwV a]++cs).toArray w (Post B w0 λv K=>v=.bool (p a)/\K=H)) (hw:St B w0 H w):
 CX B w0 119 [.slice A l.length cap,.func (.func f) #[] cs.toArray] w λv K=>v=.int .i64 (Yp p l 0)/\K=H:=by
 refine Ya Tryz.func119 Tryz.ntmps119 rfl rfl hw ?_
 refine zX9 ?_
 refine Ye (λ(k:Nat)=>[(8,.int .i64 k),(7,.int .i64 l.length),(0,.slice A l.length cap),(1,.func (.func f) #[] cs.toArray)]) (λ_=>H) (λk=>k<=l.length/\Yp p l 0=Yp p (l.drop k) k) (λk=>l.length-k) 0 ⟨Td _,by simp⟩ ?_ (λw hw=>hw) ?_
 ·exact zc1
 rintro k ⟨hk,hi⟩ K hK
 by_cases hlt:k<l.length
 ·obtain⟨a,ha⟩:∃a,l[k]? =some a:=⟨_,Ta hlt⟩
  have hpa:=hp a (Tc ha)
  rw[Jo p l ha]at hi
  refine zX10 ?_<;>intros
  cases hpv:p a
  ·rw[hpv]at hi
   refine zX11 ?_
   apply hK (k+1)
   ·grind
   ·omega
   ·exact zc1
   exact zc18
  exact zc11
 exact zc7
theorem Yj3(f:Flw)(id:Int)(gi:Nat)(hm:blk gi (.cells #[.int .i64 id] 3 (0,0))∈H)(hw:St B w0 H w):
 CX B w0 384 [flwV f,.pointer (some ⟨gi,0,none⟩)] w λv K=>v=.bool (decide (f.1=id))/\K=H:=by
 refine Ya Tryz.func384 Tryz.ntmps384 rfl rfl hw ?_
 by_cases h:f.1=id
 ·rw[Ti h]
  refine zX22 ?_<;>intros
  all_goals(apply Yj;exact zc9)
 ·rw[Tn h]
  refine zX22 ?_<;>intros
  all_goals(apply Yj;exact zc9)
theorem Yj2(l:List Flw)(id:Int)(hlen:l.length<=1000)(hr:Rd B w0 H A (l.flatMap flwF))(hw:St B w0 H w):
 CX B w0 328 [.slice A l.length cap,.int .i64 id] w λv K=>v=.int .i64 (Zr l id)/\K=H:=by
 refine Ya Tryz.func328 Tryz.ntmps328 rfl rfl hw ?_
 repeat'(first|(apply zg29;(apply Yu;exact za;exact rfl))|refine zga ?_|(refine zgh ?_;intro _)|fail)
 rename_i gi
 apply Yb YsF
 exact za
 exact rfl
 exactλ_ hw=>(YcX (λf=>decide (f.1=id)) l 384 [.pointer (some ⟨gi,0,none⟩)] YxD hlen hr.cons (λf _ w hw=>Yj3 f id gi zm hw) hw)
 repeat'(first|refine zga ?_|fail)
 apply Yf H
 ·exact zk
 apply Yc;exact rfl;exact rfl
 exact⟨rfl,rfl⟩
theorem Ygg(s:SchM)(f:Flw)(gs:Nat)(hs:1<=s.len/\s.len<=512)(hf:1<=f.2.2.2.1/\f.2.2.2.1<=512)(hm:blk gs (.cells #[.int .i64 s.len,.int .i64 s.off,.slice s.A s.cells.length s.cap] 33 (0,0))∈H)(hw:St B w0 H w):
 CX B w0 261 [flwV f,.pointer (some ⟨gs,0,none⟩)] w λv K=>v=.bool (decide (s.len.tmod f.2.2.2.1≠0))/\K=H:=by
 refine Ya Tryz.func261 Tryz.ntmps261 rfl rfl hw ?_
 by_cases h:s.len.tmod f.2.2.2.1≠0
 ·rw[Ti h]
  rw[Rb (by omega)]at h
  refine zX45 ?_<;>intros
  all_goals(apply Yj;exact zc9)
 ·rw[Tn h]
  rw[Rb (by omega)]at h
  refine zX45 ?_<;>intros
  all_goals(apply Yj;exact zc9)
theorem YcV{α:Type}(p:α->Bool)(l:List α):decide (0<=Yp p l 0)=l.any p:=by
 have h:=Vc p l 0 (by omega)
 grind
theorem WB(p:Flw->Bool)(l:List Flw)(f:Nat)(cs:List Value)(hen:∀xs w,(callFunc f xs).run Tryz.prog w=.ok (.enter f xs) w)(hlen:l.length<=1000)(hr:Rd B w0 H A (l.flatMap flwF))
 (hp:∀a∈l,∀w,St B w0 H w->Calls Tryz.prog f ([flwV a]++cs).toArray w (Post B w0 λv K=>v=.bool (p a)/\K=H)) (hw:St B w0 H w):
 CX B w0 40 [.slice A l.length cap,.func (.func f) #[] cs.toArray] w λv K=>v=.bool (l.any p)/\K=H:=by
 refine Ya Tryz.func40 Tryz.ntmps40 rfl rfl hw ?_
 rw[<-YcV]
 refine zX2 ?_
 apply Yb YsF
 exact za
 exact rfl
 exactλ_ hw=>(YcX p l f cs hen hlen hr hp hw)
 by_cases h0:0<=Yp p l 0
 ·exact zc16
 ·exact zc16
open Go.RowKit Go.Eng Go.Nw Go.Rt
variable {n:Net}
theorem Vi{a b:Int}(h:YZ n a b=true):0<=Yv n a b:=by
 simp_all [YZ]
variable {r:List Int}
theorem Qn{s t:Int}(h:Jk n s t r=0):(2<=r.length/\r.length<=9)/\r.any (offE n)=false/\(r.getD 0 0=s/\r.getD (r.length-1) 0=t)/\W4 r=false/\JM n r=false:=by
 unfold Jk at h
 by_cases h1:r.length<2
 all_goals grind
theorem Yhf(h:JM n r=false){i:Nat}(hi:i+1<r.length):YZ n (r.getD i 0) (r.getD (i+1) 0)=true:=by
 cases hg:YZ n (r.getD i 0) (r.getD (i+1) 0)with
 |true=>rfl
 |false=>
  grind [JM]
variable {A:Option Addr}{cap B:Nat}{w0 w:World}{H:List HP}
theorem YmP(n:NetM)(r:List Int)(hin:n.In B w0 H)(hck:Yo n.net=0)(hbr:JM n.net r=false)(hr:Rd B w0 H A (r.flatMap numF))(hlen:1<=r.length/\r.length<=1000)(hw:St B w0 H w):
 CX B w0 211 [n.val,.slice A r.length cap] w λv K=>v=.int .i64 (YoJ n.net r)/\K=H:=by
 have hok:=YP hck
 obtain⟨hpw,hrw,hlk,hmg,hs1,hs2,hs3,hs4⟩:=id hin
 refine Ya Tryz.func211 Tryz.ntmps211 rfl rfl hw ?_
 (apply Y5;apply YL;apply Yx;exact rfl;exact rfl;intro g)
 refine zX9 ?_
 refine Ye (λ(k:Nat)=>[(6,.int .i64 ((k:Int)+1)),(5,.int .i64 (UO n.net r k)),(1,.slice A r.length cap),(2,.pointer (some ⟨g,0,none⟩))]) (λ_=>netB g n::H) (λk=>k+1<=r.length) (λk=>r.length-k) 0 hlen.1 ?_ (λw hw=>hw) ?_
 ·exact zc1
 intro k hk K hK
 have hbd:=YeD hok r k
 by_cases hlt:k+1<r.length
 ·have hgk:=Xq (l:=r) (i:=k) (by omega)
  have hgk1:=Xq (l:=r) (i:=k+1) (by omega)
  have ei:((k:Int)+1-1).toNat=k:=by omega
  have ei1:((k:Int)+1).toNat=k+1:=by omega
  rw[<-ei]at hgk
  rw[<-ei1]at hgk1
  have hgood:=Yhf hbr hlt
  have hf:=Vi hgood
  have hfl:=XP hf
  have e7:n.net.links=n.links:=rfl
  rw[e7]at hfl
  have hlx:n.links[(Yv n.net (r.getD k 0) (r.getD (k+1) 0)).toNat]? =some (lnk n.net (Yv n.net (r.getD k 0) (r.getD (k+1) 0)).toNat):=WQ n.net hfl
  have hlo:=YbE hok (r.getD k 0) (r.getD (k+1) 0)
  have hidx:=λ{w:World}(hw:St B w0 (netB g n::H) w)=>Zl n (r.getD k 0) (r.getD (k+1) 0) (hin.cons (X:=netB g n)) hw
  unfold Zb at hidx
  rw[Tf (by simp[hck])]at hidx
  obtain⟨fi,hfi⟩:∃fi,Yv n.net (r.getD k 0) (r.getD (k+1) 0)=fi:=⟨_,rfl⟩
  obtain⟨lo,hlo2⟩:∃lo,QB n.net (r.getD k 0) (r.getD (k+1) 0)=lo:=⟨_,rfl⟩
  have hst:UO n.net r (k+1)=UO n.net r k+(lo+1):=by rw[<-hlo2];rfl
  have hlo3:(lnk n.net fi.toNat).2.2=lo:=by rw[<-hfi];exact hlo2
  rw[hfi]at hidx hf hfl hlx
  rw[hlo2]at hlo
  rw[ei]at hgk
  rw[ei1]at hgk1
  obtain⟨lk,hlkk⟩:∃lk,lnk n.net fi.toNat=lk:=⟨_,rfl⟩
  rw[hlkk]at hlx hlo3
  rw[<-hlo3]at hlo
  have hgk':r[((k:Int)+1-1).toNat]? =some (r.getD k 0):=by rw[ei];exact hgk
  have hgk1':r[((k:Int)+1).toNat]? =some (r.getD (k+1) 0):=by rw[ei1];exact hgk1
  repeat'(first|((apply Ym Jy);exact za;exact rfl;exactλ_ hw=>(hidx hw))|(apply zg28;refine zs84 ?_)|refine zgd ?_|(refine zge ?_ ?_<;>intro _<;>try exact zo)|fail)
  apply hK (k+1)
  ·omega
  ·omega
  ·rw[hst,<-hlo3];exact zc1
  exact zc18
 ·refine zX1 ?_<;>intros
  (repeat apply Yj);apply Yc;exact rfl;exact rfl
  have ek:r.length-1=k:=by omega
  exact⟨by unfold YoJ;rw[ek],rfl⟩
theorem Ymf(n:NetM)(r:List Int)(hin:n.In B w0 H)(hr:Rd B w0 H A (r.flatMap numF))(hlen:r.length<=9223372036854775807)(hcap:r.length<=cap)(hw:St B w0 H w):
 CX B w0 117 [n.val,.slice A r.length cap] w λv K=>v=.tuple #[.int .i64 (YgE n.net r).1,.int .i64 (YgE n.net r).2]/\K=H:=by
 refine Ya Tryz.func117 Tryz.ntmps117 rfl rfl hw ?_
 unfold YgE
 by_cases h0:Yo n.net=0
 rotate_left
 ·rw[To h0]
  refine zX48 ?_<;>intros
  (repeat apply Yj);exact zc28
 rw[Tf (λh=>h h0)]
 have hck:=λ{H:List HP}{w:World}(hin:n.In B w0 H) (hw:St B w0 H w)=>Xa n hin hw
 rw[h0]at hck
 dsimp only
 have hf:=λ{H:List HP}{w:World}(s t:Int) (hin:n.In B w0 H) (hr:Rd B w0 H A (r.flatMap numF)) (hw:St B w0 H w)=>YcD n s t r (cap:=cap) hin h0 hr hlen hcap hw
 by_cases hz:r.length=0
 ·have hf0:Jk n.net (r.getD 0 0) (r.getD (r.length-1) 0) r=9:=by unfold Jk;rw[To (by omega)]
  have hf1:Jk n.net 0 0 r=9:=by unfold Jk;rw[To (by omega)]
  have hff:=λ{H:List HP}{w:World}(hin:n.In B w0 H) (hr:Rd B w0 H A (r.flatMap numF)) (hw:St B w0 H w)=>hf 0 0 hin hr hw
  rw[hf1]at hff
  rw[hf0,To (by decide)]
  repeat'(first|((apply Yb XQ);exact za;exact rfl;exactλ_ hw=>(hck hin.cons hw))|((apply Yb Ylp);exact za;exact rfl;exactλ_ hw=>(hff hin.cons hr.cons hw))|refine zgb ?_|(refine zgf ?_ ?_<;>intro _<;>try exact zo)|(refine zgh ?_;intro _)|fail)
  (repeat apply Yj);exact zc4
 ·have hg0:=Xq (l:=r) (i:=0) (by omega)
  have hg1:=Xq (l:=r) (i:=r.length-1) (by omega)
  have hgi:((r.length:Int)-1).toNat=r.length-1:=by omega
  rw[<-hgi]at hg1
  have hff:=λ{H:List HP}{w:World}(hin:n.In B w0 H) (hr:Rd B w0 H A (r.flatMap numF)) (hw:St B w0 H w)=>hf (r.getD 0 0) (r.getD (r.length-1) 0) hin hr hw
  obtain⟨e,he⟩:∃e,Jk n.net (r.getD 0 0) (r.getD (r.length-1) 0) r=e:=⟨_,rfl⟩
  rw[he]at hff
  rw[he]
  rw[<-hgi]at hff
  by_cases hez:e=0
  ·subst hez
   obtain⟨⟨f1,f2⟩,_,_,_,f3⟩:=Qn he
   rw[Tf (by simp)]
   repeat'(first|((apply Yb XQ);exact za;exact rfl;exactλ_ hw=>(hck hin.cons hw))|((apply Yb Ylp);exact za;exact rfl;exactλ_ hw=>(hff hin.cons hr.cons hw))|((apply Yb YwH);exact za;exact rfl;exactλ_ hw=>(YmP n r hin.cons h0 f3 hr.cons (by omega) hw))|refine zgd ?_|(refine zgf ?_ ?_<;>intro _<;>try exact zo)|(refine zgh ?_;intro _)|fail)
   (repeat apply Yj);exact zc4
  ·rw[To hez]
   repeat'(first|((apply Yb XQ);exact za;exact rfl;exactλ_ hw=>(hck hin.cons hw))|((apply Yb Ylp);exact za;exact rfl;exactλ_ hw=>(hff hin.cons hr.cons hw))|refine zgd ?_|(refine zgf ?_ ?_<;>intro _<;>try exact zo)|(refine zgh ?_;intro _)|fail)
   (repeat apply Yj);exact zc4
theorem YbQ(n:NetM)(s t:Int)(r:List Int)(hin:n.In B w0 H)(hr:Rd B w0 H A (r.flatMap numF))(hlen:r.length<=9223372036854775807)(hcap:r.length<=cap)(hw:St B w0 H w):
 CX B w0 327 [n.val,.int .i64 s,.int .i64 t,.slice A r.length cap] w λv K=>v=.int .i64 (Xw n.net s t r)/\K=H:=by
 refine Ya Tryz.func327 Tryz.ntmps327 rfl rfl hw ?_
 unfold Xw
 by_cases h0:Zq n.net s t=0
 ·have hck:Yo n.net=0:=by
   unfold Zq at h0
   omega
  have hen:=λ{H:List HP}{w:World}(hin:n.In B w0 H) (hw:St B w0 H w)=>Uj n s t hin hw
  rw[h0]at hen
  rw[Tf (λh=>h h0)]
  repeat'(first|((apply Yb Ylq);exact za;exact rfl;exactλ_ hw=>(hen hin.cons hw))|((apply Yb Ylp);exact za;exact rfl;exactλ_ hw=>(YcD n s t r hin.cons hck hr.cons hlen hcap hw))|refine zgb ?_|(refine zge ?_ ?_<;>intro _<;>try exact zo)|(refine zgh ?_;intro _)|fail)
  (repeat apply Yj);exact zc9
 ·rw[To h0]
  repeat'(first|((apply Yb Ylq);exact za;exact rfl;exactλ_ hw=>(Uj n s t hin.cons hw))|refine zgb ?_|(refine zge ?_ ?_<;>intro _<;>try exact zo)|(refine zgh ?_;intro _)|fail)
  (repeat apply Yj);exact zc9
end Go.Proofs.YtjommdkgfbhbdaaGreatDoor
namespace Go.Eng
open Go.RowKit
def subL(i k:Nat)(l:List Value):List Value:=(l.drop i).take k
section
variable {P:Program}{B:Nat}{w0:World}{Q:Exit->Act->World->Prop}{env:Env}{H:List HP}{m:Mode}{n:Shp}{ops:Array Oper}{rest:List Oper}{d:Nat}{ty:TypeId}{pos:String}{after:Array Edge}
variable {t g i k:Nat}{cs:Array Value}{vs:List Value}{tt:TypeId}{fr:Nat×Nat}{x:Operand}
theorem YgV(T:Tab P)(hx:evo env x=some (.pointer (some ⟨g,i,none⟩)))(hm:blk g (.cells cs tt fr)∈H)
 (ht:look T.ag t=some k) (hv:subL i k cs.toList=vs) (hk:Nat.beq vs.length k=true) (hn:Nat.ble (d+1) n.k=true) (h:VL P m n B w0 ops Q rest ((d,.agg vs.toArray)::env) H):
 VL P m n B w0 ops Q (⟨some d,.load t x,ty,pos,after,none⟩::rest) env H:=by
 refine YgT T hx hm ht (Nat.eq_of_beq_eq_true hk) (λj v hj=>?_) hn h
 grind [subL]
end
def Yhh(l:List Oper)(k s:Nat):Bool:=match l[k]? with
 |some o=>match o.op with
  |.call c=>match c.callee with
   |.value (.tmp t)=>Nat.beq t s
   |_=>false
  |_=>false
 |none=>false
section
variable {P:Program}{B:Nat}{w0:World}{Q:Exit->Act->World->Prop}{env:Env}{H:List HP}
variable {n id r:Nat}{ds:List Deferred}{l l1 l2:List Oper}
theorem YgK(k s:Nat)(_ho:Yhh l k s=true)(h1:l.take k=l1)(h2:l.drop k=l2)(hlo:¬LetsOut Q)(h:VL P none ⟨n,ds,none⟩ B w0 l.toArray (YQ P l.toArray Q l2) l1 env H):
 VC P ⟨n,ds,none⟩ B w0 (.region id l.toArray false) Q env H:=YbT k h1 h2 hlo h
theorem Yfx(k s:Nat)(_ho:Yhh l k s=true)(h1:l.take k=l1)(h2:l.drop k=l2)(h:VL P none ⟨n,ds,some r⟩ B w0 l.toArray (YQr P r l.toArray Q l2) l1 env H):
 VC P ⟨n,ds,some r⟩ B w0 (.region id l.toArray false) Q env H:=YgJ k h1 h2 h
end
section
variable {P:Program}{B:Nat}{w0:World}{env:Env}{H:List HP}
variable {n:Nat}{fn:Func}
theorem Ymh{gf:Nat}{c:Code}{lb:List Value}{xs:List (List Value)}{HI:List HP}(hf:P.funcs[gf]? =some fn)(hn:fn.ntmps=n)(hb:fn.body=some c)(hle:Nat.ble (lb.length+1) n=true)
 (h:∀(l:Nat) (S:Nat->List HP->Prop) (X:List HP->Prop),
  (∀(i:Nat) (args:List Value),xs[i]? =some args->∀(Y L:List HP),S i L->
   Yb3 P l args B w0 (Y++many L::HI) (λK=>∃L',S (i+1) L'/\K=Y++many L'::HI) (λK=>∃L',X L'/\K=Y++many L'::HI))->
  ∀L0,S 0 L0->VC P ⟨n,[],none⟩ B w0 c (bodyPostM Fence.wide 0 P fn (Post B w0 λ_ K=>(∃L,S xs.length L/\K=many L::HI)\/∃L,X L/\K=many L::HI)) (Wz 0 (.func (.yield l) #[] #[]::lb)) (many L0::HI)):YbR P gf lb xs B w0 HI:=by
 intro l S X hy L0 h0 w hw
 exact callsIn_wide.2 (ZK (args:=.func (.yield l) #[] #[]::lb) hf hn hb hle hw (h l S X hy L0 h0))
variable {ds:List Deferred}
theorem Yrk{R:Ending->World->Prop}(h:VQ ⟨n,ds,none⟩ B w0 (bodyPostM Fence.wide 0 P fn R) .ret env H):VQ ⟨n,ds,none⟩ B w0 (bodyPostM Fence.wide 0 P fn R) .normal env H:=
 ⟨λa w ha hw=>h.run a w ha hw⟩
end
variable {P:Program}{B n t r g i k:Nat}{w0:World}{env:Env}{H:List HP}{fn:Func}
theorem Ybt{Φ:Value->List HP->Prop}{u s:Nat}{v x y z:Value}(hr:fn.results=#[.tmp t,.tmp u,.tmp s,.tmp r])(hv:get env t=some v)(hx:get env u=some x)(hy:get env s=some y)(hz:get env r=some z)(h:Φ (.tuple #[v,x,y,z]) H):
 VQ ⟨n,[],none⟩ B w0 (bodyPost P fn (Post B w0 Φ)) .ret env H:=
 ⟨λa w ha hw=>bodyPost_ret (v:=.tuple #[v,x,y,z]) (by simp[results,hr,Array.getD_eq_getD_getElem?,ha.slot t v hv,ha.slot u x hx,ha.slot s y hy,ha.slot r z hz]) ha.defers ⟨_,H,rfl,hw,h⟩⟩
theorem YnE{X:HP}(h:X∈H):∃R,Perm H [X,many R]/\Perm [X,many R] H:=by
 obtain⟨s,t,rfl⟩:=List.append_of_mem h
 exact⟨s++t,(Perm.closeT _).trans (Perm.pull X s t []),(Perm.push X s t []).trans (Perm.openT _)⟩
variable {cs:Array Value}{vs:List Value}{tt:TypeId}{fr:Nat×Nat}{x:Operand}
theorem Yi{m:Mode}{n:Shp}{d:Nat}{ops:Array Oper}{Q:Exit->Act->World->Prop}{rest:List Oper}{ty:TypeId}{pos:String}{after:Array Edge}(T:Tab P)
 (h:VL P m n B w0 ops Q rest ((d,.agg vs.toArray)::env) H) (hx:evo env x=some (.pointer (some ⟨g,i,none⟩)):=by exact rfl) (hm:blk g (.cells cs tt fr)∈H:=by exact zm)
 (ht:look T.ag t=some k:=by exact rfl) (hv:subL i k cs.toList=vs:=by exact zv) (hk:Nat.beq vs.length k=true:=by exact rfl) (hn:Nat.ble (d+1) n.k=true:=by exact rfl):
 VL P m n B w0 ops Q (⟨some d,.load t x,ty,pos,after,none⟩::rest) env H:=YgV T hx hm ht hv hk hn h
end Go.Eng
namespace Go.Proofs.YtjommdkgfbhbdaaGreatDoor
open Go.RowKit Go.Eng Go.Nw Go.Rt
abbrev Rqs:=Flw×List (List Int)
structure Clm where
 flow:Int
 routes:List (List Int)
 bounds:List Int
 worst:List Int
 slots:List (List Int)
deriving DecidableEq
def Yx7:Clm:=⟨0,[],[],[],[]⟩
def YG(q:List Rqs):List Flw:=q.map Prod.fst
def Ymd:Rqs:=((0,0,0,0,0,0),[])
def rqAt(q:List Rqs)(i:Nat):Rqs:=q.getD i Ymd
def rtAt(l:List (List Int))(k:Nat):List Int:=l.getD k []
def rtsE(n:Net)(x:Rqs):Int:=
 if x.2.length=0 then 14 else if 2<x.2.length then 8
 else if(Yz (λk=>Xw n x.1.2.1 x.1.2.2.1 (rtAt x.2 k)) x.2.length 0).2≠0 then(Yz (λk=>Xw n x.1.2.1 x.1.2.2.1 (rtAt x.2 k)) x.2.length 0).2
 else if x.2.length=2/\rtAt x.2 0=rtAt x.2 1 then 6 else 0
def rqsE(n:Net)(q:List Rqs):Int×Int:=
 if Yo n≠0 then(-1,1)else if(Yt n.nodes (YG q)).2≠0 then Yt n.nodes (YG q)
 else Yz (λi=>rtsE n (rqAt q i)) q.length 0
def badR(n:Net)(s:Sch)(f:Flw)(r:List Int):Bool:=decide ((YY n s f r).2≠0\/f.2.2.2.2.2<(YY n s f r).1.1)
def Ycf(n:Net)(s:Sch)(x:Rqs)(l:List (List Int)):Clm:=
 ⟨x.1.1,l,l.map λr=>(YY n s x.1 r).1.1,l.map λr=>(YY n s x.1 r).1.2.1,l.map λr=>(YY n s x.1 r).1.2.2⟩
def ZE(n:Net)(s:Sch)(x:Rqs):Bool:=x.2.any (badR n s x.1)
def clmE(n:Net)(s:Sch)(x:Rqs):Clm:=Ycf n s x x.2
def YD(n:Net)(q:List Rqs)(s:Sch):List Clm×(Int×Int):=
 if(rqsE n q).2≠0 then([],rqsE n q)else if(schE n (YG q) s).2≠0 then([],(-1,1))
 else if(Yz (λi=>if ZE n s (rqAt q i)=true then 15 else 0) q.length 0).2≠0 then([],Yz (λi=>if ZE n s (rqAt q i)=true then 15 else 0) q.length 0)
 else(q.map (clmE n s),(-1,0))
def Ow(c:List Clm)(i:Nat):Clm:=c.getD i Yx7
def chkE(n:Net)(q:List Rqs)(s:Sch)(c:List Clm):Int×Int:=
 if(YD n q s).2.2≠0 then(YD n q s).2 else if c.length≠(YD n q s).1.length then(-1,11)
 else Yz (λi=>if Ow c i=Ow (YD n q s).1 i then 0 else 20) c.length 0
def minI:List Int->Int
 |[]=>0
 |a::l=>l.foldl (λx y=>if y<x then y else x) a
def maxI:List Int->Int
 |[]=>0
 |a::l=>l.foldl (λx y=>if x<y then y else x) a
def bndE(c:List Clm)(id:Int):Int×Bool:=
 match c.find? (λx=>decide (x.flow=id)&&decide (0<x.bounds.length))with
 |none=>(0,false)
 |some x=>(minI x.bounds,true)
def admB(c:List Clm)(f:Flw):Bool:=
 match c.find? (λx=>decide (x.flow=f.1))with
 |none=>false
 |some x=>decide (0<x.bounds.length)&&decide (maxI x.bounds<=f.2.2.2.2.2)
def Ykh(n:Net)(s:Sch)(f:Flw)(l:List (List Int)):Int×Int:=
 if l.length=0 then(0,14)else
 if(Yz (λk=>wayE n s f (rtAt l k)) l.length 0).2≠0 then(0,(Yz (λk=>wayE n s f (rtAt l k)) l.length 0).2)
 else if(l.foldl (λa r=>match ZS n s f r with|none=>a|some b=>if a=0\/b.1<a then b.1 else a) (0:Int))=0 then(0,15)
 else(l.foldl (λa r=>match ZS n s f r with|none=>a|some b=>if a=0\/b.1<a then b.1 else a) (0:Int),0)
structure WayM where
 n:NetM
 s:SchM
 f:Flw
 A:Option Addr
 cap:Nat
 r:List Int
def WayM.val(x:WayM):Value:=.agg #[.int .i64 x.n.nodes,.slice x.n.pA x.n.rows.length x.n.pcap,.int .i64 x.n.noise,.int .i64 x.n.thr,.slice x.n.lA x.n.links.length x.n.lcap,.slice x.n.mA x.n.margin.length x.n.mcap,.int .i64 x.s.len,.int .i64 x.s.off,.slice x.s.A x.s.cells.length x.s.cap,.int .i64 x.f.1,.int .i64 x.f.2.1,.int .i64 x.f.2.2.1,.int .i64 x.f.2.2.2.1,.int .i64 x.f.2.2.2.2.1,.int .i64 x.f.2.2.2.2.2,.slice x.A x.r.length x.cap,.int .i64 0]
abbrev wayB(g:Nat)(x:WayM):HP:=blk g (.cells #[.int .i64 x.n.nodes,.slice x.n.pA x.n.rows.length x.n.pcap,.int .i64 x.n.noise,.int .i64 x.n.thr,.slice x.n.lA x.n.links.length x.n.lcap,.slice x.n.mA x.n.margin.length x.n.mcap,.int .i64 x.s.len,.int .i64 x.s.off,.slice x.s.A x.s.cells.length x.s.cap,.int .i64 x.f.1,.int .i64 x.f.2.1,.int .i64 x.f.2.2.1,.int .i64 x.f.2.2.2.1,.int .i64 x.f.2.2.2.2.1,.int .i64 x.f.2.2.2.2.2,.slice x.A x.r.length x.cap,.int .i64 0] 249 (0,0))
structure WayM.In(B:Nat)(w0:World)(H:List HP)(x:WayM):Prop where
 n:x.n.In B w0 H
 s:Rd B w0 H x.s.A (x.s.cells.flatMap celF)
 r:Rd B w0 H x.A (x.r.flatMap numF)
 sl:x.s.cells.length<=1000000000000
 rl:x.r.length<=1000000000000
 rc:x.r.length<=x.cap
variable {B:Nat}{w0:World}{H:List HP}{x:WayM}
theorem WayM.In.cons{X:HP}(h:x.In B w0 H):x.In B w0 (X::H):=⟨h.n.cons,h.s.cons,h.r.cons,h.sl,h.rl,h.rc⟩
theorem WayM.In.mono{H':List HP}(h:x.In B w0 H)(hH:∀w,St B w0 H' w->St B w0 H w):x.In B w0 H':=⟨h.n.mono hH,h.s.mono hH,h.r.mono hH,h.sl,h.rl,h.rc⟩
theorem Ym0{nodes:Int}{f:Flw}(h:2<=nodes/\nodes<=32):((Yt nodes [f]).2=0↔Xl nodes f=0):=by
 unfold Yt
 have e:YV nodes [f] 0=Xl nodes f:=by
  show(if Xl nodes f≠0 then Xl nodes f else if 0<0/\_ then 5 else 0)=_
  omega
 unfold Yz Yz
 grind
theorem Yi9(x:WayM){w:World}(ht:TabsB B w0)(hi:x.In B w0 H)(hw:St B w0 H w):
 CX B w0 289 [x.val] w λv K=>v=.int .i64 (wayE x.n.net x.s.sch x.f x.r)/\K=H:=by
 refine Ya Tryz.func289 Tryz.ntmps289 rfl rfl hw ?_
 have p1:=λ{H':List HP}{w:World}(hin:x.n.In B w0 H') (hw:St B w0 H' w)=>Xa x.n hin hw
 have p2:=λ{H':List HP}{w:World}(hr:Rd B w0 H' x.s.A (x.s.cells.flatMap celF)) (hw:St B w0 H' w)=>OY x.s ht hr hi.sl hw
 have p3:=λ{g cap:Nat}{H':List HP}{w:World}(hm:blk g (.cells #[.int .i64 x.f.1,.int .i64 x.f.2.1,.int .i64 x.f.2.2.1,.int .i64 x.f.2.2.2.1,.int .i64 x.f.2.2.2.2.1,.int .i64 x.f.2.2.2.2.2] 45 (0,0))∈H') (hw:St B w0 H' w)=>Y3 x.n.nodes [x.f] (TV rfl) (A:=some ⟨g,0,none⟩) (cap:=cap) (show Rd B w0 H' _ ([x.f].flatMap flwF) from Rd.blk hm) hw
 have p4:=λ{H':List HP}{w:World}(hin:x.n.In B w0 H') (hr:Rd B w0 H' x.A (x.r.flatMap numF)) (hw:St B w0 H' w)=>YbQ x.n x.f.2.1 x.f.2.2.1 x.r (cap:=x.cap) hin hr (TX hi.rl (by decide)) hi.rc hw
 have hn:=hi.n
 have hs:=hi.s
 have hr:=hi.r
 have hfo:=@Ym0 x.n.net.nodes x.f
 have hok:=λh:Yo x.n.net=0=>(YP h).n0
 have hok1:=λh:Yo x.n.net=0=>(YP h).n1
 have hpe:(ZG x.s.sch).2=0↔Xh x.s.sch=true:=by
  unfold ZG
  cases hf:Xh x.s.sch with
  |true=>rw[Tf (by decide)];simp
  |false=>rw[To rfl];simp
 unfold wayE
 rw[show x.n.net.nodes=x.n.nodes from rfl]at*
 rw[show x.s.sch.len=x.s.len from rfl]at*
 obtain⟨c,hc⟩:∃c,Yo x.n.net=c:=⟨_,rfl⟩
 obtain⟨⟨t,e⟩,he⟩:∃e,ZG x.s.sch=e:=⟨_,rfl⟩
 obtain⟨⟨i,a⟩,ha⟩:∃a,Yt x.n.nodes [x.f]=a:=⟨_,rfl⟩
 obtain⟨k,hk⟩:∃k,Xw x.n.net x.f.2.1 x.f.2.2.1 x.r=k:=⟨_,rfl⟩
 rw[hc]at p1 hok hok1⊢
 rw[he]at p2 hpe
 rw[ha]at p3 hfo
 rw[hk]at p4⊢
 dsimp only at p2 p3 hpe hfo
 unfold WayM.val
 by_cases h1:c=0
 rotate_left
 ·rw[To (.inl h1)]
  repeat'(first|((apply Yb XQ);exact za;exact rfl;exactλ_ hw=>(p1 hn.cons hw))|refine Yi T ?_|refine zgb ?_|(refine zge ?_ ?_<;>intro _<;>try exact zo)|(refine zgh ?_;intro _)|fail)
  apply Yf H
  ·exact zc0
  exact zc3
 subst h1
 have hfo:=hfo ⟨hok rfl,hok1 rfl⟩
 by_cases h2:e=0
 rotate_left
 ·rw[To (.inr (.inl (by cases hf:Xh x.s.sch with|false=>rfl|true=>exact absurd (hpe.2 hf) h2)))]
  repeat'(first|((apply Yb XQ);exact za;exact rfl;exactλ_ hw=>(p1 hn.cons hw))|((apply Yb en82);exact za;exact rfl;exactλ_ hw=>(p2 hs.cons hw))|refine Yi T ?_|refine zgc ?_|(refine zge ?_ ?_<;>intro _<;>try exact zo)|(refine zgh ?_;intro _)|fail)
  apply Yf H
  ·exact zc0
  exact zc3
 subst h2
 have hfe:=hpe.1 rfl
 by_cases h3:a=0
 rotate_left
 ·rw[To (.inr (.inr (λh=>h3 (hfo.2 h))))]
  repeat'(first|((apply Yb XQ);exact za;exact rfl;exactλ_ hw=>(p1 hn.cons hw))|((apply Yb en82);exact za;exact rfl;exactλ_ hw=>(p2 hs.cons hw))|((apply Yb en39);exact za;exact rfl;exactλ_ hw=>(p3 zm hw))|refine Yi T ?_|refine zgc ?_|(refine zge ?_ ?_<;>intro _<;>try exact zo)|(refine zgh ?_;intro _)|fail)
  apply Yf H
  ·exact zc0
  exact zc3
 subst h3
 have hfz:=hfo.1 rfl
 rw[Tf (by rintro(h|h|h);exact h rfl;rw[hfe]at h;cases h;exact h hfz)]
 have hp1:1<=x.f.2.2.2.1:=by
  unfold Xl at hfz
  split at hfz
  ·cases hfz
  split at hfz
  ·cases hfz
  omega
 have hsz:1<=x.s.len/\x.s.len<=512:=by
  have:=TI (Xm.1 hfe).sized
  exact⟨this.1,this.2.1⟩
 rw[Rb (show 0<=x.s.len by omega)]
 by_cases h4:x.s.len%x.f.2.2.2.1=0
 rotate_left
 ·rw[To h4]
  repeat'(first|((apply Yb XQ);exact za;exact rfl;exactλ_ hw=>(p1 hn.cons hw))|((apply Yb en82);exact za;exact rfl;exactλ_ hw=>(p2 hs.cons hw))|((apply Yb en39);exact za;exact rfl;exactλ_ hw=>(p3 zm hw))|refine Yi T ?_|refine zgd ?_|(refine zge ?_ ?_<;>intro _<;>try exact zo)|(refine zgh ?_;intro _)|fail)
  apply Yf H
  ·exact zc0
  exact zc3
 rw[Tf (λh=>h h4)]
 repeat'(first|((apply Yb XQ);exact za;exact rfl;exactλ_ hw=>(p1 hn.cons hw))|((apply Yb en82);exact za;exact rfl;exactλ_ hw=>(p2 hs.cons hw))|((apply Yb en39);exact za;exact rfl;exactλ_ hw=>(p3 zm hw))|((apply Yb Yo2);exact za;exact rfl;exactλ_ hw=>(p4 hn.cons.cons hr.cons.cons hw))|refine Yi T ?_|refine zgd ?_|(refine zge ?_ ?_<;>intro _<;>try exact zo)|(refine zgh ?_;intro _)|fail)
 apply Yf H
 ·exact zc0
 exact zc3
variable {n:Net}{s:Sch}{f:Flw}{r:List Int}
theorem Yau(h:wayE n s f r=0):Yo n=0/\Xh s=true/\Xl n.nodes f=0/\s.len.tmod f.2.2.2.1=0/\Xw n f.2.1 f.2.2.1 r=0:=by
 unfold wayE at h
 grind
theorem WY(h:(YY n s f r).2=0):wayE n s f r=0/\∃b,ZS n s f r=some b/\YY n s f r=(b,0):=by
 unfold YY at h⊢
 grind
variable {q:List Rqs}{i:Nat}
theorem Vk(h:i<q.length):q[i]? =some (rqAt q i):=by
 grind [rqAt]
theorem QO(h:i<q.length):rqAt q i∈q:=Tc (Vk h)
variable {x:Rqs}
theorem Ydb(h:x∈q):∃i,i<q.length/\rqAt q i=x:=by
 obtain⟨i,hi⟩:=TL.1 h
 have hl:=(Tj.1 hi).1
 exact⟨i,hl,Tz ((Vk hl).symm.trans hi)⟩
variable {l:List (List Int)}
theorem Yff(h:i<l.length):l[i]? =some (rtAt l i):=by
 grind [rtAt]
theorem YiN(h:i<l.length):rtAt l i∈l:=Tc (Yff h)
def Yba(n:Net)(s:Sch)(x:Rqs):Bool:=decide (x.2.length=1\/x.2.length=2/\rtAt x.2 0≠rtAt x.2 1)&&!(ZE n s x)
theorem YbD(h:ZE n s x=false)(hr:r∈x.2):(YY n s x.1 r).2=0/\(YY n s x.1 r).1.1<=x.1.2.2.2.2.2:=by
 simp_all [ZE,badR]
theorem YvF(h:Yba n s x=true):rtsE n x=0:=by
 unfold Yba at h
 rw[Tq,Tm]at h
 have hl:=h.2
 simp only[RO]at hl
 have hc:(Yz (λk=>Xw n x.1.2.1 x.1.2.2.1 (rtAt x.2 k)) x.2.length 0).2=0:=YF.2 λk _ hk=>
  (Yau (WY (YbD hl (YiN (l:=x.2) (i:=k) (by omega))).1).1).2.2.2.2
 unfold rtsE
 grind
theorem YbJ(h:rtsE n x=0):x.2.length=1\/x.2.length=2/\rtAt x.2 0≠rtAt x.2 1:=by
 unfold rtsE at h
 grind
theorem ZD:(YD n q s).2.2=0↔(schE n (YG q) s).2=0/\∀x∈q,Yba n s x=true:=by
 constructor
 ·intro h
  unfold YD at h
  by_cases h1:(rqsE n q).2=0
  rotate_left
  ·simp_all
  by_cases h2:(schE n (YG q) s).2=0
  rotate_left
  ·simp_all
  by_cases h3:(Yz (λi=>if ZE n s (rqAt q i)=true then 15 else 0) q.length 0).2=0
  rotate_left
  ·simp_all
  refine⟨h2,λx hx=>?_⟩
  obtain⟨i,hi,rfl⟩:=Ydb hx
  have h4:=YF.1 h3 i (Td _) (by omega)
  have h5:rtsE n (rqAt q i)=0:=by
   have hw:=J1 (Z5.1 h2).whole
   simp_all [rqsE,YF]
  grind [Yba,YbJ]
 ·rintro⟨h2,h3⟩
  have hw:=J1 (Z5.1 h2).whole
  have h1:(rqsE n q).2=0:=by
   unfold rqsE
   grind [YF,YvF,QO]
  have h4:(Yz (λi=>if ZE n s (rqAt q i)=true then 15 else 0) q.length 0).2=0:=YF.2 λi _ hi=>by
   have:=h3 _ (QO (q:=q) (i:=i) (by omega))
   simp_all [Yba]
  simp_all [YD]
theorem YbA(h:(YD n q s).2.2=0):YD n q s=(q.map (clmE n s),(-1,0)):=by
 unfold YD at h⊢
 grind
structure JR(x:WayM):Prop where
 ck:Yo x.n.net=0
 len:2<=x.r.length/\x.r.length<=9
 good:∀i,i+1<x.r.length->YZ x.n.net (x.r.getD i 0) (x.r.getD (i+1) 0)=true
 per:1<=x.f.2.2.2.1/\x.f.2.2.2.1<=512
 ph:0<=x.f.2.2.2.2.1/\x.f.2.2.2.2.1<x.f.2.2.2.1
 slen:1<=x.s.len/\x.s.len<=512
 few:x.s.cells.length<=512
variable {n:Net}{r:List Int}
theorem JC{s t:Int}(h:Xw n s t r=0):Yo n=0/\(2<=r.length/\r.length<=9)/\∀i,i+1<r.length->YZ n (r.getD i 0) (r.getD (i+1) 0)=true:=by
 unfold Xw at h
 by_cases h0:Zq n s t=0
 rotate_left
 ·omega
 rw[Tf (λe=>e h0)]at h
 have hck:Yo n=0:=by
  unfold Zq at h0
  omega
 obtain⟨h1,_,_,_,h2⟩:=Qn h
 grind [JM]
theorem YbO{x:WayM}(h:wayE x.n.net x.s.sch x.f x.r=0):JR x:=by
 obtain⟨_,h2,h3,_,h5⟩:=Yau h
 obtain⟨k1,k2,k3⟩:=JC h5
 have hfr:=Xm.1 h2
 have hsz:=TI hfr.sized
 unfold Xl at h3
 split at h3
 ·cases h3
 split at h3
 ·cases h3
 exact⟨k1,k2,k3,by omega,by omega,⟨hsz.1,hsz.2.1⟩,hfr.few⟩
def JD(x:WayM):List (List Value):=(Yr x.n.net x.r).map λl=>[lkV l]
theorem UZ{i:Nat}(h:i+1<r.length):(Yr n r)[i]? =some (XN n r i):=by
 grind [Yr]
theorem JF{n:Net}{r:List Int}:(Yr n r).length=r.length-1:=by grind [Yr]
variable {B:Nat}{w0:World}
theorem YaV(x:WayM)(g:Nat)(hok:JR x){HI:List HP}(hi:x.In B w0 HI)(hm:wayB g x∈HI):
 YbR Tryz.prog 355 [.pointer (some ⟨g,0,none⟩)] (JD x) B w0 HI:=by
 refine YbS Tryz.func355 Tryz.ntmps355 rfl rfl ?_
 intro l SS X hy L0 h0
 have hck:=hok.ck
 have hlen:=hok.len
 have p1:=λ{H':List HP}{w:World}(a b:Int) (hin:x.n.In B w0 H') (hw:St B w0 H' w)=>Zl x.n a b hin hw
 have hix:∀a b:Int,Zb x.n.net a b=Yv x.n.net a b:=λa b=>by simp_all [Zb]
 unfold wayB at hm
 refine zX9 ?_
 refine Ye (λ(y:Nat×List HP)=>[(3,.int .i64 (y.1+1:Nat)),(0,.func (.yield l) #[] #[]),(1,.pointer (some ⟨g,0,none⟩))]) (λy=>many y.2::HI) (λy=>y.1+1<=x.r.length/\SS y.1 y.2) (λy=>x.r.length-1-y.1) (0,L0) ⟨by omega,h0⟩ ?_ (λw hw=>hw) ?_
 ·exact zc1
 rintro⟨i,L⟩ ⟨hile,hS⟩ K hK
 dsimp only at hile hS⊢
 by_cases hlt:i+1<x.r.length
 ·have hg:=hok.good i hlt
  have hf:=Vi hg
  have hfl:=XP hf
  have hlx:x.n.links[(Yv x.n.net (x.r.getD i 0) (x.r.getD (i+1) 0)).toNat]? =some (lnk x.n.net (Yv x.n.net (x.r.getD i 0) (x.r.getD (i+1) 0)).toNat):=WQ x.n.net hfl
  have hla:XN x.n.net x.r i=lnk x.n.net (Yv x.n.net (x.r.getD i 0) (x.r.getD (i+1) 0)).toNat:=rfl
  have hg0:=Xq (l:=x.r) (i:=i) (by omega)
  have hg1:=Xq (l:=x.r) (i:=i+1) (by omega)
  have hgi:((((i+1:Nat):Int)-1).toNat)=i:=by omega
  have hgi1:(((i+1:Nat):Int).toNat)=i+1:=by omega
  have hll:(Yv x.n.net (x.r.getD i 0) (x.r.getD (i+1) 0)).toNat<x.n.links.length:=hfl
  have p2:=λ{H':List HP}{w:World}(hin:x.n.In B w0 H') (hw:St B w0 H' w)=>p1 (x.r.getD i 0) (x.r.getD (i+1) 0) hin hw
  rw[hix]at p2
  have hx:(JD x)[i]? =some [lkV (XN x.n.net x.r i)]:=by
   unfold JD;rw[TU,UZ hlt];rfl
  rw[hla]at hx
  obtain⟨a,ha⟩:∃a,x.r.getD i 0=a:=⟨_,rfl⟩
  obtain⟨b,hb⟩:∃b,x.r.getD (i+1) 0=b:=⟨_,rfl⟩
  rw[ha]at hg0 p2 hlx hll hf hx
  rw[hb]at hg1 p2 hlx hll hf hx
  obtain⟨z,hz⟩:∃z,Yv x.n.net a b=z:=⟨_,rfl⟩
  rw[hz]at p2 hlx hll hf hx
  obtain⟨lk,hlk⟩:∃k,lnk x.n.net z.toNat=k:=⟨_,rfl⟩
  rw[hlk]at hlx hx
  obtain⟨R,hR1,hR2⟩:=YnE hm
  have hg0i:x.r[(((i+1:Nat):Int)-1).toNat]? =some a:=by rw[hgi];exact hg0
  have hg1i:x.r[((i+1:Nat):Int).toNat]? =some b:=by rw[hgi1];exact hg1
  have hwb:∀w,St B w0 (many L::(blk g (.cells #[.int .i64 x.n.nodes,.slice x.n.pA x.n.rows.length x.n.pcap,.int .i64 x.n.noise,.int .i64 x.n.thr,.slice x.n.lA x.n.links.length x.n.lcap,.slice x.n.mA x.n.margin.length x.n.mcap,.int .i64 x.s.len,.int .i64 x.s.off,.slice x.s.A x.s.cells.length x.s.cap,.int .i64 x.f.1,.int .i64 x.f.2.1,.int .i64 x.f.2.2.1,.int .i64 x.f.2.2.2.1,.int .i64 x.f.2.2.2.2.1,.int .i64 x.f.2.2.2.2.2,.slice x.A x.r.length x.cap,.int .i64 0] 249 (0,0)))::[many R]) w->St B w0 (many L::HI) w:=λw hw=>hw.perm (Perm.cons _ hR2)
  have hl0:0<=lk.2.2/\lk.2.2<=7:=by
   have h1:=(YP hck).lk z.toNat hll
   rw[<-hlk];exact⟨h1.l0,h1.l1⟩
  have hiK:x.In B w0 [wayB g x,many R]:=hi.mono λw hw=>hw.perm hR2
  have hrr:=hiK.r
  have hlr:=hiK.n.lk
  unfold wayB at hiK hrr hlr
  refine YX (blk g (.cells #[.int .i64 x.n.nodes,.slice x.n.pA x.n.rows.length x.n.pcap,.int .i64 x.n.noise,.int .i64 x.n.thr,.slice x.n.lA x.n.links.length x.n.lcap,.slice x.n.mA x.n.margin.length x.n.mcap,.int .i64 x.s.len,.int .i64 x.s.off,.slice x.s.A x.s.cells.length x.s.cap,.int .i64 x.f.1,.int .i64 x.f.2.1,.int .i64 x.f.2.2.1,.int .i64 x.f.2.2.2.1,.int .i64 x.f.2.2.2.2.1,.int .i64 x.f.2.2.2.2.2,.slice x.A x.r.length x.cap,.int .i64 0] 249 (0,0))::many L::[many R]) (λw hw=>hw.perm ((Perm.cons _ hR1).trans (Perm.swap _ _ _))) ?_
  refine zX0 ?_<;>intros
  apply J7 (.n1 0 (.n1 1 (.n1 2 (.n1 3 (.n1 4 (.n1 5 (.n1 6 (.n1 7 (.n1 8 (.n1 9 (.n1 10 (.n1 11 (.n1 12 (.n1 13 (.n1 14 (.n1 15 (.n2 16 (.n1 17 (.n1 18 (.n1 19 .done))) 19 (.n1 16 (.n1 17 (.n1 18 .done)))))))))))))))))))) [20] [true,false,true]
  kernel_rfl
  kernel_rfl
  exact zy
  (simp only[Yd,nthO];rfl)
  repeat'(first|refine Yi T ?_|(apply Yh;try exact zl)|apply(zs91 ?_ ?_)|(apply Xo;try exact zl)|refine zgd ?_|(refine zgh ?_;intro _)|fail)
  all_goals(
   apply Yb Jy
   exact za
   exact rfl
   exactλ_ hw=>(p2 (hiK.mono zk).n hw)
   repeat'(first|(refine YgK 2 37 rfl rfl rfl (by rintro⟨_,_,_,_,h,_⟩;cases h) ?_)|(apply Yh;try exact zl)|(apply Xo;try exact zl)|refine zgd ?_|(refine zgh ?_;intro _)|fail)
   rename_i g5
   rw[show lk.2.2+0=lk.2.2 from NA _]
   apply Yf (blk g5 (.cells #[.int .i64 lk.1,.int .i64 lk.2.1,.int .i64 lk.2.2] 164 (0,0))::many L::HI)
   ·intro w hw
    have h5:St B w0 (blk g5 (.cells #[.int .i64 lk.1,.int .i64 lk.2.1,.int .i64 lk.2.2] 164 (0,0))::many L::blk g (.cells #[.int .i64 x.n.nodes,.slice x.n.pA x.n.rows.length x.n.pcap,.int .i64 x.n.noise,.int .i64 x.n.thr,.slice x.n.lA x.n.links.length x.n.lcap,.slice x.n.mA x.n.margin.length x.n.mcap,.int .i64 x.s.len,.int .i64 x.s.off,.slice x.s.A x.s.cells.length x.s.cap,.int .i64 x.f.1,.int .i64 x.f.2.1,.int .i64 x.f.2.2.1,.int .i64 x.f.2.2.2.1,.int .i64 x.f.2.2.2.2.1,.int .i64 x.f.2.2.2.2.2,.slice x.A x.r.length x.cap,.int .i64 0] 249 (0,0))::[many R]) w:=by
     revert w
     exact zk
    exact h5.perm (Perm.cons _ (Perm.cons _ hR2))
   have hY:=hy _ _ hx [blk g5 (.cells #[.int .i64 lk.1,.int .i64 lk.2.1,.int .i64 lk.2.2] 164 (0,0))] L hS
   apply Yb2 _ _ (hy:=hY)
   ·exact Ybb
   ·exact rfl
   ·exact za
   ·exact rfl
   ·rintro⟨_,_,_,_,h,_⟩;cases h
   ·rintro _ ⟨L',hS',rfl⟩
    repeat'(first|refine zgd ?_|fail)
    apply hK (i+1,L')
    ·exact⟨by show i+1+1<=_;omega,hS'⟩
    ·dsimp only;omega
    ·exact zu
    ·exactλw hw=>hw.tail
   ·rintro _ ⟨L',hX',rfl⟩
    repeat'(first|refine zgd ?_|fail)
    apply Yf (many L'::HI)
    ·exactλw hw=>hw.tail
    apply W6;exact rfl
    exact .inr ⟨L',hX',rfl⟩)
 ·refine zX1 ?_<;>intros
  apply J8;exact rfl
  have hl0:i=(JD x).length:=by unfold JD;rw[Tu,JF];omega
  rw[hl0]at hS
  exact .inl ⟨L,hS,rfl⟩
def Ysx(g:Nat):Value:=.func (.func 355) #[] #[.pointer (some ⟨g,0,none⟩)]
theorem Yc6(x:WayM){H:List HP}{w:World}(hw:St B w0 H w):
 CX B w0 292 [x.val] w λv K=>∃g,v=Ysx g/\K=wayB g x::H:=by
 refine Ya Tryz.func292 Tryz.ntmps292 rfl rfl hw ?_
 repeat'(first|((refine zs52 ?_;intro _))|((apply Yu;exact za;exact rfl))|refine zga ?_|fail)
 apply Yc;exact rfl;exact rfl
 exact⟨_,rfl,rfl⟩
variable {B i:Nat}{w0 w:World}{H:List HP}
theorem Yhj(x:WayM)(l:Lk)(g gl:Nat)(c:Cel)(hm:wayB g x∈H)(hml:blk gl (.cells #[.int .i64 l.1,.int .i64 l.2.1,.int .i64 l.2.2] 164 (0,0))∈H)(hw:St B w0 H w):
 CX B w0 356 [celV c,.pointer (some ⟨g,0,none⟩),.pointer (some ⟨gl,0,none⟩)] w λv K=>v=.bool (!(onP x.f.1 l.1 l.2.1 c))/\K=H:=by
 refine Ya Tryz.func356 Tryz.ntmps356 rfl rfl hw ?_
 unfold wayB at hm
 have hb:onP x.f.1 l.1 l.2.1 c=true↔c.2.2.2.2=x.f.1/\c.2.2.1=l.1/\c.2.2.2.1=l.2.1:=by unfold onP Y6 YM toC;simp_all
 obtain⟨b,hbe⟩:∃b,onP x.f.1 l.1 l.2.1 c=b:=⟨_,rfl⟩
 rw[hbe]at hb⊢
 repeat'(first|refine zgc ?_|(refine zge ?_ ?_<;>intro _<;>try exact zo)|(refine zgh ?_;intro _)|fail)
 all_goals(
  apply Yf H
  ·exact zk
  apply Yc;exact rfl;exact rfl
  cases b<;>simp at hb<;>first|exact⟨rfl,rfl⟩|(exfalso;omega))
theorem YjI(x:WayM)(l:Lk)(hfew:x.s.cells.length<=1000)(hr:Rd B w0 H x.s.A (x.s.cells.flatMap celF))(hw:St B w0 H w):
 CX B w0 293 [x.val,lkV l] w λv K=>∃A cap,v=.slice A (X6 x.s.sch x.f.1 l).length cap/\K=cels A cap (X6 x.s.sch x.f.1 l)::H:=by
 refine Ya Tryz.func293 Tryz.ntmps293 rfl rfl hw ?_
 unfold WayM.val lkV
 repeat'(first|refine zgb ?_|(refine zgh ?_;intro _)|fail)
 rename_i gw gl
 apply Yg _ Yhu
 exact za
 exact rfl
 exactλ_ hw=>(JS x.s.cells (by omega) hr.cons.cons (hw))
 rintro _ _ ⟨A',cap',rfl,rfl⟩
 repeat'(first|(apply zg29;(apply Yu;exact za;exact rfl))|fail)
 apply Yg _ YoW
 exact za
 exact rfl
 exactλ_ hw=>(WD (λc=>!(onP x.f.1 l.1 l.2.1 c)) x.s.cells 356 [.pointer (some ⟨gw,0,none⟩),.pointer (some ⟨gl,0,none⟩)] Yxv hfew (λc _ X w hw=>Yhj x l gw gl c (RX _ (by unfold wayB;exact zm)) (RX _ zm) hw) (hw))
 rintro _ _ ⟨rfl,rfl⟩
 have e:x.s.cells.filter (λc=>!!(onP x.f.1 l.1 l.2.1 c))=X6 x.s.sch x.f.1 l:=SV λc _=>Bool.not_not _
 rw[e]
 repeat'(first|refine zga ?_|fail)
 apply Yf (cels A' cap' (X6 x.s.sch x.f.1 l)::H)
 ·exact zk
 apply Yc;exact rfl;exact rfl
 exact⟨A',cap',rfl,rfl⟩
variable {x:WayM}{l:Lk}
theorem WN(hok:JR x)(h:(Yr x.n.net x.r)[i]? =some l):i+1<x.r.length/\0<=l.2.2/\l.2.2<=7:=by
 have hi:=(Tj.1 h).1
 rw[JF]at hi
 have hi:i+1<x.r.length:=by omega
 rw[UZ hi]at h
 have hg:=hok.good i hi
 have h1:=(YP hok.ck).lk _ (XP (Vi hg))
 have e:=Tz h
 unfold XN at e
 have h2:=h1.l0;have h3:=h1.l1
 simp_all
theorem Ye3{ls:List Lk}(h:ls[i]? =some l):XF (ls.take (i+1))=XF (ls.take i)+Y1 l:=by
 grind [XF,TD]
theorem UY{args:List Value}(h:(JD x)[i]? =some args):∃l,(Yr x.n.net x.r)[i]? =some l/\args=[lkV l]:=by
 unfold JD at h
 grind
theorem QC{x:WayM}(hok:JR x):∀i,XF ((Yr x.n.net x.r).take i)<=8*i
 |0=>TS _
 |i+1=>by
  have ih:=QC hok i
  cases h:(Yr x.n.net x.r)[i]? with
  |none=>
   grind [TE]
  |some l=>
   rw[Ye3 h]
   have:=WN hok h
   grind [Y1]
theorem Yiq(x:WayM)(hok:JR x)(hi:x.In B w0 H)(hw:St B w0 H w):
 CX B w0 402 [x.val] w λv K=>v=.int .i64 (XF (Yr x.n.net x.r))/\K=H:=by
 refine ZK Tryz.func402 Tryz.ntmps402 rfl rfl hw ?_
 unfold WayM.val
 refine zX26 ?_<;>intros
 rename_i g gN
 apply Yg _ Yth
 exact za
 exact rfl
 exactλ_ hw=>(Yc6 x (hw))
 rintro _ _ ⟨g2,rfl,rfl⟩
 refine zX9 ?_
 have hl9:=hok.len
 have hiK:x.In B w0 (wayB g2 x::wayB g x::H):=hi.cons.cons
 refine ZL (gf:=355) (lb:=[.pointer (some ⟨g2,0,none⟩)]) (xs:=JD x) (wayB g2 x::wayB g x::H) (λz:Int=>[blk gN (.cells #[.int .i64 z] 3 (0,0))]) (λi z=>z=(XF ((Yr x.n.net x.r).take i):Int)) (λ_ _=>False) 0 rfl Ytn (YaV x g2 hok hiK (.head _)) rfl ?_ (by kernel_rfl) (by kernel_rfl) ?_ rfl ?_ ?_ (λ_ _ _ h=>h.elim)
 ·grind [TL,UY]
 ·unfold wayB
  simp only[TJ,TF]
  exact zc0
 ·rintro l k args R z hk hI
  obtain⟨lk,hlk,rfl⟩:=UY hk
  have hbd:=WN hok hlk
  have hne:=QC hok k
  have hst:=Ye3 hlk
  try dsimp only at hI
  dsimp only[U5,List.cons_append,List.nil_append]
  unfold lkV
  repeat'(first|refine zgc ?_|(refine zgh ?_;intro _)|fail)
  apply Vh (YR YB)
  intro R'
  unfold wayB
  refine zX3 ?_
  apply UJ (z+(lk.2.2+1))
  ·show z+(lk.2.2+1)=_
   rw[hI,hst]
   unfold Y1
   omega
  ·dsimp only[List.cons_append,List.nil_append]
   exact zc0
 ·rintro D z hI
  try dsimp only at hI
  have hle:(JD x).length=(Yr x.n.net x.r).length:=by unfold JD;rw[Tu]
  rw[hle,TC]at hI
  dsimp only[List.cons_append,List.nil_append]
  unfold wayB
  refine zX11 ?_
  apply Z2 YB
  apply VQ_m
  apply Yf H
  ·exact zc0
  apply Yc;exact rfl;exact rfl
  exact⟨by rw[hI],rfl⟩
open Go.RowKit Go.Eng Go.Nw
def netN(g:Nat)(n:NetM):HP:=blk g (.cells #[.int .i64 n.nodes,.slice n.pA n.rows.length n.pcap,.int .i64 n.noise,.int .i64 n.thr,.slice n.lA n.links.length n.lcap,.slice n.mA n.margin.length n.mcap] 26 (0,0))
theorem Ybi(n:NetM)(l:List Flw)(s:SchM)(hck:Yo n.net=0)(hlen:l.length<=1000)(hl:s.cells.length<=1000000000000){A:Option Addr}{cap B:Nat}{w0:World}{H:List HP}{w:World}(hin:n.In B w0 H)(hrf:Rd B w0 H A (l.flatMap flwF))(hr:Rd B w0 H s.A (s.cells.flatMap celF))(hw:St B w0 H w):
 CX B w0 262 [n.val,.slice A l.length cap,s.val] w λv K=>v=.tuple #[.int .i64 (XZ n.net l s.sch).1,.int .i64 (XZ n.net l s.sch).2]/\K=H:=by
 refine Ya Tryz.func262 Tryz.ntmps262 rfl rfl hw ?_
 have e4:s.sch.cells.length=s.cells.length:=rfl
 have hE:XZ n.net l s.sch=Yz (Zy n.net l s.sch) s.cells.length 0:=rfl
 rw[hE]
 refine zX72 ?_<;>intros
 rename_i gn gs
 refine Ye (λ(i:Nat)=>[(13,.int .i64 i),(12,.int .i64 s.cells.length),(11,.slice s.A s.cells.length s.cap),(3,.pointer (some ⟨gn,0,none⟩)),(5,.pointer (some ⟨gs,0,none⟩)),(1,.slice A l.length cap)])
  (λ_=>blk gs (.cells #[.int .i64 s.len,.int .i64 s.off,.slice s.A s.cells.length s.cap] 33 (0,0))::netN gn n::H) (λi=>i<=s.cells.length/\∀k,k<i->Zy n.net l s.sch k=0) (λi=>s.cells.length-i) 0 ⟨Td _,λk hk=>absurd hk (Re _)⟩ ?_ (λw hw=>hw) ?_
 ·exact zc1
 rintro i ⟨hi,hall⟩ K hK
 unfold netN
 have hrc:=λ(X:HP)=>((hr.cons (X:=netN gn n)).cons (X:=blk gs (.cells #[.int .i64 s.len,.int .i64 s.off,.slice s.A s.cells.length s.cap] 33 (0,0)))).cons (X:=X)
 by_cases hlt:i<s.cells.length
 ·have hget:s.cells[i]? =some (Yl s.sch i):=YS (s:=s.sch) hlt
  have hbad:Zy n.net l s.sch i≠0->Yz (Zy n.net l s.sch) s.cells.length 0=((i:Int),Zy n.net l s.sch i):=λh=>Xe (λk _ hk=>hall k hk) (Td _) (by omega) h
  have hstep:Zy n.net l s.sch i=0->∀k,k<i+1->Zy n.net l s.sch k=0:=λh k hk=>by
   exact zc93
  obtain⟨c,hc⟩:∃c,Yl s.sch i=c:=⟨_,rfl⟩
  have hce:Zy n.net l s.sch i=if XB s.sch c=false then 2 else if YZ n.net (YM c) (toC c)=false\/Zr l (Y6 c)<0 then 7 else if 0<i/\Xp (Yl s.sch (i-1)) c=false then 5 else 0:=by
   unfold Zy
   rw[hc]
  rw[hc]at hget
  have hplc:=λ{H':List HP}{w:World}(hw:St B w0 H' w)=>YaY s c hw
  cases hp:XB s.sch c with
  |false=>
   rw[hp]at hplc
   rw[hp,To rfl]at hce
   rw[hbad (by rw[hce];decide),hce]
   repeat'(first|((apply Yb YeI);exact za;exact rfl;exactλ_ hw=>(hplc hw))|refine zgd ?_|(refine zge ?_ ?_<;>intro _<;>try exact zo)|(refine zgh ?_;intro _)|fail)
   apply Yf H
   ·exact zc0
   exact zc4
  |true=>
  rw[hp]at hplc
  rw[hp,Tf (by decide)]at hce
  have hix:=λ{H':List HP}{w:World}(hin:n.In B w0 H') (hw:St B w0 H' w)=>Zl n c.2.2.1 c.2.2.2.1 hin hw
  have hus:=λ{H':List HP}{w:World}(hin:n.In B w0 H') (hw:St B w0 H' w)=>VF n (Zb n.net c.2.2.1 c.2.2.2.1) hin hw
  rw[Yi8 hck]at hus
  have hfi:=λ{H':List HP}{w:World}(hr:Rd B w0 H' A (l.flatMap flwF)) (hw:St B w0 H' w)=>Yj2 l c.2.2.2.2 hlen (cap:=cap) hr hw
  have hgf:YZ n.net (YM c) (toC c)=YZ n.net c.2.2.1 c.2.2.2.1:=rfl
  have hff:Zr l (Y6 c)=Zr l c.2.2.2.2:=rfl
  by_cases hg:YZ n.net c.2.2.1 c.2.2.2.1=false\/Zr l c.2.2.2.2<0
  ·rw[hgf,hff,To hg]at hce
   rw[hbad (by rw[hce];decide),hce]
   cases hgd:YZ n.net c.2.2.1 c.2.2.2.1 with
   |false=>
    rw[hgd]at hus
    repeat'(first|((apply Yb YeI);exact za;exact rfl;exactλ_ hw=>(hplc hw))|((apply Ym Jy);exact za;exact rfl;exactλ_ hw=>(hix hin.cons.cons.cons hw))|((apply Ym Qm);exact za;exact rfl;exactλ_ hw=>(hus hin.cons.cons.cons hw))|(apply zg28;refine zs84 ?_)|refine zgd ?_|(refine zge ?_ ?_<;>intro _<;>try exact zo)|(refine zgh ?_;intro _)|fail)
    apply Yf H
    ·exact zc0
    exact zc4
   |true=>
    have hneg:Zr l c.2.2.2.2<0:=hg.elim (λh=>by rw[hgd]at h;cases h) id
    rw[hgd]at hus
    repeat'(first|((apply Yb YeI);exact za;exact rfl;exactλ_ hw=>(hplc hw))|((apply Ym Jy);exact za;exact rfl;exactλ_ hw=>(hix hin.cons.cons.cons hw))|((apply Ym Qm);exact za;exact rfl;exactλ_ hw=>(hus hin.cons.cons.cons hw))|((apply Ym Yo3);exact za;exact rfl;exactλ_ hw=>(hfi hrf.cons.cons.cons hw))|(apply zg28;refine zs84 ?_)|refine zgd ?_|(refine zge ?_ ?_<;>intro _<;>try exact zo)|(refine zgh ?_;intro _)|fail)
    apply Yf H
    ·exact zc0
    exact zc4
  have hgd:YZ n.net c.2.2.1 c.2.2.2.1=true:=by
   cases h:YZ n.net c.2.2.1 c.2.2.2.1 with
   |true=>rfl
   |false=>exact absurd (.inl h) hg
  have hpos:¬Zr l c.2.2.2.2<0:=λh=>hg (.inr h)
  rw[hgf,hff,Tf hg]at hce
  rw[hgd]at hus
  rcases RU i with h0|h0
  ·subst h0
   rw[Tf (by omega)]at hce
   repeat'(first|((apply Yb YeI);exact za;exact rfl;exactλ_ hw=>(hplc hw))|((apply Ym Jy);exact za;exact rfl;exactλ_ hw=>(hix hin.cons.cons.cons hw))|((apply Ym Qm);exact za;exact rfl;exactλ_ hw=>(hus hin.cons.cons.cons hw))|((apply Ym Yo3);exact za;exact rfl;exactλ_ hw=>(hfi hrf.cons.cons.cons hw))|(apply zg28;refine zs84 ?_)|refine zgd ?_|(refine zgf ?_ ?_<;>intro _<;>try exact zo)|(refine zgh ?_;intro _)|fail)
   apply hK (0+1)
   ·exact Yl7
   ·omega
   ·exact zc1
   ·unfold netN
    exact zc0
  have hget2:s.cells[((i:Int)-1).toNat]? =some (Yl s.sch (i-1)):=zc70
  obtain⟨p,hpv⟩:∃p,Yl s.sch (i-1)=p:=⟨_,rfl⟩
  rw[hpv]at hce hget2
  have hcl:=Yci p c
  have hcm:=λ{H':List HP}{w:World}(hw:St B w0 H' w)=>Oy p c hw
  obtain⟨q,hq⟩:∃q,cmpV (nums p) (nums c)=q:=⟨_,rfl⟩
  rw[hq]at hcl hcm
  by_cases hlt2:q<0
  ·rw[hcl.1 hlt2,Tf (by simp)]at hce
   refine zX77 ?_<;>intros
   apply hK (i+1)
   ·exact Yl7
   ·omega
   ·exact zc1
   ·unfold netN
    exact zc0
  ·have hnl:Xp p c=false:=by
    cases h:Xp p c with
    |false=>rfl
    |true=>exact absurd (hcl.2 h) hlt2
   rw[hnl,To ⟨h0,rfl⟩]at hce
   rw[hbad (by rw[hce];decide),hce]
   refine zX77 ?_<;>intros
   apply Yf H
   ·exact zc0
   exact zc4
 ·refine zX1 ?_<;>intros
  rw[show i=s.cells.length by omega]at hall
  rw[Xn λk _ hk=>hall k (by omega)]
  apply Yf H
  ·exact zc0
  exact zc4
def runW(x:WayM)(a:Int):List (Cel×Int):=runP x.s.len (X6 x.s.sch x.f.1) (a+x.f.2.2.2.1) (Yr x.n.net x.r) a
def cntV(z:Cel×Int):List Value:=[celV z.1,.int .i64 z.2]
def Ylk(x:WayM)(a:Int):List (List Value):=(runW x a).map cntV
structure CtM where
 c:Nat
 a:Int
 L:List HP
structure CuM where
 k:Nat
 slot:Int
 a:Int
 c:Nat
 L:List HP
structure CvM where
 j:Nat
 k:Nat
 a:Int
 c:Nat
 L:List HP
variable {α:Type}{c:Nat}
theorem Yqj{W r:List α}{z:α}(hc:c<=W.length)(h:W=W.take c++z::r):W[c]? =some z/\c+1<=W.length/\W=W.take (c+1)++r:=by
 grind
theorem Yi3{W:List α}(hc:c<=W.length)(h:W=W.take c++[]):c=W.length:=by
 grind
theorem YfU(x:WayM)(at0:Int)(hok:JR x)(hat:0<=at0/\at0<=1000000)(ga gw:Nat){B:Nat}{w0:World}{H:List HP}(hi:x.In B w0 H):
 YbR Tryz.prog 291 [.pointer (some ⟨ga,0,none⟩),.pointer (some ⟨gw,0,none⟩)] (Ylk x at0) B w0 (intB ga at0::wayB gw x::H):=by
 refine Ymh Tryz.func291 Tryz.ntmps291 rfl rfl ?_
 intro l SS XX hy L0 h0
 have hper:=hok.per
 have hslen:=hok.slen
 obtain⟨W,hW⟩:∃W,runW x at0=W:=⟨_,rfl⟩
 have hxs:Ylk x at0=W.map cntV:=by unfold Ylk;rw[hW]
 rw[hxs]at hy⊢
 rw[Tu]
 obtain⟨endd,hend⟩:∃e,at0+x.f.2.2.2.1=e:=⟨_,rfl⟩
 unfold runW at hW
 rw[hend]at hW
 unfold intB at hy⊢
 iterate 3 (first|refine zga ?_|(refine zgh ?_;intro _)|fail)
 rename_i gy
 apply Yoa
 apply Ybu
 apply Y5
 refine Z1 (λz:Nat×Nat=>[(5,.pointer (some ⟨z.2,0,none⟩)),(4,.pointer (some ⟨z.1,0,none⟩)),(3,.pointer (some ⟨gy,0,none⟩)),(1,.pointer (some ⟨ga,0,none⟩)),(2,.pointer (some ⟨gw,0,none⟩))])
  (λz=>intB z.1 at0::many L0::intB z.2 endd::blk gy (.cells #[.func (.yield l) #[] #[]] 301 (0,0))::intB ga at0::wayB gw x::H) ?_ ?_
 ·intro K hK
  refine zX6 ?_
  apply J7 (.n1 0 (.n1 1 (.n1 2 (.n1 3 (.n1 4 (.n1 5 (.n2 6 (.n1 7 (.n1 8 .done)) 7 (.n1 6 (.n1 8 .done))))))))) [9] [false,false,true,true]
  kernel_rfl
  kernel_rfl
  exact zy
  (simp only[Yd,nthO];rfl)
  repeat'(first|(apply Yh;try exact zl)|apply(zs91 ?_ ?_)|(apply Xo;try exact zl)|refine zgd ?_|(refine zgh ?_;intro _)|fail)
  ·rename_i a b
   rw[hend]
   apply hK (a,b)
   ·exact zc1
   ·unfold intB
    dsimp only
    exact zc0
  ·rename_i a b
   rw[hend]
   apply hK (b,a)
   ·exact zc1
   ·unfold intB
    dsimp only
    exact zc0
 rintro⟨g4,g5⟩
 unfold intB
 dsimp only
 refine zX9 ?_
 apply Yg _ Yth
 exact za
 exact rfl
 exactλ_ hw=>(Yc6 x (hw))
 rintro _ _ ⟨g2,rfl,rfl⟩
 refine zX9 ?_
 have hiK:x.In B w0 (wayB g2 x::blk g5 (.cells #[.int .i64 endd] 3 (0,0))::blk gy (.cells #[.func (.yield l) #[] #[]] 301 (0,0))::blk ga (.cells #[.int .i64 at0] 3 (0,0))::wayB gw x::H):=hi.cons.cons.cons.cons.cons
 refine ZL (gf:=355) (lb:=[.pointer (some ⟨g2,0,none⟩)]) (xs:=JD x) (wayB g2 x::blk g5 (.cells #[.int .i64 endd] 3 (0,0))::blk gy (.cells #[.func (.yield l) #[] #[]] 301 (0,0))::blk ga (.cells #[.int .i64 at0] 3 (0,0))::wayB gw x::H) (λy:CtM=>[blk g4 (.cells #[.int .i64 y.a] 3 (0,0)),many y.L])
  (λk y=>y.c<=W.length/\W=W.take y.c++runP x.s.len (X6 x.s.sch x.f.1) endd ((Yr x.n.net x.r).drop k) y.a/\SS y.c y.L/\at0<=y.a/\y.a<=endd)
  (λe K=>e=.ret/\∃a L,(SS W.length L\/XX L)/\K=[blk g4 (.cells #[.int .i64 a] 3 (0,0)),many L]) ⟨0,at0,L0⟩ rfl Ytn (YaV x g2 hok hiK (.head _)) rfl ?_ (by kernel_rfl) (by kernel_rfl) ?_ ⟨Td _,by simpa using hW.symm,h0,RP _,by show at0<=endd;omega⟩ ?_ ?_ ?_
 ·intro args h
  obtain⟨k,hk⟩:=TL.1 h
  obtain⟨l,_,rfl⟩:=UY hk
  rfl
 ·simp only[TJ,TF]
  exact zc0
 ·rintro l2 k args R ⟨c,a,L⟩ hk ⟨hc,hWk,hS,ha0,ha1⟩
  obtain⟨lk,hlk,rfl⟩:=UY hk
  have hbd:=WN hok hlk
  dsimp only at hc hWk hS ha0 ha1
  dsimp only[U5,List.cons_append,List.nil_append]
  unfold lkV
  repeat'(first|refine zgc ?_|(refine zgh ?_;intro _)|fail)
  rename_i gl
  apply Vh (YR YB)
  intro R'
  refine zX11 ?_
  have hfew:=hok.few
  apply Yg _ Yxd
  exact za
  exact rfl
  exactλ_ hw=>(YjI x lk (by omega) (hi.mono zc0).s (hw))
  rintro _ _ ⟨A,cap,rfl,rfl⟩
  have hcsl:(X6 x.s.sch x.f.1 lk).length<=512:=TX (Sj _ _) hfew
  have hdk:(Yr x.n.net x.r).drop k=lk::(Yr x.n.net x.r).drop (k+1):=by
   obtain⟨h1,h2⟩:=Tj.1 hlk
   rw[<-h2];exact T0 h1
  rw[hdk,Yqa]at hWk
  obtain⟨cs,hcs⟩:∃cs,X6 x.s.sch x.f.1 lk=cs:=⟨_,rfl⟩
  obtain⟨ls,hls⟩:∃ls,(Yr x.n.net x.r).drop (k+1)=ls:=⟨_,rfl⟩
  obtain⟨C,hC⟩:∃C,X6 x.s.sch x.f.1=C:=⟨_,rfl⟩
  rw[hcs,hls,hC]at hWk
  rw[hcs]at hcsl⊢
  rw[hC,hls]
  unfold cels
  refine zX9 ?_
  rw[show lk.2.2+1=((Y1 lk:Nat):Int) from by unfold Y1;omega]
  have hnl8:Y1 lk<=8:=by unfold Y1;omega
  refine Ye (λz:CuM=>[(9,.int .i64 z.slot),(7,.int .i64 (z.k:Nat)),(8,.slice A cs.length cap),(6,.pointer (some ⟨gl,0,none⟩)),(5,.pointer (some ⟨g5,0,none⟩)),(4,.pointer (some ⟨g4,0,none⟩)),(3,.pointer (some ⟨gy,0,none⟩)),(1,.pointer (some ⟨ga,0,none⟩)),(2,.pointer (some ⟨gw,0,none⟩))])
   (λz=>R'::blk g4 (.cells #[.int .i64 z.a] 3 (0,0))::many z.L::sl 162 5 A cs.length cap (cs.flatMap celF)::blk gl (.cells #[.int .i64 lk.1,.int .i64 lk.2.1,.int .i64 lk.2.2] 164 (0,0))::wayB g2 x::blk g5 (.cells #[.int .i64 endd] 3 (0,0))::blk gy (.cells #[.func (.yield l) #[] #[]] 301 (0,0))::blk ga (.cells #[.int .i64 at0] 3 (0,0))::wayB gw x::H)
   (λz=>z.c<=W.length/\W=W.take z.c++Wp x.s.len C endd cs ls (endd-z.slot).toNat z.k z.slot z.a/\SS z.c z.L/\(at0<=z.a/\z.a<=endd)/\(at0<=z.slot/\z.slot<=endd)/\z.k<=8) (λz=>(endd-z.slot).toNat) ⟨Y1 lk,a,a,c,L⟩ ⟨hc,hWk,hS,⟨ha0,ha1⟩,⟨ha0,ha1⟩,hnl8⟩ ?_ ?_ ?_
  ·exact zc1
  ·exact zc0
  rintro⟨kk,slot,a,c,L⟩ ⟨hc,hWk,hS,⟨ha0,ha1⟩,⟨hs0,hs1⟩,hk8⟩ K hK
  dsimp only at hc hWk hS ha0 ha1 hs0 hs1 hk8⊢
  by_cases hk0:kk=0
  ·subst hk0
   rw[YnJ]at hWk
   clear hK
   refine zX42 ?_<;>intros
   apply UJ (CtM.mk c a L)
   ·exact⟨hc,hWk,hS,ha0,ha1⟩
   ·dsimp only[List.cons_append,List.nil_append]
    exact zc0
  by_cases hse:endd<=slot
  ·rw[show(endd-slot).toNat=0 by omega,Yqi hk0]at hWk
   have hce:=Yi3 hc hWk
   rw[hce]at hS
   clear hK
   refine zX25 ?_<;>intros
   apply O9 [blk g4 (.cells #[.int .i64 a] 3 (0,0)),many L]
   ·exact⟨rfl,a,L,.inl hS,rfl⟩
   ·dsimp only[List.cons_append,List.nil_append]
    exact zc0
  obtain⟨f,hf⟩:∃f,(endd-(slot+1)).toNat=f:=⟨_,rfl⟩
  have hf1:(endd-slot).toNat=f+1:=by omega
  have hmt:slot.tmod x.s.len=slot%x.s.len:=Rb (by omega)
  rw[hf1,<-Yp5]at hWk
  refine zX49 ?_<;>intros
  refine Ye (λy:CvM=>[(37,.int .i64 (y.j:Nat)),(36,.int .i64 cs.length),(35,.slice A cs.length cap),(9,.int .i64 slot),(7,.int .i64 (y.k:Nat)),(8,.slice A cs.length cap),(6,.pointer (some ⟨gl,0,none⟩)),(5,.pointer (some ⟨g5,0,none⟩)),(4,.pointer (some ⟨g4,0,none⟩)),(3,.pointer (some ⟨gy,0,none⟩)),(1,.pointer (some ⟨ga,0,none⟩)),(2,.pointer (some ⟨gw,0,none⟩))])
   (λy=>R'::blk g4 (.cells #[.int .i64 y.a] 3 (0,0))::many y.L::sl 162 5 A cs.length cap (cs.flatMap celF)::blk gl (.cells #[.int .i64 lk.1,.int .i64 lk.2.1,.int .i64 lk.2.2] 164 (0,0))::wayB g2 x::blk g5 (.cells #[.int .i64 endd] 3 (0,0))::blk gy (.cells #[.func (.yield l) #[] #[]] 301 (0,0))::blk ga (.cells #[.int .i64 at0] 3 (0,0))::wayB gw x::H)
   (λy=>y.j<=cs.length/\y.c<=W.length/\W=W.take y.c++OH x.s.len C endd cs (cs.drop y.j) ls f y.k slot y.a/\SS y.c y.L/\(at0<=y.a/\y.a<=endd)/\y.k<=8) (λy=>cs.length-y.j) ⟨0,kk,a,c,L⟩ ⟨Td _,hc,hWk,hS,⟨ha0,ha1⟩,hk8⟩ ?_ ?_ ?_
  ·exact zc1
  ·exact zc0
  clear hWk hS hc hk0 hk8 ha0 ha1
  rintro⟨j,kk,a,c,L⟩ ⟨hj,hc,hWk,hS,⟨ha0,ha1⟩,hk8⟩ K2 hK2
  dsimp only at hj hc hWk hS ha0 ha1 hk8⊢
  by_cases hjl:j<cs.length
  rotate_left
  ·obtain rfl:j=cs.length:=by omega
   rw[Ss,Yp6]at hWk
   clear hK2
   refine zX1 ?_<;>intros
   apply hK ⟨kk,slot+1,a,c,L⟩
   ·exact⟨hc,by rw[hf];exact hWk,hS,⟨ha0,ha1⟩,⟨by show at0<=slot+1;omega,by show slot+1<=endd;omega⟩,hk8⟩
   ·exact zc73
   ·exact zc1
   exact zc18
  obtain⟨d,hd⟩:∃d,cs[j]? =some d:=⟨_,Ta hjl⟩
  have hdj:cs.drop j=d::cs.drop (j+1):=by
   obtain⟨h1,h2⟩:=Tj.1 hd
   rw[<-h2];exact T0 h1
  rw[hdj]at hWk
  by_cases hcd:d.1=slot%x.s.len/\kk≠0
  ·obtain⟨hcd1,hcd2⟩:=hcd
   obtain⟨k3,rfl⟩:∃k3,kk=k3+1:=⟨kk-1,by omega⟩
   rw[Yp7 (by rw[hmt];exact hcd1) hcd2,NH]at hWk
   obtain⟨hx,hc1,hW1⟩:=Yqj hc hWk
   have hx:(W.map cntV)[c]? =some [celV d,.int .i64 slot]:=by rw[TU,hx];rfl
   repeat'(first|(refine Yfx 3 57 rfl rfl rfl ?_)|refine zgd ?_|(refine zge ?_ ?_<;>intro _<;>try exact zo)|(refine zgh ?_;intro _)|fail)
   first|(rename_i gc _ _;guard_hyp gc:Nat)|(rename_i gc _;guard_hyp gc:Nat)|(rename_i gc _ _ _;guard_hyp gc:Nat)
   rw[show((k3+1:Nat):Int)-1=(k3:Int) by omega]
   apply Yf (R'::blk gc (.cells #[.int .i64 d.1,.int .i64 d.2.1,.int .i64 d.2.2.1,.int .i64 d.2.2.2.1,.int .i64 d.2.2.2.2] 162 (0,0))::sl 162 5 A cs.length cap (cs.flatMap celF)::blk gl (.cells #[.int .i64 lk.1,.int .i64 lk.2.1,.int .i64 lk.2.2] 164 (0,0))::blk g4 (.cells #[.int .i64 (slot+1)] 3 (0,0))::wayB g2 x::blk g5 (.cells #[.int .i64 endd] 3 (0,0))::blk gy (.cells #[.func (.yield l) #[] #[]] 301 (0,0))::many L::blk ga (.cells #[.int .i64 at0] 3 (0,0))::wayB gw x::H)
   ·exact zc0
   have hY:=hy c _ hx [R',blk gc (.cells #[.int .i64 d.1,.int .i64 d.2.1,.int .i64 d.2.2.1,.int .i64 d.2.2.2.1,.int .i64 d.2.2.2.2] 162 (0,0)),sl 162 5 A cs.length cap (cs.flatMap celF),blk gl (.cells #[.int .i64 lk.1,.int .i64 lk.2.1,.int .i64 lk.2.2] 164 (0,0)),blk g4 (.cells #[.int .i64 (slot+1)] 3 (0,0)),wayB g2 x,blk g5 (.cells #[.int .i64 endd] 3 (0,0)),blk gy (.cells #[.func (.yield l) #[] #[]] 301 (0,0))] L hS
   apply Ymu _ _ (hy:=hY)
   ·exact Ybb
   ·exact rfl
   ·exact YqM
   ·exact rfl
   ·exact zc59
   ·exact rfl
   ·rintro _ ⟨L',hS',rfl⟩
    dsimp only[List.cons_append,List.nil_append]
    refine zX3 ?_
    apply hK2 ⟨j+1,k3,slot+1,c+1,L'⟩
    ·exact⟨by exact Yjm,hc1,hW1,hS',⟨by show at0<=slot+1;omega,by show slot+1<=endd;omega⟩,by show k3<=8;omega⟩
    ·exact zc73
    ·exact zc1
    ·exact zc0
   ·rintro _ ⟨L',hX',rfl⟩
    dsimp only[List.cons_append,List.nil_append]
    refine zX3 ?_
    apply O9 [blk g4 (.cells #[.int .i64 (slot+1)] 3 (0,0)),many L']
    ·exact⟨rfl,slot+1,L',.inr hX',rfl⟩
    ·dsimp only[List.cons_append,List.nil_append]
     exact zc0
  ·rw[Ysi (by rw[hmt];exact hcd)]at hWk
   repeat'(first|refine zgd ?_|(refine zge ?_ ?_<;>intro _<;>try exact zo)|(refine zgh ?_;intro _)|fail)
   all_goals(
    apply hK2 ⟨j+1,kk,a,c,L⟩
    ·exact⟨by show j+1<=_;omega,hc,hWk,hS,⟨ha0,ha1⟩,hk8⟩
    ·dsimp only;omega
    ·exact zu
    ·exact zk)
 ·rintro D ⟨c,a,L⟩ ⟨hc,hWk,hS,ha0,ha1⟩
  dsimp only at hc hWk hS ha0 ha1
  have hle:(JD x).length=(Yr x.n.net x.r).length:=by unfold JD;rw[Tu]
  rw[hle,Ss]at hWk
  have hce:=Yi3 hc hWk
  rw[hce]at hS
  dsimp only[List.cons_append,List.nil_append]
  refine zX11 ?_
  apply Yrk
  apply Z2 YB
  apply VQ_m
  apply Yf (many L::blk ga (.cells #[.int .i64 at0] 3 (0,0))::wayB gw x::H)
  ·exact zc0
  apply W6;exact rfl
  exact .inl ⟨L,hS,rfl⟩
 ·rintro D _ _ ⟨rfl,a,L,hSL,rfl⟩ _
  dsimp only[List.cons_append,List.nil_append]
  refine zX3 ?_
  apply Z2 YB
  apply VQ_m
  apply Yf (many L::blk ga (.cells #[.int .i64 at0] 3 (0,0))::wayB gw x::H)
  ·exact zc0
  apply W6;exact rfl
  rcases hSL with h|h
  ·exact .inl ⟨L,h,rfl⟩
  ·exact .inr ⟨L,h,rfl⟩
end Go.Proofs.YtjommdkgfbhbdaaGreatDoor
namespace Go.Eng
open Go.RowKit
variable {B:Nat}{w0:World}{H:List HP}
theorem Yle{P:Program}{env:Env}{n:Nat}(T:Tab P){fn:Func}{Φ:Value->List HP->Prop}{p g rt:Nat}{v:Value}{cs:Array Value}{tt:TypeId}{fr:Nat×Nat}(hr:fn.results=#[.cell p rt])(hp:get env p=some (.pointer (some ⟨g,0,none⟩)))
 (hm:Eng.blk g (.cells cs tt fr)∈H) (hv:nth cs.toList 0=some v) (ht:Eng.look T.sc rt=some ()) {H2:List HP}(hH:∀w,St B w0 H w->St B w0 H2 w) (h:Φ v H2):VQ ⟨n,[],none⟩ B w0 (bodyPost P fn (Post B w0 Φ)) .ret env H:=by
 refine⟨λa w ha hw=>bodyPost_ret (v:=v) ?_ ha.defers ⟨_,H2,rfl,hH w hw,h⟩⟩
 have hp':=ha.slot p _ hp
 rw[Yf8]at hv
 have hc:=Xi (i:=0) (hw.blk hm).1
 simp[results,hr,Array.getD_eq_getD_getElem?,hp',asAddr,loadVar,XE (T.scal ht).1,hc,hv]
end Go.Eng
namespace Go.Proofs.YtjommdkgfbhbdaaGreatDoor
open Go.RowKit Go.Eng Go.Nw
variable {s:Sch}{i B:Nat}
theorem YnN(hi:i<s.cells.length)(h:∀j∈inI s (Yl s i).1 s.cells.length,j<i->YE (Yl s i) (Yl s j)=false):X5 s i=false:=by
 unfold X5
 rw[RG]
 intro j hj
 have hj:=Rq.1 hj
 rw[Tq,Tm]
 rintro⟨h1,h2⟩
 rw[h j (Og.2 ⟨by omega,h1⟩) hj]at h2
 cases h2
theorem Yfr{j:Nat}(hji:j<i)(hs:(Yl s j).1=(Yl s i).1)(ht:YE (Yl s i) (Yl s j)=true):X5 s i=true:=by
 unfold X5
 grind
variable {w0:World}{H:List HP}
theorem YkZ(s:SchM)(i:Nat)(hi:i<s.cells.length)(hl:s.cells.length<=1000){w:World}(hr:Rd B w0 H s.A (s.cells.flatMap celF))(hw:St B w0 H w):
 CX B w0 263 [s.val,.int .i64 i] w λv K=>v=.bool (X5 s.sch i)/\K=H:=by
 refine ZK Tryz.func263 Tryz.ntmps263 rfl rfl hw ?_
 have hget:s.cells[i]? =some (Yl s.sch i):=YS (s:=s.sch) hi
 obtain⟨c,hc⟩:∃c,Yl s.sch i=c:=⟨_,rfl⟩
 rw[hc]at hget
 refine zX78 ?_<;>intros
 rename_i gs gi gr gc
 apply Yg _ Ytk
 exact za
 exact rfl
 exactλ_ hw=>(Yh2 s c.1 (hw))
 rintro _ _ ⟨g1,g2,rfl,rfl⟩
 refine zX9 ?_
 have hr6:Rd B w0 (intB g2 c.1::schB g1 s::blk gc (.cells (celF c).toArray 162 (0,0))::blk gi (.cells #[.int .i64 i] 3 (0,0))::schB gs s::H) s.A (s.cells.flatMap celF):=hr.cons.cons.cons.cons.cons
 refine ZL (gf:=385) (lb:=[.pointer (some ⟨g1,0,none⟩),.pointer (some ⟨g2,0,none⟩)]) (xs:=inXs s.sch c.1) (intB g2 c.1::schB g1 s::blk gc (.cells (celF c).toArray 162 (0,0))::blk gi (.cells #[.int .i64 i] 3 (0,0))::schB gs s::H) (λ_:Unit=>[blk gr (.cells #[.bool false] 4 (0,0))])
  (λk _=>∀m j,m<k->(inI s.sch c.1 s.cells.length)[m]? =some j->j<i->YE c (Yl s.sch j)=false) (λe K=>e=.ret/\X5 s.sch i=true/\K=[blk gr (.cells #[.bool true] 4 (0,0))]) () rfl Ytp (Yh1 s c.1 g1 g2 hr6 (by omega) (.tail _ (.head _)) (.head _)) rfl ?_ (by kernel_rfl) (by kernel_rfl) ?_ (λm j h=>absurd h (Re _)) ?_ ?_ ?_
 ·grind [TL,Qv]
 ·exactλw hw=>hw.perm (.trans (.cons _ (.cons _ (.swap _ _ _))) (.trans (.cons _ (.swap _ _ _)) (.swap _ _ _)))
 ·rintro l k args R ⟨⟩ hk hI
  obtain⟨j,hj,hlt,rfl⟩:=Qv hk
  have hlt2:j<s.cells.length:=hlt
  dsimp only[U5,List.cons_append,List.nil_append]
  have hgj:s.cells[j]? =some (Yl s.sch j):=YS (s:=s.sch) hlt
  have hjs:(Yl s.sch j).1=c.1:=(Og.1 (Tc hj)).2
  obtain⟨d,hd⟩:∃d,Yl s.sch j=d:=⟨_,rfl⟩
  rw[hd]at hgj
  have htc:YE c d=true↔(c.2.2.1=d.2.2.1\/c.2.2.1=d.2.2.2.1\/c.2.2.2.1=d.2.2.1\/c.2.2.2.1=d.2.2.2.1):=by unfold YE YM toC;rw[Tm]
  refine zX2 ?_
  apply Vh YB
  intro R'
  unfold intB schB
  have hr7:Rd B w0 (R'::blk gr (.cells #[.bool false] 4 (0,0))::intB g2 c.1::schB g1 s::blk gc (.cells (celF c).toArray 162 (0,0))::blk gi (.cells #[.int .i64 i] 3 (0,0))::schB gs s::H) s.A (s.cells.flatMap celF):=hr6.cons.cons
  unfold intB schB at hr7
  clear hr6
  repeat'(first|refine zgd ?_|(refine zge ?_ ?_<;>intro _<;>try exact zo)|(refine zgh ?_;intro _)|fail)
  all_goals first
   |(refine O9 [blk gr (.cells #[.bool true] 4 (0,0))] ⟨rfl,?_,rfl⟩ ?_
     ·exact Yfr (j:=j) (by omega) (by rw[hc];exact hjs) (by rw[hc,hd];exact htc.2 (by omega))
     ·dsimp only[List.cons_append,List.nil_append]
      exact zk
     done)
   |(refine UJ () ?_ ?_
     ·intro m j2 hm hj2 hji
      rcases RJ.1 hm with h|h
      ·exact hI m j2 h hj2 hji
      ·subst h
       obtain rfl:=Tz (hj.symm.trans hj2)
       rw[hd]
       exact RE.2 λh=>by have:=htc.1 h;omega
     ·dsimp only[List.cons_append,List.nil_append]
      exact zk
     done)
 ·rintro D ⟨⟩ hI
  have htw:X5 s.sch i=false:=YnN hi λj hj hji=>by
   rw[hc]at hj⊢
   obtain⟨m,hm⟩:=TL.1 hj
   refine hI m j ?_ hm hji
   rw[inXs,Tu]
   exact(Tj.1 hm).1
  rw[htw]
  dsimp only[List.cons_append,List.nil_append]
  unfold intB schB
  refine zX3 ?_
  apply Z2 YB
  apply VQ_m
  apply Yle T (H2:=H);exact rfl;exact rfl;(focus exact zc2);exact rfl;exact rfl;(intro w hw;refine hw.perm ?_;focus exact zc5);exact Q3
 ·rintro D e K ⟨rfl,htw,rfl⟩ hjmp
  rw[htw]
  dsimp only[List.cons_append,List.nil_append]
  unfold intB schB
  refine zX3 ?_
  apply Z2 YB
  apply VQ_m
  apply Yle T (H2:=H);exact rfl;exact rfl;(focus exact zc2);exact rfl;exact rfl;(intro w hw;refine hw.perm ?_;focus exact zc5);exact Q3
open Go.RowKit Go.Eng Go.Nw Go.Rt
variable {A A2:Option Addr}{cap cap2 B:Nat}{w0 w:World}{H:List HP}
theorem ZI(l m:List Int)(hlen:l.length<=1000000000000)(_hlen2:m.length<=1000000000000)(hr:Rd B w0 H A (l.flatMap numF))(hr2:Rd B w0 H A2 (m.flatMap numF))(hw:St B w0 H w):
 CX B w0 142 [.slice A l.length cap,.slice A2 m.length cap2] w λu K=>u=.bool (decide (l=m))/\K=H:=by
 refine Ya Tryz.func142 Tryz.ntmps142 rfl rfl hw ?_
 by_cases hll:l.length=m.length
 rotate_left
 ·exact zc6
 refine zX0 ?_<;>intros
 refine Ye (λ(k:Nat)=>[(5,.int .i64 k),(0,.slice A l.length cap),(1,.slice A2 m.length cap2)]) (λ_=>H) (λk=>k<=l.length/\l.take k=m.take k) (λk=>l.length-k) 0 ⟨Td _,by simp⟩ ?_ (λw hw=>hw) ?_
 ·exact zc1
 rintro k ⟨hk,hi⟩ K hK
 by_cases hlt:k<l.length
 ·obtain⟨a,ha⟩:∃a,l[k]? =some a:=⟨_,Ta hlt⟩
  obtain⟨b,hb⟩:∃b,m[k]? =some b:=⟨_,Ta (by omega)⟩
  by_cases hab:a=b
  ·refine zX50 ?_<;>intros
   apply hK (k+1)
   ·exact YqV
   ·omega
   ·exact zc1
   exact zc18
  ·refine zX50 ?_<;>intros
   apply Yc;exact rfl;exact rfl
   exact⟨by rw[Tn λe=>by rw[e,hb]at ha;exact hab (Tz ha).symm],rfl⟩
 exact zc32
theorem Wo(l m:List RowM)(hlen:l.length<=1000000000000)(_hlen2:m.length<=1000000000000)(hl2:∀r∈l,r.xs.length<=1000000000000)(hm2:∀r∈m,r.xs.length<=1000000000000)(hr:Rd B w0 H A (l.flatMap rowF))(hr2:Rd B w0 H A2 (m.flatMap rowF))(hrl:∀r∈l,Rd B w0 H r.A (r.xs.flatMap numF))(hrm:∀r∈m,Rd B w0 H r.A (r.xs.flatMap numF))(hw:St B w0 H w):
 CX B w0 143 [.slice A l.length cap,.slice A2 m.length cap2] w λu K=>u=.bool (decide (l.map (·.xs)=m.map (·.xs)))/\K=H:=by
 refine Ya Tryz.func143 Tryz.ntmps143 rfl rfl hw ?_
 by_cases hll:l.length=m.length
 rotate_left
 ·exact zc19
 refine zX0 ?_<;>intros
 refine Ye (λ(k:Nat)=>[(5,.int .i64 k),(0,.slice A l.length cap),(1,.slice A2 m.length cap2)]) (λ_=>H) (λk=>k<=l.length/\(l.take k).map (·.xs)=(m.take k).map (·.xs)) (λk=>l.length-k) 0 ⟨Td _,by simp⟩ ?_ (λw hw=>hw) ?_
 ·exact zc1
 rintro k ⟨hk,hi⟩ K hK
 by_cases hlt:k<l.length
 ·obtain⟨a,ha⟩:∃a,l[k]? =some a:=⟨_,Ta hlt⟩
  obtain⟨b,hb⟩:∃b,m[k]? =some b:=⟨_,Ta (by omega)⟩
  have ham:=Tc ha
  have hbm:=Tc hb
  have hss:=λ{w:World}(hw:St B w0 H w)=>ZI a.xs b.xs (cap:=a.cap) (cap2:=b.cap) (hl2 a ham) (hm2 b hbm) (hrl a ham) (hrm b hbm) hw
  by_cases hab:a.xs=b.xs
  ·rw[Ti hab]at hss
   refine zX68 ?_<;>intros
   apply hK (k+1)
   ·exact zc63
   ·omega
   ·exact zc1
   exact zc18
  ·rw[Tn hab]at hss
   refine zX68 ?_<;>intros
   exact zc26
 exact zc32
def rowQ(r:RowM):HP:=ints r.A r.cap r.xs
structure RqM where
 f:Flw
 A:Option Addr
 cap:Nat
 rows:List RowM
def rqF(x:RqM):List Value:=[.int .i64 x.f.1,.int .i64 x.f.2.1,.int .i64 x.f.2.2.1,.int .i64 x.f.2.2.2.1,.int .i64 x.f.2.2.2.2.1,.int .i64 x.f.2.2.2.2.2,.slice x.A x.rows.length x.cap]
def rqV(x:RqM):Value:=.agg #[.int .i64 x.f.1,.int .i64 x.f.2.1,.int .i64 x.f.2.2.1,.int .i64 x.f.2.2.2.1,.int .i64 x.f.2.2.2.2.1,.int .i64 x.f.2.2.2.2.2,.slice x.A x.rows.length x.cap]
def RqM.rq(x:RqM):Rqs:=(x.f,x.rows.map (·.xs))
abbrev netA(g:Nat)(n:NetM):HP:=blk g (.cells #[.int .i64 n.nodes,.slice n.pA n.rows.length n.pcap,.int .i64 n.noise,.int .i64 n.thr,.slice n.lA n.links.length n.lcap,.slice n.mA n.margin.length n.mcap] 26 (0,0))
abbrev schA(g:Nat)(s:SchM):HP:=blk g (.cells #[.int .i64 s.len,.int .i64 s.off,.slice s.A s.cells.length s.cap] 33 (0,0))
abbrev rqA(g:Nat)(x:RqM):HP:=blk g (.cells #[.int .i64 x.f.1,.int .i64 x.f.2.1,.int .i64 x.f.2.2.1,.int .i64 x.f.2.2.2.1,.int .i64 x.f.2.2.2.2.1,.int .i64 x.f.2.2.2.2.2,.slice x.A x.rows.length x.cap] 93 (0,0))
structure RqM.In(B:Nat)(w0:World)(H:List HP)(x:RqM):Prop where
 rt:Rd B w0 H x.A (x.rows.flatMap rowF)
 rw_:∀r∈x.rows,Rd B w0 H r.A (r.xs.flatMap numF)
 ln:x.rows.length<=1000000000000
 rl:∀r∈x.rows,r.xs.length<=1000000000000/\r.xs.length<=r.cap
variable {B:Nat}{w0:World}{H H':List HP}{x:RqM}
theorem RqM.In.mono(h:x.In B w0 H)(hH:∀w,St B w0 H' w->St B w0 H w):x.In B w0 H':=⟨h.rt.mono hH,λr hr=>(h.rw_ r hr).mono hH,h.ln,h.rl⟩
variable {X:HP}
theorem RqM.In.cons(h:x.In B w0 H):x.In B w0 (X::H):=h.mono λ_ hw=>hw.tail
structure QIn(B:Nat)(w0:World)(H:List HP)(A:Option Addr)(q:List RqM):Prop where
 rd:Rd B w0 H A (q.flatMap rqF)
 x:∀x∈q,x.In B w0 H
 ln:q.length<=1000000000000
variable {A:Option Addr}{q:List RqM}
theorem QIn.mono(h:QIn B w0 H A q)(hH:∀w,St B w0 H' w->St B w0 H w):QIn B w0 H' A q:=⟨h.rd.mono hH,λx hx=>(h.x x hx).mono hH,h.ln⟩
theorem QIn.cons(h:QIn B w0 H A q):QIn B w0 (X::H) A q:=h.mono λ_ hw=>hw.tail
structure ClM where
 flow:Int
 rA:Option Addr
 rcap:Nat
 rs:List RowM
 bA:Option Addr
 bcap:Nat
 bs:List Int
 wA:Option Addr
 wcap:Nat
 ws:List Int
 sA:Option Addr
 scap:Nat
 ss:List RowM
def clF(c:ClM):List Value:=[.int .i64 c.flow,.slice c.rA c.rs.length c.rcap,.slice c.bA c.bs.length c.bcap,.slice c.wA c.ws.length c.wcap,.slice c.sA c.ss.length c.scap]
def clV(c:ClM):Value:=.agg #[.int .i64 c.flow,.slice c.rA c.rs.length c.rcap,.slice c.bA c.bs.length c.bcap,.slice c.wA c.ws.length c.wcap,.slice c.sA c.ss.length c.scap]
def ClM.clm(c:ClM):Clm:=⟨c.flow,c.rs.map (·.xs),c.bs,c.ws,c.ss.map (·.xs)⟩
structure ClM.In(B:Nat)(w0:World)(H:List HP)(c:ClM):Prop where
 rt:Rd B w0 H c.rA (c.rs.flatMap rowF)
 rw_:∀r∈c.rs,Rd B w0 H r.A (r.xs.flatMap numF)
 bd:Rd B w0 H c.bA (c.bs.flatMap numF)
 ws:Rd B w0 H c.wA (c.ws.flatMap numF)
 st:Rd B w0 H c.sA (c.ss.flatMap rowF)
 sw:∀r∈c.ss,Rd B w0 H r.A (r.xs.flatMap numF)
 ln:c.rs.length<=1000000000000/\c.bs.length<=1000000000000/\c.ws.length<=1000000000000/\c.ss.length<=1000000000000
 rl:∀r∈c.rs,r.xs.length<=1000000000000
 sl:∀r∈c.ss,r.xs.length<=1000000000000
variable {c:ClM}
theorem ClM.In.mono(h:c.In B w0 H)(hH:∀w,St B w0 H' w->St B w0 H w):c.In B w0 H':=
 ⟨h.rt.mono hH,λr hr=>(h.rw_ r hr).mono hH,h.bd.mono hH,h.ws.mono hH,h.st.mono hH,λr hr=>(h.sw r hr).mono hH,h.ln,h.rl,h.sl⟩
theorem ClM.In.cons(h:c.In B w0 H):c.In B w0 (X::H):=h.mono λ_ hw=>hw.tail
structure CIn(B:Nat)(w0:World)(H:List HP)(A:Option Addr)(c:List ClM):Prop where
 rd:Rd B w0 H A (c.flatMap clF)
 x:∀x∈c,x.In B w0 H
 ln:c.length<=1000000000000
theorem CIn.mono{c:List ClM}(h:CIn B w0 H A c)(hH:∀w,St B w0 H' w->St B w0 H w):CIn B w0 H' A c:=⟨h.rd.mono hH,λx hx=>(h.x x hx).mono hH,h.ln⟩
theorem CIn.cons{c:List ClM}(h:CIn B w0 H A c):CIn B w0 (X::H) A c:=h.mono λ_ hw=>hw.tail
def clP(c:ClM):List HP:=[sl 127 1 c.rA c.rs.length c.rcap (c.rs.flatMap rowF),many (c.rs.map rowQ),nrs c.bA c.bcap c.bs,nrs c.wA c.wcap c.ws,sl 24 1 c.sA c.ss.length c.scap (c.ss.flatMap rowF),many (c.ss.map rowQ)]
def clQ(c:ClM):HP:=many (clP c)
def nilC(f:Int):ClM:=⟨f,none,0,[],none,0,[],none,0,[],none,0,[]⟩
theorem Yvl(hm:clQ c∈H)(hl:(c.rs.length<=1000000000000/\c.bs.length<=1000000000000/\c.ws.length<=1000000000000/\c.ss.length<=1000000000000)/\(∀r∈c.rs,r.xs.length<=1000000000000)/\∀r∈c.ss,r.xs.length<=1000000000000):c.In B w0 H:=by
 have hb:∀w,St B w0 H w->St B w0 (clP c) w:=λw hw=>hw.inM hm
 refine ClM.In.mono (H:=clP c) ?_ hb
 refine⟨.sl (.head _),λr hr=>?_,.sl (.tail _ (.tail _ (.head _))),.sl (.tail _ (.tail _ (.tail _ (.head _)))),.sl (.tail _ (.tail _ (.tail _ (.tail _ (.head _))))),λr hr=>?_,hl.1,hl.2.1,hl.2.2⟩
 ·exact Rd.many (L:=c.rs.map rowQ) (.tail _ (.head _)) (RD hr)
 ·exact Rd.many (L:=c.ss.map rowQ) (.tail _ (.tail _ (.tail _ (.tail _ (.tail _ (.head _)))))) (RD hr)
theorem QD{w:World}(f:Int)(h:St B w0 H w):St B w0 (clQ (nilC f)::H) w:=by
 have h1:=(h.perm (.noMany H)).nilSlice 24 1
 have h2:=(((h1.nilSlice 3 1).nilSlice 3 1).perm (.noMany _)).nilSlice 127 1
 exact h2.perm (.close [_,_,_,_,_,_] H)
variable {B cap m:Nat}{w0 w:World}{H:List HP}
theorem ON(n:NetM)(v:Int)(hw:St B w0 H w):
 CX B w0 388 [n.val,.int .i64 v] w λu K=>u=.bool (insE v n.net.nodes)/\K=H:=by
 have e1:n.net.nodes=n.nodes:=rfl
 refine Ya Tryz.func388 Tryz.ntmps388 rfl rfl hw ?_
 exact zc15
theorem YjO(n:NetM)(c:Cel)(gn:Nat)(hm:blk gn (.cells #[.int .i64 n.nodes,.slice n.pA n.rows.length n.pcap,.int .i64 n.noise,.int .i64 n.thr,.slice n.lA n.links.length n.lcap,.slice n.mA n.margin.length n.mcap] 26 (0,0))∈H)(hw:St B w0 H w):
 CX B w0 387 [celV c,.pointer (some ⟨gn,0,none⟩)] w λv K=>v=.bool (V0 n.net c)/\K=H:=by
 refine Ya Tryz.func387 Tryz.ntmps387 rfl rfl hw ?_
 obtain⟨b,hb⟩:∃b,V0 n.net c=b:=⟨_,rfl⟩
 rw[hb]
 unfold V0 YM toC at hb
 repeat'(first|((apply YT Yo7);exact za;exact rfl;exactλ_ hw=>(ON n _ hw);all_goals(intro hB;(try simp only[Tm,Tv]at hB);try exact zo))|refine zgd ?_|(refine zgh ?_;intro _)|fail)
 all_goals(
  apply Yf H
  ·exact zk
  apply Yc;exact rfl;exact rfl
  refine⟨?_,rfl⟩
  rw[<-hb]
  simp[*])
variable {A:Option Addr}
theorem WA(p:Cel->Bool)(l:List Cel)(f:Nat)(cs:List Value)(hen:∀xs w,(callFunc f xs).run Tryz.prog w=.ok (.enter f xs) w)(hlen:l.length<=1000)(hr:Rd B w0 H A (l.flatMap celF))
 (hp:∀a∈l,∀w,St B w0 H w->Calls Tryz.prog f ([celV a]++cs).toArray w (Post B w0 λv K=>v=.bool (p a)/\K=H)) (hw:St B w0 H w):
 CX B w0 389 [.slice A l.length cap,.func (.func f) #[] cs.toArray] w λv K=>v=.bool (l.any p)/\K=H:=by
 refine Ya Tryz.func389 Tryz.ntmps389 rfl rfl hw ?_
 rw[<-YcV]
 refine zX2 ?_
 apply Yb YoY
 exact za
 exact rfl
 exactλ_ hw=>(YcW p l f cs hen hlen hr hp hw)
 by_cases h0:0<=Yp p l 0
 ·exact zc16
 ·exact zc16
def Wn(n:Net)(c:Cel)(node:Int)(m:Nat):Int:=(([c.2.2.1,c.2.2.2.1].take m).map λe=>powN n e node).sum
variable {n:Net}
theorem Ynq{c:Cel}{node e:Int}(h:[c.2.2.1,c.2.2.2.1][m]? =some e):Wn n c node (m+1)=Wn n c node m+powN n e node:=by
 grind [Wn,TD]
theorem Ysb(hok:Ok n)(c:Cel)(node:Int)(h:m<=2):0<=Wn n c node m/\Wn n c node m<=137438953472:=by
 have h1:=Jq hok c.2.2.1 node
 have h2:=Jq hok c.2.2.2.1 node
 match m,h with
 |0,_=>simp[Wn]
 |1,_=>grind [Wn]
 |2,_=>simp[Wn];omega
theorem Yct(n:NetM)(l:List Cel)(j:Nat)(node:Int)(hok:Ok n.net)(hnode:0<=node/\node<n.nodes)(hlen:l.length<=1000)(hin:n.In B w0 H)(hr:Rd B w0 H A (l.flatMap celF))(hw:St B w0 H w):
 CX B w0 390 [n.val,.slice A l.length cap,.int .i64 j,.int .i64 node] w λv K=>v=.int .i64 (Yy n.net l j node l.length)/\K=H:=by
 refine Ya Tryz.func390 Tryz.ntmps390 rfl rfl hw ?_
 have e1:n.net.nodes=n.nodes:=rfl
 refine zX72 ?_<;>intros
 rename_i gn
 refine Ye (λ(k:Nat)=>[(16,.int .i64 k),(15,.int .i64 l.length),(14,.slice A l.length cap),(9,.int .i64 (Yy n.net l j node k)),(4,.pointer (some ⟨gn,0,none⟩)),(2,.int .i64 j),(3,.int .i64 node)]) (λ_=>netN gn n::H) (λk=>k<=l.length) (λk=>l.length-k) 0 (Td _) ?_ (λw hw=>hw) ?_
 ·exact zc1
 rintro k hk K hK
 have hbd:=Ql hok l j node k
 have hrc:=hr.cons (X:=netN gn n)
 by_cases hlt:k<l.length
 ·obtain⟨c,hc⟩:∃c,l[k]? =some c:=⟨_,Ta hlt⟩
  have hcl:celL l k=c:=by unfold celL;rw[TB,hc];rfl
  have hst:Yy n.net l j node (k+1)=Yy n.net l j node k+if k=j then 0 else powN n.net c.2.2.1 node+powN n.net c.2.2.2.1 node:=by
   rw[Yy,hcl];rfl
  by_cases hkj:k=j
  ·rw[To hkj,NA]at hst
   refine zX45 ?_<;>intros
   apply hK (k+1)
   ·exact Yfu
   ·omega
   ·rw[hst]
    exact zc1
   ·exact zc0
  rw[Tf hkj]at hst
  refine zX45 ?_<;>intros
  rename_i gc _ ge
  refine Ye (λ(m:Nat)=>[(30,.int .i64 m),(29,.int .i64 ((2:Nat):Int)),(28,.slice (some ⟨ge,0,none⟩) ([c.2.2.1,c.2.2.2.1]:List Int).length 2),(9,.int .i64 (Yy n.net l j node k+Wn n.net c node m)),(16,.int .i64 k),(15,.int .i64 l.length),(14,.slice A l.length cap),(4,.pointer (some ⟨gn,0,none⟩)),(2,.int .i64 j),(3,.int .i64 node)]) (λ_=>blk ge (.cells #[.int .i64 c.2.2.1,.int .i64 c.2.2.2.1] 3 (0,0))::netN gn n::H) (λm=>m<=2) (λm=>2-m) 0 (Td _) ?_ ?_ ?_
  ·rw[show Wn n.net c node 0=0 from rfl,NA]
   exact zc1
  ·exact zc0
  rintro m hm K2 hK2
  have hpb:=Ysb hok c node hm
  have hre:Rd B w0 (blk ge (.cells #[.int .i64 c.2.2.1,.int .i64 c.2.2.2.1] 3 (0,0))::netN gn n::H) (some ⟨ge,0,none⟩) (([c.2.2.1,c.2.2.2.1]:List Int).flatMap numF):=Rd.blk (cs:=#[.int .i64 c.2.2.1,.int .i64 c.2.2.2.1]) (.head _)
  clear hrc
  unfold netN at hre⊢
  by_cases hlt2:m<2
  ·obtain⟨e,he⟩:∃e,[c.2.2.1,c.2.2.2.1][m]? =some e:=⟨_,Ta hlt2⟩
   have hst2:=Ynq (n:=n.net) (node:=node) he
   have hcn:=λ{H':List HP}{w:World}(hw:St B w0 H' w)=>ON n e hw
   have hl2:([c.2.2.1,c.2.2.2.1]:List Int).length=2:=rfl
   cases hie:insE e n.net.nodes with
   |false=>
    rw[hie]at hcn
    rw[show powN n.net e node=0 by unfold powN;rw[hie];simp,NA]at hst2
    refine zX79 ?_<;>intros
    apply hK2 (m+1)
    ·show m+1<=2
     omega
    ·omega
    ·rw[hst2]
     exact zc1
    ·unfold netN
     exact zc0
   |true=>
    rw[hie]at hcn
    have he2:0<=e/\e<n.net.nodes:=TI hie
    have hp0:(n.rows.length:Int)=n.net.nodes:=Yur
    obtain⟨r,hrw⟩:∃r,n.rows[e.toNat]? =some r:=⟨_,Ta (by omega)⟩
    have hrm:=Tc hrw
    have hrl:(r.xs.length:Int)=n.net.nodes:=hok.p1 r.xs (TG.2 ⟨r,hrm,rfl⟩)
    obtain⟨q,hq⟩:∃q,r.xs[node.toNat]? =some q:=⟨_,Ta (by omega)⟩
    have hpw:powN n.net e node=q:=by
     unfold powN
     rw[To ⟨hie,Ti (by omega)⟩]
     exact YuQ
    have hqb:=Jq hok e node
    rw[hpw]at hqb hst2
    have hpd:=hin.pw
    have hrd:=hin.rw_ r hrm
    have hs1:=hin.s1
    have hs2:=hin.s2 r hrm
    refine zX79 ?_<;>intros
    apply hK2 (m+1)
    ·show m+1<=2
     omega
    ·omega
    ·rw[hst2]
     exact zc1
    ·unfold netN
     exact zc0
  ·obtain rfl:m=2:=by omega
   have hp2:Yy n.net l j node (k+1)=Yy n.net l j node k+Wn n.net c node 2:=by
    rw[hst]
    simp[Wn]
   refine zX1 ?_<;>intros
   apply hK (k+1)
   ·exact Yfu
   ·omega
   ·rw[hp2]
    exact zc1
   ·unfold netN
    exact zc0
 ·refine zX1 ?_<;>intros
  apply Yf H
  ·exact zc0
  apply Yc;exact rfl;exact rfl
  rw[show k=l.length by omega]
  exact Q3
theorem Uh(n:NetM)(l:List Cel)(j:Nat)(node:Int)(hck:Yo n.net=0)(hnode:0<=node/\node<n.nodes)(hj:j<l.length)(hlen:l.length<=1000)(hno:l.any (V0 n.net)=false)(hin:n.In B w0 H)(hr:Rd B w0 H A (l.flatMap celF))(hw:St B w0 H w):
 CX B w0 331 [n.val,.slice A l.length cap,.int .i64 j,.int .i64 node] w λv K=>v=.int .i64 (Uf n.net l j node)/\K=H:=by
 refine Ya Tryz.func331 Tryz.ntmps331 rfl rfl hw ?_
 have e1:n.net.nodes=n.nodes:=rfl
 have hins:insE node n.net.nodes=true:=Ti hnode
 have hd:Uf n.net l j node=Yy n.net l j node l.length:=by
  unfold Uf
  rw[Tf (by rw[hck,hins,hno];simp;omega),Rm]
 rw[hd]
 have hchk:=λ{H':List HP}{w:World}(hin:n.In B w0 H') (hw:St B w0 H' w)=>Xa n hin hw
 rw[hck]at hchk
 have hcn:=λ{H':List HP}{w:World}(hw:St B w0 H' w)=>ON n node hw
 rw[hins]at hcn
 (apply Y5;apply YL;apply Yx;exact rfl;exact rfl;intro g)
 have hct:=λ{H':List HP}{w:World}(hm:blk g (.cells #[.int .i64 n.nodes,.slice n.pA n.rows.length n.pcap,.int .i64 n.noise,.int .i64 n.thr,.slice n.lA n.links.length n.lcap,.slice n.mA n.margin.length n.mcap] 26 (0,0))∈H') (hr:Rd B w0 H' A (l.flatMap celF)) (hw:St B w0 H' w)=>WA (V0 n.net) l 387 [.pointer (some ⟨g,0,none⟩)] YxE hlen (cap:=cap) hr (λc _ w hw=>YjO n c g hm hw) hw
 rw[hno]at hct
 repeat'(first|((apply Yb XQ);exact za;exact rfl;exactλ_ hw=>(hchk hin.cons hw))|((apply Yb Yo7);exact za;exact rfl;exactλ_ hw=>(hcn hw))|((apply Yb Ytr);exact za;exact rfl;exactλ_ hw=>(hct zm hr.cons hw))|((apply Yb Yts);exact za;exact rfl;exactλ_ hw=>(Yct n l j node (YP hck) hnode hlen hin.cons hr.cons hw))|(apply zg29;(apply Yu;exact za;exact rfl))|refine zgd ?_|(refine zgf ?_ ?_<;>intro _<;>try exact zo)|fail)
 apply Yf H
 ·exact zc0
 exact zc3
end Go.Proofs.YtjommdkgfbhbdaaGreatDoor
