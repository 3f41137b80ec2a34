/- Lemmas for the claim, part 17. -/
import Derived.Test.YtaholidehobiiaaGreatDoorQ15
set_option maxRecDepth 100000
set_option maxHeartbeats 8000000
set_option linter.all false
namespace Go.Eng
open Go.RowKit
section
variable {P:Program}{B:Nat}{w0:World}{Q:Exit->Act->World->Prop}{env:Env}{H:List HP}{k:Nat}
def YQr(P:Program)(r:Nat)(ops:Array Oper)(Q:Exit->Act->World->Prop)(l:List Oper):Exit->Act->World->Prop
 |.normal,a,w=>wpListIn (Fence.wide.inRound r) 0 P ops Q l a w
 |e,a,w=>Q e a w
theorem Ybw{r:Nat}{ops:Array Oper}{l:List Oper}(hlo:¬LetsOut Q):∀(os:List Oper) (a:Act) (w:World),os.all Vt=true->wpList P ops (YQr P r ops Q l) os a w->wpListIn (Fence.wide.inRound r) 0 P ops Q (os++l) a w
 |[],_,_,_,h=>h
 |o::os,a,w,hc,h=>by
  simp only[NR,Tq]at hc
  unfold wpList at h
  rw[TD]
  unfold wpListIn
  split
  ·rename_i hw
   rw[Tn hw]at h
   rcases h with h|⟨_,h⟩
   ·have h2:=Oper.wp_mono (λa w h=>Ybw hlo os a w hc.2 h) h
    have hs:Oper.semAt (some r) a.eval o=execOp a.eval o:=Oper.semAt_some r _ o λc e=>by
     have hp:=hc.1
     unfold Vt at hp
     rw[e]at hp
     cases hp
    refine⟨λf _=>trivial,?_⟩
    rw[Fence.inRound_round,hs]
    unfold Oper.wp at h2
    generalize(execOp a.eval o).run P w=res at h2⊢
    cases res with
    |ok x w'=>
     cases x<;>simp only[Oper.upon,Oper.uponIn]at h2⊢<;>first
      |exact h2
      |(refine⟨λhd=>by simp[Fence.wide]at hd,?_⟩
        refine CallsIn.mono (CallsIn.inRound r (callsIn_wide.2 h2)) λe w'' he=>?_
        cases e<;>exact he)
      |exact⟨λhd=>by simp[Fence.wide]at hd,Ycm h2⟩
      |exact h2.elim
    |halt x w'=>cases x<;>simp only[Oper.upon,Oper.uponIn]at h2⊢<;>first|exact h2|exact h2.elim
   ·exact(hlo h).elim
  ·rename_i hw
   rw[Tf hw]at h
   exact⟨λf _=>trivial,Ybw hlo os _ w hc.2 h⟩
variable {n r:Nat}{ds:List Deferred}
theorem Yip{id:Nat}{l:List Oper}(k:Nat){l1 l2:List Oper}(h1:l.take k=l1)(h2:l.drop k=l2)(h:VL P none ⟨n,ds,some r⟩ B w0 l.toArray (YQr P r l.toArray Q l2) l1 env H):
 VC P ⟨n,ds,some r⟩ B w0 (.region id l.toArray false) Q env H:=by
 refine⟨λa w ha hw=>?_⟩
 intro hlo hc
 refine wpIn_region_lit ?_
 have hc2:l.all Vt=true:=by simpa [calm]using hc
 have:=Ybw hlo _ _ _ (by rw[<-h1];exact TF.2 λx hx=>TF.1 hc2 x (SB hx)) (h.run a ha w hw)
 rw[<-h1,<-h2,RP]at this
 exact this
theorem Yon{ops:Array Oper}{d l:Nat}{x:Operand}{args:List Operand}{tys:Array TypeId}{ty:TypeId}{pos:String}{after:Array Edge}{gd:Option (Nat×Bool)}{vs:List Value}{rest:List Oper}(Φt Φf:List HP->Prop)
 (hgd:∀a:Act,Fits ⟨n,ds,none⟩ a env->Region.wanted ⟨some d,.call ⟨.value x,args.toArray,tys⟩,ty,pos,after,gd⟩ (yielded ops a.tmps)=true)
 (hx:evo env x=some (.func (.yield l) #[] #[])) (hargs:Args env args vs) (hn:Nat.ble (d+1) n=true) (hlo:¬LetsOut Q) (hpl:rest.all Vt=true) (hy:Yc9 P l vs B w0 H Φt Φf)
 (ht:∀K,Φt K->VL P none ⟨n,ds,some r⟩ B w0 ops Q rest ((d,.bool true)::env) K)
 (hf:∀K,Φf K->VL P none ⟨n,ds,some r⟩ B w0 ops Q rest ((d,.bool false)::env) K):
 VQ ⟨n,ds,some r⟩ B w0 (YQr P r ops Q (⟨some d,.call ⟨.value x,args.toArray,tys⟩,ty,pos,after,gd⟩::rest)) .normal env H:=by
 refine⟨λa w ha hw=>?_⟩
 show wpListIn (Fence.wide.inRound r) 0 P ops Q _ a w
 unfold wpListIn
 rw[Tn (hgd a ⟨ha.defers,ha.size,ha.slot⟩)]
 refine⟨λf _=>trivial,?_⟩
 obtain⟨fn,tmps,assign,body,hrun,hround⟩:=hy w hw
 have hmap:args.toArray.map a.eval=vs.toArray:=by rw[NA,UT ha _ _ hargs]
 have hs:Oper.semAt (some r) a.eval ⟨some d,.call ⟨.value x,args.toArray,tys⟩,ty,pos,after,gd⟩=execOp a.eval ⟨some d,.call ⟨.value x,args.toArray,tys⟩,ty,pos,after,gd⟩:=Oper.semAt_some r _ _ λc e=>by cases e
 rw[Fence.inRound_round,hs]
 have hex:(execOp a.eval ⟨some d,.call ⟨.value x,args.toArray,tys⟩,ty,pos,after,gd⟩).run P w=.ok (.round l fn tmps assign body) w:=by
  simp only[execOp,resolve,ha.eval hx,hmap,Deferred.ofValue,Sem.run_bind,Sem.run_pure,Result.andThen_ok,invoke]
  simpa using hrun
 rw[hex,Oper.uponIn_round]
 refine⟨λhd=>by simp[Fence.wide]at hd,?_⟩
 have hround2:RoundIn (Fence.wide.inRound r) 0 P l fn tmps assign body w _:=hround
 refine RoundIn.mono hround2 ?_
 rintro e w' (⟨rfl,K',hΦ,hst⟩|⟨rfl,K',hΦ,hst⟩)
 ·exact Ws hlo _ _ _ hpl ((ht K' hΦ).run _ (ha.put (TX hn) _) _ hst)
 ·exact Ws hlo _ _ _ hpl ((hf K' hΦ).run _ (ha.put (TX hn) _) _ hst)
end
variable {B:Nat}{w0:World}{H K:List HP}
theorem St.inM{w:World}(hw:St B w0 K w)(hm:Eng.many H∈K):St B w0 H w:=by
 obtain⟨S,h1,h2⟩:=hw.at_ hm
 exact⟨hw.below,hw.le,V7 h2 h1⟩
variable {A:Option Addr}{xs:List Value}
theorem Rd.inM(h:Rd B w0 H A xs)(hm:Eng.many H∈K):Rd B w0 K A xs:=h.mono λ_ hw=>hw.inM hm
theorem Rd.many{L:List HP}{e size k cap:Nat}(hX:many L∈H)(hm:Eng.sl e size A k cap xs∈L):Rd B w0 H A xs:=λw hw j v hv=>by
 obtain⟨S,_,h2⟩:=hw.at_ hX
 obtain⟨S',_,h3,_⟩:=Yh7 hm h2
 obtain⟨g,e1,hc,_⟩:=Ya3 h3 hv
 exact⟨g,0,e1,by rw[RH];exact hc⟩
end Go.Eng
namespace Go.Proofs.YtaholidehobiiaaGreatDoor
open Go.RowKit Go.Eng Go.Nw Go.Rt
variable {n:Net}
theorem JD{a b:Int}(h:Yz n a b=true):0<=Yt n a b:=by
 simp_all [Yz]
variable {r:List Int}
theorem YaB{s t:Int}(h:Um n s t r=0):(2<=r.length/\r.length<=9)/\r.any (offE n)=false/\(r.getD 0 0=s/\r.getD (r.length-1) 0=t)/\YbM r=false/\Jd n r=false:=by
 unfold Um at h
 by_cases h1:r.length<2
 all_goals grind
theorem YbT(h:Jd n r=false){i:Nat}(hi:i+1<r.length):Yz n (r.getD i 0) (r.getD (i+1) 0)=true:=by
 cases hg:Yz n (r.getD i 0) (r.getD (i+1) 0)with
 |true=>rfl
 |false=>
  grind [Jd]
variable {A:Option Addr}{cap B:Nat}{w0 w:World}{H:List HP}
theorem YoG(n:NetM)(r:List Int)(hin:n.In B w0 H)(hck:Yo n.net=0)(hbr:Jd n.net r=false)(hr:Rd B w0 H A (r.flatMap numF))(hlen:1<=r.length/\r.length<=1000)(hw:St B w0 H w):
 CX B w0 237 [n.val,.slice A r.length cap] w λv K=>v=.int .i64 (JQ n.net r)/\K=H:=by
 have hok:=YC hck
 obtain⟨hpw,hrw,hlk,hmg,hs1,hs2,hs3,hs4⟩:=id hin
 refine Yc Tryz.func237 Tryz.ntmps237 rfl rfl hw ?_
 (apply YY;apply Yx;apply Yr;exact rfl;exact rfl;intro g)
 refine zX8 ?_
 refine Yg (λ(k:Nat)=>[(6,.int .i64 ((k:Int)+1)),(5,.int .i64 (Zc n.net r k)),(1,.slice A r.length cap),(2,.pointer (some ⟨g,0,none⟩))]) (λ_=>netB g n::H) (λk=>k+1<=r.length) (λk=>r.length-k) 0 hlen.1 ?_ (λw hw=>hw) ?_
 ·exact zc1
 intro k hk K hK
 have hbd:=Ybj hok r k
 by_cases hlt:k+1<r.length
 ·have hgk:=Xa (l:=r) (i:=k) (by omega)
  have hgk1:=Xa (l:=r) (i:=k+1) (by omega)
  have ei:((k:Int)+1-1).toNat=k:=by omega
  have ei1:((k:Int)+1).toNat=k+1:=by omega
  rw[<-ei]at hgk
  rw[<-ei1]at hgk1
  have hgood:=YbT hbr hlt
  have hf:=JD hgood
  have hfl:=XR hf
  have e7:n.net.links=n.links:=rfl
  rw[e7]at hfl
  have hlx:n.links[(Yt n.net (r.getD k 0) (r.getD (k+1) 0)).toNat]? =some (lnk n.net (Yt n.net (r.getD k 0) (r.getD (k+1) 0)).toNat):=OL n.net hfl
  have hlo:=US hok (r.getD k 0) (r.getD (k+1) 0)
  have hidx:=λ{w:World}(hw:St B w0 (netB g n::H) w)=>Zv n (r.getD k 0) (r.getD (k+1) 0) (hin.cons (X:=netB g n)) hw
  unfold Zn at hidx
  rw[Tf (by simp[hck])]at hidx
  obtain⟨fi,hfi⟩:∃fi,Yt n.net (r.getD k 0) (r.getD (k+1) 0)=fi:=⟨_,rfl⟩
  obtain⟨lo,hlo2⟩:∃lo,Jq n.net (r.getD k 0) (r.getD (k+1) 0)=lo:=⟨_,rfl⟩
  have hst:Zc n.net r (k+1)=Zc n.net r k+(lo+1):=by rw[<-hlo2];rfl
  have hlo3:(lnk n.net fi.toNat).2.2=lo:=by rw[<-hfi];exact hlo2
  rw[hfi]at hidx hf hfl hlx
  rw[hlo2]at hlo
  rw[ei]at hgk
  rw[ei1]at hgk1
  obtain⟨lk,hlkk⟩:∃lk,lnk n.net fi.toNat=lk:=⟨_,rfl⟩
  rw[hlkk]at hlx hlo3
  rw[<-hlo3]at hlo
  have hgk':r[((k:Int)+1-1).toNat]? =some (r.getD k 0):=by rw[ei];exact hgk
  have hgk1':r[((k:Int)+1).toNat]? =some (r.getD (k+1) 0):=by rw[ei1];exact hgk1
  repeat'(first|((first|apply Ya Xw|apply Yb Xw);exact za;exact rfl;exactλ_ hw=>(hidx hw))|(apply zg28;refine zs84 ?_)|refine zgd ?_|(refine zge ?_ ?_<;>intro _<;>try exact zo)|fail)
  apply hK (k+1)
  ·omega
  ·omega
  ·rw[hst,<-hlo3];exact zc1
  exact zc17
 exact zc32
theorem Yn6(n:NetM)(r:List Int)(hin:n.In B w0 H)(hr:Rd B w0 H A (r.flatMap numF))(hlen:r.length<=9223372036854775807)(hcap:r.length<=cap)(hw:St B w0 H w):
 CX B w0 146 [n.val,.slice A r.length cap] w λv K=>v=.tuple #[.int .i64 (Yik n.net r).1,.int .i64 (Yik n.net r).2]/\K=H:=by
 refine Yc Tryz.func146 Tryz.ntmps146 rfl rfl hw ?_
 unfold Yik
 by_cases h0:Yo n.net=0
 rotate_left
 ·rw[Tn h0]
  refine zX51 ?_<;>intros
  (repeat apply Yj);exact zc40
 rw[Tf (λh=>h h0)]
 have hck:=λ{H:List HP}{w:World}(hin:n.In B w0 H) (hw:St B w0 H w)=>Xb n hin hw
 rw[h0]at hck
 dsimp only
 have hf:=λ{H:List HP}{w:World}(s t:Int) (hin:n.In B w0 H) (hr:Rd B w0 H A (r.flatMap numF)) (hw:St B w0 H w)=>YdF n s t r (cap:=cap) hin h0 hr hlen hcap hw
 by_cases hz:r.length=0
 ·have hf0:Um n.net (r.getD 0 0) (r.getD (r.length-1) 0) r=9:=by unfold Um;rw[Tn (by omega)]
  have hf1:Um n.net 0 0 r=9:=by unfold Um;rw[Tn (by omega)]
  have hff:=λ{H:List HP}{w:World}(hin:n.In B w0 H) (hr:Rd B w0 H A (r.flatMap numF)) (hw:St B w0 H w)=>hf 0 0 hin hr hw
  rw[hf1]at hff
  rw[hf0,Tn (by decide)]
  repeat'(first|((first|apply Ya en82|apply Yb en82);exact za;exact rfl;exactλ_ hw=>(hck hin.cons hw))|((first|apply Ya Yb2|apply Yb Yb2);exact za;exact rfl;exactλ_ hw=>(hff hin.cons hr.cons hw))|refine zgb ?_|(refine zgf ?_ ?_<;>intro _<;>try exact zo)|(refine zgh ?_;intro _)|fail)
  (repeat apply Yj);exact zc8
 ·have hg0:=Xa (l:=r) (i:=0) (by omega)
  have hg1:=Xa (l:=r) (i:=r.length-1) (by omega)
  have hgi:((r.length:Int)-1).toNat=r.length-1:=by omega
  rw[<-hgi]at hg1
  have hff:=λ{H:List HP}{w:World}(hin:n.In B w0 H) (hr:Rd B w0 H A (r.flatMap numF)) (hw:St B w0 H w)=>hf (r.getD 0 0) (r.getD (r.length-1) 0) hin hr hw
  obtain⟨e,he⟩:∃e,Um n.net (r.getD 0 0) (r.getD (r.length-1) 0) r=e:=⟨_,rfl⟩
  rw[he]at hff
  rw[he]
  rw[<-hgi]at hff
  by_cases hez:e=0
  ·subst hez
   obtain⟨⟨f1,f2⟩,_,_,_,f3⟩:=YaB he
   rw[Tf (by simp)]
   repeat'(first|((first|apply Ya en82|apply Yb en82);exact za;exact rfl;exactλ_ hw=>(hck hin.cons hw))|((first|apply Ya Yb2|apply Yb Yb2);exact za;exact rfl;exactλ_ hw=>(hff hin.cons hr.cons hw))|((first|apply Ya YuH|apply Yb YuH);exact za;exact rfl;exactλ_ hw=>(YoG n r hin.cons h0 f3 hr.cons (by omega) hw))|refine zgd ?_|(refine zgf ?_ ?_<;>intro _<;>try exact zo)|(refine zgh ?_;intro _)|fail)
   (repeat apply Yj);exact zc8
  ·rw[Tn hez]
   repeat'(first|((first|apply Ya en82|apply Yb en82);exact za;exact rfl;exactλ_ hw=>(hck hin.cons hw))|((first|apply Ya Yb2|apply Yb Yb2);exact za;exact rfl;exactλ_ hw=>(hff hin.cons hr.cons hw))|refine zgd ?_|(refine zgf ?_ ?_<;>intro _<;>try exact zo)|(refine zgh ?_;intro _)|fail)
   (repeat apply Yj);exact zc8
theorem YcX(n:NetM)(s t:Int)(r:List Int)(hin:n.In B w0 H)(hr:Rd B w0 H A (r.flatMap numF))(hlen:r.length<=9223372036854775807)(hcap:r.length<=cap)(hw:St B w0 H w):
 CX B w0 339 [n.val,.int .i64 s,.int .i64 t,.slice A r.length cap] w λv K=>v=.int .i64 (ZH n.net s t r)/\K=H:=by
 refine Yc Tryz.func339 Tryz.ntmps339 rfl rfl hw ?_
 unfold ZH
 by_cases h0:XW n.net s t=0
 ·have hck:Yo n.net=0:=by
   unfold XW at h0
   omega
  have hen:=λ{H:List HP}{w:World}(hin:n.In B w0 H) (hw:St B w0 H w)=>V4 n s t hin hw
  rw[h0]at hen
  rw[Tf (λh=>h h0)]
  repeat'(first|((first|apply Ya QE|apply Yb QE);exact za;exact rfl;exactλ_ hw=>(hen hin.cons hw))|((first|apply Ya Yb2|apply Yb Yb2);exact za;exact rfl;exactλ_ hw=>(YdF n s t r hin.cons hck hr.cons hlen hcap hw))|refine zgb ?_|(refine zge ?_ ?_<;>intro _<;>try exact zo)|(refine zgh ?_;intro _)|fail)
  (repeat apply Yj);exact zc11
 ·rw[Tn h0]
  repeat'(first|((first|apply Ya QE|apply Yb QE);exact za;exact rfl;exactλ_ hw=>(V4 n s t hin.cons hw))|refine zgb ?_|(refine zge ?_ ?_<;>intro _<;>try exact zo)|(refine zgh ?_;intro _)|fail)
  (repeat apply Yj);exact zc11
end Go.Proofs.YtaholidehobiiaaGreatDoor
namespace Go.Eng
open Go.RowKit
def subL(i k:Nat)(l:List Value):List Value:=(l.drop i).take k
section
variable {P:Program}{B:Nat}{w0:World}{Q:Exit->Act->World->Prop}{env:Env}{H:List HP}{m:Mode}{n:Shp}{ops:Array Oper}{rest:List Oper}{d:Nat}{ty:TypeId}{pos:String}{after:Array Edge}
variable {t:Nat}
theorem Yk(T:Tab P){g i k:Nat}{cs:Array Value}{vs:List Value}{tt:TypeId}{fr:Nat×Nat}{x:Operand}(hx:evo env x=some (.pointer (some ⟨g,i,none⟩)))(hm:blk g (.cells cs tt fr)∈H)
 (ht:look T.ag t=some k) (hv:subL i k cs.toList=vs) (hk:Nat.beq vs.length k=true) (hn:Nat.ble (d+1) n.k=true) (h:VL P m n B w0 ops Q rest ((d,.agg vs.toArray)::env) H):
 VL P m n B w0 ops Q (⟨some d,.load t x,ty,pos,after,none⟩::rest) env H:=by
 refine Yiw T hx hm ht (Nat.eq_of_beq_eq_true hk) (λj v hj=>?_) hn h
 rw[<-hv,subL,SE]at hj
 split at hj
 ·rw[RI]at hj
  simpa using hj
 ·cases hj
end
def YiW(l:List Oper)(k s:Nat):Bool:=match l[k]? with
 |some o=>match o.op with
  |.call c=>match c.callee with
   |.value (.tmp t)=>Nat.beq t s
   |_=>false
  |_=>false
 |none=>false
section
variable {P:Program}{B:Nat}{w0:World}{Q:Exit->Act->World->Prop}{env:Env}{H:List HP}
variable {n id r:Nat}{ds:List Deferred}{l l1 l2:List Oper}
theorem Yiq(k s:Nat)(_ho:YiW l k s=true)(h1:l.take k=l1)(h2:l.drop k=l2)(hlo:¬LetsOut Q)(h:VL P none ⟨n,ds,none⟩ B w0 l.toArray (YQ P l.toArray Q l2) l1 env H):
 VC P ⟨n,ds,none⟩ B w0 (.region id l.toArray false) Q env H:=Yc1 k h1 h2 hlo h
theorem YgZ(k s:Nat)(_ho:YiW l k s=true)(h1:l.take k=l1)(h2:l.drop k=l2)(h:VL P none ⟨n,ds,some r⟩ B w0 l.toArray (YQr P r l.toArray Q l2) l1 env H):
 VC P ⟨n,ds,some r⟩ B w0 (.region id l.toArray false) Q env H:=Yip k h1 h2 h
end
section
variable {P:Program}{B:Nat}{w0:World}{env:Env}{H:List HP}
variable {n:Nat}{fn:Func}
theorem Yn8{gf:Nat}{c:Code}{lb:List Value}{xs:List (List Value)}{HI:List HP}(hf:P.funcs[gf]? =some fn)(hn:fn.ntmps=n)(hb:fn.body=some c)(hle:Nat.ble (lb.length+1) n=true)
 (h:∀(l:Nat) (S:Nat->List HP->Prop) (X:List HP->Prop),
  (∀(i:Nat) (args:List Value),xs[i]? =some args->∀(Y L:List HP),S i L->
   Yc9 P l args B w0 (Y++many L::HI) (λK=>∃L',S (i+1) L'/\K=Y++many L'::HI) (λK=>∃L',X L'/\K=Y++many L'::HI))->
  ∀L0,S 0 L0->VC P ⟨n,[],none⟩ B w0 c (bodyPostM Fence.wide 0 P fn (Post B w0 λ_ K=>(∃L,S xs.length L/\K=many L::HI)\/∃L,X L/\K=many L::HI)) (Ow 0 (.func (.yield l) #[] #[]::lb)) (many L0::HI)):YcZ P gf lb xs B w0 HI:=by
 intro l S X hy L0 h0 w hw
 exact callsIn_wide.2 (Zr (args:=.func (.yield l) #[] #[]::lb) hf hn hb hle hw (h l S X hy L0 h0))
variable {ds:List Deferred}
theorem Ytb{R:Ending->World->Prop}(h:VQ ⟨n,ds,none⟩ B w0 (bodyPostM Fence.wide 0 P fn R) .ret env H):VQ ⟨n,ds,none⟩ B w0 (bodyPostM Fence.wide 0 P fn R) .normal env H:=
 ⟨λa w ha hw=>h.run a w ha hw⟩
end
variable {H:List HP}{n t r:Nat}{fn:Func}
theorem Yhd{P:Program}{B:Nat}{w0:World}{env:Env}{Φ:Value->List HP->Prop}{u s:Nat}{v x y z:Value}(hr:fn.results=#[.tmp t,.tmp u,.tmp s,.tmp r])(hv:get env t=some v)(hx:get env u=some x)(hy:get env s=some y)(hz:get env r=some z)(h:Φ (.tuple #[v,x,y,z]) H):
 VQ ⟨n,[],none⟩ B w0 (bodyPost P fn (Post B w0 Φ)) .ret env H:=
 ⟨λa w ha hw=>bodyPost_ret (v:=.tuple #[v,x,y,z]) (by simp[results,hr,Array.getD_eq_getD_getElem?,ha.slot t v hv,ha.slot u x hx,ha.slot s y hy,ha.slot r z hz]) ha.defers ⟨_,H,rfl,hw,h⟩⟩
theorem YpM{X:HP}(h:X∈H):∃R,Perm H [X,many R]/\Perm [X,many R] H:=by
 obtain⟨s,t,rfl⟩:=List.append_of_mem h
 exact⟨s++t,(Perm.closeT _).trans (Perm.pull X s t []),(Perm.push X s t []).trans (Perm.openT _)⟩
end Go.Eng
namespace Go.Proofs.YtaholidehobiiaaGreatDoor
open Go.RowKit Go.Eng Go.Nw Go.Rt
abbrev Rqs:=Flw×List (List Int)
structure Clm where
 flow:Int
 routes:List (List Int)
 bounds:List Int
 worst:List Int
 slots:List (List Int)
deriving DecidableEq
def Yx5:Clm:=⟨0,[],[],[],[]⟩
def Y0(q:List Rqs):List Flw:=q.map Prod.fst
def YkP:Rqs:=((0,0,0,0,0,0),[])
def rqAt(q:List Rqs)(i:Nat):Rqs:=q.getD i YkP
def rtAt(l:List (List Int))(k:Nat):List Int:=l.getD k []
def rtsE(n:Net)(x:Rqs):Int:=
 if x.2.length=0 then 14 else if 2<x.2.length then 8
 else if(YZ (λk=>ZH n x.1.2.1 x.1.2.2.1 (rtAt x.2 k)) x.2.length 0).2≠0 then(YZ (λk=>ZH n x.1.2.1 x.1.2.2.1 (rtAt x.2 k)) x.2.length 0).2
 else if x.2.length=2/\rtAt x.2 0=rtAt x.2 1 then 6 else 0
def rqsE(n:Net)(q:List Rqs):Int×Int:=
 if Yo n≠0 then(-1,1)else if(Yu n.nodes (Y0 q)).2≠0 then Yu n.nodes (Y0 q)
 else YZ (λi=>rtsE n (rqAt q i)) q.length 0
def badR(n:Net)(s:Sch)(f:Flw)(r:List Int):Bool:=decide ((Xl n s f r).2≠0\/f.2.2.2.2.2<(Xl n s f r).1.1)
def Yi0(n:Net)(s:Sch)(x:Rqs)(l:List (List Int)):Clm:=
 ⟨x.1.1,l,l.map λr=>(Xl n s x.1 r).1.1,l.map λr=>(Xl n s x.1 r).1.2.1,l.map λr=>(Xl n s x.1 r).1.2.2⟩
def JG(n:Net)(s:Sch)(x:Rqs):Bool:=x.2.any (badR n s x.1)
def clmE(n:Net)(s:Sch)(x:Rqs):Clm:=Yi0 n s x x.2
def YN(n:Net)(q:List Rqs)(s:Sch):List Clm×(Int×Int):=
 if(rqsE n q).2≠0 then([],rqsE n q)else if(schE n (Y0 q) s).2≠0 then([],(-1,1))
 else if(YZ (λi=>if JG n s (rqAt q i)=true then 15 else 0) q.length 0).2≠0 then([],YZ (λi=>if JG n s (rqAt q i)=true then 15 else 0) q.length 0)
 else(q.map (clmE n s),(-1,0))
def Uh(c:List Clm)(i:Nat):Clm:=c.getD i Yx5
def chkE(n:Net)(q:List Rqs)(s:Sch)(c:List Clm):Int×Int:=
 if(YN n q s).2.2≠0 then(YN n q s).2 else if c.length≠(YN n q s).1.length then(-1,11)
 else YZ (λi=>if Uh c i=Uh (YN n q s).1 i then 0 else 20) c.length 0
structure WayM where
 n:NetM
 s:SchM
 f:Flw
 A:Option Addr
 cap:Nat
 r:List Int
def WayM.val(x:WayM):Value:=.agg #[.int .i64 x.n.nodes,.slice x.n.pA x.n.rows.length x.n.pcap,.int .i64 x.n.noise,.int .i64 x.n.thr,.slice x.n.lA x.n.links.length x.n.lcap,.slice x.n.mA x.n.margin.length x.n.mcap,.int .i64 x.s.len,.int .i64 x.s.off,.slice x.s.A x.s.cells.length x.s.cap,.int .i64 x.f.1,.int .i64 x.f.2.1,.int .i64 x.f.2.2.1,.int .i64 x.f.2.2.2.1,.int .i64 x.f.2.2.2.2.1,.int .i64 x.f.2.2.2.2.2,.slice x.A x.r.length x.cap,.int .i64 0]
abbrev wayB(g:Nat)(x:WayM):HP:=blk g (.cells #[.int .i64 x.n.nodes,.slice x.n.pA x.n.rows.length x.n.pcap,.int .i64 x.n.noise,.int .i64 x.n.thr,.slice x.n.lA x.n.links.length x.n.lcap,.slice x.n.mA x.n.margin.length x.n.mcap,.int .i64 x.s.len,.int .i64 x.s.off,.slice x.s.A x.s.cells.length x.s.cap,.int .i64 x.f.1,.int .i64 x.f.2.1,.int .i64 x.f.2.2.1,.int .i64 x.f.2.2.2.1,.int .i64 x.f.2.2.2.2.1,.int .i64 x.f.2.2.2.2.2,.slice x.A x.r.length x.cap,.int .i64 0] 276 (0,0))
structure WayM.In(B:Nat)(w0:World)(H:List HP)(x:WayM):Prop where
 n:x.n.In B w0 H
 s:Rd B w0 H x.s.A (x.s.cells.flatMap celF)
 r:Rd B w0 H x.A (x.r.flatMap numF)
 sl:x.s.cells.length<=1000000000000
 rl:x.r.length<=1000000000000
 rc:x.r.length<=x.cap
variable {B:Nat}{w0:World}{H:List HP}{x:WayM}
theorem WayM.In.cons{X:HP}(h:x.In B w0 H):x.In B w0 (X::H):=⟨h.n.cons,h.s.cons,h.r.cons,h.sl,h.rl,h.rc⟩
theorem WayM.In.mono{H':List HP}(h:x.In B w0 H)(hH:∀w,St B w0 H' w->St B w0 H w):x.In B w0 H':=⟨h.n.mono hH,h.s.mono hH,h.r.mono hH,h.sl,h.rl,h.rc⟩
theorem YoZ{nodes:Int}{f:Flw}(h:2<=nodes/\nodes<=32):((Yu nodes [f]).2=0↔Xx nodes f=0):=by
 unfold Yu
 have e:YT nodes [f] 0=Xx nodes f:=by
  show(if Xx nodes f≠0 then Xx nodes f else if 0<0/\_ then 5 else 0)=_
  omega
 unfold YZ YZ
 grind
theorem YkK(x:WayM){w:World}(ht:TabsB B w0)(hi:x.In B w0 H)(hw:St B w0 H w):
 CX B w0 323 [x.val] w λv K=>v=.int .i64 (wayE x.n.net x.s.sch x.f x.r)/\K=H:=by
 refine Yc Tryz.func323 Tryz.ntmps323 rfl rfl hw ?_
 have p1:=λ{H':List HP}{w:World}(hin:x.n.In B w0 H') (hw:St B w0 H' w)=>Xb x.n hin hw
 have p2:=λ{H':List HP}{w:World}(hr:Rd B w0 H' x.s.A (x.s.cells.flatMap celF)) (hw:St B w0 H' w)=>WY x.s ht hr hi.sl hw
 have p3:=λ{g cap:Nat}{H':List HP}{w:World}(hm:blk g (.cells #[.int .i64 x.f.1,.int .i64 x.f.2.1,.int .i64 x.f.2.2.1,.int .i64 x.f.2.2.2.1,.int .i64 x.f.2.2.2.2.1,.int .i64 x.f.2.2.2.2.2] 53 (0,0))∈H') (hw:St B w0 H' w)=>Xe x.n.nodes [x.f] (TX rfl) (A:=some ⟨g,0,none⟩) (cap:=cap) (show Rd B w0 H' _ ([x.f].flatMap flwF) from Rd.blk hm) hw
 have p4:=λ{H':List HP}{w:World}(hin:x.n.In B w0 H') (hr:Rd B w0 H' x.A (x.r.flatMap numF)) (hw:St B w0 H' w)=>YcX x.n x.f.2.1 x.f.2.2.1 x.r (cap:=x.cap) hin hr (T9 hi.rl (by decide)) hi.rc hw
 have hn:=hi.n
 have hs:=hi.s
 have hr:=hi.r
 have hfo:=@YoZ x.n.net.nodes x.f
 have hok:=λh:Yo x.n.net=0=>(YC h).n0
 have hok1:=λh:Yo x.n.net=0=>(YC h).n1
 have hpe:(X5 x.s.sch).2=0↔XH x.s.sch=true:=by
  unfold X5
  cases hf:XH x.s.sch with
  |true=>rw[Tf (by decide)];simp
  |false=>rw[Tn rfl];simp
 unfold wayE
 rw[show x.n.net.nodes=x.n.nodes from rfl]at*
 rw[show x.s.sch.len=x.s.len from rfl]at*
 obtain⟨c,hc⟩:∃c,Yo x.n.net=c:=⟨_,rfl⟩
 obtain⟨⟨t,e⟩,he⟩:∃e,X5 x.s.sch=e:=⟨_,rfl⟩
 obtain⟨⟨i,a⟩,ha⟩:∃a,Yu x.n.nodes [x.f]=a:=⟨_,rfl⟩
 obtain⟨k,hk⟩:∃k,ZH x.n.net x.f.2.1 x.f.2.2.1 x.r=k:=⟨_,rfl⟩
 rw[hc]at p1 hok hok1⊢
 rw[he]at p2 hpe
 rw[ha]at p3 hfo
 rw[hk]at p4⊢
 dsimp only at p2 p3 hpe hfo
 unfold WayM.val
 by_cases h1:c=0
 rotate_left
 ·rw[Tn (.inl h1)]
  repeat'(first|((first|apply Ya en82|apply Yb en82);exact za;exact rfl;exactλ_ hw=>(p1 hn.cons hw))|(apply Yk T;exact rfl;exact zm;exact rfl;exact zv;exact rfl;exact rfl)|refine zgb ?_|(refine zge ?_ ?_<;>intro _<;>try exact zo)|(refine zgh ?_;intro _)|fail)
  apply Yi H
  ·exact zc0
  exact zc4
 subst h1
 have hfo:=hfo ⟨hok rfl,hok1 rfl⟩
 by_cases h2:e=0
 rotate_left
 ·rw[Tn (.inr (.inl (by cases hf:XH x.s.sch with|false=>rfl|true=>exact absurd (hpe.2 hf) h2)))]
  repeat'(first|((first|apply Ya en82|apply Yb en82);exact za;exact rfl;exactλ_ hw=>(p1 hn.cons hw))|((first|apply Ya en40|apply Yb en40);exact za;exact rfl;exactλ_ hw=>(p2 hs.cons hw))|(apply Yk T;exact rfl;exact zm;exact rfl;exact zv;exact rfl;exact rfl)|refine zgc ?_|(refine zge ?_ ?_<;>intro _<;>try exact zo)|(refine zgh ?_;intro _)|fail)
  apply Yi H
  ·exact zc0
  exact zc4
 subst h2
 have hfe:=hpe.1 rfl
 by_cases h3:a=0
 rotate_left
 ·rw[Tn (.inr (.inr (λh=>h3 (hfo.2 h))))]
  repeat'(first|((first|apply Ya en82|apply Yb en82);exact za;exact rfl;exactλ_ hw=>(p1 hn.cons hw))|((first|apply Ya en40|apply Yb en40);exact za;exact rfl;exactλ_ hw=>(p2 hs.cons hw))|((first|apply Ya en59|apply Yb en59);exact za;exact rfl;exactλ_ hw=>(p3 zm hw))|(apply Yk T;exact rfl;exact zm;exact rfl;exact zv;exact rfl;exact rfl)|refine zgc ?_|(refine zge ?_ ?_<;>intro _<;>try exact zo)|(refine zgh ?_;intro _)|fail)
  apply Yi H
  ·exact zc0
  exact zc4
 subst h3
 have hfz:=hfo.1 rfl
 rw[Tf (by rintro(h|h|h);exact h rfl;rw[hfe]at h;cases h;exact h hfz)]
 have hp1:1<=x.f.2.2.2.1:=by
  unfold Xx at hfz
  split at hfz
  ·cases hfz
  split at hfz
  ·cases hfz
  omega
 have hsz:1<=x.s.len/\x.s.len<=512:=by
  have:=Rj (ZA.1 hfe).sized
  exact⟨this.1,this.2.1⟩
 rw[RE (show 0<=x.s.len by omega)]
 by_cases h4:x.s.len%x.f.2.2.2.1=0
 rotate_left
 ·rw[Tn h4]
  repeat'(first|((first|apply Ya en82|apply Yb en82);exact za;exact rfl;exactλ_ hw=>(p1 hn.cons hw))|((first|apply Ya en40|apply Yb en40);exact za;exact rfl;exactλ_ hw=>(p2 hs.cons hw))|((first|apply Ya en59|apply Yb en59);exact za;exact rfl;exactλ_ hw=>(p3 zm hw))|(apply Yk T;exact rfl;exact zm;exact rfl;exact zv;exact rfl;exact rfl)|refine zgd ?_|(refine zge ?_ ?_<;>intro _<;>try exact zo)|(refine zgh ?_;intro _)|fail)
  apply Yi H
  ·exact zc0
  exact zc4
 rw[Tf (λh=>h h4)]
 repeat'(first|((first|apply Ya en82|apply Yb en82);exact za;exact rfl;exactλ_ hw=>(p1 hn.cons hw))|((first|apply Ya en40|apply Yb en40);exact za;exact rfl;exactλ_ hw=>(p2 hs.cons hw))|((first|apply Ya en59|apply Yb en59);exact za;exact rfl;exactλ_ hw=>(p3 zm hw))|((first|apply Ya Yf8|apply Yb Yf8);exact za;exact rfl;exactλ_ hw=>(p4 hn.cons.cons hr.cons.cons hw))|(apply Yk T;exact rfl;exact zm;exact rfl;exact zv;exact rfl;exact rfl)|refine zgd ?_|(refine zge ?_ ?_<;>intro _<;>try exact zo)|(refine zgh ?_;intro _)|fail)
 apply Yi H
 ·exact zc0
 exact zc4
variable {n:Net}{s:Sch}{f:Flw}{r:List Int}
theorem Ye0(h:wayE n s f r=0):Yo n=0/\XH s=true/\Xx n.nodes f=0/\s.len.tmod f.2.2.2.1=0/\ZH n f.2.1 f.2.2.1 r=0:=by
 unfold wayE at h
 split at h
 ·cases h
 rename_i h1
 split at h
 ·cases h
 rename_i h2
 refine⟨Nb λe=>h1 (.inl e),?_,Nb λe=>h1 (.inr (.inr e)),Rn.1 h2,h⟩
 cases hf:XH s with
 |true=>rfl
 |false=>exact absurd (.inr (.inl hf)) h1
theorem OY(h:(Xl n s f r).2=0):wayE n s f r=0/\∃b,VG n s f r=some b/\Xl n s f r=(b,0):=by
 unfold Xl at h⊢
 by_cases h1:wayE n s f r=0
 ·rw[Tf (λe=>e h1)]at h⊢
  cases hb:VG n s f r with
  |none=>rw[hb]at h;cases h
  |some b=>exact⟨h1,b,rfl,rfl⟩
 ·rw[Tn h1]at h
  exact absurd h h1
variable {q:List Rqs}{i:Nat}
theorem V6(h:i<q.length):q[i]? =some (rqAt q i):=by
 unfold rqAt;rw[Tu,Ta h];rfl
theorem Ykm(h:i<q.length):rqAt q i∈q:=Tc (V6 h)
variable {x:Rqs}
theorem YjS(h:x∈q):∃i,i<q.length/\rqAt q i=x:=by
 obtain⟨i,hi⟩:=TS.1 h
 have hl:=(Tj.1 hi).1
 exact⟨i,hl,Tv ((V6 hl).symm.trans hi)⟩
variable {l:List (List Int)}
theorem YbE(h:i<l.length):l[i]? =some (rtAt l i):=by
 unfold rtAt;rw[Tu,Ta h];rfl
theorem Ysc(h:i<l.length):rtAt l i∈l:=Tc (YbE h)
def O7(n:Net)(s:Sch)(x:Rqs):Bool:=decide (x.2.length=1\/x.2.length=2/\rtAt x.2 0≠rtAt x.2 1)&&!(JG n s x)
theorem YhB(h:JG n s x=false)(hr:r∈x.2):(Xl n s x.1 r).2=0/\(Xl n s x.1 r).1.1<=x.1.2.2.2.2.2:=by
 unfold JG at h
 rw[RD]at h
 have:=h r hr
 unfold badR at this
 rw[Tt]at this
 omega
theorem YwL(h:O7 n s x=true):rtsE n x=0:=by
 unfold O7 at h
 rw[Tq,Tt]at h
 have hl:=h.2
 simp only[RS]at hl
 have hc:(YZ (λk=>ZH n x.1.2.1 x.1.2.2.1 (rtAt x.2 k)) x.2.length 0).2=0:=YK.2 λk _ hk=>
  (Ye0 (OY (YhB hl (Ysc (l:=x.2) (i:=k) (by omega))).1).1).2.2.2.2
 unfold rtsE
 rw[Tf (by omega),Tf (by omega),Tf (λe=>e hc)]
 rw[Tf]
 rintro⟨h1,h2⟩
 rcases h.1 with h3|h3
 ·omega
 ·exact h3.2 h2
theorem YaZ(h:rtsE n x=0):x.2.length=1\/x.2.length=2/\rtAt x.2 0≠rtAt x.2 1:=by
 unfold rtsE at h
 split at h
 ·cases h
 split at h
 ·cases h
 split at h
 ·exact absurd h (by assumption)
 split at h
 ·cases h
 rename_i h1 h2 h3 h4
 by_cases h5:x.2.length=1
 ·exact .inl h5
 ·exact .inr ⟨by omega,λe=>h4 ⟨by omega,e⟩⟩
theorem XC:(YN n q s).2.2=0↔(schE n (Y0 q) s).2=0/\∀x∈q,O7 n s x=true:=by
 constructor
 ·intro h
  unfold YN at h
  by_cases h1:(rqsE n q).2=0
  rotate_left
  ·rw[Tn h1]at h;exact absurd h h1
  rw[Tf (λe=>e h1)]at h
  by_cases h2:(schE n (Y0 q) s).2=0
  rotate_left
  ·rw[Tn h2]at h;cases h
  rw[Tf (λe=>e h2)]at h
  by_cases h3:(YZ (λi=>if JG n s (rqAt q i)=true then 15 else 0) q.length 0).2=0
  rotate_left
  ·rw[Tn h3]at h;exact absurd h h3
  refine⟨h2,λx hx=>?_⟩
  obtain⟨i,hi,rfl⟩:=YjS hx
  have h4:=YK.1 h3 i (Tm _) (by omega)
  have hl:JG n s (rqAt q i)=false:=by
   cases hb:JG n s (rqAt q i)with
   |false=>rfl
   |true=>simp only[hb,Tn]at h4;cases h4
  have h5:rtsE n (rqAt q i)=0:=by
   have hw:=Uy (XT.1 h2).whole
   unfold rqsE at h1
   rw[Tf (λe=>e hw.1),Tf (λe=>e hw.2.1)]at h1
   exact YK.1 h1 i (Tm _) (by omega)
  unfold O7
  rw[hl,Td (YaZ h5)];rfl
 ·rintro⟨h2,h3⟩
  have hw:=Uy (XT.1 h2).whole
  have h1:(rqsE n q).2=0:=by
   unfold rqsE
   rw[Tf (λe=>e hw.1),Tf (λe=>e hw.2.1)]
   exact YK.2 λi _ hi=>YwL (h3 _ (Ykm (by omega)))
  have h4:(YZ (λi=>if JG n s (rqAt q i)=true then 15 else 0) q.length 0).2=0:=YK.2 λi _ hi=>by
   have:=h3 _ (Ykm (q:=q) (i:=i) (by omega))
   unfold O7 at this
   rw[Tq]at this
   have hl:=this.2
   simp only[RS]at hl
   rw[Tf (by rw[hl];decide)]
  unfold YN
  rw[Tf (λe=>e h1),Tf (λe=>e h2),Tf (λe=>e h4)]
theorem Ytm(h:(YN n q s).2.2=0):YN n q s=(q.map (clmE n s),(-1,0)):=by
 unfold YN at h⊢
 split
 ·rename_i h1;rw[Tn h1]at h;exact absurd h h1
 rename_i h1
 rw[Tf h1]at h
 split
 ·rename_i h2;rw[Tn h2]at h;cases h
 rename_i h2
 rw[Tf h2]at h
 split
 ·rename_i h3;rw[Tn h3]at h;exact absurd h h3
 rfl
structure Oa(x:WayM):Prop where
 ck:Yo x.n.net=0
 len:2<=x.r.length/\x.r.length<=9
 good:∀i,i+1<x.r.length->Yz x.n.net (x.r.getD i 0) (x.r.getD (i+1) 0)=true
 per:1<=x.f.2.2.2.1/\x.f.2.2.2.1<=512
 ph:0<=x.f.2.2.2.2.1/\x.f.2.2.2.2.1<x.f.2.2.2.1
 slen:1<=x.s.len/\x.s.len<=512
 few:x.s.cells.length<=512
variable {n:Net}{r:List Int}
theorem Vc{s t:Int}(h:ZH n s t r=0):Yo n=0/\(2<=r.length/\r.length<=9)/\∀i,i+1<r.length->Yz n (r.getD i 0) (r.getD (i+1) 0)=true:=by
 unfold ZH at h
 by_cases h0:XW n s t=0
 rotate_left
 ·omega
 rw[Tf (λe=>e h0)]at h
 have hck:Yo n=0:=by
  unfold XW at h0
  omega
 obtain⟨h1,_,_,_,h2⟩:=YaB h
 grind [Jd]
theorem Yii{x:WayM}(h:wayE x.n.net x.s.sch x.f x.r=0):Oa x:=by
 obtain⟨_,h2,h3,_,h5⟩:=Ye0 h
 obtain⟨k1,k2,k3⟩:=Vc h5
 have hfr:=ZA.1 h2
 have hsz:=Rj hfr.sized
 unfold Xx at h3
 split at h3
 ·cases h3
 split at h3
 ·cases h3
 exact⟨k1,k2,k3,by omega,by omega,⟨hsz.1,hsz.2.1⟩,hfr.few⟩
def Vh(x:WayM):List (List Value):=(Yp x.n.net x.r).map λl=>[lkV l]
theorem Q5{i:Nat}(h:i+1<r.length):(Yp n r)[i]? =some (Z4 n r i):=by
 grind [Yp]
theorem WS:(Yp n r).length=r.length-1:=by grind [Yp]
variable {B:Nat}{w0:World}
theorem Ycg(x:WayM)(g:Nat)(hok:Oa x){HI:List HP}(hi:x.In B w0 HI)(hm:wayB g x∈HI):
 YcZ Tryz.prog 386 [.pointer (some ⟨g,0,none⟩)] (Vh x) B w0 HI:=by
 refine Yc0 Tryz.func386 Tryz.ntmps386 rfl rfl ?_
 intro l SS X hy L0 h0
 have hck:=hok.ck
 have hlen:=hok.len
 have p1:=λ{H':List HP}{w:World}(a b:Int) (hin:x.n.In B w0 H') (hw:St B w0 H' w)=>Zv x.n a b hin hw
 have hix:∀a b:Int,Zn x.n.net a b=Yt x.n.net a b:=λa b=>by simp_all [Zn]
 unfold wayB at hm
 refine zX8 ?_
 refine Yg (λ(y:Nat×List HP)=>[(3,.int .i64 (y.1+1:Nat)),(0,.func (.yield l) #[] #[]),(1,.pointer (some ⟨g,0,none⟩))]) (λy=>many y.2::HI) (λy=>y.1+1<=x.r.length/\SS y.1 y.2) (λy=>x.r.length-1-y.1) (0,L0) ⟨by omega,h0⟩ ?_ (λw hw=>hw) ?_
 ·exact zc1
 rintro⟨i,L⟩ ⟨hile,hS⟩ K hK
 dsimp only at hile hS⊢
 by_cases hlt:i+1<x.r.length
 ·have hg:=hok.good i hlt
  have hf:=JD hg
  have hfl:=XR hf
  have hlx:x.n.links[(Yt x.n.net (x.r.getD i 0) (x.r.getD (i+1) 0)).toNat]? =some (lnk x.n.net (Yt x.n.net (x.r.getD i 0) (x.r.getD (i+1) 0)).toNat):=OL x.n.net hfl
  have hla:Z4 x.n.net x.r i=lnk x.n.net (Yt x.n.net (x.r.getD i 0) (x.r.getD (i+1) 0)).toNat:=rfl
  have hg0:=Xa (l:=x.r) (i:=i) (by omega)
  have hg1:=Xa (l:=x.r) (i:=i+1) (by omega)
  have hgi:((((i+1:Nat):Int)-1).toNat)=i:=by omega
  have hgi1:(((i+1:Nat):Int).toNat)=i+1:=by omega
  have hll:(Yt x.n.net (x.r.getD i 0) (x.r.getD (i+1) 0)).toNat<x.n.links.length:=hfl
  have p2:=λ{H':List HP}{w:World}(hin:x.n.In B w0 H') (hw:St B w0 H' w)=>p1 (x.r.getD i 0) (x.r.getD (i+1) 0) hin hw
  rw[hix]at p2
  have hx:(Vh x)[i]? =some [lkV (Z4 x.n.net x.r i)]:=by
   unfold Vh;rw[TR,Q5 hlt];rfl
  rw[hla]at hx
  obtain⟨a,ha⟩:∃a,x.r.getD i 0=a:=⟨_,rfl⟩
  obtain⟨b,hb⟩:∃b,x.r.getD (i+1) 0=b:=⟨_,rfl⟩
  rw[ha]at hg0 p2 hlx hll hf hx
  rw[hb]at hg1 p2 hlx hll hf hx
  obtain⟨z,hz⟩:∃z,Yt x.n.net a b=z:=⟨_,rfl⟩
  rw[hz]at p2 hlx hll hf hx
  obtain⟨lk,hlk⟩:∃k,lnk x.n.net z.toNat=k:=⟨_,rfl⟩
  rw[hlk]at hlx hx
  obtain⟨R,hR1,hR2⟩:=YpM hm
  have hg0i:x.r[(((i+1:Nat):Int)-1).toNat]? =some a:=by rw[hgi];exact hg0
  have hg1i:x.r[((i+1:Nat):Int).toNat]? =some b:=by rw[hgi1];exact hg1
  have hwb:∀w,St B w0 (many L::(blk g (.cells #[.int .i64 x.n.nodes,.slice x.n.pA x.n.rows.length x.n.pcap,.int .i64 x.n.noise,.int .i64 x.n.thr,.slice x.n.lA x.n.links.length x.n.lcap,.slice x.n.mA x.n.margin.length x.n.mcap,.int .i64 x.s.len,.int .i64 x.s.off,.slice x.s.A x.s.cells.length x.s.cap,.int .i64 x.f.1,.int .i64 x.f.2.1,.int .i64 x.f.2.2.1,.int .i64 x.f.2.2.2.1,.int .i64 x.f.2.2.2.2.1,.int .i64 x.f.2.2.2.2.2,.slice x.A x.r.length x.cap,.int .i64 0] 276 (0,0)))::[many R]) w->St B w0 (many L::HI) w:=λw hw=>hw.perm (Perm.cons _ hR2)
  have hl0:0<=lk.2.2/\lk.2.2<=7:=by
   have h1:=(YC hck).lk z.toNat hll
   rw[<-hlk];exact⟨h1.l0,h1.l1⟩
  have hiK:x.In B w0 [wayB g x,many R]:=hi.mono λw hw=>hw.perm hR2
  have hrr:=hiK.r
  have hlr:=hiK.n.lk
  unfold wayB at hiK hrr hlr
  refine ZW (blk g (.cells #[.int .i64 x.n.nodes,.slice x.n.pA x.n.rows.length x.n.pcap,.int .i64 x.n.noise,.int .i64 x.n.thr,.slice x.n.lA x.n.links.length x.n.lcap,.slice x.n.mA x.n.margin.length x.n.mcap,.int .i64 x.s.len,.int .i64 x.s.off,.slice x.s.A x.s.cells.length x.s.cap,.int .i64 x.f.1,.int .i64 x.f.2.1,.int .i64 x.f.2.2.1,.int .i64 x.f.2.2.2.1,.int .i64 x.f.2.2.2.2.1,.int .i64 x.f.2.2.2.2.2,.slice x.A x.r.length x.cap,.int .i64 0] 276 (0,0))::many L::[many R]) (λw hw=>hw.perm ((Perm.cons _ hR1).trans (Perm.swap _ _ _))) ?_
  refine zX3 ?_<;>intros
  apply ZN (.n1 0 (.n1 1 (.n1 2 (.n1 3 (.n1 4 (.n1 5 (.n1 6 (.n1 7 (.n1 8 (.n1 9 (.n1 10 (.n1 11 (.n1 12 (.n1 13 (.n1 14 (.n1 15 (.n2 16 (.n1 17 (.n1 18 (.n1 19 .done))) 19 (.n1 16 (.n1 17 (.n1 18 .done)))))))))))))))))))) [20] [true,false,true]
  kernel_rfl
  kernel_rfl
  exact zy
  (simp only[Yh,nthO];rfl)
  repeat'(first|(apply Yk T;exact rfl;exact zm;exact rfl;exact zv;exact rfl;exact rfl)|(apply Yl;try exact zl)|apply(zs91 ?_ ?_)|(apply YG;try exact zl)|refine zgd ?_|(refine zgh ?_;intro _)|fail)
  all_goals(
   first|apply Ya Xw|apply Yb Xw
   exact za
   exact rfl
   exactλ_ hw=>(p2 (hiK.mono zk).n hw)
   repeat'(first|(refine Yiq 2 37 rfl rfl rfl (by rintro⟨_,_,_,_,h,_⟩;cases h) ?_)|(apply Yl;try exact zl)|(apply YG;try exact zl)|refine zgd ?_|(refine zgh ?_;intro _)|fail)
   rename_i g5
   rw[show lk.2.2+0=lk.2.2 from Md _]
   apply Yi (blk g5 (.cells #[.int .i64 lk.1,.int .i64 lk.2.1,.int .i64 lk.2.2] 140 (0,0))::many L::HI)
   ·intro w hw
    have h5:St B w0 (blk g5 (.cells #[.int .i64 lk.1,.int .i64 lk.2.1,.int .i64 lk.2.2] 140 (0,0))::many L::blk g (.cells #[.int .i64 x.n.nodes,.slice x.n.pA x.n.rows.length x.n.pcap,.int .i64 x.n.noise,.int .i64 x.n.thr,.slice x.n.lA x.n.links.length x.n.lcap,.slice x.n.mA x.n.margin.length x.n.mcap,.int .i64 x.s.len,.int .i64 x.s.off,.slice x.s.A x.s.cells.length x.s.cap,.int .i64 x.f.1,.int .i64 x.f.2.1,.int .i64 x.f.2.2.1,.int .i64 x.f.2.2.2.1,.int .i64 x.f.2.2.2.2.1,.int .i64 x.f.2.2.2.2.2,.slice x.A x.r.length x.cap,.int .i64 0] 276 (0,0))::[many R]) w:=by
     revert w
     exact zk
    exact h5.perm (Perm.cons _ (Perm.cons _ hR2))
   have hY:=hy _ _ hx [blk g5 (.cells #[.int .i64 lk.1,.int .i64 lk.2.1,.int .i64 lk.2.2] 140 (0,0))] L hS
   apply Yc8 _ _ (hy:=hY)
   ·exact Ycu
   ·exact rfl
   ·exact za
   ·exact rfl
   ·rintro⟨_,_,_,_,h,_⟩;cases h
   ·rintro _ ⟨L',hS',rfl⟩
    repeat'(first|refine zgd ?_|fail)
    apply hK (i+1,L')
    ·exact⟨by show i+1+1<=_;omega,hS'⟩
    ·dsimp only;omega
    ·exact zu
    ·exactλw hw=>hw.tail
   ·rintro _ ⟨L',hX',rfl⟩
    repeat'(first|refine zgd ?_|fail)
    apply Yi (many L'::HI)
    ·exactλw hw=>hw.tail
    apply WH;exact rfl
    exact .inr ⟨L',hX',rfl⟩)
 ·refine zX1 ?_<;>intros
  apply Vq;exact rfl
  have hl0:i=(Vh x).length:=by unfold Vh;rw[TB,WS];omega
  rw[hl0]at hS
  exact .inl ⟨L,hS,rfl⟩
def Yuk(g:Nat):Value:=.func (.func 386) #[] #[.pointer (some ⟨g,0,none⟩)]
theorem Yd7(x:WayM){H:List HP}{w:World}(hw:St B w0 H w):
 CX B w0 326 [x.val] w λv K=>∃g,v=Yuk g/\K=wayB g x::H:=by
 refine Yc Tryz.func326 Tryz.ntmps326 rfl rfl hw ?_
 repeat'(first|((refine zs52 ?_;intro _))|((apply Yw;exact za;exact rfl))|refine zga ?_|fail)
 apply Yd;exact rfl;exact rfl
 exact⟨_,rfl,rfl⟩
variable {B i:Nat}{w0 w:World}{H:List HP}
theorem YiY(x:WayM)(l:Lk)(g gl:Nat)(c:Cel)(hm:wayB g x∈H)(hml:blk gl (.cells #[.int .i64 l.1,.int .i64 l.2.1,.int .i64 l.2.2] 140 (0,0))∈H)(hw:St B w0 H w):
 CX B w0 387 [celV c,.pointer (some ⟨g,0,none⟩),.pointer (some ⟨gl,0,none⟩)] w λv K=>v=.bool (!(onP x.f.1 l.1 l.2.1 c))/\K=H:=by
 refine Yc Tryz.func387 Tryz.ntmps387 rfl rfl hw ?_
 unfold wayB at hm
 have hb:onP x.f.1 l.1 l.2.1 c=true↔c.2.2.2.2=x.f.1/\c.2.2.1=l.1/\c.2.2.2.1=l.2.1:=by unfold onP Xf YE toC;simp_all
 obtain⟨b,hbe⟩:∃b,onP x.f.1 l.1 l.2.1 c=b:=⟨_,rfl⟩
 rw[hbe]at hb⊢
 repeat'(first|refine zgd ?_|(refine zge ?_ ?_<;>intro _<;>try exact zo)|(refine zgh ?_;intro _)|fail)
 all_goals(
  apply Yi H
  ·exact zk
  apply Yd;exact rfl;exact rfl
  cases b<;>simp at hb<;>first|exact⟨rfl,rfl⟩|(exfalso;omega))
theorem Yk6(x:WayM)(l:Lk)(hfew:x.s.cells.length<=1000)(hr:Rd B w0 H x.s.A (x.s.cells.flatMap celF))(hw:St B w0 H w):
 CX B w0 327 [x.val,lkV l] w λv K=>∃A cap,v=.slice A (Xq x.s.sch x.f.1 l).length cap/\K=cels A cap (Xq x.s.sch x.f.1 l)::H:=by
 refine Yc Tryz.func327 Tryz.ntmps327 rfl rfl hw ?_
 unfold WayM.val lkV
 refine zX70 ?_<;>intros
 rename_i gw gl
 apply Ye _ Yf2
 exact za
 exact rfl
 exactλ_ hw=>(JC x.s.cells (by omega) hr.cons.cons (hw))
 rintro _ _ ⟨A',cap',rfl,rfl⟩
 refine zX71 ?_
 apply Ye _ Yna
 exact za
 exact rfl
 exactλ_ hw=>(UG (λc=>!(onP x.f.1 l.1 l.2.1 c)) x.s.cells 387 [.pointer (some ⟨gw,0,none⟩),.pointer (some ⟨gl,0,none⟩)] YxH hfew (λc _ X w hw=>YiY x l gw gl c (TU _ (by simp_all)) (TU _ (by simp_all)) hw) (hw))
 rintro _ _ ⟨rfl,rfl⟩
 have e:x.s.cells.filter (λc=>!!(onP x.f.1 l.1 l.2.1 c))=Xq x.s.sch x.f.1 l:=SJ λc _=>Bool.not_not _
 rw[e]
 refine zX4 ?_
 apply Yi (cels A' cap' (Xq x.s.sch x.f.1 l)::H)
 ·exact zc0
 exact YnZ
variable {x:WayM}{l:Lk}
theorem YaL(hok:Oa x)(h:(Yp x.n.net x.r)[i]? =some l):i+1<x.r.length/\0<=l.2.2/\l.2.2<=7:=by
 have hi:=(Tj.1 h).1
 rw[WS]at hi
 have hi:i+1<x.r.length:=by omega
 rw[Q5 hi]at h
 have hg:=hok.good i hi
 have h1:=(YC hok.ck).lk _ (XR (JD hg))
 have e:=Tv h
 unfold Z4 at e
 have h2:=h1.l0;have h3:=h1.l1
 simp_all
theorem Ygt{ls:List Lk}(h:ls[i]? =some l):XD (ls.take (i+1))=XD (ls.take i)+Y7 l:=by
 grind [XD,TN]
theorem WR{args:List Value}(h:(Vh x)[i]? =some args):∃l,(Yp x.n.net x.r)[i]? =some l/\args=[lkV l]:=by
 unfold Vh at h
 grind
theorem YcN{x:WayM}(hok:Oa x):∀i,XD ((Yp x.n.net x.r).take i)<=8*i
 |0=>TJ _
 |i+1=>by
  have ih:=YcN hok i
  cases h:(Yp x.n.net x.r)[i]? with
  |none=>
   grind [T0]
  |some l=>
   rw[Ygt h]
   have:=YaL hok h
   grind [Y7]
theorem YjX(x:WayM)(hok:Oa x)(hi:x.In B w0 H)(hw:St B w0 H w):
 CX B w0 416 [x.val] w λv K=>v=.int .i64 (XD (Yp x.n.net x.r))/\K=H:=by
 refine Zr Tryz.func416 Tryz.ntmps416 rfl rfl hw ?_
 unfold WayM.val
 refine zX26 ?_<;>intros
 rename_i g gN
 apply Ye _ Yu0
 exact za
 exact rfl
 exactλ_ hw=>(Yd7 x (hw))
 rintro _ _ ⟨g2,rfl,rfl⟩
 refine zX8 ?_
 have hl9:=hok.len
 have hiK:x.In B w0 (wayB g2 x::wayB g x::H):=hi.cons.cons
 refine Zs (gf:=386) (lb:=[.pointer (some ⟨g2,0,none⟩)]) (xs:=Vh x) (wayB g2 x::wayB g x::H) (λz:Int=>[blk gN (.cells #[.int .i64 z] 3 (0,0))]) (λi z=>z=(XD ((Yp x.n.net x.r).take i):Int)) (λ_ _=>False) 0 rfl Yu9 (Ycg x g2 hok hiK (.head _)) rfl ?_ (by kernel_rfl) (by kernel_rfl) ?_ rfl ?_ ?_ (λ_ _ _ h=>h.elim)
 ·grind [TS,WR]
 ·unfold wayB
  simp only[TD,TK]
  exact zc0
 ·rintro l k args R z hk hI
  obtain⟨lk,hlk,rfl⟩:=WR hk
  have hbd:=YaL hok hlk
  have hne:=YcN hok k
  have hst:=Ygt hlk
  try dsimp only at hI
  dsimp only[U5,List.cons_append,List.nil_append]
  unfold lkV
  refine zX72 ?_<;>intros
  apply J6 (YA Ys)
  intro R'
  unfold wayB
  refine zX2 ?_
  apply UC (z+(lk.2.2+1))
  ·show z+(lk.2.2+1)=_
   rw[hI,hst]
   unfold Y7
   omega
  ·dsimp only[List.cons_append,List.nil_append]
   exact zc0
 ·rintro D z hI
  try dsimp only at hI
  have hle:(Vh x).length=(Yp x.n.net x.r).length:=by unfold Vh;exact YgW
  rw[hle,TV]at hI
  dsimp only[List.cons_append,List.nil_append]
  unfold wayB
  refine zX11 ?_
  apply Jc Ys
  apply VQ_m
  apply Yi H
  ·exact zc0
  apply Yd;exact rfl;exact rfl
  exact⟨by rw[hI],rfl⟩
open Go.RowKit Go.Eng Go.Nw
def netN(g:Nat)(n:NetM):HP:=blk g (.cells #[.int .i64 n.nodes,.slice n.pA n.rows.length n.pcap,.int .i64 n.noise,.int .i64 n.thr,.slice n.lA n.links.length n.lcap,.slice n.mA n.margin.length n.mcap] 26 (0,0))
theorem Ycy(n:NetM)(l:List Flw)(s:SchM)(hck:Yo n.net=0)(hlen:l.length<=1000)(hl:s.cells.length<=1000000000000){A:Option Addr}{cap B:Nat}{w0:World}{H:List HP}{w:World}(hin:n.In B w0 H)(hrf:Rd B w0 H A (l.flatMap flwF))(hr:Rd B w0 H s.A (s.cells.flatMap celF))(hw:St B w0 H w):
 CX B w0 85 [n.val,.slice A l.length cap,s.val] w λv K=>v=.tuple #[.int .i64 (Vb n.net l s.sch).1,.int .i64 (Vb n.net l s.sch).2]/\K=H:=by
 refine Yc Tryz.func85 Tryz.ntmps85 rfl rfl hw ?_
 have e4:s.sch.cells.length=s.cells.length:=rfl
 have hE:Vb n.net l s.sch=YZ (Ug n.net l s.sch) s.cells.length 0:=rfl
 rw[hE]
 refine zX70 ?_<;>intros
 rename_i gn gs
 refine Yg (λ(i:Nat)=>[(13,.int .i64 i),(12,.int .i64 s.cells.length),(11,.slice s.A s.cells.length s.cap),(3,.pointer (some ⟨gn,0,none⟩)),(5,.pointer (some ⟨gs,0,none⟩)),(1,.slice A l.length cap)])
  (λ_=>blk gs (.cells #[.int .i64 s.len,.int .i64 s.off,.slice s.A s.cells.length s.cap] 37 (0,0))::netN gn n::H) (λi=>i<=s.cells.length/\∀k,k<i->Ug n.net l s.sch k=0) (λi=>s.cells.length-i) 0 ⟨Tm _,λk hk=>absurd hk (RL _)⟩ ?_ (λw hw=>hw) ?_
 ·exact zc1
 rintro i ⟨hi,hall⟩ K hK
 unfold netN
 have hrc:=λ(X:HP)=>((hr.cons (X:=netN gn n)).cons (X:=blk gs (.cells #[.int .i64 s.len,.int .i64 s.off,.slice s.A s.cells.length s.cap] 37 (0,0)))).cons (X:=X)
 by_cases hlt:i<s.cells.length
 ·have hget:s.cells[i]? =some (Yn s.sch i):=Xg (s:=s.sch) hlt
  have hbad:Ug n.net l s.sch i≠0->YZ (Ug n.net l s.sch) s.cells.length 0=((i:Int),Ug n.net l s.sch i):=λh=>Zl (λk _ hk=>hall k hk) (Tm _) (by omega) h
  have hstep:Ug n.net l s.sch i=0->∀k,k<i+1->Ug n.net l s.sch k=0:=λh k hk=>by
   exact YsF
  obtain⟨c,hc⟩:∃c,Yn s.sch i=c:=⟨_,rfl⟩
  have hce:Ug n.net l s.sch i=if ZT s.sch c=false then 2 else if Yz n.net (YE c) (toC c)=false\/Z1 l (Xf c)<0 then 7 else if 0<i/\Xi (Yn s.sch (i-1)) c=false then 5 else 0:=by
   unfold Ug
   rw[hc]
  rw[hc]at hget
  have hplc:=λ{H':List HP}{w:World}(hw:St B w0 H' w)=>Yci s c hw
  cases hp:ZT s.sch c with
  |false=>
   rw[hp]at hplc
   rw[hp,Tn rfl]at hce
   rw[hbad (by rw[hce];decide),hce]
   repeat'(first|((first|apply Ya Oe|apply Yb Oe);exact za;exact rfl;exactλ_ hw=>(hplc hw))|refine zgd ?_|(refine zge ?_ ?_<;>intro _<;>try exact zo)|(refine zgh ?_;intro _)|fail)
   apply Yi H
   ·exact zc0
   exact zc8
  |true=>
  rw[hp]at hplc
  rw[hp,Tf (by decide)]at hce
  have hix:=λ{H':List HP}{w:World}(hin:n.In B w0 H') (hw:St B w0 H' w)=>Zv n c.2.2.1 c.2.2.2.1 hin hw
  have hus:=λ{H':List HP}{w:World}(hin:n.In B w0 H') (hw:St B w0 H' w)=>UA n (Zn n.net c.2.2.1 c.2.2.2.1) hin hw
  rw[YkI hck]at hus
  have hfi:=λ{H':List HP}{w:World}(hr:Rd B w0 H' A (l.flatMap flwF)) (hw:St B w0 H' w)=>YdI l c.2.2.2.2 hlen (cap:=cap) hr hw
  have hgf:Yz n.net (YE c) (toC c)=Yz n.net c.2.2.1 c.2.2.2.1:=rfl
  have hff:Z1 l (Xf c)=Z1 l c.2.2.2.2:=rfl
  by_cases hg:Yz n.net c.2.2.1 c.2.2.2.1=false\/Z1 l c.2.2.2.2<0
  ·rw[hgf,hff,Tn hg]at hce
   rw[hbad (by rw[hce];decide),hce]
   cases hgd:Yz n.net c.2.2.1 c.2.2.2.1 with
   |false=>
    rw[hgd]at hus
    repeat'(first|((first|apply Ya Oe|apply Yb Oe);exact za;exact rfl;exactλ_ hw=>(hplc hw))|((first|apply Ya Xw|apply Yb Xw);exact za;exact rfl;exactλ_ hw=>(hix hin.cons.cons.cons hw))|((first|apply Ya J4|apply Yb J4);exact za;exact rfl;exactλ_ hw=>(hus hin.cons.cons.cons hw))|(apply zg28;refine zs84 ?_)|refine zgd ?_|(refine zge ?_ ?_<;>intro _<;>try exact zo)|(refine zgh ?_;intro _)|fail)
    apply Yi H
    ·exact zc0
    exact zc8
   |true=>
    have hneg:Z1 l c.2.2.2.2<0:=hg.elim (λh=>by rw[hgd]at h;cases h) id
    rw[hgd]at hus
    repeat'(first|((first|apply Ya Oe|apply Yb Oe);exact za;exact rfl;exactλ_ hw=>(hplc hw))|((first|apply Ya Xw|apply Yb Xw);exact za;exact rfl;exactλ_ hw=>(hix hin.cons.cons.cons hw))|((first|apply Ya J4|apply Yb J4);exact za;exact rfl;exactλ_ hw=>(hus hin.cons.cons.cons hw))|((first|apply Ya en31|apply Yb en31);exact za;exact rfl;exactλ_ hw=>(hfi hrf.cons.cons.cons hw))|(apply zg28;refine zs84 ?_)|refine zgd ?_|(refine zge ?_ ?_<;>intro _<;>try exact zo)|(refine zgh ?_;intro _)|fail)
    apply Yi H
    ·exact zc0
    exact zc8
  have hgd:Yz n.net c.2.2.1 c.2.2.2.1=true:=by
   cases h:Yz n.net c.2.2.1 c.2.2.2.1 with
   |true=>rfl
   |false=>exact absurd (.inl h) hg
  have hpos:¬Z1 l c.2.2.2.2<0:=λh=>hg (.inr h)
  rw[hgf,hff,Tf hg]at hce
  rw[hgd]at hus
  rcases Nj i with h0|h0
  ·subst h0
   rw[Tf (by omega)]at hce
   repeat'(first|((first|apply Ya Oe|apply Yb Oe);exact za;exact rfl;exactλ_ hw=>(hplc hw))|((first|apply Ya Xw|apply Yb Xw);exact za;exact rfl;exactλ_ hw=>(hix hin.cons.cons.cons hw))|((first|apply Ya J4|apply Yb J4);exact za;exact rfl;exactλ_ hw=>(hus hin.cons.cons.cons hw))|((first|apply Ya en31|apply Yb en31);exact za;exact rfl;exactλ_ hw=>(hfi hrf.cons.cons.cons hw))|(apply zg28;refine zs84 ?_)|refine zgd ?_|(refine zgf ?_ ?_<;>intro _<;>try exact zo)|(refine zgh ?_;intro _)|fail)
   apply hK (0+1)
   ·exact⟨by omega,hstep hce⟩
   ·omega
   ·exact zc1
   ·unfold netN
    exact zc0
  have hget2:s.cells[((i:Int)-1).toNat]? =some (Yn s.sch (i-1)):=Yvv
  obtain⟨p,hpv⟩:∃p,Yn s.sch (i-1)=p:=⟨_,rfl⟩
  rw[hpv]at hce hget2
  have hcl:=Ybi p c
  have hcm:=λ{H':List HP}{w:World}(hw:St B w0 H' w)=>QA p c hw
  obtain⟨q,hq⟩:∃q,cmpV (nums p) (nums c)=q:=⟨_,rfl⟩
  rw[hq]at hcl hcm
  by_cases hlt2:q<0
  ·rw[hcl.1 hlt2,Tf (by simp)]at hce
   refine zX81 ?_<;>intros
   apply hK (i+1)
   ·exact⟨by omega,hstep hce⟩
   ·omega
   ·exact zc1
   ·unfold netN
    exact zc0
  ·have hnl:Xi p c=false:=by
    cases h:Xi p c with
    |false=>rfl
    |true=>exact absurd (hcl.2 h) hlt2
   rw[hnl,Tn ⟨h0,rfl⟩]at hce
   rw[hbad (by rw[hce];decide),hce]
   refine zX81 ?_<;>intros
   apply Yi H
   ·exact zc0
   exact zc8
 ·refine zX1 ?_<;>intros
  rw[show i=s.cells.length by omega]at hall
  rw[Zm λk _ hk=>hall k (by omega)]
  apply Yi H
  ·exact zc0
  exact zc8
def runW(x:WayM)(a:Int):List (Cel×Int):=runP x.s.len (Xq x.s.sch x.f.1) (a+x.f.2.2.2.1) (Yp x.n.net x.r) a
def cntV(z:Cel×Int):List Value:=[celV z.1,.int .i64 z.2]
def Yi2(x:WayM)(a:Int):List (List Value):=(runW x a).map cntV
structure CtM where
 c:Nat
 a:Int
 L:List HP
structure CuM where
 k:Nat
 slot:Int
 a:Int
 c:Nat
 L:List HP
structure CvM where
 j:Nat
 k:Nat
 a:Int
 c:Nat
 L:List HP
variable {α:Type}{c:Nat}
theorem Ysq{W r:List α}{z:α}(hc:c<=W.length)(h:W=W.take c++z::r):W[c]? =some z/\c+1<=W.length/\W=W.take (c+1)++r:=by
 grind
theorem YkC{W:List α}(hc:c<=W.length)(h:W=W.take c++[]):c=W.length:=by
 grind
theorem Yaz(x:WayM)(at0:Int)(hok:Oa x)(hat:0<=at0/\at0<=1000000)(ga gw:Nat){B:Nat}{w0:World}{H:List HP}(hi:x.In B w0 H):
 YcZ Tryz.prog 325 [.pointer (some ⟨ga,0,none⟩),.pointer (some ⟨gw,0,none⟩)] (Yi2 x at0) B w0 (intB ga at0::wayB gw x::H):=by
 refine Yn8 Tryz.func325 Tryz.ntmps325 rfl rfl ?_
 intro l SS XX hy L0 h0
 have hper:=hok.per
 have hslen:=hok.slen
 obtain⟨W,hW⟩:∃W,runW x at0=W:=⟨_,rfl⟩
 have hxs:Yi2 x at0=W.map cntV:=by unfold Yi2;rw[hW]
 rw[hxs]at hy⊢
 rw[TB]
 obtain⟨endd,hend⟩:∃e,at0+x.f.2.2.2.1=e:=⟨_,rfl⟩
 unfold runW at hW
 rw[hend]at hW
 unfold intB at hy⊢
 iterate 3 (first|refine zga ?_|(refine zgh ?_;intro _)|fail)
 rename_i gy
 apply Yqn
 apply Yhe
 apply YY
 refine Zf (λz:Nat×Nat=>[(5,.pointer (some ⟨z.2,0,none⟩)),(4,.pointer (some ⟨z.1,0,none⟩)),(3,.pointer (some ⟨gy,0,none⟩)),(1,.pointer (some ⟨ga,0,none⟩)),(2,.pointer (some ⟨gw,0,none⟩))])
  (λz=>intB z.1 at0::many L0::intB z.2 endd::blk gy (.cells #[.func (.yield l) #[] #[]] 345 (0,0))::intB ga at0::wayB gw x::H) ?_ ?_
 ·intro K hK
  refine zX9 ?_
  apply ZN (.n1 0 (.n1 1 (.n1 2 (.n1 3 (.n1 4 (.n1 5 (.n2 6 (.n1 7 (.n1 8 .done)) 7 (.n1 6 (.n1 8 .done))))))))) [9] [false,false,true,true]
  kernel_rfl
  kernel_rfl
  exact zy
  (simp only[Yh,nthO];rfl)
  repeat'(first|(apply Yl;try exact zl)|apply(zs91 ?_ ?_)|(apply YG;try exact zl)|refine zgd ?_|(refine zgh ?_;intro _)|fail)
  ·rename_i a b
   rw[hend]
   apply hK (a,b)
   ·exact zc1
   ·unfold intB
    dsimp only
    exact zc0
  ·rename_i a b
   rw[hend]
   apply hK (b,a)
   ·exact zc1
   ·unfold intB
    dsimp only
    exact zc0
 rintro⟨g4,g5⟩
 unfold intB
 dsimp only
 refine zX8 ?_
 apply Ye _ Yu0
 exact za
 exact rfl
 exactλ_ hw=>(Yd7 x (hw))
 rintro _ _ ⟨g2,rfl,rfl⟩
 refine zX8 ?_
 have hiK:x.In B w0 (wayB g2 x::blk g5 (.cells #[.int .i64 endd] 3 (0,0))::blk gy (.cells #[.func (.yield l) #[] #[]] 345 (0,0))::blk ga (.cells #[.int .i64 at0] 3 (0,0))::wayB gw x::H):=hi.cons.cons.cons.cons.cons
 refine Zs (gf:=386) (lb:=[.pointer (some ⟨g2,0,none⟩)]) (xs:=Vh x) (wayB g2 x::blk g5 (.cells #[.int .i64 endd] 3 (0,0))::blk gy (.cells #[.func (.yield l) #[] #[]] 345 (0,0))::blk ga (.cells #[.int .i64 at0] 3 (0,0))::wayB gw x::H) (λy:CtM=>[blk g4 (.cells #[.int .i64 y.a] 3 (0,0)),many y.L])
  (λk y=>y.c<=W.length/\W=W.take y.c++runP x.s.len (Xq x.s.sch x.f.1) endd ((Yp x.n.net x.r).drop k) y.a/\SS y.c y.L/\at0<=y.a/\y.a<=endd)
  (λe K=>e=.ret/\∃a L,(SS W.length L\/XX L)/\K=[blk g4 (.cells #[.int .i64 a] 3 (0,0)),many L]) ⟨0,at0,L0⟩ rfl Yu9 (Ycg x g2 hok hiK (.head _)) rfl ?_ (by kernel_rfl) (by kernel_rfl) ?_ ⟨Tm _,by simpa using hW.symm,h0,R7 _,by show at0<=endd;omega⟩ ?_ ?_ ?_
 ·intro args h
  obtain⟨k,hk⟩:=TS.1 h
  obtain⟨l,_,rfl⟩:=WR hk
  rfl
 ·simp only[TD,TK]
  exact zc0
 ·rintro l2 k args R ⟨c,a,L⟩ hk ⟨hc,hWk,hS,ha0,ha1⟩
  obtain⟨lk,hlk,rfl⟩:=WR hk
  have hbd:=YaL hok hlk
  dsimp only at hc hWk hS ha0 ha1
  dsimp only[U5,List.cons_append,List.nil_append]
  unfold lkV
  refine zX72 ?_<;>intros
  rename_i gl
  apply J6 (YA Ys)
  intro R'
  refine zX11 ?_
  have hfew:=hok.few
  apply Ye _ YxB
  exact za
  exact rfl
  exactλ_ hw=>(Yk6 x lk (by omega) (hi.mono zc0).s (hw))
  rintro _ _ ⟨A,cap,rfl,rfl⟩
  have hcsl:(Xq x.s.sch x.f.1 lk).length<=512:=T9 (RX _ _) hfew
  have hdk:(Yp x.n.net x.r).drop k=lk::(Yp x.n.net x.r).drop (k+1):=by
   obtain⟨h1,h2⟩:=Tj.1 hlk
   rw[<-h2];exact Rl h1
  rw[hdk,Ysf]at hWk
  obtain⟨cs,hcs⟩:∃cs,Xq x.s.sch x.f.1 lk=cs:=⟨_,rfl⟩
  obtain⟨ls,hls⟩:∃ls,(Yp x.n.net x.r).drop (k+1)=ls:=⟨_,rfl⟩
  obtain⟨C,hC⟩:∃C,Xq x.s.sch x.f.1=C:=⟨_,rfl⟩
  rw[hcs,hls,hC]at hWk
  rw[hcs]at hcsl⊢
  rw[hC,hls]
  unfold cels
  refine zX8 ?_
  rw[show lk.2.2+1=((Y7 lk:Nat):Int) from by unfold Y7;omega]
  have hnl8:Y7 lk<=8:=by unfold Y7;omega
  refine Yg (λz:CuM=>[(9,.int .i64 z.slot),(7,.int .i64 (z.k:Nat)),(8,.slice A cs.length cap),(6,.pointer (some ⟨gl,0,none⟩)),(5,.pointer (some ⟨g5,0,none⟩)),(4,.pointer (some ⟨g4,0,none⟩)),(3,.pointer (some ⟨gy,0,none⟩)),(1,.pointer (some ⟨ga,0,none⟩)),(2,.pointer (some ⟨gw,0,none⟩))])
   (λz=>R'::blk g4 (.cells #[.int .i64 z.a] 3 (0,0))::many z.L::sl 64 5 A cs.length cap (cs.flatMap celF)::blk gl (.cells #[.int .i64 lk.1,.int .i64 lk.2.1,.int .i64 lk.2.2] 140 (0,0))::wayB g2 x::blk g5 (.cells #[.int .i64 endd] 3 (0,0))::blk gy (.cells #[.func (.yield l) #[] #[]] 345 (0,0))::blk ga (.cells #[.int .i64 at0] 3 (0,0))::wayB gw x::H)
   (λz=>z.c<=W.length/\W=W.take z.c++On x.s.len C endd cs ls (endd-z.slot).toNat z.k z.slot z.a/\SS z.c z.L/\(at0<=z.a/\z.a<=endd)/\(at0<=z.slot/\z.slot<=endd)/\z.k<=8) (λz=>(endd-z.slot).toNat) ⟨Y7 lk,a,a,c,L⟩ ⟨hc,hWk,hS,⟨ha0,ha1⟩,⟨ha0,ha1⟩,hnl8⟩ ?_ ?_ ?_
  ·exact zc1
  ·exact zc0
  rintro⟨kk,slot,a,c,L⟩ ⟨hc,hWk,hS,⟨ha0,ha1⟩,⟨hs0,hs1⟩,hk8⟩ K hK
  dsimp only at hc hWk hS ha0 ha1 hs0 hs1 hk8⊢
  by_cases hk0:kk=0
  ·subst hk0
   rw[YpR]at hWk
   clear hK
   refine zX43 ?_<;>intros
   apply UC (CtM.mk c a L)
   ·exact⟨hc,hWk,hS,ha0,ha1⟩
   ·dsimp only[List.cons_append,List.nil_append]
    exact zc0
  by_cases hse:endd<=slot
  ·rw[show(endd-slot).toNat=0 by omega,Ysp hk0]at hWk
   have hce:=YkC hc hWk
   rw[hce]at hS
   clear hK
   refine zX25 ?_<;>intros
   apply Yao [blk g4 (.cells #[.int .i64 a] 3 (0,0)),many L]
   ·exact⟨rfl,a,L,.inl hS,rfl⟩
   ·dsimp only[List.cons_append,List.nil_append]
    exact zc0
  obtain⟨f,hf⟩:∃f,(endd-(slot+1)).toNat=f:=⟨_,rfl⟩
  have hf1:(endd-slot).toNat=f+1:=by omega
  have hmt:slot.tmod x.s.len=slot%x.s.len:=RE (by omega)
  rw[hf1,<-Yr4]at hWk
  refine zX52 ?_<;>intros
  refine Yg (λy:CvM=>[(37,.int .i64 (y.j:Nat)),(36,.int .i64 cs.length),(35,.slice A cs.length cap),(9,.int .i64 slot),(7,.int .i64 (y.k:Nat)),(8,.slice A cs.length cap),(6,.pointer (some ⟨gl,0,none⟩)),(5,.pointer (some ⟨g5,0,none⟩)),(4,.pointer (some ⟨g4,0,none⟩)),(3,.pointer (some ⟨gy,0,none⟩)),(1,.pointer (some ⟨ga,0,none⟩)),(2,.pointer (some ⟨gw,0,none⟩))])
   (λy=>R'::blk g4 (.cells #[.int .i64 y.a] 3 (0,0))::many y.L::sl 64 5 A cs.length cap (cs.flatMap celF)::blk gl (.cells #[.int .i64 lk.1,.int .i64 lk.2.1,.int .i64 lk.2.2] 140 (0,0))::wayB g2 x::blk g5 (.cells #[.int .i64 endd] 3 (0,0))::blk gy (.cells #[.func (.yield l) #[] #[]] 345 (0,0))::blk ga (.cells #[.int .i64 at0] 3 (0,0))::wayB gw x::H)
   (λy=>y.j<=cs.length/\y.c<=W.length/\W=W.take y.c++QK x.s.len C endd cs (cs.drop y.j) ls f y.k slot y.a/\SS y.c y.L/\(at0<=y.a/\y.a<=endd)/\y.k<=8) (λy=>cs.length-y.j) ⟨0,kk,a,c,L⟩ ⟨Tm _,hc,hWk,hS,⟨ha0,ha1⟩,hk8⟩ ?_ ?_ ?_
  ·exact zc1
  ·exact zc0
  clear hWk hS hc hk0 hk8 ha0 ha1
  rintro⟨j,kk,a,c,L⟩ ⟨hj,hc,hWk,hS,⟨ha0,ha1⟩,hk8⟩ K2 hK2
  dsimp only at hj hc hWk hS ha0 ha1 hk8⊢
  by_cases hjl:j<cs.length
  rotate_left
  ·obtain rfl:j=cs.length:=by omega
   rw[SG,Yr7]at hWk
   clear hK2
   refine zX1 ?_<;>intros
   apply hK ⟨kk,slot+1,a,c,L⟩
   ·exact⟨hc,by rw[hf];exact hWk,hS,⟨ha0,ha1⟩,⟨by show at0<=slot+1;omega,by show slot+1<=endd;omega⟩,hk8⟩
   ·exact zc39
   ·exact zc1
   exact zc17
  obtain⟨d,hd⟩:∃d,cs[j]? =some d:=⟨_,Ta hjl⟩
  have hdj:cs.drop j=d::cs.drop (j+1):=by
   obtain⟨h1,h2⟩:=Tj.1 hd
   rw[<-h2];exact Rl h1
  rw[hdj]at hWk
  by_cases hcd:d.1=slot%x.s.len/\kk≠0
  ·obtain⟨hcd1,hcd2⟩:=hcd
   obtain⟨k3,rfl⟩:∃k3,kk=k3+1:=⟨kk-1,by omega⟩
   rw[Yr8 (by rw[hmt];exact hcd1) hcd2,SK]at hWk
   obtain⟨hx,hc1,hW1⟩:=Ysq hc hWk
   have hx:(W.map cntV)[c]? =some [celV d,.int .i64 slot]:=by rw[TR,hx];rfl
   repeat'(first|(refine YgZ 3 57 rfl rfl rfl ?_)|refine zgd ?_|(refine zge ?_ ?_<;>intro _<;>try exact zo)|(refine zgh ?_;intro _)|fail)
   first|(rename_i gc _ _;guard_hyp gc:Nat)|(rename_i gc _;guard_hyp gc:Nat)|(rename_i gc _ _ _;guard_hyp gc:Nat)
   rw[show((k3+1:Nat):Int)-1=(k3:Int) by omega]
   apply Yi (R'::blk gc (.cells #[.int .i64 d.1,.int .i64 d.2.1,.int .i64 d.2.2.1,.int .i64 d.2.2.2.1,.int .i64 d.2.2.2.2] 64 (0,0))::sl 64 5 A cs.length cap (cs.flatMap celF)::blk gl (.cells #[.int .i64 lk.1,.int .i64 lk.2.1,.int .i64 lk.2.2] 140 (0,0))::blk g4 (.cells #[.int .i64 (slot+1)] 3 (0,0))::wayB g2 x::blk g5 (.cells #[.int .i64 endd] 3 (0,0))::blk gy (.cells #[.func (.yield l) #[] #[]] 345 (0,0))::many L::blk ga (.cells #[.int .i64 at0] 3 (0,0))::wayB gw x::H)
   ·exact zc0
   have hY:=hy c _ hx [R',blk gc (.cells #[.int .i64 d.1,.int .i64 d.2.1,.int .i64 d.2.2.1,.int .i64 d.2.2.2.1,.int .i64 d.2.2.2.2] 64 (0,0)),sl 64 5 A cs.length cap (cs.flatMap celF),blk gl (.cells #[.int .i64 lk.1,.int .i64 lk.2.1,.int .i64 lk.2.2] 140 (0,0)),blk g4 (.cells #[.int .i64 (slot+1)] 3 (0,0)),wayB g2 x,blk g5 (.cells #[.int .i64 endd] 3 (0,0)),blk gy (.cells #[.func (.yield l) #[] #[]] 345 (0,0))] L hS
   apply Yon _ _ (hy:=hY)
   ·exact Ycu
   ·exact rfl
   ·exact YsE
   ·exact rfl
   ·exact Yn4
   ·exact rfl
   ·rintro _ ⟨L',hS',rfl⟩
    dsimp only[List.cons_append,List.nil_append]
    refine zX2 ?_
    apply hK2 ⟨j+1,k3,slot+1,c+1,L'⟩
    ·exact⟨by show j+1<=_;omega,hc1,hW1,hS',⟨by show at0<=slot+1;omega,by show slot+1<=endd;omega⟩,by show k3<=8;omega⟩
    ·exact zc39
    ·exact zc1
    ·exact zc0
   ·rintro _ ⟨L',hX',rfl⟩
    dsimp only[List.cons_append,List.nil_append]
    refine zX2 ?_
    apply Yao [blk g4 (.cells #[.int .i64 (slot+1)] 3 (0,0)),many L']
    ·exact⟨rfl,slot+1,L',.inr hX',rfl⟩
    ·dsimp only[List.cons_append,List.nil_append]
     exact zc0
  ·rw[Yt9 (by rw[hmt];exact hcd)]at hWk
   repeat'(first|refine zgd ?_|(refine zge ?_ ?_<;>intro _<;>try exact zo)|(refine zgh ?_;intro _)|fail)
   all_goals(
    apply hK2 ⟨j+1,kk,a,c,L⟩
    ·exact⟨by show j+1<=_;omega,hc,hWk,hS,⟨ha0,ha1⟩,hk8⟩
    ·dsimp only;omega
    ·exact zu
    ·exact zk)
 ·rintro D ⟨c,a,L⟩ ⟨hc,hWk,hS,ha0,ha1⟩
  dsimp only at hc hWk hS ha0 ha1
  have hle:(Vh x).length=(Yp x.n.net x.r).length:=by unfold Vh;exact YgW
  rw[hle,SG]at hWk
  have hce:=YkC hc hWk
  rw[hce]at hS
  dsimp only[List.cons_append,List.nil_append]
  refine zX11 ?_
  apply Ytb
  apply Jc Ys
  apply VQ_m
  apply Yi (many L::blk ga (.cells #[.int .i64 at0] 3 (0,0))::wayB gw x::H)
  ·exact zc0
  apply WH;exact rfl
  exact .inl ⟨L,hS,rfl⟩
 ·rintro D _ _ ⟨rfl,a,L,hSL,rfl⟩ _
  dsimp only[List.cons_append,List.nil_append]
  refine zX2 ?_
  apply Jc Ys
  apply VQ_m
  apply Yi (many L::blk ga (.cells #[.int .i64 at0] 3 (0,0))::wayB gw x::H)
  ·exact zc0
  apply WH;exact rfl
  rcases hSL with h|h
  ·exact .inl ⟨L,h,rfl⟩
  ·exact .inr ⟨L,h,rfl⟩
end Go.Proofs.YtaholidehobiiaaGreatDoor
