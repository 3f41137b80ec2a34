/- Lemmas. -/
import Derived.Test.YtjommdkgfbhbdaaGreatDoorQ20
import Derived.Test.YtjommdkgfbhbdaaGreatDoorQ21
set_option maxRecDepth 100000
set_option maxHeartbeats 8000000
set_option linter.all false
namespace Go.Proofs.YtjommdkgfbhbdaaGreatDoor
open Go.RowKit Go.Eng Go.Nw Go.Rt
structure FtM where
 g8:Nat
 A:Option Addr
 cap:Nat
 iA:Option Addr
 icap:Nat
theorem Yh0(b:BuM)(g:Nat)(len off:Int)(h24:len<=24\/512<len){B:Nat}{w0:World}{H:List HP}{w:World}(ht:TabsB B w0)(hin:b.n.In B w0 H)(hq:QIn B w0 H b.qA b.q)(hw:St B w0 (bldA g b::H) w):
 CX B w0 43 [.pointer (some ⟨g,0,none⟩),.int .i64 len,.int .i64 off] w λv K=>∃A cap iA icap,v=.tuple #[.slice iA (Xv b.n.net (b.q.map RqM.rq) len off).1.2.length icap,.bool (decide ((Xv b.n.net (b.q.map RqM.rq) len off).1.2.length=b.q.length))]/\
  K=bldA g {b with s:=⟨(Xv b.n.net (b.q.map RqM.rq) len off).1.1.len,(Xv b.n.net (b.q.map RqM.rq) len off).1.1.off,A,cap,(Xv b.n.net (b.q.map RqM.rq) len off).1.1.cells⟩,e:=XN b.e (Xv b.n.net (b.q.map RqM.rq) len off).2}::cels A cap (Xv b.n.net (b.q.map RqM.rq) len off).1.1.cells::Z1 iA icap (Xv b.n.net (b.q.map RqM.rq) len off).1.2::H:=by
 refine Ya Tryz.func43 Tryz.ntmps43 rfl rfl hw ?_
 obtain⟨n,qA,qcap,q,s,cA,ccap,c,fA,fcap,f,e⟩:=b
 dsimp only at hin hq⊢
 have hop:∀w,St B w0 [many H] w->St B w0 H w:=λw hw=>hw.perm (.openT H)
 have hin:=hin.mono hop
 have hq:=hq.mono hop
 have p1:=λ{H':List HP}{w:World}(hin:n.In B w0 H') (hq:QIn B w0 H' qA q) (hw:St B w0 H' w)=>Yok n q len off h24 (cap:=qcap) ht hin hq hw
 have p2:=λ(b:BuM) (e:Int) {H':List HP}{w:World}(hw:St B w0 (bldA g b::H') w)=>Uk b g e hw
 unfold OutA NetM.val at p1
 generalize Xv n.net (q.map RqM.rq) len off=R at p1⊢
 obtain⟨⟨⟨rl,ro,rc⟩,ra⟩,re⟩:=R
 dsimp only at p1⊢
 refine Y6 (bldA g ⟨n,qA,qcap,q,s,cA,ccap,c,fA,fcap,f,e⟩::[many H]) (λw hw=>hw.perm (.cons _ (.closeT H))) ?_
 dsimp only[bldA]
 iterate 6 (first|refine zga ?_|fail)
 apply Xc
 refine Zs (λz:FtM=>[(8,.pointer (some ⟨z.g8,0,none⟩)),(9,.slice z.iA ra.length z.icap),(10,.int .i64 re),(0,.pointer (some ⟨g,0,none⟩))])
  (λz=>blk z.g8 (.cells #[.int .i64 rl,.int .i64 ro,.slice z.A rc.length z.cap] 33 (0,0))::cels z.A z.cap rc::Z1 z.iA z.icap ra::bldA g ⟨n,qA,qcap,q,s,cA,ccap,c,fA,fcap,f,e⟩::[many H]) ?_ ?_
 ·intro K hK
  repeat'(first|refine Yr T ?_|fail)
  apply Jb (.n1 0 (.n1 1 (.n1 2 (.n1 3 (.n1 4 (.n1 5 (.n1 6 (.n1 7 (.n1 8 (.n1 9 (.n1 10 (.n1 11 (.n2 12 (.n1 13 (.n1 14 (.n1 15 (.n1 16 (.n1 17 (.n1 18 (.n1 19 (.n1 20 .done)))))))) 17 (.n1 12 (.n1 13 (.n1 14 (.n1 15 (.n1 16 (.n1 18 (.n1 19 (.n1 20 .done))))))))))))))))))))) [] [true,true]
  kernel_rfl
  kernel_rfl
  exact zy
  exact rfl
  repeat'(first|refine Yr T ?_|((apply Yg _ YvM);exact za;exact rfl;exactλ_ hw=>p1 (hin.mono zk) (hq.mono zk) hw;rintro _ _ ⟨A1,cap1,iA1,ic1,rfl,rfl⟩)|(apply Yh;try exact zl)|apply(zs91 ?_ ?_)|(apply Xf;try exact zl)|refine zgd ?_|(refine zgh ?_;intro _)|fail)
  all_goals(
   rename_i gA
   apply hK ⟨gA,A1,cap1,iA1,ic1⟩
   ·exact zu
   ·exact zk)
 rintro⟨g8,A1,c1,iA,ic⟩
 dsimp only
 refine zX2 ?_
 apply XD [bldA g ⟨n,qA,qcap,q,s,cA,ccap,c,fA,fcap,f,e⟩] _ en45
 exact za
 try exact zl
 exact zp
 exact rfl
 exactλ_ hw=>(p2 ⟨n,qA,qcap,q,s,cA,ccap,c,fA,fcap,f,e⟩ re hw)
 rintro _ _ ⟨rfl,rfl⟩
 unfold BuM.fail
 dsimp only[bldA]
 by_cases hll:ra.length=q.length
 ·rw[Tf hll]
  refine zX25 ?_<;>intros
  apply Yf (bldA g ⟨n,qA,qcap,q,⟨rl,ro,A1,c1,rc⟩,cA,ccap,c,fA,fcap,f,XN e re⟩::cels A1 c1 rc::Z1 iA ic ra::H)
  ·intro w hw
   have h5:St B w0 (bldA g ⟨n,qA,qcap,q,⟨rl,ro,A1,c1,rc⟩,cA,ccap,c,fA,fcap,f,XN e re⟩::cels A1 c1 rc::Z1 iA ic ra::[many H]) w:=by
    revert w
    exact zc0
   exact zc97
  exact Yug
 ·rw[Ti hll]
  refine zX25 ?_<;>intros
  apply Yf (bldA g ⟨n,qA,qcap,q,⟨rl,ro,A1,c1,rc⟩,cA,ccap,c,fA,fcap,f,XN e re⟩::cels A1 c1 rc::Z1 iA ic ra::H)
  ·intro w hw
   have h5:St B w0 (bldA g ⟨n,qA,qcap,q,⟨rl,ro,A1,c1,rc⟩,cA,ccap,c,fA,fcap,f,XN e re⟩::cels A1 c1 rc::Z1 iA ic ra::[many H]) w:=by
    revert w
    exact zc0
   exact zc97
  exact Yug
theorem YiI{α:Type}(f:α->HP)(y:α):∀(L:List α) (i:Nat) (T:List HP),i<L.length->Perm (f y::(L.map f++T)) ((L.set i y).map f++T)
 |[],i,_,h=>by cases h
 |x::L,0,T,_=>by
  rw[Nj,Rx,Rx,TA,TA]
  exact .cons _ (.drop _ _)
 |x::L,i+1,T,h=>by
  rw[List.set_cons_succ,Rx,Rx,TA,TA]
  exact(Perm.swap _ _ _).trans (.cons _ (YiI f y L i T (by simp_all)))
variable {i:Nat}
theorem YnG{Q:List RqM}{y:RqM}(h:i<Q.length)(T:List HP):Perm (rqQ y::many (Q.map rqQ)::T) (many ((Q.set i y).map rqQ)::T):=
 ((Perm.open_ (Q.map rqQ) T).cons _).trans ((YiI rqQ y Q i T h).trans (.close _ T))
noncomputable def Vk(n:Net)(ia:List Int)(q:List Rqs)(i:Nat):List Rqs:=(List.range q.length).map λj=>if j<i then lowQ n ia q j else rqAt q j
theorem YpU(n:Net)(ia:List Int)(q:List Rqs):Vk n ia q 0=q:=by
 unfold Vk
 apply Si
 all_goals grind [VK]
theorem YrR(n:Net)(ia:List Int)(q:List Rqs):Vk n ia q q.length=lowL n ia q:=by
 simp_all [Vk,lowL]
theorem YrS(n:Net)(ia:List Int)(q:List Rqs)(i:Nat):(Vk n ia q i).length=q.length:=by grind [Vk]
variable {n:Net}{ia:List Int}{q:List Rqs}
theorem YpT(h:i<q.length):(Vk n ia q i)[i]? =some (rqAt q i):=by
 grind [Vk]
theorem Yip(h:i<q.length):Vk n ia q (i+1)=(Vk n ia q i).set i (lowQ n ia q i):=by
 apply Si
 intro j
 by_cases hj:i=j
 ·simp_all [Vk]
 ·unfold Vk
  grind
structure LwM where
 i:Nat
 Q:List RqM
structure LxM where
 g6:Nat
 y:RqM
theorem Ygt(b:BuM)(g:Nat)(ia:List Int)(hia:ia.length<=1000)(hql:b.q.length<=1000)(hqs:∀x∈b.q,x.lens){iA:Option Addr}{icap B:Nat}{w0:World}{H:List HP}{w:World}(hin:b.n.In B w0 H)(hra:Rd B w0 H iA (ia.flatMap numF))(hw:St B w0 (bldA g b::rqs b.qA b.qcap b.q::many (b.q.map rqQ)::H) w):
 CX B w0 44 [.pointer (some ⟨g,0,none⟩),.slice iA ia.length icap] w λv K=>∃q' e',v=.tuple #[]/\q'.length=b.q.length/\(∀x∈q',x.lens)/\((lowB b.n.net ia (b.q.map RqM.rq)=true/\q'.map RqM.rq=lowL b.n.net ia (b.q.map RqM.rq)/\e'=b.e)\/(lowB b.n.net ia (b.q.map RqM.rq)=false/\e'=XN b.e 18))/\
  K=bldA g {b with q:=q',e:=e'}::rqs b.qA b.qcap q'::many (q'.map rqQ)::H:=by
 refine Ya Tryz.func44 Tryz.ntmps44 rfl rfl hw ?_
 obtain⟨n,qA,qcap,q,s,cA,ccap,c,fA,fcap,f,e⟩:=b
 dsimp only at hin hql hqs⊢
 have hinM:∀{H':List HP},many H∈H'->n.In B w0 H':=λhm=>hin.mono λw hw=>hw.inM hm
 have hraM:∀{H':List HP},many H∈H'->Rd B w0 H' iA (ia.flatMap numF):=λhm=>hra.mono λw hw=>hw.inM hm
 have p1:=λ(v:Int) {H':List HP}{w:World}(hr:Rd B w0 H' iA (ia.flatMap numF)) (hw:St B w0 H' w)=>Yey ia v (by omega) (cap:=icap) hr hw
 have p2:=λ(f:Flw) {H':List HP}{w:World}(hin:n.In B w0 H') (hw:St B w0 H' w)=>Qd n f hin hw
 have p3:=λ(b:BuM) (e:Int) {H':List HP}{w:World}(hw:St B w0 (bldA g b::H') w)=>Uk b g e hw
 unfold NetM.val flwV at p2
 refine Y6 (bldA g ⟨n,qA,qcap,q,s,cA,ccap,c,fA,fcap,f,e⟩::rqs qA qcap q::many (q.map rqQ)::[many H]) (λw hw=>hw.perm (.cons _ (.cons _ (.cons _ (.closeT H))))) ?_
 dsimp only[bldA]
 obtain⟨q0,hq0⟩:∃q0,q.map RqM.rq=q0:=⟨_,rfl⟩
 have hq0l:q0.length=q.length:=by rw[<-hq0,To]
 rw[hq0]
 refine Ue ?_
 refine Ye (λz:LwM=>[(14,.int .i64 (z.i:Nat)),(13,.int .i64 q.length),(12,.slice qA q.length qcap),(0,.pointer (some ⟨g,0,none⟩)),(1,.slice iA ia.length icap)])
  (λz=>blk g (.cells #[.int .i64 n.nodes,.slice n.pA n.rows.length n.pcap,.int .i64 n.noise,.int .i64 n.thr,.slice n.lA n.links.length n.lcap,.slice n.mA n.margin.length n.mcap,.slice qA q.length qcap,.int .i64 s.len,.int .i64 s.off,.slice s.A s.cells.length s.cap,.slice cA c.length ccap,.slice fA f.length fcap,.int .i64 e] 80 (0,0))::sl 93 7 qA q.length qcap (z.Q.flatMap rqF)::many (z.Q.map rqQ)::[many H])
  (λz=>z.i<=q.length/\z.Q.length=q.length/\(∀x∈z.Q,x.lens)/\z.Q.map RqM.rq=Vk n.net ia q0 z.i/\∀j,j<z.i->(j:Int)∈ia\/(Ua n.net (rqAt q0 j).1).2=0) (λz=>q.length-z.i) ⟨0,q⟩ ⟨Td _,rfl,hqs,by rw[YpU];exact hq0,λj hj=>absurd hj (TZ _)⟩ ?_ ?_ ?_
 ·exact zc1
 ·unfold rqs
  exact zc0
 rintro⟨i,Q⟩ ⟨hi,hQl,hQs,hQm,hQk⟩ K hK
 dsimp only at hi hQl hQs hQm hQk⊢
 by_cases hlt:i<q.length
 rotate_left
 ·obtain rfl:i=q.length:=by omega
  clear hK
  have hb:lowB n.net ia q0=true:=TL.2 λj hj=>by
   have hj:=TQ.1 hj
   rw[RH,Tm,Tm]
   exact hQk j (by omega)
  rw[<-hq0l,YrR]at hQm
  refine Yel ?_<;>intros
  apply Yf (bldA g ⟨n,qA,qcap,Q,s,cA,ccap,c,fA,fcap,f,e⟩::rqs qA qcap Q::many (Q.map rqQ)::H)
  ·intro w hw
   have h5:St B w0 (blk g (.cells #[.int .i64 n.nodes,.slice n.pA n.rows.length n.pcap,.int .i64 n.noise,.int .i64 n.thr,.slice n.lA n.links.length n.lcap,.slice n.mA n.margin.length n.mcap,.slice qA q.length qcap,.int .i64 s.len,.int .i64 s.off,.slice s.A s.cells.length s.cap,.slice cA c.length ccap,.slice fA f.length fcap,.int .i64 e] 80 (0,0))::sl 93 7 qA q.length qcap (Q.flatMap rqF)::many (Q.map rqQ)::[many H]) w:=by
    revert w
    exact zc0
   rw[<-hQl]at h5
   exact zc97
  apply JB;exact rfl
  exact⟨Q,e,rfl,hQl,hQs,.inl ⟨hb,hQm,rfl⟩,rfl⟩
 obtain⟨x,hx⟩:∃x,Q[i]? =some x:=⟨_,Ta (by omega)⟩
 have hxm:=Tc hx
 have hxq:x.rq=rqAt q0 i:=by
  have h1:(Q.map RqM.rq)[i]? =some x.rq:=by rw[TN,hx];rfl
  rw[hQm,YpT (by omega)]at h1
  exact(TJ h1).symm
 have hxf:x.f=(rqAt q0 i).1:=TF Prod.fst hxq
 by_cases hmem:(i:Int)∈ia
 ·have p4:=λ{H':List HP}{w:World}(hr:Rd B w0 H' iA (ia.flatMap numF)) (hw:St B w0 H' w)=>p1 i hr hw
  rw[Tf hmem]at p4
  have hlq:Vk n.net ia q0 (i+1)=Vk n.net ia q0 i:=by
   rw[Yip (by omega)]
   unfold lowQ
   rw[Tn hmem]
   apply Si
   intro j
   by_cases hj:i=j
   ·subst hj
    rw[SU (by rw[YrS];omega),YpT (by omega)]
   ·rw[Nu hj]
  refine Yjt ?_<;>intros
  apply Yb Ysx
  exact za
  exact rfl
  exactλ_ hw=>(p4 (hraM (by(focus exact zc2))) hw)
  refine Yjs ?_
  apply hK ⟨i+1,Q⟩
  ·exact⟨by exact Qf,hQl,hQs,hQm.trans hlq.symm,λj hj=>by
    rcases Rk.1 hj with h|rfl
    ·exact hQk j h
    ·exact .inl hmem⟩
  ·exact zc50
  ·exact zc1
  ·exact zc0
 have p4:=λ{H':List HP}{w:World}(hr:Rd B w0 H' iA (ia.flatMap numF)) (hw:St B w0 H' w)=>p1 i hr hw
 rw[Ti hmem]at p4
 have p5:=λ{H':List HP}{w:World}(hin:n.In B w0 H') (hw:St B w0 H' w)=>p2 x.f hin hw
 clear p1 p2
 have hlq:Vk n.net ia q0 (i+1)=(Vk n.net ia q0 i).set i (Ua n.net x.f).1:=by
  rw[Yip (by omega)]
  unfold lowQ
  rw[Tj hmem,hxf]
 have hsk:∀j,j=i->(Ua n.net (rqAt q0 j).1).2=(Ua n.net x.f).2:=λj hj=>by rw[hj,hxf]
 generalize Ua n.net x.f=R at p5 hlq hsk
 obtain⟨ry,re⟩:=R
 unfold OutQ rqV at p5
 dsimp only at p5 hlq hsk
 refine Yjt ?_<;>intros
 rename_i g5
 apply Yb Ysx
 exact za
 exact rfl
 exactλ_ hw=>(p4 (hraM (by(focus exact zc2))) hw)
 repeat'(first|refine Yr T ?_|refine zgb ?_|fail)
 refine Zs (λz:{z:LxM//z.y.rq=ry/\z.y.lens}=>[(6,.pointer (some ⟨z.1.g6,0,none⟩)),(7,.int .i64 re),(4,.int .i64 (i:Nat)),(14,.int .i64 (i:Nat)),(13,.int .i64 q.length),(12,.slice qA q.length qcap),(0,.pointer (some ⟨g,0,none⟩)),(1,.slice iA ia.length icap)])
  (λz=>rqA z.1.g6 z.1.y::rqQ z.1.y::blk g (.cells #[.int .i64 n.nodes,.slice n.pA n.rows.length n.pcap,.int .i64 n.noise,.int .i64 n.thr,.slice n.lA n.links.length n.lcap,.slice n.mA n.margin.length n.mcap,.slice qA q.length qcap,.int .i64 s.len,.int .i64 s.off,.slice s.A s.cells.length s.cap,.slice cA c.length ccap,.slice fA f.length fcap,.int .i64 e] 80 (0,0))::sl 93 7 qA q.length qcap (Q.flatMap rqF)::many (Q.map rqQ)::[many H]) ?_ ?_
 ·intro K2 hK2
  apply Jb (.n1 0 (.n1 1 (.n1 2 (.n1 3 (.n1 4 (.n1 5 (.n1 6 (.n2 7 (.n1 8 (.n1 9 (.n1 10 (.n1 11 (.n1 12 (.n1 13 .done)))))) 11 (.n1 7 (.n1 8 (.n1 9 (.n1 10 (.n1 12 (.n1 13 .done)))))))))))))) [] [true,true]
  kernel_rfl
  kernel_rfl
  exact zy
  exact rfl
  repeat'(first|refine Yr T ?_|((apply Yg _ en67);exact za;exact rfl;exactλ_ hw=>p5 (hinM zm) hw;rintro _ _ ⟨y,rfl,hy,hyl,rfl⟩)|(apply Yh;try exact zl)|apply(zs91 ?_ ?_)|(apply Xf;try exact zl)|refine zgd ?_|(refine zgh ?_;intro _)|fail)
  all_goals(
   rename_i gA
   apply hK2 ⟨⟨gA,y⟩,hy,hyl⟩
   ·exact zu
   ·exact zk)
 rintro⟨⟨g6,y⟩,hy,hyl⟩
 dsimp only at hy hyl⊢
 by_cases hre:re=0
 rotate_left
 ·have hb:lowB n.net ia q0=false:=by
   cases h:lowB n.net ia q0 with
   |false=>rfl
   |true=>
    have h1:=TL.1 h i (TQ.2 (by omega))
    rw[RH,Tm,Tm,hsk i rfl]at h1
    rcases h1 with h1|h1
    ·exact absurd h1 hmem
    ·exact absurd h1 hre
  clear hK
  repeat'(first|refine Yr T ?_|refine zga ?_|(refine zge ?_ ?_<;>intro _<;>try exact zo)|fail)
  apply Zh (bldA g ⟨n,qA,qcap,Q,s,cA,ccap,c,fA,fcap,f,e⟩::rqs qA qcap Q::many (Q.map rqQ)::[many H])
  ·intro w hw
   have h5:St B w0 (blk g (.cells #[.int .i64 n.nodes,.slice n.pA n.rows.length n.pcap,.int .i64 n.noise,.int .i64 n.thr,.slice n.lA n.links.length n.lcap,.slice n.mA n.margin.length n.mcap,.slice qA q.length qcap,.int .i64 s.len,.int .i64 s.off,.slice s.A s.cells.length s.cap,.slice cA c.length ccap,.slice fA f.length fcap,.int .i64 e] 80 (0,0))::sl 93 7 qA q.length qcap (Q.flatMap rqF)::many (Q.map rqQ)::[many H]) w:=by
    revert w
    exact zc0
   rw[<-hQl]at h5
   exact h5
  apply XD [bldA g ⟨n,qA,qcap,Q,s,cA,ccap,c,fA,fcap,f,e⟩] _ en45
  exact za
  try exact zl
  exact zp
  exact rfl
  exactλ_ hw=>(p3 ⟨n,qA,qcap,Q,s,cA,ccap,c,fA,fcap,f,e⟩ 18 hw)
  rintro _ _ ⟨rfl,rfl⟩
  refine Ue ?_
  apply Yf (bldA g (BuM.fail ⟨n,qA,qcap,Q,s,cA,ccap,c,fA,fcap,f,e⟩ 18)::rqs qA qcap Q::many (Q.map rqQ)::H)
  ·intro w hw
   have h5:St B w0 (bldA g (BuM.fail ⟨n,qA,qcap,Q,s,cA,ccap,c,fA,fcap,f,e⟩ 18)::rqs qA qcap Q::many (Q.map rqQ)::[many H]) w:=by
    revert w
    exact zc0
   exact zc97
  apply U9;exact rfl
  exact⟨Q,XN e 18,rfl,hQl,hQs,.inr ⟨hb,rfl⟩,rfl⟩
 subst hre
 repeat'(first|refine Yr T ?_|refine zgb ?_|(refine zge ?_ ?_<;>intro _<;>try exact zo)|fail)
 apply YA [0,1,2,3,4,5,6,7] [8] [true,true,true,true,true,true]
 kernel_rfl
 kernel_rfl
 exact zy
 (simp only[Yc,nthO];rfl)
 (simp only[Yc,nthO];rfl)
 repeat'(first|refine Yr T ?_|(apply ZD T (f:=rqF) (l:=Q) (i:=i) (a:=y);(iterate 3 exact rfl);exact zd;exactλ_=>rfl;(iterate 3 exact rfl);omega)|refine zgd ?_|fail)
 apply hK ⟨i+1,Q.set i y⟩
 ·refine⟨by exact Qf,by show(Q.set i _).length=_;rw[TE,hQl],λz hz=>?_,?_,λj hj=>?_⟩
  ·rcases List.mem_or_eq_of_mem_set hz with h|rfl
   ·exact hQs z h
   ·exact hyl
  ·show(Q.set i y).map RqM.rq=_
   rw[List.map_set,hQm,hlq,hy]
  ·rcases Rk.1 hj with h|rfl
   ·exact hQk j h
   ·exact .inr (hsk j rfl)
 ·exact zc50
 ·exact zc1
 ·intro w hw
  dsimp only
  have h5:St B w0 (rqQ y::many (Q.map rqQ)::blk g (.cells #[.int .i64 n.nodes,.slice n.pA n.rows.length n.pcap,.int .i64 n.noise,.int .i64 n.thr,.slice n.lA n.links.length n.lcap,.slice n.mA n.margin.length n.mcap,.slice qA q.length qcap,.int .i64 s.len,.int .i64 s.off,.slice s.A s.cells.length s.cap,.slice cA c.length ccap,.slice fA f.length fcap,.int .i64 e] 80 (0,0))::sl 93 7 qA q.length qcap ((Q.set i y).flatMap rqF)::[many H]) w:=by
   revert w
   exact zc0
  have h6:=h5.perm (YnG (Q:=Q) (i:=i) (y:=y) (by omega) _)
  clear hw h5
  revert w
  exact zc0
structure TmM where
 i:Nat
 A:Option Addr
 cap:Nat
 l:List Cel
theorem YmD(n:NetM)(q:List RqM)(s:SchM){A:Option Addr}{cap B:Nat}{w0:World}{H:List HP}{w:World}(ht:TabsB B w0)(hin:n.In B w0 H)(hq:QIn B w0 H A q)(hrs:Rd B w0 H s.A (s.cells.flatMap celF))(hsl:s.cells.length<=1000000000000)(hw:St B w0 H w):
 CX B w0 46 [n.val,.slice A q.length cap,s.val] w (OutS H (Yee n.net (q.map RqM.rq) s.sch)):=by
 refine Ya Tryz.func46 Tryz.ntmps46 rfl rfl hw ?_
 have hop:∀w,St B w0 [many H] w->St B w0 H w:=λw hw=>hw.perm (.openT H)
 have hin:=hin.mono hop
 have hq:=hq.mono hop
 have hrs:=hrs.mono hop
 have p1:=λ{H':List HP}{w:World}(hin:n.In B w0 H') (hq:QIn B w0 H' A q) (hrs:Rd B w0 H' s.A (s.cells.flatMap celF)) (hw:St B w0 H' w)=>YbE n q s (cap:=cap) ht hin hq hrs hsl hw
 have p2:=λ(x:RqM) (h1:1<=x.rows.length/\x.rows.length<=1000) (hok:∀r∈x.rows,(Y1 n.net s.sch x.f r.xs).2=0) {H':List HP}{w:World}(hin:n.In B w0 H') (hrs:Rd B w0 H' s.A (s.cells.flatMap celF)) (hx:x.In B w0 H') (hw:St B w0 H' w)=>Ykz n s x.f x.rows h1 hok (cap:=x.cap) ht hin hrs hsl hx.rt hx.rw_ hx.rl hw
 unfold NetM.val SchM.val at p1 p2⊢
 unfold flwV at p2
 refine Y6 [many H] (λw hw=>hw.perm (.closeT H)) ?_
 unfold Yee
 refine zX73 ?_<;>intros
 rename_i g3 g5 g6
 apply Yb Ysy
 exact za
 exact rfl
 exactλ_ hw=>(p1 hin.cons.cons.cons hq.cons.cons.cons hrs.cons.cons.cons hw)
 by_cases hc:(YJ n.net (q.map RqM.rq) s.sch).2.2=0
 rotate_left
 ·rw[Ti hc,Tn hc]
  refine zX3 ?_
  apply Yy T (H2:=cels none 0 []::H);(iterate 3 exact rfl);(focus exact zc2);exact rfl;exact rfl
  ·intro w hw
   have h5:St B w0 [many H] w:=by
    revert w
    exact zc0
   exact zc70
  exact Ur 1 rfl rfl
 rw[Tf hc,Tj (λe=>e hc)]
 have hrq:(rqsE n.net (q.map RqM.rq)).2=0:=Rw.1 λh1=>by
  unfold YJ at hc;rw[Tn h1]at hc;exact h1 hc
 have hql:q.length<=16:=(YkX hrq).1
 obtain⟨hval,hwant⟩:=Z7.1 hc
 have hfrm:=(Vb.1 (Jh.1 hval)).frm
 have hfew:s.cells.length<=512:=hfrm.few
 have hord:Ord s.cells:=hfrm.ord
 have hwx:∀x∈q,(1<=x.rows.length/\x.rows.length<=1000)/\∀r∈x.rows,(Y1 n.net s.sch x.f r.xs).2=0:=λx hx=>by
  have h1:=hwant x.rq (TD.2 ⟨x,hx,rfl⟩)
  unfold Qe at h1
  rw[Tq,Tm,R9]at h1
  obtain⟨h2,h3⟩:=h1
  have h4:x.rq.2.length=x.rows.length:=To _
  refine⟨by omega,λr hr=>?_⟩
  exact(Yl3 h3 (TD.2 ⟨r,hr,rfl⟩)).1
 refine zX10 ?_
 refine Ye (λz:TmM=>[(21,.int .i64 (z.i:Nat)),(20,.int .i64 q.length),(19,.slice A q.length cap),(8,.slice z.A z.l.length z.cap),(6,.pointer (some ⟨g6,0,none⟩)),(5,.pointer (some ⟨g5,0,none⟩)),(3,.pointer (some ⟨g3,0,none⟩))])
  (λz=>cels z.A z.cap z.l::blk g6 (.cells (Value.agg #[.int .i64 0,.int .i64 0,.slice none 0 0]).cells 33 (0,0))::schA g5 s::netA g3 n::[many H])
  (λz=>z.i<=q.length/\z.l=Yds n.net s.sch ((q.map RqM.rq).take z.i)) (λz=>q.length-z.i) ⟨0,none,0,[]⟩ ⟨Td _,rfl⟩ ?_ ?_ ?_
 ·exact zc1
 ·intro w hw
  have h5:St B w0 (blk g6 (.cells (Value.agg #[.int .i64 0,.int .i64 0,.slice none 0 0]).cells 33 (0,0))::schA g5 s::netA g3 n::[many H]) w:=by
   revert w
   exact zc0
  exact h5.nilSlice 162 5
 rintro⟨i,A1,c1,l⟩ ⟨hi,hl⟩ K hK
 dsimp only at hi hl⊢
 have hll:l.length<=16*512:=by
  have h1:=Yig n.net s.sch ((q.map RqM.rq).take i)
  rw[<-hl]at h1
  have h2:((q.map RqM.rq).take i).length<=16:=by rw[TU,To];omega
  have h3:=Nat.mul_le_mul h2 hfew
  have h4:s.sch.cells.length=s.cells.length:=rfl
  rw[h4]at h1
  omega
 by_cases hlt:i<q.length
 rotate_left
 ·obtain rfl:i=q.length:=by omega
  rw[TM Yq0]at hl
  clear hK
  refine zX0 ?_<;>intros
  apply XD [cels A1 c1 l] _ YvO
  exact za
  try exact zl
  exact zp
  exact rfl
  exactλ_ hw=>(YgT l (by omega) hw)
  rintro _ _ ⟨rfl,l2,hp,ho,rfl⟩
  have hl2:l2.length=l.length:=hp.length_eq
  rw[<-hl2]
  refine zX2 ?_
  apply XD [cels A1 c1 l2] _ YvP
  exact za
  try exact zl
  exact zp
  exact rfl
  exactλ_ hw=>(Yew l2 (by omega) hw)
  rintro _ _ ⟨rfl,rfl⟩
  rw[YnB hord (hl▸hp) ho]
  refine zX3 ?_
  apply Yy T (H2:=cels A1 c1 (s.sch.cells.filter (Yjk n.net s.sch (q.map RqM.rq)))::H);(iterate 3 exact rfl);(focus exact zc2);exact rfl;exact rfl
  ·intro w hw
   have h5:St B w0 (cels A1 c1 (s.sch.cells.filter (Yjk n.net s.sch (q.map RqM.rq)))::[many H]) w:=by
    revert w
    exact zc0
   exact zc69
  exact⟨A1,c1,rfl,rfl⟩
 obtain⟨x,hx⟩:∃x,q[i]? =some x:=⟨_,Ta hlt⟩
 have hxm:=Tc hx
 obtain⟨hx1,hx2⟩:=hwx x hxm
 have hqr:Rd B w0 (cels A1 c1 l::blk g6 (.cells (Value.agg #[.int .i64 0,.int .i64 0,.slice none 0 0]).cells 33 (0,0))::schA g5 s::netA g3 n::[many H]) A (q.flatMap rqF):=hq.rd.cons.cons.cons.cons
 have hst:Yds n.net s.sch ((q.map RqM.rq).take (i+1))=l++s.cells.filter (Yav n.net s.sch (x.f,x.rows.map (·.xs))):=by
  rw[hl,TB,TN,hx]
  unfold Yds
  rw[RB]
  simp only[Ss,RN,Re,List.flatMap_nil,Rr]
  rfl
 have p3:=λ{H':List HP}{w:World}(hin:n.In B w0 H') (hrs:Rd B w0 H' s.A (s.cells.flatMap celF)) (hxi:x.In B w0 H') (hw:St B w0 H' w)=>p2 x hx1 hx2 hin hrs hxi hw
 have hfl:=Sl (Yav n.net s.sch (x.f,x.rows.map (·.xs))) s.cells
 clear p2
 generalize s.cells.filter (Yav n.net s.sch (x.f,x.rows.map (·.xs)))=m at p3 hst hfl
 refine Yjt ?_<;>intros
 apply Yg _ YvN
 exact za
 exact rfl
 exactλ_ hw=>(p3 (hin.mono zc0) (hrs.mono zc0) ((hq.x x hxm).mono zc0) (hw))
 rintro _ _ ⟨A2,c2,rfl,rfl⟩
 unfold cels
 repeat'(first|(apply Xt T (f:=celF) (l2:=m) (e:=162) (size:=5) (xs:=l.flatMap celF);(iterate 3 exact rfl);exact Rd.sl zm;exact(λ_=>rfl);exact(λ_=>rfl);exact rfl;(intro _ _;exact zd);omega;intro A3 c3)|refine zgc ?_|(refine zge ?_ ?_<;>intro _<;>try exact zo)|fail)
 rename_i A3 c3
 apply hK ⟨i+1,A3,c3,l++m⟩
 ·exact⟨by exact Qf,hst.symm⟩
 ·exact zc50
 ·rw[Tt]
  exact zc1
 ·intro w hw
  dsimp only
  unfold cels
  rw[Tt,RB]
  revert w
  exact zc0
variable {A:Option Addr}{cap B:Nat}{w0 w:World}{H:List HP}
theorem Yi2(n:NetM)(l:List Flw)(s:SchM)(hlf:l.length<=9223372036854775807)(hl:s.cells.length<=1000000000000)(hin:n.In B w0 H)(hrf:Rd B w0 H A (l.flatMap flwF))(hr:Rd B w0 H s.A (s.cells.flatMap celF))(hw:St B w0 H w):
 CX B w0 187 [n.val,.slice A l.length cap,s.val] w λv K=>v=.bool (decide ((schE n.net l s.sch).2=0))/\K=H:=by
 refine Ya Tryz.func187 Tryz.ntmps187 rfl rfl hw ?_
 have p1:=λ{H':List HP}{w:World}(hin:n.In B w0 H') (hrf:Rd B w0 H' A (l.flatMap flwF)) (hr:Rd B w0 H' s.A (s.cells.flatMap celF)) (hw:St B w0 H' w)=>YdV n l s hlf hl (cap:=cap) hin hrf hr hw
 obtain⟨⟨ri,re⟩,hR⟩:∃R,schE n.net l s.sch=R:=⟨_,rfl⟩
 rw[hR]at p1⊢
 dsimp only at p1⊢
 unfold NetM.val SchM.val
 unfold NetM.val SchM.val at p1
 refine zX73 ?_<;>intros
 apply Yb Yws
 exact za
 exact rfl
 exactλ_ hw=>(p1 (hin.mono zc0) (hrf.mono zc0) (hr.mono zc0) hw)
 repeat'(first|(apply Yrb;(iterate 3 exact rfl))|refine zgc ?_|fail)
 apply Yf H
 ·exact zc0
 exact zc10
theorem YkS(n:NetM)(q:List RqM)(s:SchM)(hin:n.In B w0 H)(hq:QIn B w0 H A q)(hrs:Rd B w0 H s.A (s.cells.flatMap celF))(hsl:s.cells.length<=1000000000000)(hw:St B w0 H w):
 CX B w0 94 [n.val,.slice A q.length cap,s.val] w (OutC H (YJ n.net (q.map RqM.rq) s.sch)):=by
 refine Ya Tryz.func94 Tryz.ntmps94 rfl rfl hw ?_
 have hop:∀w,St B w0 [many H] w->St B w0 H w:=λw hw=>hw.perm (.openT H)
 have hin:=hin.mono hop
 have hrs:=hrs.mono hop
 have hq:=hq.mono hop
 refine Y6 [many H] (λw hw=>hw.perm (.closeT H)) ?_
 have hql:=hq.ln
 have hqr:=hq.rd
 have p1:=λ{H':List HP}{w:World}(hin:n.In B w0 H') (hq:QIn B w0 H' A q) (hw:St B w0 H' w)=>O8 n q (cap:=cap) hin hq hw
 have p2:=λ{H':List HP}{w:World}(hq:QIn B w0 H' A q) (hw:St B w0 H' w)=>YbB q (cap:=cap) hql hq.rd hw
 have p3:=λ{A2:Option Addr}{cap2:Nat}{H':List HP}{w:World}(hin:n.In B w0 H') (hf:Rd B w0 H' A2 ((RqM.fl q).flatMap flwF)) (hrs:Rd B w0 H' s.A (s.cells.flatMap celF)) (hw:St B w0 H' w)=>Yi2 n (RqM.fl q) s Yms hsl (cap:=cap2) hin hf hrs hw
 have p4:=λ{H':List HP}{w:World}(x:RqM) (h9:x.rows.length<=9) (hin:n.In B w0 H') (hrs:Rd B w0 H' s.A (s.cells.flatMap celF)) (hx:x.In B w0 H') (hw:St B w0 H' w)=>YiO n s x hin hrs hsl hx h9 hw
 obtain⟨R,hR⟩:∃R,YJ n.net (q.map RqM.rq) s.sch=R:=⟨_,rfl⟩
 rw[hR]
 unfold YJ at hR
 rw[To]at hR
 have hrq:(rqsE n.net (q.map RqM.rq)).2=0->∀x∈q,x.rows.length<=9:=λh x hx=>by
  exact zc35
 obtain⟨⟨ri,re⟩,hr⟩:∃r,rqsE n.net (q.map RqM.rq)=r:=⟨_,rfl⟩
 obtain⟨⟨ci,ce⟩,hc⟩:∃r,schE n.net (Y8 (q.map RqM.rq)) s.sch=r:=⟨_,rfl⟩
 obtain⟨F,hF⟩:∃F:Nat->Int,(λi=>if ZK n.net s.sch (rqAt (q.map RqM.rq) i)=true then 15 else 0)=F:=⟨_,rfl⟩
 rw[hr]at p1 hR hrq
 rw[Yfi]at p3
 rw[hc]at p3 hR
 rw[hF]at hR
 have hFv:∀{k:Nat}{x:RqM},q[k]? =some x->F k=if ZK n.net s.sch x.rq=true then 15 else 0:=λh=>by exact Yuq
 rw[<-Yfi]at p3
 dsimp only at p1 p3 hR hrq
 unfold NetM.val SchM.val
 unfold NetM.val at p1
 unfold NetM.val SchM.val at p3 p4
 unfold rqV clV at p4
 have hno:∀w,St B w0 [many H] w->St B w0 (clsP none 0 []::many (([]:List ClM).map clQ)::H) w:=λw hw=>YdE (hw.perm (.openT H))
 by_cases h0:re=0
 rotate_left
 ·rw[Tn h0]at hR
  subst hR
  refine zX73 ?_<;>intros
  apply Yb en93
  exact za
  exact rfl
  exactλ_ hw=>(p1 (hin.mono zc0) (hq.mono zc0) hw)
  refine zX0 ?_<;>intros
  apply Yf (clsP none 0 []::many (([]:List ClM).map clQ)::H)
  ·intro w hw
   refine hno w ?_
   revert w
   exact zc0
  exact zc48
 subst h0
 rw[Tj (λe=>e rfl)]at hR
 have hrq:=hrq rfl
 by_cases h1:ce=0
 rotate_left
 ·rw[Tn h1]at hR
  subst hR
  rw[Ti h1]at p3
  refine zX73 ?_<;>intros
  apply Yb en93
  exact za
  exact rfl
  exactλ_ hw=>(p1 (hin.mono zc0) (hq.mono zc0) hw)
  refine zX0 ?_<;>intros
  apply YA [0,1,3,2,4,5] [] [true,true]
  kernel_rfl
  kernel_rfl
  exact zy
  (simp only[Yc,nthO];rfl)
  exact rfl
  refine zX3 ?_
  apply Yg _ en70
  exact za
  exact rfl
  exactλ_ hw=>(p2 (hq.mono zc0) (hw))
  rintro _ _ ⟨A2,cap2,rfl,rfl⟩
  refine zX16 ?_
  apply Yb YsO
  exact za
  exact rfl
  exactλ_ hw=>(p3 (hin.mono zc0) (Rd.sl (by(focus exact zc2))) (hrs.mono zc0) hw)
  refine zX16 ?_
  apply Yf (clsP none 0 []::many (([]:List ClM).map clQ)::H)
  ·intro w hw
   refine hno w ?_
   revert w
   exact zc0
  exact zc48
 subst h1
 rw[Tj (λe=>e rfl)]at hR
 rw[Tf rfl]at p3
 refine zX73 ?_<;>intros
 rename_i g3 g5
 apply Yb en93
 exact za
 exact rfl
 exactλ_ hw=>(p1 (hin.mono zc0) (hq.mono zc0) hw)
 refine zX0 ?_<;>intros
 apply YA [0,1,3,2,4,5] [] [true,true]
 kernel_rfl
 kernel_rfl
 exact zy
 (simp only[Yc,nthO];rfl)
 exact rfl
 refine zX3 ?_
 apply Yg _ en70
 exact za
 exact rfl
 exactλ_ hw=>(p2 (hq.mono zc0) (hw))
 rintro _ _ ⟨A2,cap2,rfl,rfl⟩
 refine zX16 ?_
 apply Yb YsO
 exact za
 exact rfl
 exactλ_ hw=>(p3 (hin.mono zc0) (Rd.sl (by(focus exact zc2))) (hrs.mono zc0) hw)
 repeat'(first|(apply YK T;exact rfl;exact rfl;intro gO)|(apply Yh;try exact zl)|refine zgd ?_|fail)
 refine Ye (λz:MkM=>[(12,.int .i64 (z.i:Nat)),(11,.slice z.A z.C.length z.cap),(1,.slice A q.length cap),(5,.pointer (some ⟨g5,0,none⟩)),(3,.pointer (some ⟨g3,0,none⟩))]) (λz=>clsP z.A z.cap z.C::many (z.C.map clQ)::schA g5 s::netA g3 n::[many H])
  (λz=>z.i<=q.length/\z.C.map ClM.clm=(q.take z.i).map (λx=>clmE n.net s.sch x.rq)/\(∀c∈z.C,c.lens)/\∀j,0<=j->j<z.i->F j=0) (λz=>q.length-z.i) ⟨0,some ⟨gO,0,none⟩,0,[]⟩ ⟨Td _,rfl,(λc hc=>by cases hc),λj _ h=>absurd h (TZ _)⟩ ?_ ?_ ?_
 ·exact zc1
 ·intro w hw
  have h5:St B w0 (sl 189 5 (some ⟨gO,0,none⟩) 0 0 []::schA g5 s::netA g3 n::[many H]) w:=by
   revert w
   exact zc0
  exact h5.perm (.cons _ (.noMany _))
 rintro⟨i,A3,cap3,C⟩ ⟨hi,hC,hCl,hz⟩ K hK
 dsimp only at hi hC hCl hz⊢
 have hCn:C.length<=q.length:=Yt4
 by_cases hlt:i<q.length
 rotate_left
 ·obtain rfl:i=q.length:=by omega
  have hfe:=Xy (f:=F) (r:=q.length) (i0:=0) λj h1 h2=>hz j h1 (by omega)
  rw[hfe,Tj (λe=>e rfl)]at hR
  subst hR
  rw[TI]at hC
  clear hK
  refine zX0 ?_<;>intros
  apply Yf (clsP A3 cap3 C::many (C.map clQ)::H)
  ·intro w hw
   have h5:St B w0 (clsP A3 cap3 C::many (C.map clQ)::[many H]) w:=by
    revert w
    exact zc0
   exact Ymr
  exact YtW
 obtain⟨x,hx⟩:∃x,q[i]? =some x:=⟨_,Ta hlt⟩
 have hxm:=Tc hx
 have hFx:=hFv hx
 have p5:=λ{H':List HP}{w:World}(hin:n.In B w0 H') (hrs:Rd B w0 H' s.A (s.cells.flatMap celF)) (hxi:x.In B w0 H') (hw:St B w0 H' w)=>p4 x (hrq x hxm) hin hrs hxi hw
 have hxi:=hq.x x hxm
 have hqr2:Rd B w0 [schA g5 s,netA g3 n,many H] A (q.flatMap rqF):=hqr.cons.cons
 cases hlb:ZK n.net s.sch x.rq with
 |true=>
  rw[hlb,Tn rfl]at hFx
  rw[hlb]at p5
  have hfe:=Xh (f:=F) (r:=q.length) (i0:=0) (i:=i) (λj h1 h2=>hz j h1 h2) (Td _) (by omega) (by rw[hFx];decide)
  rw[hfe,hFx]at hR
  rw[Tn (show(15:Int)≠0 from by decide)]at hR
  subst hR
  clear hK
  refine zX1 ?_<;>intros
  apply Jb (.n1 0 (.n1 1 (.n1 2 (.n1 3 (.n1 4 (.n1 5 (.n2 6 (.n1 7 (.n1 8 (.n1 9 (.n1 10 (.n1 11 (.n1 12 .done)))))) 10 (.n1 6 (.n1 7 (.n1 8 (.n1 9 (.n1 11 (.n1 12 .done))))))))))))) [] [false,false,true,true,true]
  kernel_rfl
  kernel_rfl
  exact zy
  exact rfl
  repeat'(first|((apply Yg _ YsP);exact za;exact rfl;exactλ_ hw=>p5 (hin.mono zk) (hrs.mono zk) (hxi.mono zk) hw;rintro _ _ ⟨c,rfl,_,rfl⟩)|(apply Yh;try exact zl)|apply(zs91 ?_ ?_)|(apply Xf;try exact zl)|refine zgd ?_|(refine zgh ?_;intro _)|fail)
  all_goals(
   apply Yf (clsP none 0 []::many (([]:List ClM).map clQ)::H)
   ·intro w hw
    refine hno w ?_
    revert w
    exact zk
   apply J7;(iterate 4 exact rfl)
   exact Yl9 rfl rfl)
 |false=>
  rw[hlb,Tj (by decide)]at hFx
  rw[hlb]at p5
  refine zX1 ?_<;>intros
  apply Jb (.n1 0 (.n1 1 (.n1 2 (.n1 3 (.n1 4 (.n1 5 (.n2 6 (.n1 7 (.n1 8 (.n1 9 (.n1 10 (.n1 11 (.n1 12 .done)))))) 10 (.n1 6 (.n1 7 (.n1 8 (.n1 9 (.n1 11 (.n1 12 .done))))))))))))) [] [false,false,true,true,true]
  kernel_rfl
  kernel_rfl
  exact zy
  exact rfl
  repeat'(first|((apply Yg _ YsP);exact za;exact rfl;exactλ_ hw=>p5 (hin.mono zk) (hrs.mono zk) (hxi.mono zk) hw;rintro _ _ ⟨c,rfl,hcc,rfl⟩)|(apply Yh;try exact zl)|apply(zs91 ?_ ?_)|(apply Xf;try exact zl)|refine zgd ?_|(refine zgh ?_;intro _)|(refine zgi ?_;intro _ _)|fail)
  all_goals(
   obtain⟨hcm,hcl⟩:=hcc rfl
   rename_i A4 cap4
   rw[YhB,show C.length+1=(C++[c]).length by simp]
   apply hK ⟨i+1,A4,cap4,C++[c]⟩
   ·refine⟨by show i+1<=_;omega,?_,λy hy=>?_,λj h1 h2=>?_⟩
    ·show(C++[c]).map ClM.clm=_
     rw[TB,hx,RN,Rf,Rf,hC]
     simp[hcm]
    ·rcases Rl.1 hy with h|h
     ·exact hCl y h
     ·rw[Ru.1 h];exact hcl
    ·rcases Rk.1 h2 with h|rfl
     ·exact hz j h1 h
     ·exact hFx
   ·dsimp only;omega
   ·exact zu
   ·intro w hw
    have h5:St B w0 (clsP A4 cap4 (C++[c])::clQ c::many (C.map clQ)::schA g5 s::netA g3 n::[many H]) w:=by
     revert w
     exact zk
    exact h5.perm (.cons _ (YdA clQ C c _)))
variable {A:Option Addr}{cap B:Nat}{w0 w:World}{H:List HP}
theorem Yc1(l m:List Int)(hlen:l.length<=9223372036854775807){A2:Option Addr}{cap2:Nat}(hr:Rd B w0 H A (l.flatMap numF))(hr2:Rd B w0 H A2 (m.flatMap numF))(hw:St B w0 H w):
 CX B w0 36 [.slice A l.length cap,.slice A2 m.length cap2] w λu K=>u=.bool (decide (l=m))/\K=H:=by
 refine Ya Tryz.func36 Tryz.ntmps36 rfl rfl hw ?_
 by_cases hll:l.length=m.length
 rotate_left
 ·exact zc8
 refine zX1 ?_<;>intros
 refine Ye (λ(k:Nat)=>[(13,.int .i64 k),(12,.int .i64 l.length),(0,.slice A l.length cap),(1,.slice A2 m.length cap2)]) (λ_=>H) (λk=>k<=l.length/\l.take k=m.take k) (λk=>l.length-k) 0 ⟨Td _,by simp⟩ ?_ (λw hw=>hw) ?_
 ·exact zc1
 rintro k ⟨hk,hi⟩ K hK
 by_cases hlt:k<l.length
 ·obtain⟨a,ha⟩:∃a,l[k]? =some a:=⟨_,Ta hlt⟩
  obtain⟨b,hb⟩:∃b,m[k]? =some b:=⟨_,Ta (by omega)⟩
  repeat'(first|refine zgd ?_|(refine zge ?_ ?_<;>intro _<;>try exact zo)|fail)
  ·exact zc44
  ·rename_i h
   apply hK (k+1)
   ·exact⟨by omega,by exact zc76⟩
   ·omega
   ·exact zc1
   exact zc21
 exact zc7
theorem Vv(p:PnM)(ht:TabsB B w0)(hp:p.In B w0 H)(hw:St B w0 H w):
 CX B w0 22 [p.val] w λv K=>v=.int .i64 (chkP p.pln)/\K=H:=by
 refine Ya Tryz.func22 Tryz.ntmps22 rfl rfl hw ?_
 obtain⟨n,qA,qcap,q,s,cA,ccap,c,fA,fcap,f⟩:=p
 obtain⟨hin,hq,hrs,hsl,hc,hf,hfl⟩:=hp
 dsimp only at hin hq hrs hsl hc hf hfl
 have p1:=λ{H':List HP}{w:World}(hin:n.In B w0 H') (hw:St B w0 H' w)=>WA n hin hw
 have p2:=λ{H':List HP}{w:World}(hin:n.In B w0 H') (hq:QIn B w0 H' qA q) (hrs:Rd B w0 H' s.A (s.cells.flatMap celF)) (hw:St B w0 H' w)=>UY n q s (cap:=qcap) ht hin hq hrs hsl hw
 have p3:=λ{H':List HP}{w:World}(hin:n.In B w0 H') (hq:QIn B w0 H' qA q) (hrs:Rd B w0 H' s.A (s.cells.flatMap celF)) (hc:CIn B w0 H' cA c) (hw:St B w0 H' w)=>Ygd n q s c (cap:=qcap) (cap1:=ccap) ht hin hq hrs hsl hc hw
 have p4:=λ{H':List HP}{w:World}(hrs:Rd B w0 H' s.A (s.cells.flatMap celF)) (hw:St B w0 H' w)=>YeV s ht hrs hsl hw
 unfold PnM.val
 show VC _ _ B w0 _ (bodyPost _ _ (Post B w0 λv K=>v=.int .i64 (chkP ⟨n.net,q.map RqM.rq,s.sch,c.map ClM.clm,f⟩)/\K=H)) _ _
 unfold chkP
 dsimp only
 unfold OutC at p2
 obtain⟨⟨RC,ri,re⟩,hR⟩:∃R,YJ n.net (q.map RqM.rq) s.sch=R:=⟨_,rfl⟩
 obtain⟨⟨RF,fe⟩,hRF⟩:∃R,XP s.sch=R:=⟨_,rfl⟩
 obtain⟨⟨ki,ke⟩,hRK⟩:∃R,chkE n.net (q.map RqM.rq) s.sch (c.map ClM.clm)=R:=⟨_,rfl⟩
 rw[hR]at p2⊢
 rw[hRF]at p4⊢
 rw[hRK]at p3⊢
 dsimp only at p2 p3 p4⊢
 have hFn:RF.length<=9223372036854775807:=by
  have h2:=TF (λz=>z.1.length) hRF
  dsimp only at h2
  unfold XP at h2
  split at h2
  ·exact Yq1
  ·rename_i h0
   unfold JP at h2
   rw[Jx,TS]at h2
   have h3:=(XF.1 (by simpa using h0)).sized
   exact YuJ
 unfold NetM.val at p1
 unfold NetM.val SchM.val at p2 p3
 unfold SchM.val at p4
 clear hR hRF hRK
 by_cases hck:Yl n.net=0
 rotate_left
 ·rw[Tn hck]
  rw[Ti hck]at p1
  repeat'(first|refine Yr T ?_|refine zgb ?_|(refine zgh ?_;intro _)|fail)
  apply Yb en38
  exact za
  exact rfl
  exactλ_ hw=>(p1 (hin.mono zc0) hw)
  refine Ue ?_
  apply Yf H
  ·exact zc0
  exact zc3
 rw[Tj (λe=>e hck)]
 rw[Tf hck]at p1
 repeat'(first|refine Yr T ?_|refine zgb ?_|(refine zgh ?_;intro _)|fail)
 apply Yb en38
 exact za
 exact rfl
 exactλ_ hw=>(p1 (hin.mono zc0) hw)
 refine Yjs ?_
 apply Yg _ en90
 exact za
 exact rfl
 exactλ_ hw=>(p2 (hin.mono zc0) (hq.mono zc0) (hrs.mono zc0) (hw))
 rintro _ _ ⟨A2,c2,C,rfl,hC,hCl,rfl⟩
 by_cases h18:re=15\/re=1/\ri<0
 ·rw[Tn h18]
  repeat'(first|refine Yr T ?_|refine zgd ?_|(refine zgf ?_ ?_<;>intro _<;>try exact zo)|fail)
  all_goals try exact zo
  all_goals(
   apply Yf H
   ·exact zk
   apply Yd;exact rfl;exact rfl;exact⟨rfl,rfl⟩)
 rw[Tj h18]
 by_cases h0:re=0
 rotate_left
 ·rw[Tn h0]
  repeat'(first|refine Yr T ?_|refine zgd ?_|(refine zgf ?_ ?_<;>intro _<;>try exact zo)|fail)
  all_goals try exact zo
  all_goals(
   apply Yf H
   ·exact zk
   apply Yd;exact rfl;exact rfl;exact⟨rfl,rfl⟩)
 rw[Tj (λe=>e h0)]
 subst h0
 repeat'(first|refine Yr T ?_|refine zgd ?_|(refine zgf ?_ ?_<;>intro _<;>try exact zo)|fail)
 all_goals try exact zo
 apply Yb en91
 exact za
 exact rfl
 exactλ_ hw=>(p3 (hin.mono zc0) (hq.mono zc0) (hrs.mono zc0) (hc.mono zc0) hw)
 by_cases hk0:ke=0
 rotate_left
 ·rw[Tn hk0]
  refine Yel ?_<;>intros
  apply Yf H
  ·exact zc0
  exact zc3
 rw[Tj (λe=>e hk0)]
 refine Yel ?_<;>intros
 apply Yg _ en92
 exact za
 exact rfl
 exactλ_ hw=>(p4 (hrs.mono zc0) (hw))
 rintro _ _ ⟨A3,rfl,rfl⟩
 have p5:=λ{cap1 cap2:Nat}{H':List HP}{w:World}(h1:Rd B w0 H' A3 (RF.flatMap numF)) (h2:Rd B w0 H' fA (f.flatMap numF)) (hw:St B w0 H' w)=>Yc1 RF f hFn (cap:=cap1) (cap2:=cap2) h1 h2 hw
 by_cases hf0:fe=0
 rotate_left
 ·rw[Tn (.inl hf0)]
  refine zX72 ?_<;>intros
  all_goals try exact zo
  all_goals(
   apply Yf H
   ·exact zc0
   exact zc3)
 by_cases hff:RF=f
 ·rw[Tj (by rintro(h|h);exact h hf0;exact h hff)]
  rw[Tf hff]at p5
  repeat'(first|refine Yr T ?_|((apply Yb en36);exact za;exact rfl;exactλ_ hw=>(p5 (Rd.sl zm) (hf.mono zk) hw))|refine zgc ?_|(refine zge ?_ ?_<;>intro _<;>try exact zo)|fail)
  all_goals try exact zo
  all_goals(
   apply Yf H
   ·exact zc0
   exact zc3)
 ·rw[Tn (.inr hff)]
  rw[Ti hff]at p5
  repeat'(first|refine Yr T ?_|((apply Yb en36);exact za;exact rfl;exactλ_ hw=>(p5 (Rd.sl zm) (hf.mono zk) hw))|refine zgd ?_|(refine zge ?_ ?_<;>intro _<;>try exact zo)|fail)
  all_goals try exact zo
  all_goals(
   apply Yf H
   ·exact zc0
   exact zc3)
theorem YdJ(word:List UInt8)(l:List Int)(h:∀n∈l,0<=n/\n<10000)(h5:l.length<=100)(hwd:word.length<=100)(ht:TabsB B w0)(hr:Rd B w0 H A (l.flatMap numF))(hw:St B w0 H w):
 CX B w0 81 [strV word,.slice A l.length cap] w λv K=>v=strV (Y0 word l)/\K=H:=by
 refine Ya Tryz.func81 Tryz.ntmps81 rfl rfl hw ?_
 refine zX7 ?_
 refine Ye (λ(i:Nat)=>[(9,.int .i64 i),(8,.int .i64 l.length),(7,.slice A l.length cap),(0,strV (XW word (l.take i)))]) (λ_=>H) (λi=>i<=l.length) (λi=>l.length-i) 0 (Td _) ?_ (λw hw=>hw) ?_
 ·have e0:XW word (l.take 0)=word:=by simp[XW]
  rw[e0]
  exact zc1
 intro i hi K hK
 have hbl:=UJ (w:=word) (l:=l.take i) λn hn=>h n (RY hn)
 have hlt0:(l.take i).length<=100:=by grind
 by_cases hlt:i<l.length
 ·obtain⟨n,hn⟩:∃n,l[i]? =some n:=⟨_,Ta hlt⟩
  have hnb:=h n (Tc hn)
  have hil:=Ob hnb
  refine zX31 ?_<;>intros
  apply hK (i+1)
  ·show i+1<=l.length
   omega
  ·omega
  ·rw[TB,hn,RN,OD]
   exact zc1
  exact zc21
 exact zc13
variable {B cap:Nat}{w0 w:World}{H:List HP}
theorem YpY(y:Flw)(len:Int)(g:Nat)(hl:0<=len)(hp:1<=y.2.2.2.1)(hm:intA g len∈H)(hw:St B w0 H w):
 CX B w0 41 [flwV y,.pointer (some ⟨g,0,none⟩)] w λv K=>v=.bool (decide (len.tmod y.2.2.2.1≠0))/\K=H:=by
 refine Ya Tryz.func41 Tryz.ntmps41 rfl rfl hw ?_
 unfold flwV
 rw[Rh hl]
 by_cases h:len%y.2.2.2.1=0
 ·have h2:decide (len%y.2.2.2.1≠0)=false:=Ti (λe=>e h)
  rw[h2]
  refine zX46 ?_<;>intros
  all_goals(apply Yf H;((intro w hw;refine hw.perm ?_;focus exact zc4));exact zc10)
 ·have h2:decide (len%y.2.2.2.1≠0)=true:=Tf h
  rw[h2]
  refine zX46 ?_<;>intros
  all_goals(apply Yf H;((intro w hw;refine hw.perm ?_;focus exact zc4));exact zc10)
structure MkOk(n:NetM)(qA:Option Addr)(qcap:Nat)(ql:Nat)(RR:Option Pln×Int)(z:BuM):Prop where
 eqn:z.n=n
 eqA:z.qA=qA
 eqc:z.qcap=qcap
 eql:z.q.length=ql
 lens:∀x∈z.q,x.lens
 sl:z.s.cells.length<=1000000000000
 res:fin2 n.net (z.q.map RqM.rq) z.s.sch z.e=RR
theorem Ycy(n:Net)(q:List Rqs)(len off:Int):(Xv n q len off).1.1.cells.length<=512:=by
 unfold Xv
 split
 ·exact Td _
 split
 ·exact Td _
 split
 ·exact Td _
 have hrq:(rqsE n q).2=0:=by omega
 have:=Yb1 hrq (len:=len) (off:=off) (by omega) (by omega) q.length (TK _)
 exact(Vb.1 (Jh.1 (Z7.1 this.ok).1)).frm.few
theorem Yrs(n:Net)(q:List Rqs)(len off:Int):(Xv n q len off).1.2.length<=q.length:=by
 unfold Xv
 split
 ·simp_all
 split
 ·simp_all
 split
 ·simp_all
 have hrq:(rqsE n q).2=0:=by omega
 have:=Yb1 hrq (len:=len) (off:=off) (by omega) (by omega) q.length (TK _)
 rw[this.cnt];exact this.few
variable {A:Option Addr}
theorem Yqj{l:List Int}(h:Z1 A cap l∈H):Rd B w0 H A (l.flatMap numF):=Rd.sl h
theorem Yk8(n:Net)(q:List Rqs)(s:Sch):(Yee n q s).1.cells.length<=s.cells.length:=by
 unfold Yee
 exact YuD
theorem Ynl(e:Int):XN 0 e=e:=Tn rfl
theorem YaJ{a:Int}(b:Int)(h:a≠0):XN a b=a:=Tj h
theorem Yc6{n:Net}{q:List Rqs}{s:Sch}{e:Int}(h:e≠0):fin2 n q s e=(none,e):=Tj h
theorem Yiq(n:NetM)(l:List Flw)(len off:Int)(h24:len<=24\/512<len)(hll:l.length<=1000000000000)(hrun:∀f∈l,Ylj n f)(ht:TabsB B w0)(hin:n.In B w0 H)(hr:Rd B w0 H A (l.flatMap flwF))(hw:St B w0 H w):
 CX B w0 10 [n.val,.slice A l.length cap,.int .i64 len,.int .i64 off] w (Yli B w0 H (Yl5 n.net l len off)):=by
 refine Ya Tryz.func10 Tryz.ntmps10 rfl rfl hw ?_
 have p1:=λ{H':List HP}{w:World}(hin:n.In B w0 H') (hw:St B w0 H' w)=>WA n hin hw
 have p2:=λ{H':List HP}{w:World}(hr:Rd B w0 H' A (l.flatMap flwF)) (hw:St B w0 H' w)=>Xw n.nodes l (TX hll (by decide)) (cap:=cap) hr hw
 have p3:=λ{H':List HP}{w:World}(hin:n.In B w0 H') (hr:Rd B w0 H' A (l.flatMap flwF)) (hw:St B w0 H' w)=>YeK n l hll hrun (cap:=cap) hin hr hw
 have hop:∀w,St B w0 [many H] w->St B w0 H w:=λw hw=>hw.perm (.openT H)
 have hinM:∀{H':List HP},many H∈H'->n.In B w0 H':=λhm=>hin.mono λw hw=>hw.inM hm
 have hrM:∀{H':List HP},many H∈H'->Rd B w0 H' A (l.flatMap flwF):=λhm=>hr.mono λw hw=>hw.inM hm
 unfold NetM.val at p1 p3⊢
 refine Y6 [many H] (λw hw=>hw.perm (.closeT H)) ?_
 unfold Yl5
 by_cases hck:Yl n.net=0
 rotate_left
 ·rw[Tn (.inl hck)]
  rw[Ti hck]at p1
  repeat'(first|(apply zg23;first|(refine zs52 ?_;intro _)|(refine zs53 ?_;intro _))|refine zgb ?_|(refine zgh ?_;intro _)|fail)
  apply Yb en38
  exact za
  exact rfl
  exactλ_ hw=>(p1 (hinM zm) hw)
  repeat'(first|refine zgd ?_|fail)
  apply Yy T (H2:=H);(iterate 3 exact rfl);exact zm;exact rfl;exact rfl
  ·intro w hw
   have h5:St B w0 [many H] w:=by
    revert w
    exact zk
   exact hop w h5
  exact .inl ⟨rfl,rfl,rfl⟩
 rw[Tf hck]at p1
 have hnd:n.net.nodes=n.nodes:=rfl
 rw[hnd]
 obtain⟨⟨fi,fe⟩,hF⟩:∃R,YB n.nodes l=R:=⟨_,rfl⟩
 rw[hF]at p2⊢
 dsimp only at p2⊢
 by_cases hfe:fe=0
 rotate_left
 ·rw[Tn (.inr hfe)]
  repeat'(first|(apply zg23;first|(refine zs52 ?_;intro _)|(refine zs53 ?_;intro _))|refine zgb ?_|(refine zgh ?_;intro _)|fail)
  apply Yb en38
  exact za
  exact rfl
  exactλ_ hw=>(p1 (hinM zm) hw)
  repeat'(first|refine zgc ?_|fail)
  apply Yb en39
  exact za
  exact rfl
  exactλ_ hw=>(p2 (hrM zm) hw)
  repeat'(first|refine zgd ?_|(refine zge ?_ ?_<;>intro _<;>try exact zo)|fail)
  apply Yy T (H2:=H);(iterate 3 exact rfl);exact zm;exact rfl;exact rfl
  ·intro w hw
   have h5:St B w0 [many H] w:=by
    revert w
    exact zk
   exact hop w h5
  exact .inl ⟨rfl,rfl,rfl⟩
 subst hfe
 rw[Tj (by rintro(h|h);exact h hck;exact h rfl)]
 have hl16:l.length<=16:=by
  unfold YB at hF
  split at hF
  ·cases hF
  split at hF
  ·cases hF
  ·omega
 have hper:∀f∈l,1<=f.2.2.2.1:=λf hf=>(ZS (VH (nodes:=n.nodes) (by rw[hF]) hf)).2.1.1
 repeat'(first|(apply zg23;first|(refine zs52 ?_;intro _)|(refine zs53 ?_;intro _))|refine zgb ?_|(refine zgh ?_;intro _)|fail)
 rename_i g4 g6 g8
 apply Yb en38
 exact za
 exact rfl
 exactλ_ hw=>(p1 (hinM zm) hw)
 repeat'(first|refine zgc ?_|fail)
 apply Yb en39
 exact za
 exact rfl
 exactλ_ hw=>(p2 (hrM zm) hw)
 by_cases hrg:len<1\/512<len\/off<1\/16<off
 ·rw[Tn hrg]
  repeat'(first|refine zgd ?_|(refine zge ?_ ?_<;>intro _<;>try exact zo)|fail)
  all_goals try exact zo
  all_goals(
   apply Yy T (H2:=H);(iterate 3 exact rfl);exact zm;exact rfl;exact rfl
   ·intro w hw
    have h5:St B w0 [many H] w:=by
     revert w
     exact zk
    exact hop w h5
   exact .inl ⟨rfl,rfl,rfl⟩)
 rw[Tj hrg]
 repeat'(first|(apply zg29;(apply Ys;exact za;exact rfl))|refine zgc ?_|(refine zge ?_ ?_<;>intro _<;>try exact zo)|fail)
 all_goals try exact zo
 apply Yb en40
 exact za
 exact rfl
 exactλ_ hw=>(W3 (λy=>decide (len.tmod y.2.2.2.1≠0)) l 41 [.pointer (some ⟨g6,0,none⟩)] en41 (by omega) (hrM zm) (λa ha w hw=>YpY a len g6 (by omega) (hper a ha) zm hw) hw)
 have hpb:(l.any λy:Flw=>decide (len.tmod y.2.2.2.1≠0))=perB l len:=rfl
 rw[hpb]
 cases hh:perB l len with
 |true=>
  rw[Tn rfl]
  repeat'(first|refine zgd ?_|fail)
  apply Yy T (H2:=H);(iterate 3 exact rfl);exact zm;exact rfl;exact rfl
  ·intro w hw
   have h5:St B w0 [many H] w:=by
    revert w
    exact zk
   exact hop w h5
  exact .inl ⟨rfl,rfl,rfl⟩
 |false=>
 rw[Tj (by decide)]
 have hrf:=YkU (n:=n.net) (l:=l)
 generalize V8 n.net l=R at p3 hrf
 obtain⟨RQ,ri,re⟩:=R
 unfold Yoo at p3
 dsimp only at p3 hrf⊢
 repeat'(first|refine zgc ?_|fail)
 apply Yg _ en42
 exact za
 exact rfl
 exactλ_ hw=>(p3 (hinM zm) (hrM zm) (hw))
 rintro _ _ ⟨A1,c1,q,rfl,hq,hql,rfl⟩
 by_cases hre:re=0
 rotate_left
 ·rw[Tn hre]
  repeat'(first|refine zgd ?_|(refine zge ?_ ?_<;>intro _<;>try exact zo)|fail)
  apply Yy T (H2:=H);(iterate 3 exact rfl);exact zm;exact rfl;exact rfl
  ·intro w hw
   have h5:St B w0 [many H] w:=by
    revert w
    exact zk
   exact hop w h5
  exact .inl ⟨rfl,rfl,rfl⟩
 subst hre
 rw[Tj (show¬(0:Int)≠0 fromλe=>e rfl)]
 have hqn:q.length<=16:=by
  have h1:=TF List.length (hrf rfl)
  have h2:=TF List.length hq
  unfold Y8 at h1
  rw[To]at h1 h2
  omega
 have hRQn:RQ.length=q.length:=by rw[<-hq,To]
 have hQI:∀{H':List HP}{Q:List RqM},rqs A1 c1 Q∈H'->many (Q.map rqQ)∈H'->Q.length<=16->(∀x∈Q,x.lens)->QIn B w0 H' A1 Q:=λh1 h2 h3 h4=>⟨YkN h1,λx hx=>Yma h2 hx (h4 x hx),by omega⟩
 clear p1 p2 p3
 iterate 30 (first|refine zgd ?_|(refine zge ?_ ?_<;>intro _<;>try exact zo)|(refine zgh ?_;intro _)|fail)
 rename_i g15
 have p4:=λ(b:BuM) {H':List HP}{w:World}(hin:b.n.In B w0 H') (hq:QIn B w0 H' b.qA b.q) (hw:St B w0 (bldA g15 b::H') w)=>Yh0 b g15 len off h24 ht hin hq hw
 have p5:=λ(b:BuM) (ia:List Int) (hia:ia.length<=1000) (hql:b.q.length<=1000) (hqs:∀x∈b.q,x.lens) {iA:Option Addr}{icap:Nat}{H':List HP}{w:World}(hin:b.n.In B w0 H') (hra:Rd B w0 H' iA (ia.flatMap numF)) (hw:St B w0 (bldA g15 b::rqs b.qA b.qcap b.q::many (b.q.map rqQ)::H') w)=>Ygt b g15 ia hia hql hqs (icap:=icap) hin hra hw
 have p6:=λ(b:BuM) (e:Int) {H':List HP}{w:World}(hw:St B w0 (bldA g15 b::H') w)=>Uk b g15 e hw
 obtain⟨RR,hRR⟩:∃RR,Ygb n.net RQ len off=RR:=⟨_,rfl⟩
 rw[hRR]
 refine Zs (λz:{z:BuM//MkOk n A1 c1 q.length RR z}=>[(15,.pointer (some ⟨g15,0,none⟩)),(4,.pointer (some ⟨g4,0,none⟩)),(8,.pointer (some ⟨g8,0,none⟩)),(9,.int .i64 0)])
  (λz=>bldA g15 z.1::rqs A1 c1 z.1.q::many (z.1.q.map rqQ)::cels z.1.s.A z.1.s.cap z.1.s.cells::netA g4 n::blk g8 (.cells zeroPnV.cells 38 (0,0))::[many H]) ?_ ?_
 ·intro K hK
  repeat'(first|refine zgb ?_|fail)
  apply Zh (bldA g15 ⟨n,A1,c1,q,⟨0,0,none,0,[]⟩,none,0,[],none,0,[],0⟩::rqs A1 c1 q::many (q.map rqQ)::blk g8 (.cells zeroPnV.cells 38 (0,0))::intA g6 len::netA g4 n::[many H])
  ·intro w hw
   have h5:St B w0 (blk g15 (.cells #[.int .i64 n.nodes,.slice n.pA n.rows.length n.pcap,.int .i64 n.noise,.int .i64 n.thr,.slice n.lA n.links.length n.lcap,.slice n.mA n.margin.length n.mcap,.slice A1 q.length c1,.int .i64 0,.int .i64 0,.slice none 0 0,.slice none 0 0,.slice none 0 0,.int .i64 0] 80 (0,0))::rqs A1 c1 q::many (q.map rqQ)::blk g8 (.cells (Value.agg #[.int .i64 0,.slice none 0 0,.int .i64 0,.int .i64 0,.slice none 0 0,.slice none 0 0,.slice none 0 0,.int .i64 0,.int .i64 0,.slice none 0 0,.slice none 0 0,.slice none 0 0]).cells 38 (0,0))::intA g6 len::netA g4 n::[many H]) w:=by
    revert w
    exact zk
   exact h5
  have hc1:=Ycy n.net RQ len off
  have ha1:=Yrs n.net RQ len off
  unfold Ygb at hRR
  have p7:=λ{H':List HP}{w:World}(hin:n.In B w0 H') (hqi:QIn B w0 H' A1 q) (hw:St B w0 (bldA g15 ⟨n,A1,c1,q,⟨0,0,none,0,[]⟩,none,0,[],none,0,[],0⟩::H') w)=>p4 ⟨n,A1,c1,q,⟨0,0,none,0,[]⟩,none,0,[],none,0,[],0⟩ hin hqi hw
  dsimp only at p7
  rw[hq]at p7
  generalize Xv n.net RQ len off=R1 at p7 hc1 ha1 hRR
  obtain⟨⟨⟨rl,ro,rc⟩,ra⟩,re⟩:=R1
  dsimp only at p7 hc1 ha1 hRR
  rw[Ynl]at p7
  apply XD [bldA g15 ⟨n,A1,c1,q,⟨0,0,none,0,[]⟩,none,0,[],none,0,[],0⟩] _ en43
  exact za
  try exact zl
  exact zp
  exact rfl
  exactλ_ hw=>(p7 (hinM zm) (hQI zm zm hqn hql) hw)
  rintro _ _ ⟨A2,c2,iA,ic,rfl,rfl⟩
  by_cases hl1:ra.length=q.length
  ·rw[Tn (by rw[hl1,hRQn])]at hRR
   rw[Tf hl1]
   repeat'(first|refine zgc ?_|fail)
   apply hK ⟨⟨n,A1,c1,q,⟨rl,ro,A2,c2,rc⟩,none,0,[],none,0,[],re⟩,⟨rfl,rfl,rfl,rfl,hql,by show rc.length<=_;omega,by rw[<-hRR,<-hq];rfl⟩⟩
   ·exact zu
   ·exact zk
  rw[Tj (by rw[hRQn];exact hl1)]at hRR
  rw[Ti hl1]
  repeat'(first|refine zgd ?_|fail)
  apply XD [bldA g15 ⟨n,A1,c1,q,⟨rl,ro,A2,c2,rc⟩,none,0,[],none,0,[],re⟩,rqs A1 c1 q,many (q.map rqQ)] _ en44
  exact za
  try exact zl
  exact zp
  exact rfl
  exactλ_ hw=>(p5 ⟨n,A1,c1,q,⟨rl,ro,A2,c2,rc⟩,none,0,[],none,0,[],re⟩ ra (by omega) (by show q.length<=_;omega) hql (hinM zm) (Yqj (cap:=ic) zm) hw)
  rintro _ _ ⟨q',e',rfl,hl',hs',hc',rfl⟩
  dsimp only at hl' hc'
  rw[hq]at hc'
  have hl'16:q'.length<=16:=by omega
  have hRR2:(e'=re/\(if(Xv n.net (q'.map RqM.rq) len off).1.2.length=q'.length then fin2 n.net (q'.map RqM.rq) (Xv n.net (q'.map RqM.rq) len off).1.1 (XN re (Xv n.net (q'.map RqM.rq) len off).2)else(none,XN (XN re (Xv n.net (q'.map RqM.rq) len off).2) 18))=RR)\/(e'≠0/\RR=(none,e')):=by
   rcases hc' with⟨hb,hm,he⟩|⟨hb,he⟩
   ·left
    rw[Tj (by rw[hb];decide),<-hm]at hRR
    unfold fin3 at hRR
    rw[To]at hRR
    exact⟨he,hRR⟩
   ·right
    rw[Tn hb]at hRR
    exact⟨by rw[he];exact YlV (by decide),by rw[<-hRR,he]⟩
  have hc2:=Ycy n.net (q'.map RqM.rq) len off
  have p8:=λ{H':List HP}{w:World}(hin:n.In B w0 H') (hqi:QIn B w0 H' A1 q') (hw:St B w0 (bldA g15 ⟨n,A1,c1,q',⟨rl,ro,A2,c2,rc⟩,none,0,[],none,0,[],e'⟩::H') w)=>p4 ⟨n,A1,c1,q',⟨rl,ro,A2,c2,rc⟩,none,0,[],none,0,[],e'⟩ hin hqi hw
  dsimp only at p8
  clear p4 p5 p7
  generalize Xv n.net (q'.map RqM.rq) len off=R2 at p8 hc2 hRR2
  obtain⟨⟨⟨rl2,ro2,rc2⟩,ra2⟩,re2⟩:=R2
  dsimp only at p8 hc2 hRR2
  repeat'(first|refine zgb ?_|fail)
  apply XD [bldA g15 ⟨n,A1,c1,q',⟨rl,ro,A2,c2,rc⟩,none,0,[],none,0,[],e'⟩] _ en43
  exact za
  try exact zl
  exact zp
  exact rfl
  exactλ_ hw=>(p8 (hinM zm) (hQI zm zm hl'16 hs') hw)
  rintro _ _ ⟨A3,c3,iA3,ic3,rfl,rfl⟩
  by_cases hl2:ra2.length=q'.length
  ·rw[Tn hl2]at hRR2
   rw[Tf hl2]
   repeat'(first|refine zgc ?_|fail)
   apply hK ⟨⟨n,A1,c1,q',⟨rl2,ro2,A3,c3,rc2⟩,none,0,[],none,0,[],XN e' re2⟩,⟨rfl,rfl,rfl,hl',hs',by show rc2.length<=_;omega,?_⟩⟩
   ·exact zu
   ·exact zk
   rcases hRR2 with⟨he,h⟩|⟨he,h⟩
   ·rw[<-h,he];rfl
   ·show fin2 _ _ _ (XN e' re2)=_
    rw[YaJ _ he,Yc6 he,h]
  rw[Tj hl2]at hRR2
  rw[Ti hl2]
  repeat'(first|refine zgd ?_|fail)
  apply XD [bldA g15 ⟨n,A1,c1,q',⟨rl2,ro2,A3,c3,rc2⟩,none,0,[],none,0,[],XN e' re2⟩] _ en45
  exact za
  try exact zl
  exact zp
  exact rfl
  exactλ_ hw=>(p6 ⟨n,A1,c1,q',⟨rl2,ro2,A3,c3,rc2⟩,none,0,[],none,0,[],XN e' re2⟩ 18 hw)
  rintro _ _ ⟨rfl,rfl⟩
  unfold BuM.fail
  dsimp only
  repeat'(first|refine zga ?_|fail)
  apply hK ⟨⟨n,A1,c1,q',⟨rl2,ro2,A3,c3,rc2⟩,none,0,[],none,0,[],XN (XN e' re2) 18⟩,⟨rfl,rfl,rfl,hl',hs',by show rc2.length<=_;omega,?_⟩⟩
  ·exact zu
  ·exact zk
  rcases hRR2 with⟨he,h⟩|⟨he,h⟩
  ·rw[<-h,he]
   exact Yc6 (YlV (by decide))
  ·show fin2 _ _ _ (XN (XN e' re2) 18)=_
   rw[YaJ _ he,YaJ _ he,Yc6 he,h]
 rintro⟨⟨n',qA',qc',Q,S,cA',cc',C',fA',fc',F',e'⟩,hz⟩
 obtain⟨h1,h2,h3,hQl,hQs,hSl,hres⟩:=hz
 dsimp only at h1 h2 h3 hQl hQs hSl hres⊢
 subst h1 h2 h3
 clear p4 p5 p6 hRR
 dsimp only[bldA]
 have hQ16:Q.length<=16:=by omega
 unfold fin2 at hres
 have p7:=λ{H':List HP}{w:World}(hin:n'.In B w0 H') (hqi:QIn B w0 H' qA' Q) (hrs:Rd B w0 H' S.A (S.cells.flatMap celF)) (hw:St B w0 H' w)=>YmD n' Q S (cap:=qc') ht hin hqi hrs hSl hw
 have htc:=Yk8 n'.net (Q.map RqM.rq) S.sch
 by_cases he:e'=0
 ·subst he
  rw[Tn rfl]at hres
  unfold OutS NetM.val SchM.val at p7
  generalize Yee n'.net (Q.map RqM.rq) S.sch=RT at p7 hres htc
  obtain⟨t,te⟩:=RT
  dsimp only at p7 hres htc
  have htl:t.cells.length<=1000000000000:=TX htc hSl
  repeat'(first|refine Yr T ?_|refine zgd ?_|(refine zgf ?_ ?_<;>intro _<;>try exact zo)|fail)
  apply UB [1,0,2,3,4,5,6,7,8,9,10,11,12,13,14,16,15,17,18,19] [0,1,16,20,21,22,23] [20,21,22,23] [true,true,true,true,true,true,true]
  kernel_rfl
  kernel_rfl
  exact zy
  (simp only[Yc,nthO];rfl)
  (simp only[Yc,nthO];rfl)
  repeat'(first|refine Yr T ?_|refine zgd ?_|fail)
  apply Yg _ en46
  exact za
  exact rfl
  exactλ_ hw=>(p7 (hinM zm) (hQI zm zm hQ16 hQs) (Wq (cap:=S.cap) zm) (hw))
  rintro _ _ ⟨A4,c4,rfl,rfl⟩
  repeat'(first|refine Yr T ?_|(apply Yh;try exact zl)|refine zgd ?_|fail)
  apply XD [bldA g15 ⟨n',qA',qc',Q,⟨t.len,t.off,A4,c4,t.cells⟩,cA',cc',C',fA',fc',F',te⟩] _ en47
  exact za
  try exact zl
  exact zp
  exact rfl
  exactλ_ hw=>(Uw ⟨n',qA',qc',Q,⟨t.len,t.off,A4,c4,t.cells⟩,cA',cc',C',fA',fc',F',te⟩ g15 ht (hinM zm) (hQI zm zm hQ16 hQs) (Wq (cap:=c4) zm) htl hw)
  rintro _ _ hO
  rcases hO with⟨h1,rfl,rfl⟩|⟨p,X,h1,rfl,hp,rfl⟩
  ·unfold zeroPnV
   repeat'(first|refine zgc ?_|fail)
   apply Yy T (H2:=H);(iterate 3 exact rfl);exact zm;exact rfl;exact rfl
   ·intro w hw
    have h5:St B w0 [many H] w:=by
     revert w
     exact zk
    exact hop w h5
   rw[<-hres]
   exact .inl ⟨h1,rfl,rfl⟩
  ·unfold PnM.val
   repeat'(first|refine zgc ?_|fail)
   apply Yy T (H2:=many [many X,cels A4 c4 t.cells]::H);(iterate 3 exact rfl);exact zm;exact rfl;exact rfl
   ·intro w hw
    have h5:St B w0 (many X::cels A4 c4 t.cells::[many H]) w:=by
     revert w
     exact zk
    exact(h5.perm (.cons _ (.cons _ (.openT H)))).perm (.close [_,_] H)
   rw[<-hres]
   exact .inr ⟨p,_,h1,rfl,(hp _ (Wq (cap:=c4) (.head _))).mono λw hw=>(hw.perm (.open_ [_,_] [])),rfl⟩
 ·rw[Tj he]at hres
  have hfe:finE n'.net (Q.map RqM.rq) S.sch e'=(none,e'):=by
   have h:Ygl n'.net (Q.map RqM.rq) S.sch e'=e':=Tn he
   unfold finE
   rw[h,Tn he]
  repeat'(first|refine Yr T ?_|refine zgd ?_|(refine zgf ?_ ?_<;>intro _<;>try exact zo)|fail)
  apply XD [bldA g15 ⟨n',qA',qc',Q,S,cA',cc',C',fA',fc',F',e'⟩] _ en47
  exact za
  try exact zl
  exact zp
  exact rfl
  exactλ_ hw=>(Uw ⟨n',qA',qc',Q,S,cA',cc',C',fA',fc',F',e'⟩ g15 ht (hinM zm) (hQI zm zm hQ16 hQs) (Wq (cap:=S.cap) zm) hSl hw)
  rintro _ _ hO
  dsimp only at hO
  rw[hfe]at hO
  rcases hO with⟨h1,rfl,rfl⟩|⟨p,X,h1,rfl,hp,rfl⟩
  ·unfold zeroPnV
   repeat'(first|refine zgc ?_|fail)
   apply Yy T (H2:=H);(iterate 3 exact rfl);exact zm;exact rfl;exact rfl
   ·intro w hw
    have h5:St B w0 [many H] w:=by
     revert w
     exact zk
    exact hop w h5
   rw[<-hres]
   exact .inl ⟨h1,rfl,rfl⟩
  ·cases h1
def UV(f:Flw):List Int:=[f.1,f.2.1,f.2.2.1,f.2.2.2.1,f.2.2.2.2.1,f.2.2.2.2.2]
def rqT(x:Rqs)(k:Nat):List UInt8:=Y0 wordF (UV x.1)++(List.range k).flatMap λj=>Y0 wordR (rtAt x.2 j)
def plnT(q:List Rqs)(k:Nat):List UInt8:=(q.take k).flatMap λx=>rqT x x.2.length
def ZI(p:Pln):List UInt8×Int:=if chkP p≠0 then([],1)else(plnT p.q p.q.length++(Xq p.s).1++(ZH p.c).1,0)
structure RqD(x:Rqs):Prop where
 f:∀n∈UV x.1,0<=n/\n<10000
 n:x.2.length<=2
 l:∀r∈x.2,r.length<=9
 r:∀r∈x.2,∀n∈r,0<=n/\n<10000
theorem QQ{p:Pln}(h:chkP p=0):(YJ p.n p.q p.s).2.2=0:=by
 unfold chkP at h
 omega
variable {n:Net}{q:List Rqs}
theorem QP{s:Sch}(h:(YJ n q s).2.2=0):(rqsE n q).2=0:=Rw.1 λh1=>by
 simp_all [YJ]
theorem Yca(h:(rqsE n q).2=0):q.length<=16/\∀x∈q,RqD x:=by
 obtain⟨hck,hfl,hrt⟩:=UA h
 have hok:=YO hck
 have h32:=hok.n1
 refine⟨?_,λx hx=>?_⟩
 ·grind [YB,Y8]
 have hfx:Xi n.nodes x.1=0:=VH hfl (TD.2 ⟨x,hx,rfl⟩)
 obtain⟨h1,h2,h3,-,h5⟩:=ZS hfx
 have h6:(0<=x.1.2.1/\x.1.2.1<n.nodes)/\0<=x.1.2.2.1/\x.1.2.2.1<n.nodes:=by
  grind [Xi,insE]
 have hrx:=hrt x hx
 refine⟨λz hz=>?_,?_,λr hr=>?_,λr hr z hz=>?_⟩
 ·unfold UV at hz
  grind
 ·grind [Yan]
 ·exact(JV (J2 hrx r hr)).2.1.2
 ·have hc:=J2 hrx r hr
  unfold Xu at hc
  split at hc
  ·exact absurd hc (by assumption)
  have ho:=(QX hc).2.1
  rw[RE]at ho
  have h8:=ho z hz
  unfold offE at h8
  simp only[Tm]at h8
  omega
theorem OP{x:Rqs}(h:RqD x):∀k,k<=x.2.length->(rqT x k).length<=35+51*k
 |0,_=>by
  have:=XR (w:=wordF) h.f
  simp_all [wordF,UV,rqT]
 |k+1,hk=>by
  have ih:=OP h k (by omega)
  have hr:rtAt x.2 k∈x.2:=by
   grind [rtAt]
  have h1:=XR (w:=wordR) (h.r _ hr)
  have h2:=h.l _ hr
  have e:wordR.length=5:=rfl
  grind [rqT,Rq]
theorem YiW(x:Rqs)(k:Nat):rqT x (k+1)=rqT x k++Y0 wordR (rtAt x.2 k):=by
 grind [rqT,Rq]
theorem YaX{k:Nat}{x:Rqs}(h:q[k]? =some x):plnT q (k+1)=plnT q k++rqT x x.2.length:=by
 grind [plnT,TB]
theorem Yag{q:List Rqs}(h:∀x∈q,RqD x):∀k,k<=q.length->(plnT q k).length<=150*k
 |0,_=>by grind [plnT]
 |k+1,hk=>by
  have ih:=Yag h k (by omega)
  obtain⟨x,hx⟩:∃x,q[k]? =some x:=⟨_,Ta (by omega)⟩
  have hd:=h x (Tc hx)
  have h1:=OP hd x.2.length (TK _)
  grind [Go.Proofs.YtjommdkgfbhbdaaGreatDoor.RqD.n,YaX]
theorem Qs(s:Sch):(Xq s).1.length<=30000:=by
 unfold Xq
 cases hf:Xd s with
 |false=>simp_all
 |true=>
  have hfr:=XF.1 hf
  have h1:=Wy hfr s.cells.length (TK _)
  grind [Go.Proofs.YtjommdkgfbhbdaaGreatDoor.Frm.few,X9,Yea]
theorem Qr(c:List Clm):(ZH c).1.length<=30000:=by
 unfold ZH
 cases hf:WJ c with
 |false=>simp_all
 |true=>
  obtain⟨h16,hfd⟩:=Ydd hf
  have h1:=OG hfd c.length (TK _)
  grind [Ya4]
variable {B:Nat}{w0 w:World}{H:List HP}
theorem NetM.In.here{n:NetM}(h:n.In B w0 H)(hw:St B w0 H w):n.In w.heap.size w []:=⟨h.pw.here hw,λr hr=>(h.rw_ r hr).here hw,h.lk.here hw,h.mg.here hw,h.s1,h.s2,h.s3,h.s4⟩
theorem QIn.here{q:List RqM}{A:Option Addr}(h:QIn B w0 H A q)(hw:St B w0 H w):QIn w.heap.size w [] A q:=⟨h.rd.here hw,λx hx=>⟨(h.x x hx).rt.here hw,λr hr=>((h.x x hx).rw_ r hr).here hw,(h.x x hx).ln,(h.x x hx).rl⟩,h.ln⟩
theorem PnM.In.here{p:PnM}(h:p.In B w0 H)(hw:St B w0 H w):p.In w.heap.size w []:=⟨h.n.here hw,h.q.here hw,h.s.here hw,h.sl,h.c.here hw,h.f.here hw,h.fl⟩
theorem YnT(p:PnM)(ht:TabsB B w0)(hp:p.In B w0 [])(hw:St B w0 [] w):
 CX B w0 18 [p.val] w λv _=>v=.tuple #[strV (ZI p.pln).1,.int .i64 (ZI p.pln).2]:=by
 refine Ya Tryz.func18 Tryz.ntmps18 rfl rfl hw ?_
 have p1:=λ{H':List HP}{w:World}(hp:p.In B w0 H') (hw:St B w0 H' w)=>Vv p ht hp hw
 obtain⟨n,qA,qcap,q,s,cA,ccap,c,fA,fcap,f⟩:=p
 have hp0:=hp
 obtain⟨hin,hq,hrs,hsl,hc,hf,hfl⟩:=hp
 dsimp only at hin hq hrs hsl hc hf hfl
 have p2:=λ{H':List HP}{w:World}(hrs:Rd B w0 H' s.A (s.cells.flatMap celF)) (hw:St B w0 H' w)=>Wp s ht hrs hsl hw
 have p3:=λ{H':List HP}{w:World}(hc:CIn B w0 H' cA c) (hw:St B w0 H' w)=>YhF c (cap:=ccap) ht hc hw
 unfold PnM.val at p1⊢
 unfold SchM.val at p2
 have hpl:(⟨n,qA,qcap,q,s,cA,ccap,c,fA,fcap,f⟩:PnM).pln=⟨n.net,q.map RqM.rq,s.sch,c.map ClM.clm,f⟩:=rfl
 rw[hpl]at p1⊢
 dsimp only at p1⊢
 unfold ZI
 by_cases hk:chkP ⟨n.net,q.map RqM.rq,s.sch,c.map ClM.clm,f⟩=0
 rotate_left
 ·rw[Tn hk]
  refine zX73 ?_<;>intros
  apply Yb en22
  exact za
  exact rfl
  exactλ_ hw=>(p1 (hp0.mono zc0) hw)
  refine zX1 ?_<;>intros
  apply YH;(iterate 3 exact rfl)
  rfl
 have hrq:=QP (QQ hk)
 dsimp only at hrq
 rw[hk]at p1
 rw[Tj (λe=>e hk)]
 obtain⟨hq16,hqd⟩:=Yca hrq
 rw[To]at hq16
 have hsL:=Qs s.sch
 have hcL:=Qr (c.map ClM.clm)
 obtain⟨⟨sT,se⟩,hsT⟩:∃R,Xq s.sch=R:=⟨_,rfl⟩
 obtain⟨⟨cT,ce⟩,hcT⟩:∃R,ZH (c.map ClM.clm)=R:=⟨_,rfl⟩
 rw[hsT]at p2 hsL⊢
 rw[hcT]at p3 hcL⊢
 dsimp only at p2 p3 hsL hcL⊢
 refine zX73 ?_<;>intros
 apply Yb en22
 exact za
 exact rfl
 exactλ_ hw=>(p1 (hp0.mono zc0) hw)
 refine zX22 ?_<;>intros
 rename_i g1 _ gb
 obtain⟨q0,hq0⟩:∃q0,q.map RqM.rq=q0:=⟨_,rfl⟩
 have hq0l:q0.length=q.length:=by rw[<-hq0,To]
 rw[hq0]at hqd⊢
 refine Ye (λz:PrM=>[(20,.int .i64 (z.i:Nat)),(19,.int .i64 q.length),(18,.slice qA q.length qcap),(1,.pointer (some ⟨g1,0,none⟩)),(4,.pointer (some ⟨gb,0,none⟩))])
  (λz=>bdP gb (if z.i=0 then .pointer none else .pointer (some ⟨gb,0,none⟩)) z.A z.cap (plnT q0 z.i) [blk g1 (.cells #[.int .i64 n.nodes,.slice n.pA n.rows.length n.pcap,.int .i64 n.noise,.int .i64 n.thr,.slice n.lA n.links.length n.lcap,.slice n.mA n.margin.length n.mcap,.slice qA q.length qcap,.int .i64 s.len,.int .i64 s.off,.slice s.A s.cells.length s.cap,.slice cA c.length ccap,.slice fA f.length fcap] 38 (0,0))]) (λz=>z.i<=q.length) (λz=>q.length-z.i) ⟨0,none,0⟩ (Td _) ?_ ?_ ?_
 ·exact zc1
 ·intro w hw
  have h5:St B w0 [blk gb (.cells (Value.agg #[.pointer none,.slice none 0 0]).cells 121 (0,0)),blk g1 (.cells #[.int .i64 n.nodes,.slice n.pA n.rows.length n.pcap,.int .i64 n.noise,.int .i64 n.thr,.slice n.lA n.links.length n.lcap,.slice n.mA n.margin.length n.mcap,.slice qA q.length qcap,.int .i64 s.len,.int .i64 s.off,.slice s.A s.cells.length s.cap,.slice cA c.length ccap,.slice fA f.length fcap] 38 (0,0))] w:=by
   revert w
   exact zc0
  exact(h5.nilSlice 5 1).perm (.swap _ _ _)
 rintro⟨k,A1,cap1⟩ hk2 K hK
 dsimp only at hk2⊢
 have htl:=Yag hqd k (by omega)
 by_cases hlt:k<q.length
 rotate_left
 ·obtain rfl:k=q.length:=by omega
  obtain⟨pp,hpp⟩:∃p,(if q.length=0 then Value.pointer none else .pointer (some ⟨gb,0,none⟩))=p:=⟨_,rfl⟩
  have hp2:pp=.pointer none\/pp=.pointer (some ⟨gb,0,none⟩):=by rw[<-hpp];split<;>simp
  rw[hpp,hq0l]
  clear hK
  unfold bdP
  refine Yel ?_<;>intros
  apply Yb en82
  exact za
  exact rfl
  exactλ_ hw=>(p2 (hrs.mono zc0) hw)
  refine Yjs ?_
  apply Yb en83
  exact za
  exact rfl
  exactλ_ hw=>(p3 (hc.mono zc0) hw)
  refine Yjs ?_
  apply Yg _ en84
  exact za
  exact rfl
  exactλ_ hw=>(Oq (l:=plnT q0 q.length) hp2 (hw))
  rintro _ _ ⟨rfl,rfl⟩
  repeat'(first|(apply XY (plnT q0 q.length) sT;(iterate 3 exact rfl);omega)|(apply XY (plnT q0 q.length++sT) cT;(iterate 3 exact rfl);(rw[Tt];omega))|refine zga ?_|fail)
  apply YH;(iterate 3 exact rfl)
  rfl
 obtain⟨x,hx⟩:∃x,q[k]? =some x:=⟨_,Ta hlt⟩
 have hxm:=Tc hx
 have hx0:q0[k]? =some x.rq:=by rw[<-hq0,TN,hx];rfl
 have hxd:=hqd x.rq (Tc hx0)
 have hxi:=hq.x x hxm
 have hqr:=hq.rd
 obtain⟨pp,hpp⟩:∃p,(if k=0 then Value.pointer none else .pointer (some ⟨gb,0,none⟩))=p:=⟨_,rfl⟩
 have hp2:pp=.pointer none\/pp=.pointer (some ⟨gb,0,none⟩):=by rw[<-hpp];split<;>simp
 rw[hpp]
 have hxn:=hxd.n
 have hxn2:x.rq.2.length=x.rows.length:=To _
 have hf0:=OP hxd 0 (Td _)
 have ef:rqT x.rq 0=Y0 wordF (UV x.f):=by unfold rqT;simp;rfl
 rw[ef]at hf0
 have l1:=λ{g:Nat}{cap:Nat}{H':List HP}{w:World}(hm:blk g (.cells #[.int .i64 x.f.1,.int .i64 x.f.2.1,.int .i64 x.f.2.2.1,.int .i64 x.f.2.2.2.1,.int .i64 x.f.2.2.2.2.1,.int .i64 x.f.2.2.2.2.2] 3 (0,0))∈H') (hw:St B w0 H' w)=>YdJ wordF (UV x.f) hxd.f (by show 6<=100;decide) (by decide) (A:=some ⟨g,0,none⟩) (cap:=cap) ht (show Rd B w0 H' _ ((UV x.f).flatMap numF) from Rd.blk (cs:=#[.int .i64 x.f.1,.int .i64 x.f.2.1,.int .i64 x.f.2.2.1,.int .i64 x.f.2.2.2.1,.int .i64 x.f.2.2.2.2.1,.int .i64 x.f.2.2.2.2.2]) hm) hw
 obtain⟨s1,hs1⟩:∃s,Y0 wordF (UV x.f)=s:=⟨_,rfl⟩
 rw[hs1]at l1 hf0 ef
 unfold bdP
 refine Yjt ?_<;>intros
 rename_i gx gf gl
 apply Yb en81
 exact za
 exact rfl
 exactλ_ hw=>(l1 (by(focus exact zc2)) hw)
 apply Zh (bdP gb pp A1 cap1 (plnT q0 k) [rqA gx x,blk g1 (.cells #[.int .i64 n.nodes,.slice n.pA n.rows.length n.pcap,.int .i64 n.noise,.int .i64 n.thr,.slice n.lA n.links.length n.lcap,.slice n.mA n.margin.length n.mcap,.slice qA q.length qcap,.int .i64 s.len,.int .i64 s.off,.slice s.A s.cells.length s.cap,.slice cA c.length ccap,.slice fA f.length fcap] 38 (0,0))])
 ·unfold bdP
  exact zc0
 apply Yg _ en80
 exact za
 exact rfl
 exactλ_ hw=>(J4 gb pp hp2 A1 cap1 (plnT q0 k) s1 (by omega) (hw))
 rintro _ _ ⟨rfl,A2,cap2,rfl⟩
 unfold bdP
 repeat'(first|refine Yr T ?_|refine zgb ?_|fail)
 refine Ye (λz:PrM=>[(44,.int .i64 (z.i:Nat)),(43,.int .i64 x.rows.length),(42,.slice x.A x.rows.length x.cap),(20,.int .i64 (k:Nat)),(19,.int .i64 q.length),(18,.slice qA q.length qcap),(1,.pointer (some ⟨g1,0,none⟩)),(4,.pointer (some ⟨gb,0,none⟩))])
  (λz=>bdP gb (.pointer (some ⟨gb,0,none⟩)) z.A z.cap (plnT q0 k++rqT x.rq z.i) [blk g1 (.cells #[.int .i64 n.nodes,.slice n.pA n.rows.length n.pcap,.int .i64 n.noise,.int .i64 n.thr,.slice n.lA n.links.length n.lcap,.slice n.mA n.margin.length n.mcap,.slice qA q.length qcap,.int .i64 s.len,.int .i64 s.off,.slice s.A s.cells.length s.cap,.slice cA c.length ccap,.slice fA f.length fcap] 38 (0,0))]) (λz=>z.i<=x.rows.length) (λz=>x.rows.length-z.i) ⟨0,A2,cap2⟩ (Td _) ?_ ?_ ?_
 ·exact zc1
 ·dsimp only
  rw[ef]
  unfold bdP
  exact zc0
 rintro⟨j,A3,cap3⟩ hj K2 hK2
 dsimp only at hj⊢
 have hjl:=OP hxd j (by omega)
 by_cases hjx:j<x.rows.length
 rotate_left
 ·obtain rfl:j=x.rows.length:=by omega
  clear hK2
  have hst:=YaX hx0
  rw[hxn2]at hst
  rw[<-hst]
  unfold bdP
  refine zX0 ?_<;>intros
  apply hK ⟨k+1,A3,cap3⟩
  ·show k+1<=q.length
   omega
  ·exact zc50
  ·exact zc1
  ·dsimp only
   rw[Tj (Nat.succ_ne_zero k)]
   unfold bdP
   exact zc0
 obtain⟨r,hr⟩:∃r,x.rows[j]? =some r:=⟨_,Ta hjx⟩
 have hrm:=Tc hr
 have hrt:=hxi.rt
 have hrx:r.xs∈x.rq.2:=TD.2 ⟨r,hrm,rfl⟩
 have hst:=YiW x.rq j
 have hrj:rtAt x.rq.2 j=r.xs:=ZF hr
 rw[hrj]at hst
 have h9:=hxd.l _ hrx
 have l2:=λ{H':List HP}{w:World}(hr:Rd B w0 H' r.A (r.xs.flatMap numF)) (hw:St B w0 H' w)=>YdJ wordR r.xs (hxd.r _ hrx) (by omega) (by decide) (cap:=r.cap) ht hr hw
 have hl2:=XR (w:=wordR) (hxd.r _ hrx)
 have e5:wordR.length=5:=rfl
 obtain⟨s2,hs2⟩:∃s,Y0 wordR r.xs=s:=⟨_,rfl⟩
 rw[hs2]at l2 hl2 hst
 unfold bdP
 refine zX50 ?_<;>intros
 apply Yb en81
 exact za
 exact rfl
 exactλ_ hw=>(l2 ((hxi.rw_ r hrm).mono zc0) hw)
 apply Zh (bdP gb (.pointer (some ⟨gb,0,none⟩)) A3 cap3 (plnT q0 k++rqT x.rq j) [blk g1 (.cells #[.int .i64 n.nodes,.slice n.pA n.rows.length n.pcap,.int .i64 n.noise,.int .i64 n.thr,.slice n.lA n.links.length n.lcap,.slice n.mA n.margin.length n.mcap,.slice qA q.length qcap,.int .i64 s.len,.int .i64 s.off,.slice s.A s.cells.length s.cap,.slice cA c.length ccap,.slice fA f.length fcap] 38 (0,0))])
 ·unfold bdP
  exact zc0
 apply Yg _ en80
 exact za
 exact rfl
 exactλ_ hw=>(J4 gb _ (.inr rfl) A3 cap3 (plnT q0 k++rqT x.rq j) s2 (by rw[Tt];omega) (hw))
 rintro _ _ ⟨rfl,A4,cap4,rfl⟩
 unfold bdP
 refine zX10 ?_
 apply hK2 ⟨j+1,A4,cap4⟩
 ·show j+1<=x.rows.length
  omega
 ·exact zc50
 ·exact zc1
 ·dsimp only
  intro w hw
  rw[hst,show plnT q0 k++(rqT x.rq j++s2)=plnT q0 k++rqT x.rq j++s2 from(TV _ _ _).symm]
  unfold bdP
  exact hw
theorem Oj(p:PnM)(ht:TabsB B w0)(hp:p.In B w0 H)(hw:St B w0 H w):
 CX B w0 18 [p.val] w λv K=>v=.tuple #[strV (ZI p.pln).1,.int .i64 (ZI p.pln).2]/\K=H:=
 WW hw (YnT p (ht.here hw) (hp.here hw) (St.start w))
variable {B cap:Nat}{w0 w:World}{H:List HP}
theorem V7(z a b:Int)(hw:St B w0 H w):
 CX B w0 252 [.int .i64 z,.int .i64 a,.int .i64 b] w λv K=>v=.bool (decide (a<=z/\z<=b))/\K=H:=by
 refine Ya Tryz.func252 Tryz.ntmps252 rfl rfl hw ?_
 by_cases h:a<=z/\z<=b
 ·rw[Tf h]
  repeat'(first|refine zgc ?_|(refine zgf ?_ ?_<;>intro _<;>try exact zo)|fail)
  apply Yd;exact rfl;exact rfl;exact⟨rfl,rfl⟩
 ·rw[Ti h]
  repeat'(first|refine zgd ?_|(refine zgf ?_ ?_<;>intro _<;>try exact zo)|fail)
  all_goals(apply Yd;exact rfl;exact rfl;exact⟨rfl,rfl⟩)
variable {A:Option Addr}
theorem Us(l:List Int)(a b:Int)(hl:l.length<=1000000000000)(hr:Rd B w0 H A (l.flatMap numF))(hw:St B w0 H w):
 CX B w0 253 [.slice A l.length cap,.int .i64 a,.int .i64 b] w λv K=>v=.bool (inL l a b)/\K=H:=by
 refine Ya Tryz.func253 Tryz.ntmps253 rfl rfl hw ?_
 obtain⟨F,hF⟩:∃F,inL l a b=F:=⟨_,rfl⟩
 rw[hF]
 unfold inL at hF
 repeat'(first|refine zgb ?_|fail)
 refine Ye (λk:Nat=>[(7,.int .i64 (k:Nat)),(0,.slice A l.length cap),(1,.int .i64 a),(2,.int .i64 b)]) (λ_=>H) (λk=>k<=l.length/\∀z∈l.take k,a<=z/\z<=b) (λk=>l.length-k) 0 ⟨Td _,by simp⟩ ?_ (λw hw=>hw) ?_
 ·exact zu
 rintro k ⟨hk,hz⟩ K hK
 by_cases hlt:k<l.length
 rotate_left
 ·rw[TM (by omega)]at hz
  have hFt:F=true:=by rw[<-hF,TL];exactλz hzm=>Tf (hz z hzm)
  subst hFt
  clear hK
  repeat'(first|refine zgc ?_|(refine zge ?_ ?_<;>intro _<;>try exact zo)|fail)
  apply Yd;exact rfl;exact rfl;exact⟨rfl,rfl⟩
 obtain⟨z,hzz⟩:∃z,l[k]? =some z:=⟨_,Ta hlt⟩
 have p1:=λ{w:World}(hw:St B w0 H w)=>V7 z a b hw
 by_cases hin:a<=z/\z<=b
 ·rw[Tf hin]at p1
  repeat'(first|refine zgd ?_|(refine zge ?_ ?_<;>intro _<;>try exact zo)|fail)
  apply Yb Yfc
  exact za
  exact rfl
  exactλ_ hw=>(p1 hw)
  repeat'(first|refine zgc ?_|fail)
  apply hK (k+1)
  ·exact⟨by omega,UG hz hzz hin⟩
  ·omega
  ·exact zu
  ·exactλw hw=>hw
 ·rw[Ti hin]at p1
  have hFf:F=false:=by rw[<-hF,Nr];exact⟨z,Tc hzz,by rw[Ti hin];decide⟩
  subst hFf
  clear hK
  repeat'(first|refine zgd ?_|(refine zge ?_ ?_<;>intro _<;>try exact zo)|fail)
  apply Yb Yfc
  exact za
  exact rfl
  exactλ_ hw=>(p1 hw)
  repeat'(first|refine zgd ?_|fail)
  apply Yd;exact rfl;exact rfl;exact⟨rfl,rfl⟩
theorem YdQ(c:List ClM)(hc:CIn B w0 H A c)(hw:St B w0 H w):
 CX B w0 174 [.slice A c.length cap] w λv K=>v=.bool (WJ (c.map ClM.clm))/\K=H:=by
 refine Ya Tryz.func174 Tryz.ntmps174 rfl rfl hw ?_
 have hop:∀w,St B w0 [many H] w->St B w0 H w:=λw hw=>hw.perm (.openT H)
 have hc:=hc.mono hop
 refine Y6 [many H] (λw hw=>hw.perm (.closeT H)) ?_
 have hcl:=hc.ln
 have hcr:=hc.rd
 obtain⟨ok,hok⟩:∃ok:Nat->Bool,Ye4 (c.map ClM.clm)=ok:=⟨_,rfl⟩
 obtain⟨F,hF⟩:∃F,WJ (c.map ClM.clm)=F:=⟨_,rfl⟩
 have hFe:F=(decide (c.length<=16)&&(List.range c.length).all ok):=by
  rw[<-hF];unfold WJ;rw[To,hok]
 rw[hF]
 by_cases h16:c.length<=16
 rotate_left
 ·rw[Ti h16]at hFe
  have hFe:F=false:=hFe
  subst hFe
  repeat'(first|refine zgb ?_|(refine zge ?_ ?_<;>intro _<;>try exact zo)|fail)
  apply Yf H
  ·intro w hw
   refine hop w ?_
   revert w
   exact zk
  apply Yd;exact rfl;exact rfl;exact⟨rfl,rfl⟩
 rw[Tf h16,RD]at hFe
 repeat'(first|refine zgb ?_|(refine zge ?_ ?_<;>intro _<;>try exact zo)|fail)
 refine Ye (λk:Nat=>[(3,.int .i64 (k:Nat)),(0,.slice A c.length cap)]) (λ_=>[many H]) (λk=>k<=c.length/\∀j,j<k->ok j=true) (λk=>c.length-k) 0 ⟨Td _,λj h=>absurd h (TZ _)⟩ ?_ (λw hw=>hw) ?_
 ·exact zu
 rintro k ⟨hk,hz⟩ K hK
 by_cases hlt:k<c.length
 rotate_left
 ·obtain rfl:k=c.length:=by omega
  have hFt:F=true:=by
   rw[hFe,TL]
   exactλj hj=>hz j (TQ.1 hj)
  subst hFt
  clear hK
  repeat'(first|refine zgc ?_|(refine zge ?_ ?_<;>intro _<;>try exact zo)|fail)
  apply Yf H
  ·intro w hw
   refine hop w ?_
   revert w
   exact zk
  apply Yd;exact rfl;exact rfl;exact⟨rfl,rfl⟩
 obtain⟨x,hx⟩:∃x,c[k]? =some x:=⟨_,Ta hlt⟩
 have hxi:=hc.x x (Tc hx)
 obtain⟨hl1,hl2,hl3,hl4⟩:=hxi.ln
 have hok1:ok k=(Jd x.clm&&(decide (k=0)||decide ((Uh (c.map ClM.clm) (k-1)).flow<x.flow))):=by
  rw[<-hok];unfold Ye4;rw[VF hx];rfl
 have hno:ok k=false->F=false:=λh=>by
  rw[hFe]
  exact Nr.2 ⟨k,TQ.2 hlt,by rw[h];decide⟩
 have hfd:Jd x.clm=(decide (0<=x.flow/\x.flow<=255/\1<=x.rs.length/\x.rs.length<=2/\x.bs.length=x.rs.length/\x.ws.length=x.rs.length/\x.ss.length=x.rs.length)&&inL x.bs 1 512&&inL x.ws 0 511&&(List.range x.rs.length).all λi=>rtOk (rtAt (x.rs.map (·.xs)) i) (rtAt (x.ss.map (·.xs)) i)):=by
  unfold Jd ClM.clm
  simp only[To]
 obtain⟨y,hy⟩:∃y,c[k-1]? =some y:=⟨_,Ta (by omega)⟩
 have hy2:0<k->c[((k:Int)-1).toNat]? =some y:=λh=>by rw[show((k:Int)-1).toNat=k-1 by omega];exact hy
 rw[VF hy]at hok1
 have hok1:ok k=(Jd x.clm&&(decide (k=0)||decide (y.flow<x.flow))):=hok1
 have p1:=λ{H':List HP}{w:World}(hw:St B w0 H' w)=>V7 x.flow 0 255 hw
 have p2:=λ{H':List HP}{w:World}(hw:St B w0 H' w)=>V7 (x.rs.length:Nat) 1 2 hw
 have p3:=λ{H':List HP}{w:World}(hx:x.In B w0 H') (hw:St B w0 H' w)=>Us x.bs 1 512 hl2 (cap:=x.bcap) hx.bd hw
 have p4:=λ{H':List HP}{w:World}(hx:x.In B w0 H') (hw:St B w0 H' w)=>Us x.ws 0 511 hl3 (cap:=x.wcap) hx.ws hw
 have hxi':x.In B w0 [many H]:=hxi
 obtain⟨c1,hc1⟩:∃b,decide (0<=x.flow/\x.flow<=255)=b:=⟨_,rfl⟩
 obtain⟨c2,hc2⟩:∃b,decide ((1:Int)<=(x.rs.length:Nat)/\((x.rs.length:Nat):Int)<=2)=b:=⟨_,rfl⟩
 rw[hc1]at p1
 rw[hc2]at p2
 repeat'(first|refine zgd ?_|(refine zge ?_ ?_<;>intro _<;>try exact zo)|(refine zgh ?_;intro _)|fail)
 rename_i g4
 apply YV [0,1,2,3,4,5,6,7,8,9,10,11,12,13,14,15,16,17,18,19,20,21,22,23,24,25,26,27,28,29,30,31,32,33,34,35,36,37,38,39,40,41,42,43,44,45,46,47,48,49,50,51,52] []
 kernel_rfl
 kernel_rfl
 (simp only[Yc,nthO];rfl)
 exact rfl
 repeat'(first|refine zgd ?_|fail)
 apply Yb Yfc
 exact za
 exact rfl
 exactλ_ hw=>(p1 hw)
 cases c1 with
 |false=>
  have hFf:=hno (by rw[hok1,hfd,Ti (λh=>of_decide_eq_false hc1 ⟨h.1,h.2.1⟩)];rfl)
  subst hFf
  clear hK
  repeat'(first|(apply Yh;try exact zl)|refine zgd ?_|fail)
  apply Yf H
  ·intro w hw
   refine hop w ?_
   revert w
   exact zk
  apply Yd;exact rfl;exact rfl;exact⟨rfl,rfl⟩
 |true=>
 have hP1:=TT hc1
 by_cases hP2:0<k/\x.flow<=y.flow
 ·have hy3:=hy2 hP2.1
  have hFf:=hno (by rw[hok1,Ti (show¬k=0 by omega),Ti (show¬y.flow<x.flow by omega)];simp)
  subst hFf
  clear hK
  repeat'(first|(apply Yh;try exact zl)|refine zgd ?_|(refine zgf ?_ ?_<;>intro _<;>try exact zo)|fail)
  apply Yf H
  ·intro w hw
   refine hop w ?_
   revert w
   exact zk
  apply Yd;exact rfl;exact rfl;exact⟨rfl,rfl⟩
 have hord:(decide (k=0)||decide (y.flow<x.flow))=true:=by
  rw[RH,Tm,Tm];omega
 rw[hord,Bool.and_true]at hok1
 obtain⟨b1,hb1⟩:∃b,inL x.bs 1 512=b:=⟨_,rfl⟩
 obtain⟨b2,hb2⟩:∃b,inL x.ws 0 511=b:=⟨_,rfl⟩
 rw[hb1]at p3 hfd
 rw[hb2]at p4 hfd
 obtain⟨R,hR⟩:∃R:Nat->Bool,(λi=>rtOk (rtAt (x.rs.map (·.xs)) i) (rtAt (x.ss.map (·.xs)) i))=R:=⟨_,rfl⟩
 rw[hR]at hfd
 by_cases hk0:0<k
 all_goals(
  try have hy3:=hy2 hk0
  repeat'(first|(apply Yh;try exact zl)|refine zgd ?_|(refine zgf ?_ ?_<;>intro _<;>try exact zo)|fail)
  apply Yb Yfc
  exact za
  exact rfl
  exactλ_ hw=>(p2 hw)
  cases c2 with
  |false=>
   have hFf:=hno (by rw[hok1,hfd,Ti (λh=>of_decide_eq_false hc2 (by omega))];rfl)
   subst hFf
   clear hK
   repeat'(first|(apply Yh;try exact zl)|refine zgd ?_|fail)
   apply Yf H
   ·intro w hw
    refine hop w ?_
    revert w
    exact zk
   apply Yd;exact rfl;exact rfl;exact⟨rfl,rfl⟩
  |true=>
  have hP3:=TT hc2
  by_cases hP4:x.bs.length=x.rs.length/\x.ws.length=x.rs.length/\x.ss.length=x.rs.length
  rotate_left
  ·have hFf:=hno (by rw[hok1,hfd,Ti (λh=>hP4 h.2.2.2.2)];rfl)
   subst hFf
   clear hK
   repeat'(first|(apply Yh;try exact zl)|refine zgd ?_|(refine zge ?_ ?_<;>intro _<;>try exact zo)|fail)
   all_goals(
    apply Yf H
    ·intro w hw
     refine hop w ?_
     revert w
     exact zk
    apply Yd;exact rfl;exact rfl;exact⟨rfl,rfl⟩
    skip)
  obtain⟨e1,e2,e3⟩:=hP4
  rw[Tf ⟨hP1.1,hP1.2,by omega,by omega,e1,e2,e3⟩,RD]at hfd
  repeat'(first|(apply Yh;try exact zl)|refine zgd ?_|(refine zge ?_ ?_<;>intro _<;>try exact zo)|fail)
  apply Yb YlM
  exact za
  exact rfl
  exactλ_ hw=>(p3 (hxi.mono zk) hw)
  cases b1 with
  |false=>
   have hFf:=hno (by rw[hok1,hfd];rfl)
   subst hFf
   clear hK
   repeat'(first|refine zgd ?_|fail)
   apply Yf H
   ·intro w hw
    refine hop w ?_
    revert w
    exact zk
   apply Yd;exact rfl;exact rfl;exact⟨rfl,rfl⟩
  |true=>
  repeat'(first|refine zgc ?_|fail)
  apply Yb YlM
  exact za
  exact rfl
  exactλ_ hw=>(p4 (hxi.mono zk) hw)
  cases b2 with
  |false=>
   have hFf:=hno (by rw[hok1,hfd];rfl)
   subst hFf
   clear hK
   repeat'(first|refine zgd ?_|fail)
   apply Yf H
   ·intro w hw
    refine hop w ?_
    revert w
    exact zk
   apply Yd;exact rfl;exact rfl;exact⟨rfl,rfl⟩
  |true=>
  repeat'(first|refine zgc ?_|fail)
  refine Ye (λj:Nat=>[(5,.int .i64 (j:Nat)),(4,.pointer (some ⟨g4,0,none⟩)),(3,.int .i64 (k:Nat)),(0,.slice A c.length cap)]) (λ_=>clA g4 x::[many H]) (λj=>j<=x.rs.length/\∀i,i<j->R i=true) (λj=>x.rs.length-j) 0 ⟨Td _,λj h=>absurd h (TZ _)⟩ ?_ ?_ ?_
  ·exact zu
  ·exact zk
  rintro j ⟨hj,hzj⟩ K2 hK2
  have hcrs:Rd B w0 (clA g4 x::[many H]) x.rA (x.rs.flatMap rowF):=hxi.rt.cons
  have hcss:Rd B w0 (clA g4 x::[many H]) x.sA (x.ss.flatMap rowF):=hxi.st.cons
  by_cases hjl:j<x.rs.length
  rotate_left
  ·obtain rfl:j=x.rs.length:=by omega
   have hRt:(List.range x.rs.length).all R=true:=by
    rw[TL]
    exactλi hi=>hzj i (TQ.1 hi)
   have hokt:ok k=true:=by rw[hok1,hfd,hRt];rfl
   clear hK2
   repeat'(first|refine zgc ?_|(refine zge ?_ ?_<;>intro _<;>try exact zo)|fail)
   apply hK (k+1)
   ·exact⟨by omega,λi h2=>by
     rcases Rk.1 h2 with h|rfl
     ·exact hz i h
     ·exact hokt⟩
   ·omega
   ·exact zu
   ·exact zk
  obtain⟨r,hr⟩:∃r,x.rs[j]? =some r:=⟨_,Ta hjl⟩
  obtain⟨z,hzz⟩:∃z,x.ss[j]? =some z:=⟨_,Ta (by omega)⟩
  have hrm:=Tc hr
  have hzm:=Tc hzz
  have hkk:R j=rtOk r.xs z.xs:=by rw[<-hR];show rtOk (rtAt _ _) (rtAt _ _)=_;rw[ZF hr,ZF hzz]
  unfold rtOk at hkk
  have q1:=λ{H':List HP}{w:World}(hw:St B w0 H' w)=>V7 (r.xs.length:Nat) 2 9 hw
  have q2:=λ{H':List HP}{w:World}(hw:St B w0 H' w)=>V7 (z.xs.length:Nat) 1 64 hw
  have q3:=λ{H':List HP}{w:World}(hx:x.In B w0 H') (hw:St B w0 H' w)=>Us r.xs 0 31 (hxi.rl r hrm) (cap:=r.cap) (hx.rw_ r hrm) hw
  have q4:=λ{H':List HP}{w:World}(hx:x.In B w0 H') (hw:St B w0 H' w)=>Us z.xs 0 511 (hxi.sl z hzm) (cap:=z.cap) (hx.sw z hzm) hw
  obtain⟨d1,hd1⟩:∃b,decide ((2:Int)<=(r.xs.length:Nat)/\((r.xs.length:Nat):Int)<=9)=b:=⟨_,rfl⟩
  obtain⟨d2,hd2⟩:∃b,decide ((1:Int)<=(z.xs.length:Nat)/\((z.xs.length:Nat):Int)<=64)=b:=⟨_,rfl⟩
  obtain⟨d3,hd3⟩:∃b,inL r.xs 0 31=b:=⟨_,rfl⟩
  obtain⟨d4,hd4⟩:∃b,inL z.xs 0 511=b:=⟨_,rfl⟩
  rw[hd1]at q1
  rw[hd2]at q2
  rw[hd3]at q3 hkk
  rw[hd4]at q4 hkk
  rw[show decide (2<=r.xs.length/\r.xs.length<=9)=d1 by rw[<-hd1,decide_eq_decide];omega,show decide (1<=z.xs.length/\z.xs.length<=64)=d2 by rw[<-hd2,decide_eq_decide];omega]at hkk
  have hbad:R j=false->F=false:=λh=>hno (by
   rw[hok1,hfd,Nr.2 ⟨j,TQ.2 hjl,by rw[h];decide⟩];rfl)
  repeat'(first|refine zgd ?_|(refine zge ?_ ?_<;>intro _<;>try exact zo)|fail)
  apply Yb Yfc
  exact za
  exact rfl
  exactλ_ hw=>(q1 hw)
  cases d1 with
  |false=>
   have hFf:=hbad (by rw[hkk];rfl)
   subst hFf
   clear hK hK2
   repeat'(first|refine zgd ?_|fail)
   apply Yf H
   ·intro w hw
    refine hop w ?_
    revert w
    exact zk
   apply Yd;exact rfl;exact rfl;exact⟨rfl,rfl⟩
  |true=>
  repeat'(first|refine zgd ?_|fail)
  apply Yb YlM
  exact za
  exact rfl
  exactλ_ hw=>(q3 (hxi.mono zk) hw)
  cases d3 with
  |false=>
   have hFf:=hbad (by rw[hkk];rfl)
   subst hFf
   clear hK hK2
   repeat'(first|refine zgd ?_|fail)
   apply Yf H
   ·intro w hw
    refine hop w ?_
    revert w
    exact zk
   apply Yd;exact rfl;exact rfl;exact⟨rfl,rfl⟩
  |true=>
  repeat'(first|refine zgd ?_|fail)
  apply Yb Yfc
  exact za
  exact rfl
  exactλ_ hw=>(q2 hw)
  cases d2 with
  |false=>
   have hFf:=hbad (by rw[hkk];rfl)
   subst hFf
   clear hK hK2
   repeat'(first|refine zgd ?_|fail)
   apply Yf H
   ·intro w hw
    refine hop w ?_
    revert w
    exact zk
   apply Yd;exact rfl;exact rfl;exact⟨rfl,rfl⟩
  |true=>
  repeat'(first|refine zgd ?_|fail)
  apply Yb YlM
  exact za
  exact rfl
  exactλ_ hw=>(q4 (hxi.mono zk) hw)
  cases d4 with
  |false=>
   have hFf:=hbad (by rw[hkk];rfl)
   subst hFf
   clear hK hK2
   repeat'(first|refine zgd ?_|fail)
   apply Yf H
   ·intro w hw
    refine hop w ?_
    revert w
    exact zk
   apply Yd;exact rfl;exact rfl;exact⟨rfl,rfl⟩
  |true=>
  repeat'(first|refine zgc ?_|fail)
  apply hK2 (j+1)
  ·exact⟨by omega,λi h2=>by
    rcases Rk.1 h2 with h|rfl
    ·exact hzj i h
    ·rw[hkk];rfl⟩
  ·omega
  ·exact zu
  ·exact zk
  skip)
variable {B:Nat}{w0 w:World}{H:List HP}
theorem PnM.In.inX{X:List HP}{p:PnM}(h:p.In B w0 [many X])(hm:many X∈H):p.In B w0 H:=h.mono λ_ hw=>(hw.inM hm).perm (.closeT X)
theorem Yvn:∀l:List RqM,∀v∈l.flatMap rqF,v.oneCell'=true:=λl v hv=>by
 obtain⟨a,_,ha⟩:=SV.1 hv
 revert ha
 simp only[rqF,RA,SJ,or_false]
 rintro h
 repeat'(rcases h with rfl|h)
 all_goals(try subst h)
 all_goals rfl
theorem Yge(l:List RqM)(i:Nat)(hi:i<l.length)(hlen:l.length<=1000){A:Option Addr}{cap:Nat}(hw:St B w0 (rqs A cap l::H) w):
 CX B w0 77 [.slice A l.length cap,.int .i64 i,.int .i64 ((i:Int)+1)] w λv K=>v=.slice A (l.eraseIdx i).length cap/\K=rqs A cap (l.eraseIdx i)::H:=by
 refine Ya Tryz.func77 Tryz.ntmps77 rfl rfl hw ?_
 unfold rqs
 refine OA (k:=l.length) (cap:=cap) zm λhcap=>?_
 have hel:(l.eraseIdx i).length=l.length-1:=List.length_eraseIdx_of_lt hi
 have hfl:=Ybm (f:=rqF) (q:=7) (λ_=>rfl) l i hi
 have hone:=Yvn l
 repeat'(first|(apply YmO T;(iterate 6 exact rfl);omega)|refine zgb ?_|(refine zgf ?_ ?_<;>intro _<;>try exact zo)|fail)
 apply YA [0,1,2,3,4,5,6,7] [] [false]
 kernel_rfl
 kernel_rfl
 exact zy
 (simp only[Yc,nthO];rfl)
 exact rfl
 repeat'(first|refine zga ?_|fail)
 apply ZO T (l:=l) (n':=i);(iterate 4 exact rfl);omega;exact hcap;omega
 rw[Yd8]
 repeat'(first|refine zga ?_|fail)
 apply ZP T (n':=l.length-(i+1));(iterate 4 exact rfl);omega;omega
 rw[show((i:Int)+1).toNat=i+1 by omega]
 repeat'(first|refine zgd ?_|fail)
 apply YfV T (e:=93) (size:=7) (k:=l.length) (i:=i) (j:=i+1) (xs:=l.flatMap rqF);(iterate 4 exact rfl);exact zd;exact hone;omega
 rw[hfl,show i+(l.length-(i+1))=(l.eraseIdx i).length by omega]
 repeat'(first|(apply Yh;try exact zl)|refine zgd ?_|fail)
 apply Yhl T (n':=1);(iterate 5 exact rfl);omega;omega
 rw[show(((l.eraseIdx i).length:Nat):Int).toNat=(l.eraseIdx i).length by omega]
 apply Yck T T2 (e:=93) (size:=7) (k:=(l.eraseIdx i).length) (xs:=(l.eraseIdx i).flatMap rqF);exact rfl;exact zm;(iterate 3 exact rfl);omega
 repeat'(first|refine zga ?_|fail)
 apply Yd;exact rfl;exact rfl;exact⟨rfl,rfl⟩
theorem Yl0{α β:Type}(g:α->β)(p:β->Bool):∀(l:List α) (k:Int),Ym p (l.map g) k=Ym (λx=>p (g x)) l k
 |[],_=>rfl
 |a::l,k=>by
  rw[Rx]
  unfold Ym
  rw[Yl0 g p l (k+1)]
theorem YpJ{α:Type}(p:α->Bool):∀(l:List α) (k:Int),0<=k->Ym p l k= -1\/(k<=Ym p l k/\Ym p l k<k+l.length)
 |[],k,_=>.inl rfl
 |a::l,k,h=>by
  have ih:=YpJ p l (k+1) (by omega)
  grind [Ym]
theorem YqF(y:RqM)(id:Int)(g:Nat)(hm:intA g id∈H)(hw:St B w0 H w):
 CX B w0 76 [rqV y,.pointer (some ⟨g,0,none⟩)] w λv K=>v=.bool (decide (y.f.1=id))/\K=H:=by
 refine Ya Tryz.func76 Tryz.ntmps76 rfl rfl hw ?_
 unfold rqV
 by_cases h:y.f.1=id
 ·rw[Tf h]
  refine zX45 ?_<;>intros
  all_goals(apply Yf H;((intro w hw;refine hw.perm ?_;focus exact zc4));exact zc10)
 ·rw[Ti h]
  refine zX45 ?_<;>intros
  all_goals(apply Yf H;((intro w hw;refine hw.perm ?_;focus exact zc4));exact zc10)
theorem Yj6(s:Sch)(id:Int):(QW s id).1.cells.length<=s.cells.length:=by
 unfold QW
 exact YuD
theorem YbW(p:PnM)(id:Int)(ht:TabsB B w0)(hp:p.In B w0 H)(hw:St B w0 H w):
 CX B w0 16 [p.val,.int .i64 id] w (Yli B w0 H (wdrP p.pln id)):=by
 refine Ya Tryz.func16 Tryz.ntmps16 rfl rfl hw ?_
 have p1:=λ{H':List HP}{w:World}(hp:p.In B w0 H') (hw:St B w0 H' w)=>Vv p ht hp hw
 have hop:∀w,St B w0 [many H] w->St B w0 H w:=λw hw=>hw.perm (.openT H)
 have hpM:∀{H':List HP},many H∈H'->p.In B w0 H':=λhm=>hp.mono λw hw=>hw.inM hm
 obtain⟨n,qA,qcap,q,s,cA,ccap,c,fA,fcap,f⟩:=p
 have hinM:∀{H':List HP},many H∈H'->n.In B w0 H':=λhm=>(hpM hm).n
 have hqM:∀{H':List HP},many H∈H'->QIn B w0 H' qA q:=λhm=>(hpM hm).q
 have hrsM:∀{H':List HP},many H∈H'->Rd B w0 H' s.A (s.cells.flatMap celF):=λhm=>(hpM hm).s
 have hsl:s.cells.length<=1000000000000:=hp.sl
 have p2:=λ{H':List HP}{w:World}(hrs:Rd B w0 H' s.A (s.cells.flatMap celF)) (hw:St B w0 H' w)=>YmB s id ht hrs hsl hw
 unfold PnM.val at p1⊢
 have hpl:(⟨n,qA,qcap,q,s,cA,ccap,c,fA,fcap,f⟩:PnM).pln=⟨n.net,q.map RqM.rq,s.sch,c.map ClM.clm,f⟩:=rfl
 rw[hpl]at p1⊢
 unfold wdrP
 dsimp only at p1⊢
 refine Y6 [many H] (λw hw=>hw.perm (.closeT H)) ?_
 by_cases hk:chkP ⟨n.net,q.map RqM.rq,s.sch,c.map ClM.clm,f⟩=0
 rotate_left
 ·rw[Tn hk]
  repeat'(first|(apply zg23;first|(refine zs52 ?_;intro _)|(refine zs53 ?_;intro _))|refine zgb ?_|(refine zgh ?_;intro _)|fail)
  apply Yb en22
  exact za
  exact rfl
  exactλ_ hw=>(p1 (hpM zm) hw)
  repeat'(first|refine zgd ?_|(refine zge ?_ ?_<;>intro _<;>try exact zo)|fail)
  apply Yy T (H2:=H);(iterate 3 exact rfl);exact zm;exact rfl;exact rfl
  ·intro w hw
   have h5:St B w0 [many H] w:=by
    revert w
    exact zk
   exact hop w h5
  exact .inl ⟨rfl,rfl,rfl⟩
 have hq16:q.length<=16:=by
  have:=(Yca (QP (QQ hk))).1
  rwa [To]at this
 rw[hk]at p1
 rw[Tj (λe=>e hk)]
 have hidx:idQ (q.map RqM.rq) id=Ym (λy:RqM=>decide (y.f.1=id)) q 0:=Yl0 _ _ _ _
 rw[hidx]
 repeat'(first|(apply zg23;first|(refine zs52 ?_;intro _)|(refine zs53 ?_;intro _))|refine zgb ?_|(refine zgh ?_;intro _)|fail)
 rename_i g2 g3 g4
 apply Yb en22
 exact za
 exact rfl
 exactλ_ hw=>(p1 (hpM zm) hw)
 repeat'(first|(apply zg29;(apply Ys;exact za;exact rfl))|refine zgb ?_|(refine zge ?_ ?_<;>intro _<;>try exact zo)|fail)
 apply Yb en75
 exact za
 exact rfl
 exactλ_ hw=>(Ydp (λy=>decide (y.f.1=id)) q 76 [.pointer (some ⟨g3,0,none⟩)] en76 (by omega) (hqM zm).rd (λa _ w hw=>YqF a id g3 zm hw) hw)
 have hil:=YpJ (λy:RqM=>decide (y.f.1=id)) q 0 (by omega)
 generalize Ym (λy:RqM=>decide (y.f.1=id)) q 0=k at hil⊢
 by_cases hk0:k<0
 ·rw[Tn hk0]
  repeat'(first|refine zgd ?_|(refine zge ?_ ?_<;>intro _<;>try exact zo)|fail)
  apply Yy T (H2:=H);(iterate 3 exact rfl);exact zm;exact rfl;exact rfl
  ·intro w hw
   have h5:St B w0 [many H] w:=by
    revert w
    exact zk
   exact hop w h5
  exact .inl ⟨rfl,rfl,rfl⟩
 rw[Tj hk0]
 obtain⟨j,rfl⟩:∃j:Nat,k=j:=⟨k.toNat,by omega⟩
 have hj:j<q.length:=by omega
 rw[Ry]
 have hdel:delQ (q.map RqM.rq) j=(q.eraseIdx j).map RqM.rq:=by
  unfold delQ
  rw[List.eraseIdx_eq_take_drop_succ,Rf,NG,NA]
 rw[hdel]
 have hdc:=Yj6 s.sch id
 unfold OutS SchM.val at p2
 generalize QW s.sch id=R at p2 hdc⊢
 obtain⟨t,te⟩:=R
 dsimp only at p2 hdc⊢
 have htl:t.cells.length<=1000000000000:=TX hdc hsl
 repeat'(first|refine Yr T ?_|refine zgb ?_|(refine zge ?_ ?_<;>intro _<;>try exact zo)|fail)
 apply YA [0,1,2,3,5,6,7,4,8,9,10,11,12] [] [true,true,true,true]
 kernel_rfl
 kernel_rfl
 exact zy
 (simp only[Yc,nthO];rfl)
 exact rfl
 repeat'(first|refine Yr T ?_|refine zgd ?_|fail)
 apply Yg _ en69
 exact za
 exact rfl
 exactλ_ hw=>(WX q (by omega) (hqM zm).rd (hw))
 rintro _ _ ⟨A1,c1,rfl,rfl⟩
 repeat'(first|refine Yr T ?_|(apply Yh;try exact zl)|refine zgd ?_|fail)
 apply XD [rqs A1 c1 q] _ en77
 exact za
 try exact zl
 exact zp
 exact rfl
 exactλ_ hw=>(Yge q j hj (by omega) hw)
 rintro _ _ ⟨rfl,rfl⟩
 repeat'(first|refine Yr T ?_|(apply Yh;try exact zl)|refine zgd ?_|(refine zgh ?_;intro _)|fail)
 rename_i g7
 apply Yg _ en78
 exact za
 exact rfl
 exactλ_ hw=>(p2 (hrsM zm) (hw))
 rintro _ _ ⟨A4,c4,rfl,rfl⟩
 repeat'(first|refine Yr T ?_|refine zgd ?_|fail)
 apply Zh (bldA g7 ⟨n,A1,c1,q.eraseIdx j,⟨t.len,t.off,A4,c4,t.cells⟩,none,0,[],none,0,[],te⟩::rqs A1 c1 (q.eraseIdx j)::cels A4 c4 t.cells::blk g4 (.cells zeroPnV.cells 38 (0,0))::[many H])
 ·intro w hw
  have h5:St B w0 (blk g7 (.cells #[.int .i64 n.nodes,.slice n.pA n.rows.length n.pcap,.int .i64 n.noise,.int .i64 n.thr,.slice n.lA n.links.length n.lcap,.slice n.mA n.margin.length n.mcap,.slice A1 (q.eraseIdx j).length c1,.int .i64 t.len,.int .i64 t.off,.slice A4 t.cells.length c4,.slice none 0 0,.slice none 0 0,.int .i64 te] 80 (0,0))::rqs A1 c1 (q.eraseIdx j)::cels A4 c4 t.cells::blk g4 (.cells (Value.agg #[.int .i64 0,.slice none 0 0,.int .i64 0,.int .i64 0,.slice none 0 0,.slice none 0 0,.slice none 0 0,.int .i64 0,.int .i64 0,.slice none 0 0,.slice none 0 0,.slice none 0 0]).cells 38 (0,0))::[many H]) w:=by
   revert w
   exact zk
  exact h5
 have hqe:∀{H':List HP},many H∈H'->rqs A1 c1 (q.eraseIdx j)∈H'->QIn B w0 H' A1 (q.eraseIdx j):=λh1 h2=>⟨YkN h2,λx hx=>(hqM h1).x x (List.mem_of_mem_eraseIdx hx),by have:=List.length_eraseIdx_le q j;omega⟩
 apply XD [bldA g7 ⟨n,A1,c1,q.eraseIdx j,⟨t.len,t.off,A4,c4,t.cells⟩,none,0,[],none,0,[],te⟩] _ en47
 exact za
 try exact zl
 exact zp
 exact rfl
 exactλ_ hw=>(Uw ⟨n,A1,c1,q.eraseIdx j,⟨t.len,t.off,A4,c4,t.cells⟩,none,0,[],none,0,[],te⟩ g7 ht (hinM zm) (hqe zm zm) (Wq (cap:=c4) zm) htl hw)
 rintro _ _ hO
 dsimp only at hO
 rcases hO with⟨h1,rfl,rfl⟩|⟨p,X,h1,rfl,hp,rfl⟩
 ·unfold zeroPnV
  repeat'(first|refine zgc ?_|fail)
  apply Yy T (H2:=H);(iterate 3 exact rfl);exact zm;exact rfl;exact rfl
  ·intro w hw
   have h5:St B w0 [many H] w:=by
    revert w
    exact zk
   exact hop w h5
  exact .inl ⟨h1,rfl,rfl⟩
 ·unfold PnM.val
  repeat'(first|refine zgc ?_|fail)
  apply Yy T (H2:=many [many X,cels A4 c4 t.cells]::H);(iterate 3 exact rfl);exact zm;exact rfl;exact rfl
  ·intro w hw
   have h5:St B w0 (many X::cels A4 c4 t.cells::[many H]) w:=by
    revert w
    exact zk
   exact(h5.perm (.cons _ (.cons _ (.openT H)))).perm (.close [_,_] H)
  exact .inr ⟨p,_,h1,rfl,(hp _ (Wq (cap:=c4) (.head _))).mono λw hw=>(hw.perm (.open_ [_,_] [])),rfl⟩
end Go.Proofs.YtjommdkgfbhbdaaGreatDoor
