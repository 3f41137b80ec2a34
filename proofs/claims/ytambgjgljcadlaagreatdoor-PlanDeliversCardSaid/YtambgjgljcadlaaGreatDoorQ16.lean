/- Lemmas. -/
import Derived.Test.YtambgjgljcadlaaGreatDoorQ14
import Derived.Test.YtambgjgljcadlaaGreatDoorQ15
set_option maxRecDepth 100000
set_option maxHeartbeats 8000000
set_option linter.all false
namespace Go.Proofs.YtambgjgljcadlaaGreatDoor
open Go.RowKit Go.Eng Go.Nw Go.Rt
structure Sm(n:Net)(l:List Flw)(s:Sch):Prop where
 ck:Yp n=0
 fl:(Yz n.nodes l).2=0
 per:∀f∈l,s.len.tmod f.2.2.2.1=0
 sized:Zy s=true
 formed:∀c∈s.cells,ZF s c=true
 ord:Ord s.cells
 good:∀c∈s.cells,Y3 n (Yr c) (toC c)=true/\0<=Zi l (Y7 c)
 once:s.cells.Pairwise λa b=>a.1=b.1->YE a b=false
 clear:∀c∈s.cells,J4 n s.cells c=true
variable {n:Net}{l:List Flw}{s:Sch}
theorem Sem.sm(h:Sem n l s):Sm n l s:=⟨h.ck,h.fl,h.per,h.frm.sized,h.frm.formed,h.frm.ord,h.good,h.once,h.clear⟩
theorem Sm.sem(h:Sm n l s)(hl:s.cells.length<=512):Sem n l s:=⟨h.ck,h.fl,h.per,⟨h.sized,hl,h.formed,h.ord⟩,h.good,h.once,h.clear⟩
theorem Yft{node:Int}{l m:List Cel}(h:l.Perm m):Go.Proofs.YtambgjgljcadlaaGreatDoor.sumC n node l=Go.Proofs.YtambgjgljcadlaaGreatDoor.sumC n node m:=by
 induction h with
 |nil=>rfl
 |cons a _ ih=>rw[XJ,XJ,ih]
 |swap a b l=>rw[XJ,XJ,XJ,XJ];omega
 |trans _ _ h1 h2=>rw[h1,h2]
variable {slot o a b:Int}
theorem YhU{l:List Cel}(h:fitE n l slot o a b=true)(id:Int):(∀d∈l,d.1=slot->YE d (slot,o,a,b,id)=false)/\Jn n (l.filter (atP slot o)++[(slot,o,a,b,id)])=true:=by
 unfold fitE at h
 rw[Tq]at h
 obtain⟨h1,h2⟩:=h
 refine⟨λd hd e=>?_,?_⟩
 ·rw[RZ,RA]at h1
  have:=h1 d hd
  rw[Ti e,RV,Bool.not_eq_true]at this
  rw[<-this]
  exact(Of (c:=(slot,o,a,b,id)) (c':=(0,0,a,b,0)) rfl rfl).2
 ·rw[<-h2,YcI (c':=(slot,o,a,b,id)) rfl rfl,YcI (c:=(0,0,a,b,0)) (c':=(slot,o,a,b,id)) rfl rfl]
theorem YrP{l:List Cel}(h:fitE n l slot o a b=true)(id:Int):(slot,o,a,b,id)∉l:=λhm=>by
 have:=(YhU h id).1 _ hm rfl
 unfold YE at this
 exact of_decide_eq_false this (.inl rfl)
theorem YaX{m d:Int}(h:X8 n m d=true):ZP n m d=true:=by
 unfold X8 at h
 simp only[Tq]at h
 exact h.2.2
theorem Sm.ins(h:Sm n l s){id:Int}(hs:0<=slot/\slot<s.len)(ho:0<=o/\o<s.off)(hg:Y3 n a b=true)(hid:0<=Zi l id)(hib:0<=id/\id<256)(hfit:fitE n s.cells slot o a b=true):
 Sm n l ⟨s.len,s.off,insC s.cells (slot,o,a,b,id)⟩:=by
 have hok:=YM h.ck
 have hgn:=Xr hok hg
 have hn:=hok.n1
 obtain⟨ht,hgl⟩:=YhU hfit id
 have hnew:=YrP hfit id
 have hperm:=Yh8 s.cells (slot,o,a,b,id)
 refine⟨h.ck,h.fl,h.per,h.sized,λc hc=>?_,Yr1 h.ord hnew,λc hc=>?_,?_,λc hc=>?_⟩
 ·rcases Ou.1 hc with rfl|hc
  ·unfold ZF Zl insE
   rw[Ti hs,Ti ho,Ti (show 0<=a/\a<32 by omega),Ti (show 0<=b/\b<32 by omega),Ti hib]
   rfl
  ·exact h.formed c hc
 ·rcases Ou.1 hc with rfl|hc
  ·exact⟨hg,hid⟩
  ·exact h.good c hc
 ·refine(hperm.pairwise_iff (λ{x y} hxy e=>by rw[JN];exact hxy e.symm)).2 (.cons (λd hd e=>?_) h.once)
  rw[JN]
  exact ht d hd e.symm
 ·by_cases hp:c.1=slot/\c.2.1=o
  ·have hX:(s.cells.filter (atP slot o)++[(slot,o,a,b,id)]).Nodup:=by
    rw[N3]
    refine⟨(Yfg h.ord).sublist Ny,by simp,λx hx y hy e=>?_⟩
    rw[TO.1 hy]at e
    subst e
    exact hnew (Rr.1 hx).1
   generalize hXe:s.cells.filter (atP slot o)++[(slot,o,a,b,id)]=X at hX hgl
   have hcX:c∈X:=by
    rw[<-hXe]
    rcases Ou.1 hc with rfl|hc
    ·simp
    ·exact List.mem_append_left _ (Rr.2 ⟨hc,Ti hp⟩)
   obtain⟨j,hj⟩:=TQ.1 hcX
   have hjl:=(Td.1 hj).1
   have hd:∀node,Yx n X j node X.length=V9 n (insC s.cells (slot,o,a,b,id)) c node:=λnode=>by
    rw[Yco hX hj node _ (TI _),TP]
    unfold V9
    refine Yft ?_
    have e1:(insC s.cells (slot,o,a,b,id)).filter (λd=>XB c d&&decide (d≠c))=((insC s.cells (slot,o,a,b,id)).filter (XB c)).filter λd=>decide (d≠c):=by
     rw[Nc]
     exact Nq λx _=>Bool.and_comm _ _
    rw[e1]
    refine List.Perm.filter _ ?_
    have e2:XB c=atP slot o:=by
     obtain⟨c1,c2,c3⟩:=c
     obtain⟨rfl,rfl⟩:=hp
     rfl
    rw[e2,<-hXe]
    refine List.Perm.trans ?_ (hperm.filter _).symm
    rw[SO,Tj (show atP slot o (slot,o,a,b,id)=true from Ti ⟨rfl,rfl⟩)]
    exact NM
   unfold Jn at hgl
   rw[Tq]at hgl
   have hpf:=TK.1 hgl.2 j (TN.2 hjl)
   have hcl:celL X j=c:=by unfold celL;rw[Tu,hj];rfl
   unfold Zk at hpf
   rw[hcl,hd,hd]at hpf
   simp only[Bool.not_or,Bool.not_not,Tq]at hpf
   unfold J4
   rw[YaX hpf.2.1,YaX hpf.2.2];rfl
  ·have hcs:c∈s.cells:=by
    rcases Ou.1 hc with rfl|hc
    ·exact absurd ⟨rfl,rfl⟩ hp
    ·exact hc
   have hd:∀node,V9 n (insC s.cells (slot,o,a,b,id)) c node=V9 n s.cells c node:=λnode=>by
    unfold V9
    refine(Yft (hperm.filter _)).trans ?_
    rw[SO,Tf]
    rw[Tq]
    rintro⟨h1,-⟩
    exact hp (by have:=Rn h1;exact⟨this.1.symm,this.2.symm⟩)
   have:=h.clear c hcs
   unfold J4 at this⊢
   rw[hd,hd]
   exact this
end Go.Proofs.YtambgjgljcadlaaGreatDoor
namespace Go.Eng
open Go.RowKit
end Go.Eng
namespace Go.Proofs.YtambgjgljcadlaaGreatDoor
open Go.RowKit Go.Eng Go.Nw Go.Rt
theorem YiQ(q:List RqM){A:Option Addr}{cap B:Nat}{w0:World}{H:List HP}{w:World}(hl:q.length<=1000000000000)(hr:Rd B w0 H A (q.flatMap rqF))(hw:St B w0 H w):
 CX B w0 11 [.slice A q.length cap] w λv K=>∃A2 cap2,v=.slice A2 (RqM.fl q).length cap2/\K=flws A2 cap2 (RqM.fl q)::H:=by
 refine Ya Tryz.func11 Tryz.ntmps11 rfl rfl hw ?_
 repeat'(first|(apply Xn T;exact rfl;exact rfl;intro g2)|apply(zs2 ?_)|apply(zs65 ?_)|apply(zs68 ?_)|apply(zs69 ?_)|apply(zs70 ?_)|apply(zs73 ?_)|fail)
 refine Yh (λz:FlM=>[(4,.int .i64 (z.i:Nat)),(3,.slice z.A (RqM.fl (q.take z.i)).length z.cap),(0,.slice A q.length cap)]) (λz=>flws z.A z.cap (RqM.fl (q.take z.i))::H) (λz=>z.i<=q.length) (λz=>q.length-z.i) ⟨0,some ⟨g2,0,none⟩,0⟩ (Tm _) ?_ (λw hw=>hw) ?_
 ·exact zu
 rintro⟨i,A2,cap2⟩ hi K hK
 dsimp only at hi⊢
 have hlen:(RqM.fl (q.take i)).length=i:=by grind [Go.Proofs.YtambgjgljcadlaaGreatDoor.RqM.fl]
 have hr':=hr.cons (X:=flws A2 cap2 (RqM.fl (q.take i)))
 by_cases hlt:i<q.length
 ·obtain⟨x,hx⟩:∃x,q[i]? =some x:=⟨_,Ta hlt⟩
  have hst:RqM.fl (q.take (i+1))=RqM.fl (q.take i)++[x.f]:=by grind [Go.Proofs.YtambgjgljcadlaaGreatDoor.RqM.fl,TG]
  repeat'(first|(apply YbT T (vs:=[.int .i64 x.f.1,.int .i64 x.f.2.1,.int .i64 x.f.2.2.1,.int .i64 x.f.2.2.2.1,.int .i64 x.f.2.2.2.2.1,.int .i64 x.f.2.2.2.2.2]);exact rfl;exact hr';exact hx;exactλ_=>rfl;(iterate 6 exact rfl))|apply(zs1 ?_)|apply(zs2 ?_)|(apply zg2;refine zs58 ?_)|(apply zg4;refine zs9 ?_)|(apply zg5;refine zs57 ?_)|(apply(zs17 ?_ ?_)<;>intro _<;>try exact zo)|(apply zg13;refine zs30 ?_)|(apply zg21;(refine zs49 ?_;intro _ _))|(apply zg26;(refine zs56 ?_;intro _))|apply(zs65 ?_)|apply(zs68 ?_)|apply(zs69 ?_)|apply(zs70 ?_)|(apply zg27;refine zs71 ?_)|apply(zs73 ?_)|apply(zs76 ?_)|apply(zs79 ?_)|fail)
  rename_i A' cap'
  rw[YeS,<-hst,show(RqM.fl (q.take i)).length+1=(RqM.fl (q.take (i+1))).length from by rw[hst];simp]
  apply hK ⟨i+1,A',cap'⟩
  ·show i+1<=_
   omega
  ·dsimp only;omega
  ·exact zu
  ·exact zk
 ·obtain rfl:i=q.length:=by omega
  rw[TP]
  repeat'(first|apply(zs1 ?_)|apply(zs2 ?_)|(apply zg4;refine zs9 ?_)|(apply(zs17 ?_ ?_)<;>intro _<;>try exact zo)|apply(zs65 ?_)|apply(zs68 ?_)|apply(zs69 ?_)|apply(zs70 ?_)|(apply zg27;refine zs72 ?_)|apply(zs74 ?_)|apply(zs75 ?_)|apply(zs80 ?_)|apply(zs81 ?_)|fail)
  apply Yf;exact rfl;exact rfl
  exact⟨A2,cap2,rfl,rfl⟩
abbrev flwB(g:Nat)(f:Flw):HP:=blk g (.cells #[.int .i64 f.1,.int .i64 f.2.1,.int .i64 f.2.2.1,.int .i64 f.2.2.2.1,.int .i64 f.2.2.2.2.1,.int .i64 f.2.2.2.2.2] 53 (0,0))
theorem Yni{nodes:Int}{l:List Flw}(h:(Yz nodes l).2=0):∀{i j:Nat},i<j->j<l.length->(Xk l i).1<(Xk l j).1:=by
 have hstep:∀j,0<j->j<l.length->(Xk l (j-1)).1<(Xk l j).1:=λj h0 hj=>by
  unfold Yz at h
  split at h
  ·cases h
  split at h
  ·cases h
  have:=YG.1 h j (Tm _) (by omega)
  unfold Xl at this
  split at this
  ·contradiction
  split at this
  ·cases this
  ·omega
 intro i j hij hj
 induction j with
 |zero=>omega
 |succ j ih=>
  have h1:=hstep (j+1) (by omega) hj
  rw[SB]at h1
  rcases Na i j with h2|h2
  ·have:=ih h2 (by omega);omega
  ·obtain rfl:i=j:=by omega
   exact h1
theorem max_le:∀(l:List Int) (a m:Int),a<=m->(∀z∈l,z<=m)->l.foldl (λx y=>if x<y then y else x) a<=m
 |[],_,_,h,_=>h
 |z::l,a,m,h,hl=>by
  rw[List.foldl_cons]
  refine max_le l _ m ?_ λy hy=>hl y (TJ _ hy)
  have:=hl z TB
  split<;>omega
structure Grow(id:Int)(s t:Sch):Prop where
 len:t.len=s.len
 off:t.off=s.off
 sub:∀c∈s.cells,c∈t.cells
 oth:∀p:Cel->Bool,(∀c,Y7 c=id->p c=false)->t.cells.filter p=s.cells.filter p
theorem Grow.refl(id:Int)(s:Sch):Grow id s s:=⟨rfl,rfl,λ_ h=>h,λ_ _=>rfl⟩
variable {id a b:Int}{s t u:Sch}
theorem Grow.trans(h:Grow id s t)(k:Grow id t u):Grow id s u:=⟨k.len.trans h.len,k.off.trans h.off,λc hc=>k.sub c (h.sub c hc),λp hp=>(k.oth p hp).trans (h.oth p hp)⟩
structure LkOk(n:Net)(l:List Flw)(a b id:Int):Prop where
 g:Y3 n a b=true
 f:0<=Zi l id
 i:0<=id/\id<256
theorem YiY{n:Net}{l:List Flw}{slot:Int}(h:Sm n l s)(hk:LkOk n l a b id)(hs:0<=slot/\slot<s.len)(ht:Jv n s a b id slot=some t):Sm n l t/\Grow id s t/\hasC t.cells slot a b id=true:=by
 unfold Jv at ht
 by_cases hh:hasC s.cells slot a b id=true
 ·rw[Tj hh]at ht
  obtain rfl:=Tz ht
  exact⟨h,.refl _ _,hh⟩
 rw[Tf hh]at ht
 cases hf:(List.range s.off.toNat).find? λo:Nat=>fitE n s.cells slot o a b with
 |none=>rw[hf]at ht;cases ht
 |some o=>
  rw[hf]at ht
  obtain rfl:=Tz ht
  have h1:=List.find?_some hf
  have h2:=TN.1 (List.mem_of_find?_eq_some hf)
  refine⟨h.ins hs (by omega) hk.g hk.f hk.i h1,⟨rfl,rfl,λc hc=>Ou.2 (.inr hc),λp hp=>?_⟩,?_⟩
  ·show(insC s.cells (slot,(o:Int),a,b,id)).filter p=_
   unfold insC
   rw[Sv,SO,Tf (by rw[hp _ rfl];decide),<-Sv,RG]
  ·exact Re.2 ⟨(slot,(o:Int),a,b,id),Ou.2 (.inl rfl),Ti ⟨rfl,rfl,rfl,rfl⟩⟩
structure Sup(t u:Sch):Prop where
 len:u.len=t.len
 sub:∀c∈t.cells,c∈u.cells
theorem Grow.sup(h:Grow id s t)(k:Sup t u):Sup s u:=⟨k.len.trans h.len,λc hc=>k.sub c (h.sub c hc)⟩
theorem YrS{loss z:Int}(h:hasC u.cells (z.tmod u.len) a b id=true):1<=slC u.len (YZ u id (a,b,loss)) z:=by
 obtain⟨d,hd,h1⟩:=Re.1 h
 have h1:=Rn h1
 refine List.length_pos_of_mem (a:=d) (Rr.2 ⟨Rr.2 ⟨hd,Ti ⟨h1.2.2.2,h1.2.1,h1.2.2.1⟩⟩,Ti h1.1⟩)
theorem Ygd{n:Net}{l:List Flw}{a b id:Int}(hk:LkOk n l a b id)(loss:Int):∀(f k:Nat) {s t:Sch}{z y:Int},Sm n l s->0<=z->1<=s.len->hopA n a b id f k s z=some (t,y)->
 Sm n l t/\Grow id s t/\(z<=y/\y<=z+f)/\∀u,Sup t u->k<=cntS u.len (YZ u id (a,b,loss)) (y-z).toNat z
 |0,0,s,t,z,y,h,_,_,e=>by
  obtain⟨rfl,rfl⟩:=Prod.mk.inj (Tz (show some (s,z)=some (t,y) from e))
  exact⟨h,.refl _ _,by omega,λu _=>Tm _⟩
 |f+1,0,s,t,z,y,h,_,_,e=>by
  obtain⟨rfl,rfl⟩:=Prod.mk.inj (Tz (show some (s,z)=some (t,y) from e))
  exact⟨h,.refl _ _,by omega,λu _=>Tm _⟩
 |0,k+1,s,t,z,y,h,_,_,e=>by cases e
 |f+1,k+1,s,t,z,y,h,hz,hl,e=>by
  rw[hopA]at e
  have hm:0<=z.tmod s.len/\z.tmod s.len<s.len:=by
   rw[Rq hz]
   exact⟨NW _ (by omega),NG _ (by omega)⟩
  cases hs:Jv n s a b id (z.tmod s.len)with
  |none=>
   rw[hs]at e
   obtain⟨h1,h2,h3,h4⟩:=Ygd hk loss f (k+1) h (show 0<=z+1 by omega) hl e
   refine⟨h1,h2,by omega,λu hu=>?_⟩
   have:=h4 u hu
   rw[show(y-z).toNat=(y-(z+1)).toNat+1 by omega,cntS]
   omega
  |some t1=>
   rw[hs]at e
   obtain⟨g1,g2,g3⟩:=YiY h hk hm hs
   obtain⟨h1,h2,h3,h4⟩:=Ygd hk loss f k g1 (show 0<=z+1 by omega) (by rw[g2.len];exact hl) e
   refine⟨h1,g2.trans h2,by omega,λu hu=>?_⟩
   have:=h4 u hu
   have hsu:=(g2.trans h2).sup hu
   have h5:1<=slC u.len (YZ u id (a,b,loss)) z:=YrS (by
    obtain⟨d,hd,h6⟩:=Re.1 g3
    refine Re.2 ⟨d,(h2.sup hu).sub d hd,?_⟩
    rw[hsu.len];exact h6)
   rw[show(y-z).toNat=(y-(z+1)).toNat+1 by omega,cntS]
   omega
theorem YgG{n:Net}{l:List Flw}{id endd:Int}:∀(ls:List Lk) {s t:Sch}{z:Int},(∀x∈ls,LkOk n l x.1 x.2.1 id)->Sm n l s->0<=z->z<=endd->1<=s.len->relA n id endd ls s z=some t->
 Sm n l t/\Grow id s t/\∀u,Sup t u->∃y,y<=endd/\WayT u.len (YZ u id) ls z y
 |[],s,t,z,_,h,_,hze,_,e=>by
  obtain rfl:=Tz (show some s=some t from e)
  exact⟨h,.refl _ _,λu _=>⟨z,hze,RI _⟩⟩
 |x::ls,s,t,z,hk,h,hz,hze,hl,e=>by
  rw[relA]at e
  cases hs:hopA n x.1 x.2.1 id (endd-z).toNat (YN x) s z with
  |none=>rw[hs]at e;cases e
  |some w=>
   obtain⟨t1,y1⟩:=w
   rw[hs]at e
   obtain⟨g1,g2,g3,g4⟩:=Ygd (hk x TB) x.2.2 _ _ h hz hl hs
   obtain⟨h1,h2,h3⟩:=YgG ls (λy hy=>hk y (TJ _ hy)) g1 (by omega) (by omega) (by rw[g2.len];exact hl) e
   refine⟨h1,g2.trans h2,λu hu=>?_⟩
   obtain⟨y,k1,k2⟩:=h3 u hu
   exact⟨y,k1,y1,g3.1,g4 u (h2.sup hu),k2⟩
theorem YiO{n:Net}{l:List Flw}{f:Flw}{ls:List Lk}(hk:∀x∈ls,LkOk n l x.1 x.2.1 f.1)(hd:0<=f.2.2.2.2.2)(hp:1<=f.2.2.2.1):∀(k:Nat) {s t:Sch}{z:Int},Sm n l s->0<=z->1<=s.len->QS n f ls k s z=some t->
 Sm n l t/\Grow f.1 s t/\∀u,Sup t u->∀i:Nat,i<k->z+i*f.2.2.2.1<s.len->∃y,y<=z+i*f.2.2.2.1+f.2.2.2.2.2/\WayT u.len (YZ u f.1) ls (z+i*f.2.2.2.1) y
 |0,s,t,z,h,_,_,e=>by
  obtain rfl:=Tz (show some s=some t from e)
  exact⟨h,.refl _ _,λu _ i hi=>absurd hi (RP _)⟩
 |k+1,s,t,z,h,hz,hl,e=>by
  rw[QS]at e
  by_cases hzl:z<s.len
  rotate_left
  ·rw[Tf hzl]at e
   obtain rfl:=Tz e
   refine⟨h,.refl _ _,λu _ i _ hi=>?_⟩
   have:0<=(i:Int)*f.2.2.2.1:=SJ (by omega) (by omega)
   omega
  rw[Tj hzl]at e
  cases hs:relA n f.1 (z+f.2.2.2.2.2) ls s z with
  |none=>rw[hs]at e;cases e
  |some t1=>
   rw[hs]at e
   obtain⟨g1,g2,g3⟩:=YgG ls hk h hz (by omega) hl hs
   obtain⟨h1,h2,h3⟩:=YiO hk hd hp k (z:=z+f.2.2.2.1) g1 (by omega) (by rw[g2.len];exact hl) e
   refine⟨h1,g2.trans h2,λu hu i hi hil=>?_⟩
   cases i with
   |zero=>
    obtain⟨y,k1,k2⟩:=g3 u (h2.sup hu)
    refine⟨y,?_,?_⟩
    ·simpa using k1
    ·simpa using k2
   |succ i=>
    have e1:z+((i+1:Nat):Int)*f.2.2.2.1=z+f.2.2.2.1+(i:Int)*f.2.2.2.1:=by
     rw[show((i+1:Nat):Int)=(i:Int)+1 by omega,Mc];omega
    rw[e1]at hil⊢
    exact h3 u hu i (by omega) (by rw[g2.len];exact hil)
theorem Yfk{n:Net}{l:List Flw}{f:Flw}(hd:0<=f.2.2.2.2.2)(hp:1<=f.2.2.2.1)(h0:0<=f.2.2.2.2.1):∀(rs:List (List Int)) {s t:Sch},(∀r∈rs,∀x∈Yq n r,LkOk n l x.1 x.2.1 f.1)->Sm n l s->1<=s.len->Js n f rs s=some t->
 Sm n l t/\Grow f.1 s t/\∀u,Sup t u->∀r∈rs,∀i:Nat,f.2.2.2.2.1+i*f.2.2.2.1<s.len->∃y,y<=f.2.2.2.2.1+i*f.2.2.2.1+f.2.2.2.2.2/\WayT u.len (YZ u f.1) (Yq n r) (f.2.2.2.2.1+i*f.2.2.2.1) y
 |[],s,t,_,h,_,e=>by
  obtain rfl:=Tz (show some s=some t from e)
  exact⟨h,.refl _ _,λu _ r hr=>by cases hr⟩
 |r::rs,s,t,hk,h,hl,e=>by
  rw[Js]at e
  cases hs:QS n f (Yq n r) s.len.toNat s f.2.2.2.2.1 with
  |none=>rw[hs]at e;cases e
  |some t1=>
   rw[hs]at e
   obtain⟨g1,g2,g3⟩:=YiO (hk r TB) hd hp s.len.toNat h h0 hl hs
   obtain⟨h1,h2,h3⟩:=Yfk hd hp h0 rs (λx hx=>hk x (TJ _ hx)) g1 (by rw[g2.len];exact hl) e
   refine⟨h1,g2.trans h2,λu hu x hx i hi=>?_⟩
   rcases TV.1 hx with rfl|hx
   ·refine g3 u (h2.sup hu) i ?_ hi
    have:(i:Int)<=i*f.2.2.2.1:=by
     have:=Ry hp (show(0:Int)<=i by omega)
     rw[Int.mul_one]at this
     exact this
    omega
   ·exact h3 u hu x hx i (by rw[g2.len];exact hi)
variable {r:List Int}
theorem YqJ:Yaz r=false↔r.Nodup:=by
 unfold Yaz
 rw[RA]
 constructor
 ·intro h
  refine TY.2 λi j hi hj hij e=>?_
  have h1:=h j (TN.2 hj)
  apply h1
  rw[List.contains_iff_mem,Tu,Ta hj,Option.getD_some,<-e]
  refine TQ.2 ⟨i,?_⟩
  rw[Ss hij,Ta hi]
 ·intro h i hi hc
  have hi:=TN.1 hi
  rw[List.contains_iff_mem,Tu,Ta hi,Option.getD_some]at hc
  obtain⟨k,hk⟩:=TQ.1 hc
  have hki:k<i:=by
   have:=(Td.1 hk).1
   rw[TX]at this
   omega
  rw[Ss hki]at hk
  obtain⟨h1,h2⟩:=Td.1 hk
  exact TY.1 h k i h1 hi hki h2
theorem Ycd{n:Net}{b:Int}{r:List Int}(hl:r.getD (r.length-1) 0=b)(hnd:r.Nodup)(hk:∀i,i+1<r.length->(X9 n r i).1=r.getD i 0/\(X9 n r i).2.1=r.getD (i+1) 0):∀(m i:Nat),i+m+1=r.length->
 Chain b (r.getD i 0) ((List.range' i m).map (X9 n r))
 |0,i,h=>by
  show r.getD i 0=b
  rw[<-hl,show r.length-1=i by omega]
 |m+1,i,h=>by
  rw[List.range'_succ,Rh]
  obtain⟨h1,h2⟩:=hk i (by omega)
  refine⟨h1.symm,λe=>?_,?_⟩
  ·rw[<-hl]at e
   rw[Tu,Tu,Ta (show i<r.length by omega),Ta (show r.length-1<r.length by omega)]at e
   exact TY.1 hnd i (r.length-1) (by omega) (by omega) (by omega) (Tz (by simpa using e))
  ·rw[h2]
   exact Ycd hl hnd hk m (i+1) (by omega)
theorem Uh{n:Net}{a b:Int}(h:X6 n a b r=0):Chain b a (Yq n r)/\(∀x∈Yq n r,0<=x.2.2)/\Yq n r≠[]/\r.Nodup/\
 ∀i,i+1<r.length->(X9 n r i).1=r.getD i 0/\(X9 n r i).2.1=r.getD (i+1) 0:=by
 have h':=h
 unfold X6 at h
 by_cases h0:Z8 n a b=0
 rotate_left
 ·rw[Tj h0]at h;exact absurd h h0
 rw[Tf (λe=>e h0)]at h
 obtain⟨hlen,-,⟨hs,ht⟩,htw,-⟩:=QB h
 obtain⟨hck,-,hg⟩:=Zp h'
 have hok:=YM hck
 have hnd:=YqJ.1 htw
 have hk:∀i,i+1<r.length->(X9 n r i).1=r.getD i 0/\(X9 n r i).2.1=r.getD (i+1) 0:=λi hi=>WU (UD (hg i hi))
 refine⟨?_,λx hx=>?_,?_,hnd,hk⟩
 ·have:=Ycd ht hnd hk (r.length-1) 0 (by omega)
  rw[hs]at this
  unfold Yq
  rw[List.range_eq_range']
  exact this
 ·unfold Yq at hx
  obtain⟨i,hi,rfl⟩:=TE.1 hx
  have hi:=TN.1 hi
  exact(Ybz hok (r.getD i 0) (r.getD (i+1) 0)).1
 ·intro e
  have:=TC List.length e
  unfold Yq at this
  simp at this
  omega
def posQ(q:List Rqs)(id:Int):Nat:=(q.takeWhile λy=>decide (y.1.1<id)).length
def insQ(q:List Rqs)(x:Rqs):List Rqs:=q.take (posQ q x.1.1)++x::q.drop (posQ q x.1.1)
variable {q:List Rqs}{x:Rqs}
theorem JY{y:Rqs}:y∈insQ q x↔y=x\/y∈q:=by
 have h:y∈q↔y∈q.take (posQ q x.1.1)\/y∈q.drop (posQ q x.1.1):=by grind [RG]
 grind [insQ]
variable {l:List Flw}{f:Flw}
theorem Vt{nodes:Int}(h:(Yz nodes l).2=0)(hf:f∈l):YX nodes f=0:=by
 obtain⟨j,hj,rfl⟩:=List.mem_iff_getElem.1 hf
 unfold Yz at h
 split at h
 ·cases h
 split at h
 ·cases h
 have:=YG.1 h j (Tm _) (by omega)
 unfold Xl at this
 split at this
 all_goals simp_all [Xk]
theorem Zs{nodes:Int}(hf:YX nodes f=0):(0<=f.1/\f.1<256)/\(1<=f.2.2.2.1/\f.2.2.2.1<=512)/\(0<=f.2.2.2.2.1/\f.2.2.2.2.1<f.2.2.2.1)/\f.2.1≠f.2.2.1/\(1<=f.2.2.2.2.2/\f.2.2.2.2.2<=f.2.2.2.1):=by
 unfold YX at hf
 omega
theorem Vs{id:Int}:0<=Zi l id↔∃f∈l,f.1=id:=by
 unfold Zi
 rw[Vl _ _ _ (RI 0),Re]
 simp_all
variable {n:Net}{s t:Sch}{r:List Int}
theorem YkH(hl:t.len=s.len)(hs:Y5 s=true)(ht:Y5 t=true)(hc:∀l,YZ t f.1 l=YZ s f.1 l):Y4 n t f r=Y4 n s f r:=by
 have h1:wayE n t f r=wayE n s f r:=by grind [wayE]
 have h2:J3 n t f r=J3 n s f r:=by
  have:YZ t f.1=YZ s f.1:=funext hc
  unfold J3
  have h3:VY n t f r=VY n s f r:=by grind [VY]
  simp_all
 grind [Y4]
theorem Yoj(hl:t.len=s.len)(hs:Y5 s=true)(ht:Y5 t=true)(hc:∀l,YZ t x.1.1 l=YZ s x.1.1 l):Oh n t x=Oh n s x:=by
 unfold Oh Jp
 have:badR n t x.1=badR n s x.1:=by grind [badR,YkH]
 rw[this]
theorem YkI(hw:wayE n t f r=0)(h:∀i:Nat,f.2.2.2.2.1+i*f.2.2.2.1<t.len->∃y,y<=f.2.2.2.2.1+i*f.2.2.2.1+f.2.2.2.2.2/\WayT t.len (YZ t f.1) (Yq n r) (f.2.2.2.2.1+i*f.2.2.2.1) y):
 (Y4 n t f r).2=0/\(Y4 n t f r).1.1<=f.2.2.2.2.2:=by
 obtain⟨-,-,hf,-,hck⟩:=YdD hw
 obtain⟨-,hp,h0,-,hd⟩:=Zs hf
 obtain⟨-,hloss,hne,-,-⟩:=Uh hck
 obtain⟨b,hb,hbd⟩:=Yli (S:=VY n t f r) (len:=t.len) (per:=f.2.2.2.1) (d:=f.2.2.2.2.2) hp.1 (fuel:=t.len.toNat) (rel:=f.2.2.2.2.1) (b:=(0,0,[])) (by omega) (λi hi=>by
  obtain⟨y,h1,h2⟩:=h i hi
  obtain⟨l,h3,h4⟩:=Yok hne hloss (by omega) h2
  grind)
 have hbe:J3 n t f r=some b:=hb
 unfold Y4
 simp_all
theorem Uq(h:(rqsE n q).2=0):Yp n=0/\(Yz n.nodes (Y6 q)).2=0/\∀x∈q,rtsE n x=0:=by
 unfold rqsE at h
 by_cases h1:Yp n=0
 rotate_left
 ·simp_all
 by_cases h2:(Yz n.nodes (Y6 q)).2=0
 rotate_left
 ·simp_all
 refine⟨h1,h2,λx hx=>?_⟩
 obtain⟨i,hi,rfl⟩:=Yip hx
 simp_all [YG]
theorem JL(h:rtsE n x=0):∀r∈x.2,X6 n x.1.2.1 x.1.2.2.1 r=0:=by
 intro r hr
 unfold rtsE at h
 split at h
 ·cases h
 split at h
 ·cases h
 split at h
 ·omega
 rename_i h3
 obtain⟨k,hk⟩:=TQ.1 hr
 have hkl:=(Td.1 hk).1
 have:=YG.1 (RE.1 h3) k (Tm _) (by omega)
 grind [rtAt]
theorem YcZ{a b:Int}(h:X6 n a b r=0):∀x∈Yq n r,Y3 n x.1 x.2.1=true:=by
 obtain⟨-,-,-,-,hk⟩:=Uh h
 obtain⟨-,-,hg⟩:=Zp h
 grind [Yq]
theorem YfU(hc:(YS n q s).2.2=0)(hx:(rqsE n (insQ q x)).2=0)(hnew:∀y∈q,y.1.1≠x.1.1)(hm:s.len.tmod x.1.2.2.2.1=0)(hp:Js n x.1 x.2 s=some t)(hl:t.cells.length<=512):
 (YS n (insQ q x) t).2.2=0/\Grow x.1.1 s t:=by
 obtain⟨h1,h2⟩:=Zo.1 hc
 have hsem:=Vo.1 (ZW.1 h1)
 obtain⟨-,hfl,hrt⟩:=Uq hx
 have hxm:x∈insQ q x:=by simp[JY]
 have hrx:=hrt x hxm
 have hfx:YX n.nodes x.1=0:=Vt hfl (TE.2 ⟨x,hxm,rfl⟩)
 obtain⟨hib,hper,hph,-,hd⟩:=Zs hfx
 have hsz:1<=s.len:=by
  have:=hsem.frm.sized
  unfold Zy at this
  simp_all
 have hsm:Sm n (Y6 (insQ q x)) s:=by
  have h0:=hsem.sm
  refine⟨h0.ck,hfl,λf hf=>?_,h0.sized,h0.formed,h0.ord,λc hcm=>⟨(h0.good c hcm).1,?_⟩,h0.once,h0.clear⟩
  ·obtain⟨y,hy,rfl⟩:=TE.1 hf
   rcases JY.1 hy with rfl|hy
   ·exact hm
   ·exact h0.per _ (TE.2 ⟨y,hy,rfl⟩)
  ·obtain⟨f,hf,e⟩:=Vs.1 (h0.good c hcm).2
   obtain⟨y,hy,rfl⟩:=TE.1 hf
   exact Vs.2 ⟨y.1,TE.2 ⟨y,JY.2 (.inr hy),rfl⟩,e⟩
 have hfi:0<=Zi (Y6 (insQ q x)) x.1.1:=Vs.2 ⟨x.1,TE.2 ⟨x,hxm,rfl⟩,rfl⟩
 obtain⟨g1,g2,g3⟩:=Yfk (l:=Y6 (insQ q x)) (by omega) hper.1 hph.1 x.2 (λr hr y hy=>⟨YcZ (JL hrx r hr) y hy,hfi,hib⟩) hsm hsz hp
 have hsem2:=g1.sem hl
 have hft:=Zt.2 hsem2.frm
 have hfs:=Zt.2 hsem.frm
 refine⟨Zo.2 ⟨ZW.2 (Vo.2 hsem2),λy hy=>?_⟩,g2⟩
 rcases JY.1 hy with rfl|hy
 ·unfold Oh
  rw[Tq,Tt]
  refine⟨QT hrx,?_⟩
  unfold Jp
  rw[RZ,RA]
  intro r hr
  have hway:wayE n t y.1 r=0:=by
   unfold wayE
   rw[hft,Tf (by rintro(h|h|h);exact h g1.ck;cases h;exact h hfx),Tf (λe=>e (by rw[g2.len];exact hm))]
   exact JL hrx r hr
  have:=YkI hway λi hi=>g3 t ⟨rfl,λ_ h=>h⟩ r hr i (by rw[<-g2.len];exact hi)
  unfold badR
  rw[Tt]
  omega
 ·rw[Yoj g2.len hfs hft λl=>g2.oth _ λc e=>by
   refine Tn λh=>?_
   exact hnew y hy (h.1.symm.trans e)]
  exact h2 y hy
def Og(n:Net)(s:Sch)(f:Flw)(r:List Int)(c:Cel):Bool:=(List.range s.len.toNat).any λi=>decide (f.2.2.2.2.1+i*f.2.2.2.1<s.len)&&(runP s.len (YZ s f.1) (f.2.2.2.2.1+i*f.2.2.2.1+f.2.2.2.1) (Yq n r) (f.2.2.2.2.1+i*f.2.2.2.1)).any λp=>decide (p.1=c)
def OQ(n:Net)(s:Sch)(x:Rqs)(c:Cel):Bool:=x.2.any λr=>Og n s x.1 r c
def Yja(n:Net)(s:Sch)(q:List Rqs)(c:Cel):Bool:=q.any λx=>OQ n s x c
def YwM(n:Net)(q:List Rqs)(s:Sch):Sch:=⟨s.len,s.off,s.cells.filter (Yja n s q)⟩
def hasQ(q:List Rqs)(id:Int):Bool:=q.any λy=>decide (y.1.1=id)
def JD(n:Net)(q:List Rqs)(s:Sch)(x:Rqs):Sch×Int:=
 if(YS n q s).2.2≠0 then(Zd,1)else if hasQ q x.1.1=true then(Zd,6)else if(rqsE n (insQ q x)).2≠0 then(Zd,1)
 else if s.len.tmod x.1.2.2.2.1≠0 then(Zd,11)else match Js n x.1 x.2 s with
  |none=>(Zd,18)
  |some t=>if 512<t.cells.length then(Zd,8)else(t,0)
structure AllS where
 s:Sch
 q:List Rqs
 at_:List Int
def Ybt(n:Net)(r:AllS)(k:Nat)(x:Rqs):AllS:=
 if(JD n r.q r.s x).2=0 then⟨(JD n r.q r.s x).1,r.q++[x],r.at_++[(k:Int)]⟩else r
def Wp(n:Net)(q:List Rqs)(len off:Int):Nat->AllS
 |0=>⟨⟨len,off,[]⟩,[],[]⟩
 |k+1=>Ybt n (Wp n q len off k) k (rqAt q k)
def Xo(n:Net)(q:List Rqs)(len off:Int):(Sch×List Int)×Int:=
 if Yp n≠0\/(rqsE n q).2≠0 then((Zd,[]),1)else if len<1\/512<len\/off<1\/16<off then((Zd,[]),2)
 else if(q.any λx=>decide (len.tmod x.1.2.2.2.1≠0))=true then((Zd,[]),11)else(((Wp n q len off q.length).s,(Wp n q len off q.length).at_),0)
def YdB(n:Net)(q:List Rqs)(s:Sch):Sch×Int:=if(YS n q s).2.2≠0 then(Zd,1)else(YwM n q s,0)
def YsN(s:Sch)(id:Int):Sch:=⟨s.len,s.off,s.cells.filter λc=>decide (Y7 c≠id)⟩
def QA(s:Sch)(id:Int):Sch×Int:=if Y5 s=false then(Zd,1)else(YsN s id,0)
variable {q:List Rqs}
theorem YlY{id:Int}(h:hasQ q id=false):∀y∈q,y.1.1≠id:=λy hy e=>by
 unfold hasQ at h
 rw[RA]at h
 exact h y hy (Ti e)
variable {n:Net}{x:Rqs}
theorem YmK{s:Sch}(h:(JD n q s x).2=0):(YS n (insQ q x) (JD n q s x).1).2.2=0/\Grow x.1.1 s (JD n q s x).1/\(∀y∈q,y.1.1≠x.1.1)/\(rqsE n (insQ q x)).2=0:=by
 unfold JD at h⊢
 by_cases h1:(YS n q s).2.2=0
 rotate_left
 ·rw[Tj h1]at h;cases h
 rw[Tf (λe=>e h1)]at h⊢
 cases h2:hasQ q x.1.1 with
 |true=>rw[h2,Tj rfl]at h;cases h
 |false=>
 rw[h2,Tf (by decide)]at h
 rw[Tf (by decide)]
 by_cases h3:(rqsE n (insQ q x)).2=0
 rotate_left
 ·rw[Tj h3]at h;cases h
 rw[Tf (λe=>e h3)]at h⊢
 by_cases h4:s.len.tmod x.1.2.2.2.1=0
 rotate_left
 ·rw[Tj h4]at h;cases h
 rw[Tf (λe=>e h4)]at h⊢
 cases h5:Js n x.1 x.2 s with
 |none=>rw[h5]at h;cases h
 |some t=>
  rw[h5]at h
  dsimp only at h⊢
  by_cases h6:512<t.cells.length
  ·rw[Tj h6]at h;cases h
  rw[Tf h6]
  obtain⟨k1,k2⟩:=YfU h1 h3 (YlY h2) h4 h5 (by omega)
  exact⟨k1,k2,YlY h2,h3⟩
theorem YiI{id:Int}:∀{q:List Rqs},(∀y∈q,y.1.1<id)->posQ q id=q.length
 |[],_=>rfl
 |y::q,h=>by
  unfold posQ
  rw[Nz,Tj (Ti (h y TB)),TS,TS]
  exact TC (·+1) (YiI λz hz=>h z (TJ _ hz))
theorem Yns(h:∀y∈q,y.1.1<x.1.1):insQ q x=q++[x]:=by
 unfold insQ
 rw[YiI h,TP,SH]
theorem Yqu(h:(rqsE n q).2=0){i j:Nat}(hij:i<j)(hj:j<q.length):(rqAt q i).1.1<(rqAt q j).1.1:=by
 obtain⟨-,hfl,-⟩:=Uq h
 have:=Yni hfl hij (by unfold Y6;rw[Tv];exact hj)
 have hat:∀{i:Nat},i<q.length->Xk (Y6 q) i=(rqAt q i).1:=λ{i} hi=>by
  unfold Xk Y6
  rw[Tu,TM,Vv hi];rfl
 rw[hat (by omega),hat hj]at this
 exact this
theorem Yf6{len off:Int}(hck:Yp n=0)(hl:1<=len/\len<=512)(ho:1<=off/\off<=16):(YS n [] ⟨len,off,[]⟩).2.2=0:=by
 have hn:=YM hck
 refine Zo.2 ⟨ZW.2 (Vo.2 ⟨hck,?_,(λf hf=>by cases hf),⟨?_,Tm _,(λc hc=>by cases hc),.nil⟩,(λc hc=>by cases hc),.nil,(λc hc=>by cases hc)⟩),(λx hx=>by cases hx)⟩
 ·have h1:=hn.n0;have h2:=hn.n1
  unfold Yz Y6
  rw[Tf (by omega)]
  rfl
 ·exact Ti ⟨hl.1,hl.2,ho.1,ho.2⟩
structure AllI(n:Net)(q:List Rqs)(len off:Int)(k:Nat)(r:AllS):Prop where
 ok:(YS n r.q r.s).2.2=0
 mem:∀y∈r.q,∃i,i<k/\y=rqAt q i
 len:r.s.len=len
 off:r.s.off=off
 cnt:r.at_.length=r.q.length
 few:r.q.length<=k
 all:r.q.length=k->r.q=q.take k
 idx:∀i∈r.at_,0<=i/\i<k
theorem Ybu{n:Net}{q:List Rqs}{len off:Int}(hq:(rqsE n q).2=0)(hl:1<=len/\len<=512)(ho:1<=off/\off<=16):∀k,k<=q.length->AllI n q len off k (Wp n q len off k)
 |0,_=>⟨Yf6 (Uq hq).1 hl ho,(λy hy=>by cases hy),rfl,rfl,rfl,TI _,(λ_=>by rw[Sr];rfl),(λi hi=>by cases hi)⟩
 |k+1,hk=>by
  have ih:=Ybu hq hl ho k (by omega)
  unfold Wp Ybt
  generalize Wp n q len off k=r at ih
  by_cases h:(JD n r.q r.s (rqAt q k)).2=0
  ·rw[Tj h]
   obtain⟨h1,h2,-,-⟩:=YmK h
   have hlt:∀y∈r.q,y.1.1<(rqAt q k).1.1:=λy hy=>by
    obtain⟨i,hi,rfl⟩:=ih.mem y hy
    exact Yqu hq hi (by omega)
   rw[Yns hlt]at h1
   refine⟨h1,λy hy=>?_,h2.len.trans ih.len,h2.off.trans ih.off,?_,?_,λe=>?_,λi hi=>?_⟩
   ·rcases TF.1 hy with hy|hy
    ·obtain⟨i,hi,e⟩:=ih.mem y hy
     exact⟨i,by omega,e⟩
    ·exact⟨k,by omega,TO.1 hy⟩
   ·show(r.at_++[(k:Int)]).length=(r.q++[rqAt q k]).length
    rw[To,To,ih.cnt];rfl
   ·show(r.q++[rqAt q k]).length<=k+1
    have:=ih.few
    rw[To,TL];omega
   ·have e:(r.q++[rqAt q k]).length=k+1:=e
    rw[To,TL]at e
    show r.q++[rqAt q k]=_
    rw[ih.all (by omega),TG,Vv (by omega)];rfl
   ·rcases TF.1 hi with hi|hi
    ·have:=ih.idx i hi;omega
    ·have:=TO.1 hi;omega
  ·rw[Tf h]
   refine⟨ih.ok,λy hy=>?_,ih.len,ih.off,ih.cnt,by have:=ih.few;omega,λe=>by have:=ih.few;omega,λi hi=>by have:=ih.idx i hi;omega⟩
   obtain⟨i,hi,e⟩:=ih.mem y hy
   exact⟨i,by omega,e⟩
end Go.Proofs.YtambgjgljcadlaaGreatDoor
namespace Go.Eng
open Go.RowKit
section
variable {P:Program}{n:Shp}{B:Nat}{w0:World}{Q:Exit->Act->World->Prop}{env:Env}{H:List HP}{m:Mode}{ops:Array Oper}{rest:List Oper}{d:Nat}{ty:TypeId}{pos:String}{after:Array Edge}
variable {a b:Int}
theorem Ymx{x y:Operand}{k:IntKind}{xt yt:TypeId}(hx:evo env x=some (.int k a))(hy:evo env y=some (.int k b))(hn:Nat.ble (d+1) n.k=true)(h:VL P m n B w0 ops Q rest ((d,.int k (bits .andNot k a b))::env) H):
 VL P m n B w0 ops Q (⟨some d,.binOp .andNot xt x y yt,ty,pos,after,none⟩::rest) env H:=Y8 hx hy hn (λ_=>rfl) (λ_=>by rw[show binOp .andNot xt (.int k a) (.int k b)=Op.intBits .andNot k a b by simp[binOp]];rfl) h
end
end Go.Eng
namespace Go.Proofs.YtambgjgljcadlaaGreatDoor
open Go.RowKit Go.Eng Go.Nw Go.Rt
def pow1(o:Int):Int:=IntKind.i64.wrap (1*2^o.toNat)
theorem Yst{o:Int}(h:0<=o/\o<=16):1<=pow1 o/\pow1 o<=65536:=by
 have key:∀n:Nat,n<17->1<=IntKind.i64.wrap (1*2^n)/\IntKind.i64.wrap (1*2^n)<=65536:=by decide+kernel
 exact key o.toNat (by omega)
def QM(m:List Int)(c:Cel):List Int:=m.set c.1.toNat (bits .andNot .i64 (m.getD c.1.toNat 0) (pow1 c.2.1))
def VJ(s:Sch):List Int:=s.cells.foldl QM (List.replicate s.len.toNat (pow1 s.off-1))
def Jm(s:Sch):List Int×Int:=if Y5 s=false then([],1)else(VJ s,0)
theorem YpZ(m:List Int)(c:Cel):(QM m c).length=m.length:=TT
theorem UH:∀(cs:List Cel) (m:List Int),(cs.foldl QM m).length=m.length
 |[],_=>rfl
 |c::cs,m=>by rw[List.foldl_cons,UH cs,YpZ]
variable {a b:Int}
theorem Ysv{n i:Nat}(h:i<n):(List.replicate i a++List.replicate (n-i) b).set i a=List.replicate (i+1) a++List.replicate (n-(i+1)) b:=by
 obtain⟨k,rfl⟩:∃k,n=i+(k+1):=⟨n-i-1,by omega⟩
 rw[show i+(k+1)-i=k+1 by omega,show i+(k+1)-(i+1)=k by omega,NK _ _ (by simp),Rm,NT,NA,NF,List.replicate_succ' (n:=i),Ru];rfl
theorem Yqn(n:Nat)(x:Int):(List.replicate 0 x++List.replicate (n-0) 0).flatMap numF=List.replicate n (Value.int .i64 0):=by
 rw[NU,TD,Nat.sub_zero]
 induction n with
 |zero=>rfl
 |succ n ih=>rw[NA,TR,ih,NA];rfl
variable {B:Nat}{w0 w:World}{H:List HP}
theorem Yh1(s:SchM)(ht:TabsB B w0)(hr:Rd B w0 H s.A (s.cells.flatMap celF))(hl:s.cells.length<=1000000000000)(hw:St B w0 H w):
 CX B w0 101 [s.val] w λv K=>v=.bool (Y5 s.sch)/\K=H:=by
 refine Ya Tryz.func101 Tryz.ntmps101 rfl rfl hw ?_
 have p1:=λ{H':List HP}{w:World}(hr:Rd B w0 H' s.A (s.cells.flatMap celF)) (hw:St B w0 H' w)=>VO s ht hr hl hw
 unfold SchM.val at p1⊢
 refine zX97 ?_<;>intros
 first|apply Yb en85|apply Yc en85
 exact za
 exact rfl
 exactλ_ hw=>(p1 hr.cons hw)
 cases hf:Y5 s.sch with
 |false=>
  rw[show(Xs s.sch).2=1 by simp_all [Xs]]
  refine zX0 ?_<;>intros
  apply Yg H
  ·exact zc0
  exact zc13
 |true=>
  rw[show(Xs s.sch).2=0 by simp_all [Xs]]
  refine zX0 ?_<;>intros
  apply Yg H
  ·exact zc0
  exact zc13
theorem Ykh(s:SchM)(hf:Frm s.sch)(hr:Rd B w0 H s.A (s.cells.flatMap celF))(hw:St B w0 H w):
 CX B w0 102 [s.val] w λv K=>∃g,v=.slice (some ⟨g,0,none⟩) (VJ s.sch).length (VJ s.sch).length/\K=nrs (some ⟨g,0,none⟩) (VJ s.sch).length (VJ s.sch)::H:=by
 refine Ya Tryz.func102 Tryz.ntmps102 rfl rfl hw ?_
 have hsz:1<=s.len/\s.len<=512/\1<=s.off/\s.off<=16:=Rn hf.sized
 have hp:=Yst (o:=s.off) ⟨by omega,hsz.2.2.2⟩
 have hcl:s.cells.length<=512:=hf.few
 obtain⟨n,hn⟩:∃n:Nat,s.len=n:=⟨s.len.toNat,by omega⟩
 have hp2:1<=IntKind.i64.wrap (1*2^s.off.toNat)/\IntKind.i64.wrap (1*2^s.off.toNat)<=65536:=hp
 have hm0:List.replicate s.sch.len.toNat (pow1 s.sch.off-1)=List.replicate n (IntKind.i64.wrap (1*2^s.off.toNat)-1):=by
  show List.replicate s.len.toNat _=_
  rw[hn,Rx];rfl
 have hml:(VJ s.sch).length=n:=by
  unfold VJ
  rw[UH,hm0,Rm]
 unfold SchM.val
 rw[hn]
 repeat'(first|(apply Yg9 T;(iterate 3 exact rfl);exact zi3;(iterate 3 exact rfl);omega;intro _)|refine zgc ?_|(refine zgh ?_;intro _)|fail)
 rename_i gs g
 simp only[Rx]
 refine Yh (λi:Nat=>[(12,.int .i64 (i:Nat)),(11,.int .i64 (n:Nat)),(3,.slice (some ⟨g,0,none⟩) n n),(1,.pointer (some ⟨gs,0,none⟩))])
  (λi=>sl 3 1 (some ⟨g,0,none⟩) n n ((List.replicate i (IntKind.i64.wrap (1*2^s.off.toNat)-1)++List.replicate (n-i) 0).flatMap numF)::blk gs (.cells #[.int .i64 (n:Nat),.int .i64 s.off,.slice s.A s.cells.length s.cap] 30 (0,0))::H) (λi=>i<=n) (λi=>n-i) 0 (Tm _) ?_ ?_ ?_
 ·exact zc1
 ·have e0:=Yqn n (IntKind.i64.wrap (1*2^s.off.toNat)-1)
  rw[e0]
  exact zc0
 rintro i hi K hK
 by_cases hlt:i<n
 ·have hL:(List.replicate i (IntKind.i64.wrap (1*2^s.off.toNat)-1)++List.replicate (n-i) 0).length=n:=by
   rw[To,Rm,Rm];omega
  repeat'(first|(apply Xu T (f:=numF) (l:=List.replicate i (IntKind.i64.wrap (1*2^s.off.toNat)-1)++List.replicate (n-i) 0) (i:=(i:Int).toNat) (a:=IntKind.i64.wrap (1*2^s.off.toNat)-1);(iterate 3 exact rfl);exact zd;exact rfl;exactλ_=>rfl;exact rfl;omega)|refine zgd ?_|(refine zge ?_ ?_<;>intro _<;>try exact zo)|fail)
  rw[Rx,Ysv hlt]
  apply hK (i+1)
  ·show i+1<=n;omega
  ·omega
  ·exact zc1
  ·exact zc0
 obtain rfl:i=n:=by omega
 rw[NT,NU,Ri]
 clear hK
 refine zX0 ?_<;>intros
 refine Yh (λj:Nat=>[(26,.int .i64 (j:Nat)),(25,.int .i64 s.cells.length),(24,.slice s.A s.cells.length s.cap),(3,.slice (some ⟨g,0,none⟩) i i),(1,.pointer (some ⟨gs,0,none⟩))])
  (λj=>sl 3 1 (some ⟨g,0,none⟩) i i (((s.cells.take j).foldl QM (List.replicate i (IntKind.i64.wrap (1*2^s.off.toNat)-1))).flatMap numF)::blk gs (.cells #[.int .i64 (i:Nat),.int .i64 s.off,.slice s.A s.cells.length s.cap] 30 (0,0))::H) (λj=>j<=s.cells.length) (λj=>s.cells.length-j) 0 (Tm _) ?_ ?_ ?_
 ·exact zc1
 ·rw[Sr,List.foldl_nil]
  exact zc0
 rintro j hj K hK
 by_cases hlt2:j<s.cells.length
 rotate_left
 ·obtain rfl:j=s.cells.length:=by omega
  rw[TP]
  clear hK
  refine zX0 ?_<;>intros
  apply Yg (nrs (some ⟨g,0,none⟩) (VJ s.sch).length (VJ s.sch)::H)
  ·unfold nrs
   rw[hml]
   unfold VJ
   rw[hm0,show s.sch.cells=s.cells from rfl]
   exact zc0
  apply Yf;exact rfl;exact rfl
  exact⟨g,by rw[hml],rfl⟩
 obtain⟨c,hc⟩:∃c,s.cells[j]? =some c:=⟨_,Ta hlt2⟩
 obtain⟨m,hm⟩:∃m,(s.cells.take j).foldl QM (List.replicate i (IntKind.i64.wrap (1*2^s.off.toNat)-1))=m:=⟨_,rfl⟩
 have hmn:m.length=i:=by rw[<-hm,UH,Rm]
 have hnext:(s.cells.take (j+1)).foldl QM (List.replicate i (IntKind.i64.wrap (1*2^s.off.toNat)-1))=QM m c:=by
  rw[TG,hc,List.foldl_append,hm];rfl
 rw[hm]
 have hform:=hf.formed c (Tc hc)
 unfold ZF Zl insE at hform
 simp only[Tq,Tt]at hform
 have hc1:0<=c.1/\c.1<i:=by have:=hform.1.1.1.1;have e:s.sch.len=i:=hn;omega
 have hc2:0<=c.2.1/\c.2.1<16:=by have:=hform.1.1.1.2;have e:s.sch.off=s.off:=rfl;omega
 obtain⟨v,hv⟩:∃v,m[c.1.toNat]? =some v:=⟨_,Ta (by omega)⟩
 have hmc:QM m c=m.set c.1.toNat (bits .andNot .i64 v (IntKind.i64.wrap (1*2^c.2.1.toNat))):=by
  unfold QM;rw[Tu,hv];rfl
 refine zX44 ?_<;>intros
 apply XT [0,1,2,3,4,5,6,7,8,9] [10]
 kernel_rfl
 kernel_rfl
 (simp only[Yd,nthO];rfl)
 (simp only[Yd,nthO];rfl)
 repeat'(first|(apply Xu T (f:=numF) (l:=m) (i:=c.1.toNat) (a:=bits .andNot .i64 v (IntKind.i64.wrap (1*2^c.2.1.toNat)));(iterate 3 exact rfl);exact zd;exact rfl;exactλ_=>rfl;exact rfl;omega)|(apply Ymx;(iterate 3 exact rfl))|refine zgd ?_|fail)
 rw[<-hmc,<-hnext]
 apply hK (j+1)
 ·show j+1<=_;omega
 ·omega
 ·exact zc1
 ·exact zc0
theorem Yeg(s:SchM)(ht:TabsB B w0)(hr:Rd B w0 H s.A (s.cells.flatMap celF))(hl:s.cells.length<=1000000000000)(hw:St B w0 H w):
 CX B w0 40 [s.val] w λv K=>∃A,v=.tuple #[.slice A (Jm s.sch).1.length (Jm s.sch).1.length,.int .i64 (Jm s.sch).2]/\K=nrs A (Jm s.sch).1.length (Jm s.sch).1::H:=by
 refine Ya Tryz.func40 Tryz.ntmps40 rfl rfl hw ?_
 have p1:=λ{H':List HP}{w:World}(hr:Rd B w0 H' s.A (s.cells.flatMap celF)) (hw:St B w0 H' w)=>Yh1 s ht hr hl hw
 have p2:=λ(hf:Frm s.sch) {H':List HP}{w:World}(hr:Rd B w0 H' s.A (s.cells.flatMap celF)) (hw:St B w0 H' w)=>Ykh s hf hr hw
 repeat'(first|(refine zs8 ?_)|((refine zs52 ?_;intro _))|refine zga ?_|fail)
 first|apply Yb YsO|apply Yc YsO
 exact za
 exact rfl
 exactλ_ hw=>(p1 hr.cons hw)
 cases hf:Y5 s.sch with
 |false=>
  rw[show Jm s.sch=([],1) by simp_all [Jm]]
  repeat'(first|(refine zs48 ?_)|(refine zs71 ?_)|refine zgb ?_|fail)
  apply Yg (nrs none 0 []::H)
  ·intro w hw
   have h5:St B w0 H w:=by
    revert w
    exact zc78
   exact Yfz
  exact zc62
 |true=>
  rw[show Jm s.sch=(VJ s.sch,0) by simp_all [Jm]]
  repeat'(first|(refine zs8 ?_)|(refine zs47 ?_)|(refine zs72 ?_)|refine zgb ?_|fail)
  apply Ye _ YvF
  exact za
  exact rfl
  exactλ_ hw=>(p2 (Zt.1 hf) hr.cons (hw))
  rintro _ _ ⟨g,rfl,rfl⟩
  refine zX4 ?_
  apply Yg (nrs (some ⟨g,0,none⟩) (VJ s.sch).length (VJ s.sch)::H)
  ·exact zc0
  exact zc62
variable {B:Nat}{w0 w:World}{H:List HP}
theorem Yi7(c:Cel)(l:Lk)(hw:St B w0 H w):
 CX B w0 345 [celV c,lkV l] w λv K=>v=.bool (YE c (0,0,l.1,l.2.1,0))/\K=H:=by
 refine Ya Tryz.func345 Tryz.ntmps345 rfl rfl hw ?_
 have htc:YE c (0,0,l.1,l.2.1,0)=true↔(c.2.2.1=l.1\/c.2.2.1=l.2.1\/c.2.2.2.1=l.1\/c.2.2.2.1=l.2.1):=by unfold YE Yr toC;simp_all
 obtain⟨z,hz⟩:∃z,YE c (0,0,l.1,l.2.1,0)=z:=⟨_,rfl⟩
 rw[hz]at htc⊢
 unfold lkV
 repeat'(first|refine zgc ?_|(refine zge ?_ ?_<;>intro _<;>try exact zo)|(refine zgh ?_;intro _)|fail)
 all_goals(
  apply Yg H
  ·exact zk
  apply Yf;exact rfl;exact rfl
  cases z<;>simp at htc<;>first|exact⟨rfl,rfl⟩|(exfalso;omega))
abbrev grdA(g:Nat)(n:NetM)(s:SchM):HP:=blk g (.cells #[.int .i64 n.nodes,.slice n.pA n.rows.length n.pcap,.int .i64 n.noise,.int .i64 n.thr,.slice n.lA n.links.length n.lcap,.slice n.mA n.margin.length n.mcap,.int .i64 s.len,.int .i64 s.off,.slice s.A s.cells.length s.cap] 349 (0,0))
def grdV(n:NetM)(s:SchM):Value:=.agg #[.int .i64 n.nodes,.slice n.pA n.rows.length n.pcap,.int .i64 n.noise,.int .i64 n.thr,.slice n.lA n.links.length n.lcap,.slice n.mA n.margin.length n.mcap,.int .i64 s.len,.int .i64 s.off,.slice s.A s.cells.length s.cap]
abbrev lnkA(g:Nat)(l:Lk):HP:=blk g (.cells #[.int .i64 l.1,.int .i64 l.2.1,.int .i64 l.2.2] 124 (0,0))
abbrev intA(g:Nat)(v:Int):HP:=blk g (.cells #[.int .i64 v] 3 (0,0))
theorem Ynn(c:Cel)(l:Lk)(slot id:Int)(g7 g5 g6:Nat)(h7:intA g7 slot∈H)(h5:lnkA g5 l∈H)(h6:intA g6 id∈H)(hw:St B w0 H w):
 CX B w0 343 [celV c,.pointer (some ⟨g7,0,none⟩),.pointer (some ⟨g5,0,none⟩),.pointer (some ⟨g6,0,none⟩)] w λv K=>v=.bool (decide (c.1=slot/\Yr c=l.1/\toC c=l.2.1/\Y7 c=id))/\K=H:=by
 refine Ya Tryz.func343 Tryz.ntmps343 rfl rfl hw ?_
 have hb:decide (c.1=slot/\Yr c=l.1/\toC c=l.2.1/\Y7 c=id)=true↔c.1=slot/\c.2.2.1=l.1/\c.2.2.2.1=l.2.1/\c.2.2.2.2=id:=by unfold Y7 Yr toC;simp_all
 obtain⟨b,hbe⟩:∃b,decide (c.1=slot/\Yr c=l.1/\toC c=l.2.1/\Y7 c=id)=b:=⟨_,rfl⟩
 rw[hbe]at hb⊢
 repeat'(first|refine zgc ?_|(refine zge ?_ ?_<;>intro _<;>try exact zo)|(refine zgh ?_;intro _)|fail)
 all_goals(
  apply Yg H
  ·exact zk
  apply Yf;exact rfl;exact rfl
  cases b<;>simp at hb<;>first|exact⟨rfl,rfl⟩|(exfalso;omega))
theorem Yno(n:NetM)(s:SchM)(l:Lk)(id slot:Int)(hl:s.cells.length<=1000)(hr:Rd B w0 H s.A (s.cells.flatMap celF))(hw:St B w0 H w):
 CX B w0 324 [grdV n s,lkV l,.int .i64 id,.int .i64 slot] w λv K=>v=.bool (hasC s.cells slot l.1 l.2.1 id)/\K=H:=by
 refine Ya Tryz.func324 Tryz.ntmps324 rfl rfl hw ?_
 unfold grdV lkV
 repeat'(first|(apply zg23;first|(refine zs52 ?_;intro _)|(refine zs53 ?_;intro _))|(apply zg29;(apply Yo;exact za;exact rfl))|refine zgb ?_|fail)
 rename_i g4 g5 g6 g7
 first|apply Yb YlI|apply Yc YlI
 exact za
 exact rfl
 exactλ_ hw=>(WM (λc=>decide (c.1=slot/\Yr c=l.1/\toC c=l.2.1/\Y7 c=id)) s.cells 343 [.pointer (some ⟨g7,0,none⟩),.pointer (some ⟨g5,0,none⟩),.pointer (some ⟨g6,0,none⟩)] Ywy hl hr.cons.cons.cons.cons (λc _ w hw=>Ynn c l slot id g7 g5 g6 zm zm zm hw) hw)
 repeat'(first|refine zga ?_|fail)
 apply Yg H
 ·exact zk
 apply Yf;exact rfl;exact rfl;exact⟨rfl,rfl⟩
theorem Ykp(c:Cel)(o:Int)(g:Nat)(hm:intA g o∈H)(hw:St B w0 H w):
 CX B w0 346 [celV c,.pointer (some ⟨g,0,none⟩)] w λv K=>v=.bool (!(decide (c.2.1=o)))/\K=H:=by
 refine Ya Tryz.func346 Tryz.ntmps346 rfl rfl hw ?_
 by_cases h:c.2.1=o
 ·rw[Ti h]
  refine zX43 ?_<;>intros
  apply Yg H
  ·exact zc0
  exact zc13
 ·rw[Tn h]
  refine zX43 ?_<;>intros
  apply Yg H
  ·exact zc0
  exact zc13
theorem YjT(c:Cel)(id:Int)(g:Nat)(hm:intA g id∈H)(hw:St B w0 H w):
 CX B w0 163 [celV c,.pointer (some ⟨g,0,none⟩)] w λv K=>v=.bool (decide (Y7 c=id))/\K=H:=by
 refine Ya Tryz.func163 Tryz.ntmps163 rfl rfl hw ?_
 by_cases h:c.2.2.2.2=id
 ·rw[Ti (show Y7 c=id from h)]
  refine zX43 ?_<;>intros
  apply Yg H
  ·exact zc0
  exact zc13
 ·rw[Tn (show¬Y7 c=id from h)]
  refine zX43 ?_<;>intros
  apply Yg H
  ·exact zc0
  exact zc13
def tchB(l:List Cel)(slot a b:Int):Bool:=l.any λd=>decide (d.1=slot)&&YE d (0,0,a,b,0)
def offI(n:Net)(l:List Cel)(slot a b:Int)(k:Nat):List Nat:=(List.range k).filter λo:Nat=>Jn n (l.filter (atP slot o)++[(0,0,a,b,0)])
def UJ(n:Net)(s:Sch)(slot a b:Int):List (List Value):=if tchB s.cells slot a b=true then []else(offI n s.cells slot a b s.off.toNat).map λ(o:Nat)=>[Value.int .i64 (o:Int)]
variable {n:Net}{l:List Cel}{slot a b:Int}{k i:Nat}
theorem Yp7(h:Jn n (l.filter (atP slot k)++[(0,0,a,b,0)])=true):offI n l slot a b (k+1)=offI n l slot a b k++[k]:=by
 grind [offI,RD]
theorem Ysb(h:Jn n (l.filter (atP slot k)++[(0,0,a,b,0)])=false):offI n l slot a b (k+1)=offI n l slot a b k:=by
 grind [offI,RD]
theorem Yp6{m:Nat}(h:Jn n (l.filter (atP slot k)++[(0,0,a,b,0)])=true)(hk:k<m):(offI n l slot a b m)[(offI n l slot a b k).length]? =some k:=by
 obtain⟨j,rfl⟩:∃j,m=k+(j+1):=⟨m-k-1,by omega⟩
 have e:offI n l slot a b (k+(j+1))=offI n l slot a b k++((List.range (j+1)).map (k+·)).filter λo:Nat=>Jn n (l.filter (atP slot o)++[(0,0,a,b,0)]):=by
  grind [offI,List.range_add]
 simp_all [List.range_succ_eq_map]
structure AiM where
 i:Nat
 A:Option Addr
 cap:Nat
 l:List Cel
variable {c:Cel}
theorem YpI(hc:l[i]? =some c)(h:c.1=slot):(l.take (i+1)).filter (λd=>decide (d.1=slot))=(l.take i).filter (λd=>decide (d.1=slot))++[c]:=YdK
theorem YrU(hc:l[i]? =some c)(h:c.1≠slot):(l.take (i+1)).filter (λd=>decide (d.1=slot))=(l.take i).filter (λd=>decide (d.1=slot)):=YdK
theorem YqI(hc:l[i]? =some c):tchB (l.take (i+1)) slot a b=(tchB (l.take i) slot a b||(decide (c.1=slot)&&YE c (0,0,a,b,0))):=by
 grind [tchB,TG]
theorem Yvu(hc:l[i]? =some c)(h:c.1=slot)(ht:YE c (0,0,a,b,0)=true):tchB l slot a b=true:=
 Re.2 ⟨c,Tc hc,by simp_all⟩
theorem YnO(n:NetM)(s:SchM)(l:Lk)(slot:Int)(g3 g5 g4:Nat)(hck:Yp n.net=0)(hl:s.cells.length<=900)(hoff:0<=s.off/\s.off<=16){B:Nat}{w0:World}{R:List HP}(hin:n.In B w0 [many R])(hr:Rd B w0 [many R] s.A (s.cells.flatMap celF)):
 YbM Tryz.prog 344 [.pointer (some ⟨g3,0,none⟩),.pointer (some ⟨g5,0,none⟩),.pointer (some ⟨g4,0,none⟩)] (UJ n.net s.sch slot l.1 l.2.1) B w0 [intA g5 slot,lnkA g4 l,grdA g3 n s,many R]:=by
 refine YbN Tryz.func344 Tryz.ntmps344 rfl rfl ?_
 intro ly SS X hy L0 h0
 refine Z1 117 5 ?_
 have hsc:s.sch.cells=s.cells:=rfl
 refine zX9 ?_
 refine Yh (λ(x:AiM)=>[(14,.int .i64 x.i),(13,.int .i64 s.cells.length),(12,.slice s.A s.cells.length s.cap),(5,.slice x.A x.l.length x.cap),(0,.func (.yield ly) #[] #[]),(1,.pointer (some ⟨g3,0,none⟩)),(2,.pointer (some ⟨g5,0,none⟩)),(3,.pointer (some ⟨g4,0,none⟩))])
  (λx=>sl 117 5 x.A x.l.length x.cap (x.l.flatMap celF)::many L0::intA g5 slot::lnkA g4 l::grdA g3 n s::[many R]) (λx=>x.i<=s.cells.length/\x.l=(s.cells.take x.i).filter (λd=>decide (d.1=slot))/\tchB (s.cells.take x.i) slot l.1 l.2.1=false) (λx=>s.cells.length-x.i) ⟨0,none,0,[]⟩ ⟨Tm _,by simp,rfl⟩ ?_ ?_ ?_
 ·exact zc1
 ·dsimp only
  rw[show([]:List Cel).flatMap celF=[] from rfl,show([]:List Cel).length=0 from rfl]
  exact zc0
 rintro⟨i,A,cap,hs⟩ ⟨hi,hhs,htc⟩ K hK
 dsimp only at hi hhs htc⊢
 have hhl:hs.length<=900:=by
  have:=RB (λd:Cel=>decide (d.1=slot)) (s.cells.take i)
  rw[<-hhs,TX]at this
  omega
 by_cases hlt:i<s.cells.length
 ·obtain⟨c,hc⟩:∃c,s.cells[i]? =some c:=⟨_,Ta hlt⟩
  have hts:=YqI (slot:=slot) (a:=l.1) (b:=l.2.1) hc
  rw[htc,NH]at hts
  have p1:=λ{H':List HP}{w:World}(hw:St B w0 H' w)=>Yi7 c l hw
  unfold celV lkV at p1
  by_cases hsl:c.1=slot
  rotate_left
  ·rw[Tn hsl,SD]at hts
   refine zX44 ?_<;>intros
   apply hK ⟨i+1,A,cap,hs⟩
   ·exact⟨by exact zc71,by rw[YrU hc hsl];exact hhs,hts⟩
   ·exact zc36
   ·exact zc1
   ·exact zc0
  cases ht:YE c (0,0,l.1,l.2.1,0)with
  |true=>
   rw[ht]at p1
   have hnil:UJ n.net s.sch slot l.1 l.2.1=[]:=by
    unfold UJ
    rw[Tj (by rw[hsc];exact Yvu hc hsl ht)]
   clear hK
   repeat'(first|((first|apply Yb YlN|apply Yc YlN);exact za;exact rfl;exactλ_ hw=>(p1 hw))|refine zgd ?_|(refine zge ?_ ?_<;>intro _<;>try exact zo)|(refine zgh ?_;intro _)|fail)
   apply Yg (many L0::intA g5 slot::lnkA g4 l::grdA g3 n s::[many R])
   ·exact zc0
   apply ZD;exact rfl
   exact .inl ⟨L0,by rw[hnil];exact h0,rfl⟩
  |false=>
   rw[Ti hsl,ht,RV]at hts
   rw[ht]at p1
   repeat'(first|((first|apply Yb YlN|apply Yc YlN);exact za;exact rfl;exactλ_ hw=>(p1 hw))|refine zgd ?_|(refine zge ?_ ?_<;>intro _<;>try exact zo)|(refine zgh ?_;intro _)|(refine zgi ?_;intro _ _)|fail)
   rename_i A' cap'
   have hl1:(hs++[c]).length=hs.length+1:=by rw[To];rfl
   apply hK ⟨i+1,A',cap',hs++[c]⟩
   ·exact⟨by exact zc71,by rw[YpI hc hsl,<-hhs],hts⟩
   ·exact zc36
   ·dsimp only
    rw[hl1]
    exact zc1
   ·dsimp only
    have e5:=VB A' cap' hs c
    unfold cels at e5
    rw[<-e5]
    exact zc0
 ·obtain rfl:i=s.cells.length:=by omega
  rw[TP]at hhs htc
  clear hK
  refine zX0 ?_<;>intros
  have hxs:UJ n.net s.sch slot l.1 l.2.1=(offI n.net s.cells slot l.1 l.2.1 s.off.toNat).map λ(o:Nat)=>[Value.int .i64 (o:Int)]:=by
   unfold UJ
   rw[Tf (by rw[hsc,htc];decide)];rfl
  refine Yh (λ(x:Nat×List HP)=>[(33,.int .i64 (x.1:Nat)),(32,.int .i64 s.off),(5,.slice A hs.length cap),(0,.func (.yield ly) #[] #[]),(1,.pointer (some ⟨g3,0,none⟩)),(2,.pointer (some ⟨g5,0,none⟩)),(3,.pointer (some ⟨g4,0,none⟩))])
   (λx=>sl 117 5 A hs.length cap (hs.flatMap celF)::many x.2::intA g5 slot::lnkA g4 l::grdA g3 n s::[many R]) (λx=>(x.1:Int)<=s.off/\SS (offI n.net s.cells slot l.1 l.2.1 x.1).length x.2) (λx=>(s.off-x.1).toNat) (0,L0) ⟨by show((0:Nat):Int)<=_;omega,h0⟩ ?_ ?_ ?_
  ·exact zc1
  ·exact zc0
  rintro⟨o,L⟩ ⟨ho,hS⟩ K hK
  dsimp only at ho hS⊢
  by_cases hlt2:(o:Int)<s.off
  rotate_left
  ·obtain rfl:o=s.off.toNat:=by omega
   clear hK
   refine zX0 ?_<;>intros
   apply Yg (many L::intA g5 slot::lnkA g4 l::grdA g3 n s::[many R])
   ·exact zc0
   apply X7;exact rfl
   exact .inl ⟨L,by rw[hxs,Tv];exact hS,rfl⟩
  obtain⟨own,hown⟩:∃own,s.cells.filter (atP slot o)=own:=⟨_,rfl⟩
  have hof:(hs.filter λc=>!!(decide (c.2.1=(o:Int))))=own:=by
   rw[<-hown,hhs,Nc]
   refine Nq λc _=>?_
   unfold atP
   rw[Bool.not_not,Bool.decide_and,Bool.and_comm]
  have hol:own.length<=900:=by
   have:=RB (atP slot o) s.cells
   rw[hown]at this
   omega
  have pg:=λ{A2:Option Addr}{cap2:Nat}{H':List HP}{w:World}(hin:n.In B w0 H') (hr:Rd B w0 H' A2 (own.flatMap celF++#[Value.int .i64 0,.int .i64 0,.int .i64 l.1,.int .i64 l.2.1,.int .i64 0].toList)) (hw:St B w0 H' w)=>Yj3 n (own++[(0,0,l.1,l.2.1,0)]) hck (by rw[To];show own.length+1<=1000;omega) (A:=A2) (cap:=cap2) hin (by rw[T9];exact hr) hw
  have hol1:(own++[((0,0,l.1,l.2.1,0):Cel)]).length=own.length+1:=by rw[To];rfl
  rw[hol1]at pg
  unfold NetM.val at pg
  refine zX44 ?_<;>intros
  rename_i g8
  apply Ye _ YeD
  exact za
  exact rfl
  exactλ_ hw=>(Z7 hs (by omega) (.sl (by(focus exact zc2))) (hw))
  rintro _ _ ⟨A1,c1,rfl,rfl⟩
  refine YdI ?_
  apply Ye _ Ylv
  exact za
  exact rfl
  exactλ_ hw=>(V8 (λc=>!(decide (c.2.1=(o:Int)))) hs 346 [.pointer (some ⟨g8,0,none⟩)] YwA (by omega) (λc _ X w hw=>Ykp c o g8 (TZ _ (by(focus exact zc2))) hw) (hw))
  rintro _ _ ⟨rfl,rfl⟩
  rw[hof]
  unfold cels
  refine zX4 ?_
  apply Ymv [0,1,2,3,4,5,6,7,8,9,10,11,12,13] [14,15,16] [false,true,false,false,true,true,true,true]
  kernel_rfl
  kernel_rfl
  exact zy
  (simp only[Yd,nthO];rfl)
  (simp only[Yd,nthO];rfl)
  repeat'(first|(apply Yk T;exact rfl;exact zm;exact rfl;exact zv;exact rfl;exact rfl)|(apply Yj;try exact zl)|refine zgd ?_|(refine zgh ?_;intro _)|(refine zgi ?_;intro _ _)|fail)
  first|apply Yb Ytl|apply Yc Ytl
  exact za
  exact rfl
  exactλ_ hw=>(pg (hin.mono zc0) (.sl (by(focus exact zc2))) hw)
  cases hg:Jn n.net (own++[(0,0,l.1,l.2.1,0)])with
  |true=>
   have hg2:Jn n.net (s.cells.filter (atP slot o)++[(0,0,l.1,l.2.1,0)])=true:=by rw[hown];exact hg
   have hx:(UJ n.net s.sch slot l.1 l.2.1)[(offI n.net s.cells slot l.1 l.2.1 o).length]? =some [.int .i64 (o:Int)]:=by
    rw[hxs,TM,Yp6 hg2 (by omega)];rfl
   have hY:=hy _ _ hx [sl 117 5 A hs.length cap (hs.flatMap celF)] L hS
   refine zX18 ?_
   apply Yg (sl 117 5 A hs.length cap (hs.flatMap celF)::many L::intA g5 slot::lnkA g4 l::grdA g3 n s::[many R])
   ·exact zc0
   apply YoX
   apply Yb2 _ _ (hy:=hY)
   ·exact Ybh (j:=11) (s:=51) rfl rfl rfl
   ·exact rfl
   ·exact YqU
   ·exact rfl
   ·exact Yjl
   ·rintro _ ⟨L',hS',rfl⟩
    refine zX2 ?_
    apply hK (o+1,L')
    ·exact⟨by show((o+1:Nat):Int)<=_;omega,by rw[Yp7 hg2,To];exact hS'⟩
    ·exact zc36
    ·exact zc1
    exact zc19
   ·rintro _ ⟨L',hX',rfl⟩
    refine zX2 ?_
    apply Yg (many L'::intA g5 slot::lnkA g4 l::grdA g3 n s::[many R])
    ·exact zc56
    apply ZD;exact rfl
    exact .inr ⟨L',hX',rfl⟩
  |false=>
   have hg2:Jn n.net (s.cells.filter (atP slot o)++[(0,0,l.1,l.2.1,0)])=false:=by rw[hown];exact hg
   refine zX18 ?_
   apply YoX
   apply Yhj Yjl
   refine zX9 ?_
   apply hK (o+1,L)
   ·exact⟨by show((o+1:Nat):Int)<=_;omega,by rw[Ysb hg2];exact hS⟩
   ·exact zc36
   ·exact zc1
   ·exact zc0
theorem Ykm:∀a b:List Int,a.length=b.length->YJ (List.zipWith cmpI a b)=cmpV a b
 |[],[],_=>rfl
 |[],_::_,h=>by cases h
 |_::_,[],h=>by cases h
 |x::a,y::b,h=>by
  have ih:=Ykm a b (by simp_all)
  rw[List.zipWith_cons_cons,YJ]
  by_cases h1:x<y
  ·have e1:cmpI x y= -1:=Tj h1
   have e2:XQ (x::a) (y::b)=true:=by rw[XQ,Tj (show x≠y by omega)];simp_all
   simp_all [cmpV]
  ·by_cases h2:y<x
   ·have e1:cmpI x y=1:=by simp_all [cmpI]
    have e2:XQ (x::a) (y::b)=false:=by rw[XQ,Tj (show x≠y by omega)];simp_all
    have e3:XQ (y::b) (x::a)=true:=by rw[XQ,Tj (show y≠x by omega)];simp_all
    simp_all [cmpV]
   ·obtain rfl:x=y:=by omega
    simp_all [cmpI,XQ,cmpV]
variable {B:Nat}{w0 w:World}{H:List HP}
theorem OC(a b:Cel)(hw:St B w0 H w):
 CX B w0 147 [celV a,celV b] w λv K=>v=.int .i64 (cmpV (nums a) (nums b))/\K=H:=by
 refine Ya Tryz.func147 Tryz.ntmps147 rfl rfl hw ?_
 rw[<-Ykm (nums a) (nums b) rfl]
 unfold celV
 refine zX16 ?_<;>intros
 apply YD [0,1,2,3,5,6,7,8,10,11,12,13,15,16,17,18,20,21,22,23,4,9,14,19,24,25,26,27] [] [true,true]
 kernel_rfl
 kernel_rfl
 exact zy
 (simp only[Yd,nthO];rfl)
 exact rfl
 refine zX17 ?_<;>intros
 rename_i g
 first|apply Yb en48|apply Yc en48
 exact za
 exact rfl
 exactλ_ hw=>(Ygp (List.zipWith cmpI (nums a) (nums b)) (by simp[nums]) (Rd.blk (g:=g) (cs:=#[.int .i64 (cmpI a.1 b.1),.int .i64 (cmpI a.2.1 b.2.1),.int .i64 (cmpI a.2.2.1 b.2.2.1),.int .i64 (cmpI a.2.2.2.1 b.2.2.2.1),.int .i64 (cmpI a.2.2.2.2 b.2.2.2.2)]) (by(focus exact zc2))) hw)
 refine zX18 ?_
 apply Yg H
 ·exact zc0
 exact zc22
theorem YgL(l:List Cel)(c:Cel)(ho:Ord l)(hlen:l.length<=1000000000){A:Option Addr}{cap:Nat}(hr:Rd B w0 H A (l.flatMap celF))(hw:St B w0 H w):
 CX B w0 326 [.slice A l.length cap,celV c,.func (.func 147) #[] #[]] w λv K=>
  v=.tuple #[.int .i64 (posE l c),.bool (decide (c∈l))]/\K=H:=by
 refine Ya Tryz.func326 Tryz.ntmps326 rfl rfl hw ?_
 (apply Xm;apply YY;apply YV;exact rfl;exact rfl;intro g)
 refine zX9 ?_
 have hr:=hr.cons (X:=blk g (.cells (celF c).toArray 117 (0,0)))
 refine Qh (λ(lo hi:Nat)=>[(9,.int .i64 lo),(10,.int .i64 hi),(8,.int .i64 l.length),(0,.slice A l.length cap),(2,.func (.func 147) #[] #[]),(4,.pointer (some ⟨g,0,none⟩))]) (λ_ _=>blk g (.cells (celF c).toArray 117 (0,0))::H)
  (λlo hi=>lo<=hi/\hi<=l.length/\(∀i x,i<lo->l[i]? =some x->Xb x c=true)/\(∀i x,hi<=i->l[i]? =some x->Xb x c=false)) (λlo hi=>hi-lo) 0 l.length ⟨by omega,by omega,λj x hj=>by omega,λj x h1 h2=>by simp_all⟩ ?_ (λw hw=>hw) ?_
 ·exact zc1
 rintro lo hi ⟨h1,h2,h3,h4⟩ K hK
 by_cases hlt:lo<hi
 ·obtain⟨b,hb⟩:∃b,l[(((lo:Int)+hi)/2).toNat]? =some b:=⟨_,Ta (by omega)⟩
  have hm:(((lo:Int)+hi)/2).toNat=(lo+hi)/2:=by omega
  have hb2:l[(lo+hi)/2]? =some b:=by grind
  repeat'(first|((first|apply YU (cs:=[])|apply Xa (cs:=[]));exact rfl;exact Ypn;exact za;exact rfl;exactλ_ hw=>(OC b c hw))|(apply zg28;refine zs84 ?_)|refine zgd ?_|(refine zge ?_ ?_<;>intro _<;>try exact zo)|fail)
  ·rename_i hc
   rw[Yad]at hc
   apply hK ((lo+hi)/2+1) hi
   ·refine⟨by omega,by omega,λj x hj hx=>?_,h4⟩
    by_cases e:j=(lo+hi)/2
    ·grind
    ·exact Z6 (Ygq ho hx hb2 (by omega)) hc
   ·omega
   ·exact zc1
   exact zc19
  ·rename_i hc
   have hc:Xb b c=false:=by
    cases h:Xb b c with
    |false=>rfl
    |true=>rw[<-Yad]at h;omega
   apply hK lo ((lo+hi)/2)
   ·refine⟨by omega,by omega,h3,λj x hj hx=>?_⟩
    by_cases e:j=(lo+hi)/2
    ·exact YqV
    ·cases h:Xb x c with
     |false=>rfl
     |true=>rw[Z6 (Ygq ho hb2 hx (by omega)) h]at hc;cases hc
   ·omega
   ·exact zc1
   exact zc19
 ·obtain rfl:lo=hi:=by omega
  have hp:Pos l c lo:=⟨h2,h3,h4⟩
  have hpe:=hp.posE ho
  have hpm:=Yss ho hp
  by_cases hl:lo<l.length
  ·obtain⟨b,hb⟩:∃b,l[lo]? =some b:=⟨_,Ta hl⟩
   rw[hb]at hpm
   repeat'(first|((first|apply YU (cs:=[])|apply Xa (cs:=[]));exact rfl;exact Ypn;exact za;exact rfl;exactλ_ hw=>(OC b c hw))|(apply zg28;refine zs84 ?_)|refine zgd ?_|(refine zge ?_ ?_<;>intro _<;>try exact zo)|fail)
   all_goals(apply Yn;apply YL;(iterate 3 exact rfl);rw[<-hpe])
   ·rename_i hc
    rw[Ypb]at hc
    exact⟨by rw[Ti (hpm.1 (by rw[hc]))],rfl⟩
   ·rename_i hc
    rw[ne_eq,Ypb]at hc
    exact⟨by rw[Tn λh=>hc (Tz (hpm.2 h))],rfl⟩
  ·refine zX19 ?_<;>intros
   apply Yn;apply YL;(iterate 3 exact rfl);rw[<-hpe]
   rw[List.getElem?_eq_none (by omega)]at hpm
   exact⟨by rw[Tn λh=>by cases hpm.2 h],rfl⟩
theorem Ygm(n:NetM)(s:SchM)(l:Lk)(slot:Int)(hw:St B w0 H w):
 CX B w0 325 [grdV n s,lkV l,.int .i64 slot] w λv K=>∃g3 g4 g5,v=.func (.func 344) #[] #[.pointer (some ⟨g3,0,none⟩),.pointer (some ⟨g5,0,none⟩),.pointer (some ⟨g4,0,none⟩)]/\K=intA g5 slot::lnkA g4 l::grdA g3 n s::H:=by
 refine Ya Tryz.func325 Tryz.ntmps325 rfl rfl hw ?_
 refine zX31 ?_<;>intros
 exact Ymm
end Go.Proofs.YtambgjgljcadlaaGreatDoor
namespace Go.Eng
open Go.RowKit
section
variable {P:Program}{B:Nat}{w0:World}{env:Env}{H:List HP}
theorem Yb0{n:Nat}(T:Tab P){fn:Func}{Φ:Value->List HP->Prop}{p g k q g2 rt st:Nat}{v:Value}{cs:Array Value}{tt tt2:TypeId}{fr fr2:Nat×Nat}(hr:fn.results=#[.cell p rt,.cell q st])(hp:get env p=some (.pointer (some ⟨g,0,none⟩)))(hq:get env q=some (.pointer (some ⟨g2,0,none⟩)))
 (hm:blk g (.cells cs tt fr)∈H) (hm2:blk g2 (.cells #[v] tt2 fr2)∈H) (ht:look T.ag rt=some k) (hk:cs.size=k) (ht2:look T.sc st=some ()) {H2:List HP}(hH:∀w,St B w0 H w->St B w0 H2 w) (h:Φ (.tuple #[.agg cs,v]) H2):VQ ⟨n,[],none⟩ B w0 (bodyPost P fn (Post B w0 Φ)) .ret env H:=by
 refine⟨λa w ha hw=>bodyPost_ret (v:=.tuple #[.agg cs,v]) ?_ ha.defers ⟨_,H2,rfl,hH w hw,h⟩⟩
 have hp':=ha.slot p _ hp
 have hq':=ha.slot q _ hq
 have hc:=Xf (i:=0) (hw.blk hm2).1
 have h2:(loadVar st ⟨g2,0,none⟩).run P w=.ok v w:=by simp[loadVar,Zc (T.scal ht2).1,hc]
 simp[results,hr,Array.getD_eq_getD_getElem?,hp',hq',asAddr,Vn T (hw.blk hm).1 ht hk,h2]
end
end Go.Eng
namespace Go.Proofs.YtambgjgljcadlaaGreatDoor
open Go.RowKit Go.Eng Go.Nw Go.Rt
theorem U4{α:Type}(p:α->Bool):∀l:List α,(l.filter p)[0]? =l.find? p
 |[]=>rfl
 |a::l=>by
  rw[SO,S8]
  cases h:p a with
  |true=>rfl
  |false=>exact U4 p l
variable {n:Net}{l:List Cel}{slot a b id:Int}
theorem YlV(h:tchB l slot a b=false):(λo:Nat=>fitE n l slot o a b)=λo:Nat=>Jn n (l.filter (atP slot o)++[(0,0,a,b,0)]):=by
 grind [fitE,tchB]
theorem YuY(h:tchB l slot a b=true):(λo:Nat=>fitE n l slot o a b)=λ_=>false:=by
 grind [fitE,tchB]
variable {s:Sch}
theorem Ykn(hh:hasC s.cells slot a b id=false)(h:(UJ n s slot a b).length=0):Jv n s a b id slot=none:=by
 unfold Jv
 have:((List.range s.off.toNat).find? λo:Nat=>fitE n s.cells slot o a b)=none:=by
  cases ht:tchB s.cells slot a b with
  |true=>simp_all [YuY]
  |false=>
   rw[YlV ht,<-U4]
   unfold UJ at h
   grind [offI]
 simp_all
theorem Yko(hh:hasC s.cells slot a b id=false){args:List Value}(h:(UJ n s slot a b)[0]? =some args):∃o:Nat,args=[.int .i64 (o:Int)]/\o<s.off.toNat/\fitE n s.cells slot o a b=true/\Jv n s a b id slot=some ⟨s.len,s.off,insC s.cells (slot,(o:Int),a,b,id)⟩:=by
 unfold UJ at h
 cases ht:tchB s.cells slot a b with
 |true=>simp_all
 |false=>
  rw[ht,Tf (by decide),TM]at h
  unfold offI at h
  rw[U4]at h
  cases hf:(List.range s.off.toNat).find? λo:Nat=>Jn n (s.cells.filter (atP slot o)++[(0,0,a,b,0)])with
  |none=>simp_all
  |some o=>
   have hf2:(List.range s.off.toNat).find? (λo:Nat=>fitE n s.cells slot o a b)=some o:=by rw[YlV ht];exact hf
   unfold Jv
   grind
theorem YkO(n:NetM)(s:SchM)(l:Lk)(id slot:Int)(hck:Yp n.net=0)(hl:s.cells.length<=900)(hoff:0<=s.off/\s.off<=16)(ho:Ord s.cells){B:Nat}{w0:World}{R:List HP}{w:World}(hin:n.In B w0 [many R])(hr:Rd B w0 [many R] s.A (s.cells.flatMap celF))(hw:St B w0 [many R] w):
 CX B w0 302 [grdV n s,lkV l,.int .i64 id,.int .i64 slot] w λv K=>
  (v=.tuple #[grdV n s,.bool true]/\Jv n.net s.sch l.1 l.2.1 id slot=some s.sch/\K=[many R])\/
  (v=.tuple #[grdV n s,.bool false]/\Jv n.net s.sch l.1 l.2.1 id slot=none/\K=[many R])\/
  ∃A cap c,v=.tuple #[grdV n ⟨s.len,s.off,A,cap,insC s.cells c⟩,.bool true]/\Jv n.net s.sch l.1 l.2.1 id slot=some ⟨s.len,s.off,insC s.cells c⟩/\K=[cels A cap (insC s.cells c),many R]:=by
 refine XK Tryz.func302 Tryz.ntmps302 rfl rfl hw ?_
 have p1:=λ{H':List HP}{w:World}(hr:Rd B w0 H' s.A (s.cells.flatMap celF)) (hw:St B w0 H' w)=>Yno n s l id slot (by omega) hr hw
 have p2:=λ{H':List HP}{w:World}(hw:St B w0 H' w)=>Ygm n s l slot hw
 cases hh:hasC s.cells slot l.1 l.2.1 id with
 |true=>
  rw[hh]at p1
  unfold grdV lkV at p1⊢
  refine Yjj ?_<;>intros
  first|apply Yb YlL|apply Yc YlL
  exact za
  exact rfl
  exactλ_ hw=>(p1 hr.cons.cons.cons.cons.cons.cons hw)
  refine zX2 ?_
  apply VQ_m
  apply Yb0 T (H2:=[many R]);(iterate 3 exact rfl);(focus exact zc2);(focus exact zc2);(iterate 3 exact rfl);(intro w hw;refine hw.perm ?_;focus exact zc3)
  refine .inl ⟨rfl,?_,rfl⟩
  unfold Jv
  rw[show s.sch.cells=s.cells from rfl,Tj hh]
 |false=>
 rw[hh]at p1
 unfold grdV lkV at p1 p2⊢
 refine Yjj ?_<;>intros
 rename_i g4 g5 g6 g7 g8 g9
 first|apply Yb YlL|apply Yc YlL
 exact za
 exact rfl
 exactλ_ hw=>(p1 hr.cons.cons.cons.cons.cons.cons hw)
 refine zX7 ?_
 apply Ye _ Ywr
 exact za
 exact rfl
 exactλ_ hw=>(p2 (hw))
 rintro _ _ ⟨k3,k4,k5,rfl,rfl⟩
 refine zX7 ?_
 have hlen0:∀args∈UJ n.net s.sch slot l.1 l.2.1,args.length=[24].length:=by
  intro args h
  unfold UJ at h
  split at h
  ·cases h
  ·obtain⟨o,_,rfl⟩:=TE.1 h
   rfl
 refine XL (gf:=344) (lb:=[.pointer (some ⟨k3,0,none⟩),.pointer (some ⟨k5,0,none⟩),.pointer (some ⟨k4,0,none⟩)]) (xs:=UJ n.net s.sch slot l.1 l.2.1) (intA k5 slot::lnkA k4 l::grdA k3 n s::[many R])
  (λ_:Unit=>[blk g9 (.cells #[.bool false] 4 (0,0)),blk g8 (.cells #[.int .i64 0,.slice none 0 0,.int .i64 0,.int .i64 0,.slice none 0 0,.slice none 0 0,.int .i64 0,.int .i64 0,.slice none 0 0] 349 (0,0)),intA g7 slot,intA g6 id,lnkA g5 l,grdA g4 n s])
  (λk _=>k=0) (λe K=>e=.ret/\∃A cap,∃o:Int,Jv n.net s.sch l.1 l.2.1 id slot=some ⟨s.len,s.off,insC s.cells (slot,o,l.1,l.2.1,id)⟩/\K=[blk g9 (.cells #[.bool true] 4 (0,0)),grdA g8 n ⟨s.len,s.off,A,cap,insC s.cells (slot,o,l.1,l.2.1,id)⟩,cels A cap (insC s.cells (slot,o,l.1,l.2.1,id))]) () rfl Ywz (YnO n s l slot k3 k5 k4 hck hl hoff hin hr) rfl hlen0 (by kernel_rfl) (by kernel_rfl) ?_ rfl ?_ ?_ ?_
 ·intro w hw
  have h5:St B w0 (blk g9 (.cells (Value.bool false).cells 4 (0,0))::blk g8 (.cells (Value.agg #[.int .i64 0,.slice none 0 0,.int .i64 0,.int .i64 0,.slice none 0 0,.slice none 0 0,.int .i64 0,.int .i64 0,.slice none 0 0]).cells 349 (0,0))::intA g7 slot::intA g6 id::lnkA g5 l::grdA g4 n s::intA k5 slot::lnkA k4 l::grdA k3 n s::[many R]) w:=by
   revert w
   exact zc0
  exact h5
 ·rintro ly k args R1 ⟨⟩ hk rfl
  obtain⟨o,rfl,hol,hfit,hsl⟩:=Yko (id:=id) hh hk
  dsimp only[VP,List.cons_append,List.nil_append]
  have hrx:∀{H':List HP},(∀w,St B w0 H' w->St B w0 [many R] w)->Rd B w0 H' s.A (s.cells.flatMap celF):=λh=>hr.mono h
  refine zX4 ?_
  apply Z5 Ys
  intro R2
  have hpl:posE s.cells (slot,(o:Int),l.1,l.2.1,id)<=s.cells.length:=(YgF ho _).1
  refine zX23 ?_<;>intros
  rename_i g11
  first|apply Yb Yti|apply Yc Yti
  exact za
  exact rfl
  exactλ_ hw=>(YgL s.cells (slot,(o:Int),l.1,l.2.1,id) ho (by omega) (hrx zc0) hw)
  refine zX9 ?_
  apply Qi (.p1 0 (.p1 1 (.p1 2 (.p1 4 (.p1 5 (.d2 3 (.d1 6 (.d1 7 (.d1 8 (.d1 9 .done)))) 6 (.d1 3 (.d1 7 (.d1 8 (.d1 9 .done)))))))))) [10] [true,false,false,false,false,false,false,true,false,false,false,true]
  kernel_rfl
  kernel_rfl
  exact zy
  (simp only[Yd,nthO];rfl)
  repeat'(first|((apply Ye _ YeD);exact za;exact rfl;exactλ_ hw=>Z7 s.cells (by omega) (hrx zk) hw;rintro _ _ ⟨A1,cap1,rfl,rfl⟩)|(apply Vy T T2;(iterate 7 exact rfl);intro gv)|(apply Xt [cels A1 cap1 s.cells,blk gv (.cells #[.int .i64 slot,.int .i64 (o:Int),.int .i64 l.1,.int .i64 l.2.1,.int .i64 id] 117 (0,0))] _ Yws;exact za;try exact zl;exact zp;exact rfl;exactλ_ hw=>Yge s.cells _ (slot,(o:Int),l.1,l.2.1,id) hpl (by omega) hw;rintro _ _ ⟨A2,cap2,rfl,rfl⟩)|(apply Ylf;(simp only[nthO];rfl))|(apply Yld;(simp only[nthO];rfl);exact zp)|(apply Yle;(simp only[nthO];rfl);(simp only[nthO];rfl);exact zp)|(apply Qm;try exact zl)|refine zgd ?_|fail)
  all_goals(
   refine Ql [blk g9 (.cells #[.bool true] 4 (0,0)),grdA g8 n ⟨s.len,s.off,A2,cap2,insC s.cells (slot,(o:Int),l.1,l.2.1,id)⟩,cels A2 cap2 (insC s.cells (slot,(o:Int),l.1,l.2.1,id))] ⟨rfl,A2,cap2,(o:Int),hsl,rfl⟩ ?_
   dsimp only[List.cons_append,List.nil_append]
   unfold insC
   exact zk)
 ·rintro D ⟨⟩ hI
  have hnone:=Ykn (id:=id) hh hI
  dsimp only[List.cons_append,List.nil_append]
  refine zX2 ?_
  apply Zg Ys
  apply VQ_m
  apply Yb0 T (H2:=[many R]);(iterate 3 exact rfl);(focus exact zc2);(focus exact zc2);(iterate 3 exact rfl);(intro w hw;refine hw.perm ?_;focus exact zc3)
  exact .inr (.inl ⟨rfl,hnone,rfl⟩)
 ·rintro D e K ⟨rfl,A,cap,o,hsl,rfl⟩ hjmp
  dsimp only[List.cons_append,List.nil_append]
  refine zX2 ?_
  apply Zg Ys
  apply VQ_m
  apply Yb0 T (H2:=[cels A cap (insC s.cells (slot,o,l.1,l.2.1,id)),many R]);(iterate 3 exact rfl);(focus exact zc2);(focus exact zc2);(iterate 3 exact rfl);(intro w hw;refine hw.perm ?_;focus exact zc3)
  exact .inr (.inr ⟨A,cap,_,rfl,hsl,rfl⟩)
variable {n:Net}
theorem Sm.few{l:List Flw}{s:Sch}(h:Sm n l s)(hl:s.len<=24):s.cells.length<=768:=by
 have hok:=YM h.ck
 have hnd:(s.cells.map λc=>c.1*32+Yr c).Nodup:=by
  refine N8.2 (h.once.imp_of_mem λ{a b} ha hb hab e=>?_)
  have h1:=Xr hok (h.good a ha).1
  have h2:=Xr hok (h.good b hb).1
  have hn:=hok.n1
  grind [YE]
 have:=Go.Nw.nodup_len 768 _ hnd λx hx=>by
  obtain⟨c,hc,rfl⟩:=TE.1 hx
  have h1:=Xr hok (h.good c hc).1
  have hn:=hok.n1
  have hf:=h.formed c hc
  unfold ZF Zl insE at hf
  grind
 simp_all
variable {B:Nat}{w0 w:World}{H:List HP}
theorem Yqz(n:NetM)(s:SchM)(l:Lk)(id slot:Int)(hck:Yp n.net=0)(hl:s.cells.length<=900)(hoff:0<=s.off/\s.off<=16)(ho:Ord s.cells)(hin:n.In B w0 H)(hr:Rd B w0 H s.A (s.cells.flatMap celF))(hw:St B w0 H w):
 CX B w0 302 [grdV n s,lkV l,.int .i64 id,.int .i64 slot] w λv K=>
  (v=.tuple #[grdV n s,.bool true]/\Jv n.net s.sch l.1 l.2.1 id slot=some s.sch/\K=H)\/
  (v=.tuple #[grdV n s,.bool false]/\Jv n.net s.sch l.1 l.2.1 id slot=none/\K=H)\/
  ∃A cap c,v=.tuple #[grdV n ⟨s.len,s.off,A,cap,insC s.cells c⟩,.bool true]/\Jv n.net s.sch l.1 l.2.1 id slot=some ⟨s.len,s.off,insC s.cells c⟩/\K=cels A cap (insC s.cells c)::H:=by
 have hop:∀w,St B w0 [many H] w->St B w0 H w:=λw hw=>hw.perm (.openT H)
 refine(YkO n s l id slot hck hl hoff ho (R:=H) (hin.mono hop) (hr.mono hop) (hw.perm (.closeT H))).mono ?_
 rintro e w' ⟨v,K,h1,hst,h⟩
 rcases h with⟨h2,h3,rfl⟩|⟨h2,h3,rfl⟩|⟨A,cap,c,h2,h3,rfl⟩
 ·exact⟨v,_,h1,hop _ hst,.inl ⟨h2,h3,rfl⟩⟩
 ·exact⟨v,_,h1,hop _ hst,.inr (.inl ⟨h2,h3,rfl⟩)⟩
 ·exact⟨v,_,h1,hst.perm (.cons _ (.openT H)),.inr (.inr ⟨A,cap,c,h2,h3,rfl⟩)⟩
structure ReM where
 i:Nat
 s:SchM
 z:Int
 L:List HP
theorem Ykz(m k:Nat)(h:k<m):(List.range m).drop k=k::(List.range m).drop (k+1):=Yq3
theorem Ykf{r:List Int}{k:Nat}(h:k+1<r.length):(Yq n r).drop k=X9 n r k::(Yq n r).drop (k+1):=by
 unfold Yq
 rw[<-List.map_drop,<-List.map_drop,Ykz _ _ (by omega),Rh]
abbrev flwA(g:Nat)(f:Flw):HP:=blk g (.cells #[.int .i64 f.1,.int .i64 f.2.1,.int .i64 f.2.2.1,.int .i64 f.2.2.2.1,.int .i64 f.2.2.2.2.1,.int .i64 f.2.2.2.2.2] 53 (0,0))
theorem Ynp(n:Net)(a b id:Int)(f:Nat)(s:Sch)(z:Int):hopA n a b id f 0 s z=some (s,z):=by cases f<;>rfl
structure FilI(n:NetM)(L:List Flw)(len off:Int)(B:Nat)(w0:World)(H:List HP)(s:SchM)(P:List HP):Prop where
 sm:Sm n.net L s.sch
 len:s.len=len
 off:s.off=off
 rd:Rd B w0 (many P::[many H]) s.A (s.cells.flatMap celF)
theorem Yd5(n:NetM)(L:List Flw)(s:SchM)(f:Flw)(r:RowM)(at_:Int)(hsm:Sm n.net L s.sch)(h24:s.len<=24)(hk:∀x∈Yq n.net r.xs,LkOk n.net L x.1 x.2.1 f.1)(hkey:∀i,i+1<r.xs.length->0<=Yy n.net (r.xs.getD i 0) (r.xs.getD (i+1) 0))
 (hrl:1<=r.xs.length/\r.xs.length<=9) (hat:0<=at_/\at_<=1000) (hd:0<=f.2.2.2.2.2/\f.2.2.2.2.2<=512) {R:List HP}(hin:n.In B w0 H) (hr:Rd B w0 H s.A (s.cells.flatMap celF)) (hrr:Rd B w0 H r.A (r.xs.flatMap numF)) (hw:St B w0 (many R::H) w):
 CX B w0 267 [grdV n s,flwV f,.slice r.A r.xs.length r.cap,.int .i64 at_] w λv K=>∃s' ok P,v=.tuple #[grdV n s',.bool ok]/\
  (ok=true->relA n.net f.1 (at_+f.2.2.2.2.2) (Yq n.net r.xs) s.sch at_=some s'.sch/\Rd B w0 (many P::H) s'.A (s'.cells.flatMap celF))/\(ok=false->relA n.net f.1 (at_+f.2.2.2.2.2) (Yq n.net r.xs) s.sch at_=none)/\K=many P::many R::H:=by
 refine Ya Tryz.func267 Tryz.ntmps267 rfl rfl hw ?_
 have hop:∀w,St B w0 [many H] w->St B w0 H w:=λw hw=>hw.perm (.openT H)
 have hin:=hin.mono hop
 have hr:=hr.mono hop
 have hrr:=hrr.mono hop
 have hok:=YM hsm.ck
 obtain⟨endd,hend⟩:∃e,at_+f.2.2.2.2.2=e:=⟨_,rfl⟩
 obtain⟨RR,hRR⟩:∃R,relA n.net f.1 endd (Yq n.net r.xs) s.sch at_=R:=⟨_,rfl⟩
 rw[hend,hRR]
 have hsz:1<=s.len/\s.len<=512/\1<=s.off/\s.off<=16:=Rn hsm.sized
 refine XM (many R::[many H]) (λw hw=>hw.perm (.cons _ (.closeT H))) ?_
 refine XM (many []::many R::[many H]) (λw hw=>hw.perm (.noMany _)) ?_
 unfold grdV flwV
 refine zX64 ?_<;>intros
 rename_i g4 g5 g8
 rw[hend]
 refine Yh (λz:ReM=>[(11,.int .i64 (z.i:Nat)),(10,.int .i64 endd),(9,.bool false),(3,.int .i64 z.z),(2,.slice r.A r.xs.length r.cap),(4,.pointer (some ⟨g4,0,none⟩)),(5,.pointer (some ⟨g5,0,none⟩)),(8,.pointer (some ⟨g8,0,none⟩))])
  (λz=>grdA g4 n z.s::flwA g5 f::blk g8 (.cells #[.int .i64 0,.slice none 0 0,.int .i64 0,.int .i64 0,.slice none 0 0,.slice none 0 0,.int .i64 0,.int .i64 0,.slice none 0 0] 349 (0,0))::many z.L::many R::[many H])
  (λz=>(1<=z.i/\z.i<=r.xs.length)/\FilI n L s.len s.off B w0 H z.s z.L/\(0<=z.z/\z.z<=endd)/\relA n.net f.1 endd ((Yq n.net r.xs).drop (z.i-1)) z.s.sch z.z=RR) (λz=>r.xs.length-z.i) ⟨1,s,at_,[]⟩ ⟨⟨by show 1<=1;omega,hrl.1⟩,⟨hsm,rfl,rfl,hr.cons⟩,⟨hat.1,by show at_<=endd;omega⟩,hRR⟩ ?_ ?_ ?_
 ·exact zc1
 ·intro w hw
  have h5:St B w0 (grdA g4 n s::flwA g5 f::blk g8 (.cells (Value.agg #[.int .i64 0,.slice none 0 0,.int .i64 0,.int .i64 0,.slice none 0 0,.slice none 0 0,.int .i64 0,.int .i64 0,.slice none 0 0]).cells 349 (0,0))::many []::many R::[many H]) w:=by
   revert w
   exact zc0
  exact h5
 rintro⟨i,s1,z,P⟩ ⟨⟨hi1,hi2⟩,hF,hz,hrel⟩ K hK
 dsimp only at hi1 hi2 hF hz hrel⊢
 by_cases hlt:i<r.xs.length
 rotate_left
 ·obtain rfl:i=r.xs.length:=by omega
  clear hK
  rw[Rk (by unfold Yq;simp)]at hrel
  refine zX0 ?_<;>intros
  apply Yw T (H2:=many P::many R::H);(iterate 3 exact rfl);(focus exact zc2);exact rfl;exact rfl
  ·intro w hw
   have h5:St B w0 (many P::many R::[many H]) w:=by
    revert w
    exact zc0
   exact zc83
  exact zc90
 obtain⟨k,rfl⟩:∃k,i=k+1:=⟨i-1,by omega⟩
 rw[SB,Ykf hlt]at hrel
 obtain⟨a,ha⟩:∃a,r.xs[(((k+1:Nat):Int)-1).toNat]? =some a:=⟨_,Ta (by omega)⟩
 obtain⟨b,hb⟩:∃b,r.xs[((k+1:Nat):Int).toNat]? =some b:=⟨_,Ta (by omega)⟩
 have ha2:r.xs.getD k 0=a:=by rw[Tu,<-show(((k+1:Nat):Int)-1).toNat=k by omega,ha];rfl
 have hb2:r.xs.getD (k+1) 0=b:=by rw[Tu,<-show((k+1:Nat):Int).toNat=k+1 by omega,hb];rfl
 have hfi:=hkey k hlt
 rw[ha2,hb2]at hfi
 have hfl:=Zj hfi
 have hlk:n.links[(Yy n.net a b).toNat]? =some (X9 n.net r.xs k):=by
  unfold X9
  rw[ha2,hb2]
  obtain⟨x,hx⟩:∃x,n.links[(Yy n.net a b).toNat]? =some x:=⟨_,Ta hfl⟩
  rw[Vm (n:=n.net) hx];exact hx
 obtain⟨lk,hlkd⟩:∃lk,X9 n.net r.xs k=lk:=⟨_,rfl⟩
 rw[hlkd]at hlk hrel
 have pi:=λ{H':List HP}{w:World}(hin:n.In B w0 H') (hw:St B w0 H' w)=>XP n a b hin hw
 rw[show XG n.net a b=Yy n.net a b by unfold XG;rw[Tf (λe=>e hsm.ck)]]at pi
 unfold NetM.val at pi
 have hnl:n.links.length<=128:=hok.k0
 have hnlk:=hin.lk
 have hfl2:(Yy n.net a b).toNat<n.links.length:=hfl
 refine zX0 ?_<;>intros
 refine XE (λg12:Nat=>[(12,.pointer (some ⟨g12,0,none⟩)),(11,.int .i64 ((k+1:Nat):Int)),(10,.int .i64 endd),(9,.bool false),(3,.int .i64 z),(2,.slice r.A r.xs.length r.cap),(4,.pointer (some ⟨g4,0,none⟩)),(5,.pointer (some ⟨g5,0,none⟩)),(8,.pointer (some ⟨g8,0,none⟩))])
  (λg12=>lnkA g12 lk::grdA g4 n s1::flwA g5 f::blk g8 (.cells #[.int .i64 0,.slice none 0 0,.int .i64 0,.int .i64 0,.slice none 0 0,.slice none 0 0,.int .i64 0,.int .i64 0,.slice none 0 0] 349 (0,0))::many P::many R::[many H]) ?_ ?_
 ·intro K2 hK2
  apply Je (.n1 0 (.n1 1 (.n1 2 (.n1 3 (.n1 4 (.n1 5 (.n1 6 (.n1 7 (.n1 8 (.n1 9 (.n1 10 (.n1 11 (.n1 12 (.n1 13 (.n2 14 (.n1 15 (.n1 16 (.n1 17 .done))) 17 (.n1 14 (.n1 15 (.n1 16 .done)))))))))))))))))) [18] [true,true,true,true,true,true]
  kernel_rfl
  kernel_rfl
  exact zy
  (simp only[Yd,nthO];rfl)
  repeat'(first|((first|apply Yb en45|apply Yc en45);exact za;exact rfl;exactλ_ hw=>(pi (hin.mono zk) hw))|(apply Yk T;exact rfl;exact zm;exact rfl;exact zv;exact rfl;exact rfl)|(apply Yj;try exact zl)|apply(zs91 ?_ ?_)|(apply YW;try exact zl)|refine zgd ?_|(refine zgh ?_;intro _)|fail)
  all_goals(
   rename_i g12
   apply hK2 g12
   ·exact zu
   ·exact zk)
 rintro g12
 dsimp only
 have hlb:=Ybz hok (r.xs.getD k 0) (r.xs.getD (k+1) 0)
 have hlb2:0<=lk.2.2/\lk.2.2<=7:=by rw[<-hlkd];exact hlb
 obtain⟨HR,hHR⟩:∃R,hopA n.net lk.1 lk.2.1 f.1 (endd-z).toNat (YN lk) s1.sch z=R:=⟨_,rfl⟩
 rw[relA,hHR]at hrel
 have hnd:lk.2.2+1=((YN lk:Nat):Int):=by unfold YN;omega
 have hkl:LkOk n.net L lk.1 lk.2.1 f.1:=hk lk (by rw[<-hlkd];exact RX (TN.2 (by omega)))
 refine zX9 ?_
 rw[hnd]
 refine Yh (λy:ReM=>[(13,.int .i64 (y.i:Nat)),(12,.pointer (some ⟨g12,0,none⟩)),(11,.int .i64 ((k+1:Nat):Int)),(10,.int .i64 endd),(9,.bool false),(3,.int .i64 y.z),(2,.slice r.A r.xs.length r.cap),(4,.pointer (some ⟨g4,0,none⟩)),(5,.pointer (some ⟨g5,0,none⟩)),(8,.pointer (some ⟨g8,0,none⟩))])
  (λy=>lnkA g12 lk::grdA g4 n y.s::flwA g5 f::blk g8 (.cells #[.int .i64 0,.slice none 0 0,.int .i64 0,.int .i64 0,.slice none 0 0,.slice none 0 0,.int .i64 0,.int .i64 0,.slice none 0 0] 349 (0,0))::many y.L::many R::[many H])
  (λy=>FilI n L s.len s.off B w0 H y.s y.L/\(0<=y.z/\y.z<=endd)/\y.i<=8/\hopA n.net lk.1 lk.2.1 f.1 (endd-y.z).toNat y.i y.s.sch y.z=HR) (λy=>(endd-y.z).toNat) ⟨YN lk,s1,z,P⟩ ⟨hF,hz,by show YN lk<=8;omega,hHR⟩ ?_ ?_ ?_
 ·exact zc1
 ·exact zc0
 clear hF hz hHR
 rintro⟨m,s2,y,P2⟩ ⟨hF,hz,hm8,hHR⟩ K2 hK2
 dsimp only at hF hz hm8 hHR⊢
 cases m with
 |zero=>
  rw[Ynp]at hHR
  subst hHR
  dsimp only at hrel
  clear hK2
  refine zX40 ?_<;>intros
  apply hK ⟨k+1+1,s2,y,P2⟩
  ·exact⟨⟨by show 1<=k+1+1;omega,by show k+1+1<=_;omega⟩,hF,hz,hrel⟩
  ·exact zc36
  ·exact zc1
  ·exact zc0
 |succ m=>
 by_cases hlt2:y<endd
 rotate_left
 ·rw[show(endd-y).toNat=0 by omega,hopA]at hHR
  subst hHR
  dsimp only at hrel
  clear hK2 hK
  refine zX13 ?_<;>intros
  apply Yw T (H2:=many P2::many R::H);(iterate 3 exact rfl);(focus exact zc2);exact rfl;exact rfl
  ·intro w hw
   have h5:St B w0 (many P2::many R::[many H]) w:=by
    revert w
    exact zc0
   exact zc83
  exact⟨s2,false,P2,rfl,λh=>(by cases h),λ_=>hrel.symm,rfl⟩
 have hfew:=hF.sm.few (by show s2.len<=24;rw[hF.len];exact h24)
 have h2l:=hF.len
 have h2o:=hF.off
 have ps:=λ{H':List HP}{w:World}(hin:n.In B w0 H') (hr:Rd B w0 H' s2.A (s2.cells.flatMap celF)) (hw:St B w0 H' w)=>Yqz n s2 lk f.1 (y%s2.len) hsm.ck (by have:s2.sch.cells.length=s2.cells.length:=rfl;omega) ⟨by omega,by omega⟩ hF.sm.ord hin hr hw
 unfold grdV lkV at ps
 rw[show(endd-y).toNat=(endd-(y+1)).toNat+1 by omega,hopA,Rq hz.1]at hHR
 refine zX40 ?_<;>intros
 apply Us [0,1,2,3,4,5,6,7,8,9,10,12,11] [12,13,14] [13,14] [true,true,true,true,true,true,true]
 kernel_rfl
 kernel_rfl
 exact zy
 (simp only[Yd,nthO];rfl)
 (simp only[Yd,nthO];rfl)
 refine zX2 ?_
 apply Ye _ Ywn
 exact za
 exact rfl
 exactλ_ hw=>(ps (hin.mono zc0) (hF.rd.mono zc0) (hw))
 rintro _ _ (⟨rfl,hs,rfl⟩|⟨rfl,hs,rfl⟩|⟨A3,cap3,c3,rfl,hs,rfl⟩)
 ·rw[show Jv n.net s2.sch lk.1 lk.2.1 f.1 (y%s2.sch.len)=some s2.sch from hs]at hHR
  dsimp only at hHR
  refine zX18 ?_
  rw[show((m+1:Nat):Int)-1=(m:Nat) by omega]
  apply hK2 ⟨m,s2,y+1,P2⟩
  ·exact⟨hF,⟨by show 0<=y+1;omega,by show y+1<=endd;omega⟩,by show m<=8;omega,hHR⟩
  ·exact zc36
  ·exact zc1
  ·exact zc0
 ·rw[show Jv n.net s2.sch lk.1 lk.2.1 f.1 (y%s2.sch.len)=none from hs]at hHR
  dsimp only at hHR
  refine zX18 ?_
  apply hK2 ⟨m+1,s2,y+1,P2⟩
  ·exact⟨hF,⟨by show 0<=y+1;omega,by show y+1<=endd;omega⟩,hm8,hHR⟩
  ·exact zc36
  ·exact zc1
  ·exact zc0
 ·rw[show Jv n.net s2.sch lk.1 lk.2.1 f.1 (y%s2.sch.len)=some ⟨s2.len,s2.off,insC s2.cells c3⟩ from hs]at hHR
  dsimp only at hHR
  have hmz:0<=y%s2.len/\y%s2.len<s2.len:=⟨NW _ (by omega),NG _ (by omega)⟩
  obtain⟨hsm3,-,-⟩:=YiY hF.sm hkl hmz hs
  have hop3:∀w,St B w0 (many (cels A3 cap3 (insC s2.cells c3)::[many P2])::[many H]) w->St B w0 (cels A3 cap3 (insC s2.cells c3)::many P2::[many H]) w:=λw hw=>hw.perm (.open_ [_,_] [many H])
  refine zX18 ?_
  rw[show((m+1:Nat):Int)-1=(m:Nat) by omega]
  apply hK2 ⟨m,⟨s2.len,s2.off,A3,cap3,insC s2.cells c3⟩,y+1,cels A3 cap3 (insC s2.cells c3)::[many P2]⟩
  ·exact⟨⟨hsm3,h2l,h2o,(Rd.sl (.head _)).mono hop3⟩,⟨by show 0<=y+1;omega,by show y+1<=endd;omega⟩,by show m<=8;omega,hHR⟩
  ·exact zc36
  ·exact zc1
  ·intro w hw
   have h5:St B w0 (lnkA g12 lk::grdA g4 n ⟨s2.len,s2.off,A3,cap3,insC s2.cells c3⟩::flwA g5 f::blk g8 (.cells #[.int .i64 0,.slice none 0 0,.int .i64 0,.int .i64 0,.slice none 0 0,.slice none 0 0,.int .i64 0,.int .i64 0,.slice none 0 0] 349 (0,0))::cels A3 cap3 (insC s2.cells c3)::many P2::many R::[many H]) w:=by
    revert w
    exact zc0
   exact h5.perm (.cons _ (.cons _ (.cons _ (.cons _ (.close [_,_] (many R::[many H]))))))
structure Yov(n:NetM)(L:List Flw)(id:Int)(r:RowM):Prop where
 lk:∀x∈Yq n.net r.xs,LkOk n.net L x.1 x.2.1 id
 key:∀i,i+1<r.xs.length->0<=Yy n.net (r.xs.getD i 0) (r.xs.getD (i+1) 0)
 len:1<=r.xs.length/\r.xs.length<=9
structure PlM2 where
 i:Nat
 s:SchM
 P:List HP
theorem YiG(n:NetM)(L:List Flw)(s:SchM)(x:RqM)(hsm:Sm n.net L s.sch)(h24:s.len<=24)(hrow:∀r∈x.rows,Yov n L x.f.1 r)(hf:YX n.net.nodes x.f=0){B:Nat}{w0:World}{H:List HP}{w:World}(hin:n.In B w0 H)(hr:Rd B w0 H s.A (s.cells.flatMap celF))(hx:x.In B w0 H)(hw:St B w0 H w):
 CX B w0 213 [n.val,s.val,rqV x] w λv K=>∃(s':SchM) (ok:Bool) (P:List HP),v=.tuple #[s'.val,.bool ok]/\
  (ok=true->Js n.net x.f (x.rows.map (·.xs)) s.sch=some s'.sch/\Rd B w0 (many P::H) s'.A (s'.cells.flatMap celF))/\(ok=false->Js n.net x.f (x.rows.map (·.xs)) s.sch=none)/\K=many P::H:=by
 refine Ya Tryz.func213 Tryz.ntmps213 rfl rfl hw ?_
 have hop:∀w,St B w0 [many H] w->St B w0 H w:=λw hw=>hw.perm (.openT H)
 have hin:=hin.mono hop
 have hr:=hr.mono hop
 have hx:=hx.mono hop
 obtain⟨-,hper,hph,-,hd⟩:=Zs hf
 have hxr:=hx.rt
 have hxl:=hx.ln
 obtain⟨RR,hRR⟩:∃R,Js n.net x.f (x.rows.map (·.xs)) s.sch=R:=⟨_,rfl⟩
 rw[hRR]
 have hsz:1<=s.len/\s.len<=512/\1<=s.off/\s.off<=16:=Rn hsm.sized
 refine XM [many H] (λw hw=>hw.perm (.closeT H)) ?_
 refine XM (many []::[many H]) (λw hw=>hw.perm (.noMany _)) ?_
 unfold NetM.val SchM.val rqV
 refine zX23 ?_<;>intros
 rename_i g3 g4 g5 g6 g8
 refine Yh (λz:PlM2=>[(19,.int .i64 (z.i:Nat)),(18,.int .i64 x.rows.length),(17,.slice x.A x.rows.length x.cap),(9,.bool true),(7,.bool false),(8,.pointer (some ⟨g8,0,none⟩)),(6,.pointer (some ⟨g6,0,none⟩)),(5,.pointer (some ⟨g5,0,none⟩)),(4,.pointer (some ⟨g4,0,none⟩)),(3,.pointer (some ⟨g3,0,none⟩))])
  (λz=>grdA g8 n z.s::blk g6 (.cells #[.int .i64 0,.int .i64 0,.slice none 0 0] 30 (0,0))::rqA g5 x::schA g4 s::many z.P::[many H])
  (λz=>z.i<=x.rows.length/\FilI n L s.len s.off B w0 H z.s z.P/\Js n.net x.f ((x.rows.map (·.xs)).drop z.i) z.s.sch=RR) (λz=>x.rows.length-z.i) ⟨0,s,[]⟩ ⟨Tm _,⟨hsm,rfl,rfl,hr.cons⟩,hRR⟩ ?_ ?_ ?_
 ·exact zc1
 ·intro w hw
  have h5:St B w0 (grdA g8 n s::blk g6 (.cells (Value.agg #[.int .i64 0,.int .i64 0,.slice none 0 0]).cells 30 (0,0))::rqA g5 x::schA g4 s::many []::[many H]) w:=by
   revert w
   exact zc0
  exact h5
 rintro⟨i,s1,P⟩ ⟨hi,hF,hrel⟩ K hK
 dsimp only at hi hF hrel⊢
 by_cases hlt:i<x.rows.length
 rotate_left
 ·obtain rfl:i=x.rows.length:=by omega
  clear hK
  rw[Rk (by rw[Tv];exact Ybk)]at hrel
  refine Ybj ?_<;>intros
  apply Yw T (H2:=many P::H);(iterate 3 exact rfl);(focus exact zc2);exact rfl;exact rfl
  ·intro w hw
   have h5:St B w0 (many P::[many H]) w:=by
    revert w
    exact zc0
   exact Yjm
  exact zc90
 obtain⟨r,hrx⟩:∃r,x.rows[i]? =some r:=⟨_,Ta hlt⟩
 have hrm:r∈x.rows:=Tc hrx
 have hro:=hrow r hrm
 have hdrop:(x.rows.map (·.xs)).drop i=r.xs::(x.rows.map (·.xs)).drop (i+1):=by
  have hl2:i<(x.rows.map (·.xs)).length:=by rw[Tv];exact hlt
  rw[Rw hl2]
  congr 1
  have h6:(x.rows.map (·.xs))[i]? =some r.xs:=by rw[TM,hrx];rfl
  rw[Ta hl2]at h6
  exact Tz h6
 rw[hdrop,Js]at hrel
 obtain⟨HR,hHR⟩:∃R,QS n.net x.f (Yq n.net r.xs) s1.sch.len.toNat s1.sch x.f.2.2.2.2.1=R:=⟨_,rfl⟩
 rw[hHR]at hrel
 have hl1:s1.sch.len=s.len:=hF.len
 rw[hl1]at hHR
 refine zX1 ?_<;>intros
 refine Yh (λz:PlM2=>[(12,.int .i64 (x.f.2.2.2.2.1+(z.i:Int)*x.f.2.2.2.1)),(11,.slice r.A r.xs.length r.cap),(19,.int .i64 (i:Nat)),(18,.int .i64 x.rows.length),(17,.slice x.A x.rows.length x.cap),(9,.bool true),(7,.bool false),(8,.pointer (some ⟨g8,0,none⟩)),(6,.pointer (some ⟨g6,0,none⟩)),(5,.pointer (some ⟨g5,0,none⟩)),(4,.pointer (some ⟨g4,0,none⟩)),(3,.pointer (some ⟨g3,0,none⟩))])
  (λz=>grdA g8 n z.s::blk g6 (.cells #[.int .i64 0,.int .i64 0,.slice none 0 0] 30 (0,0))::rqA g5 x::schA g4 s::many z.P::[many H])
  (λz=>z.i<=s.len.toNat/\FilI n L s.len s.off B w0 H z.s z.P/\QS n.net x.f (Yq n.net r.xs) (s.len.toNat-z.i) z.s.sch (x.f.2.2.2.2.1+(z.i:Int)*x.f.2.2.2.1)=HR) (λz=>s.len.toNat-z.i) ⟨0,s1,P⟩ ⟨Tm _,hF,by simpa using hHR⟩ ?_ ?_ ?_
 ·dsimp only
  rw[show x.f.2.2.2.2.1+((0:Nat):Int)*x.f.2.2.2.1=x.f.2.2.2.2.1 by simp]
  exact zc1
 ·exact zc0
 clear hF hHR hl1
 rintro⟨j,s2,P2⟩ ⟨hj,hF,hHR⟩ K2 hK2
 dsimp only at hj hF hHR⊢
 have hl2:s2.sch.len=s.len:=hF.len
 obtain⟨y,hy⟩:∃y:Int,x.f.2.2.2.2.1+(j:Int)*x.f.2.2.2.1=y:=⟨_,rfl⟩
 have hjy:(j:Int)<=(j:Int)*x.f.2.2.2.1:=by
  have:=Ry hper.1 (show(0:Int)<=j by omega)
  rw[Int.mul_one]at this
  exact this
 rw[hy]at hHR⊢
 by_cases hyl:y<s.len
 rotate_left
 ·have hHR2:HR=some s2.sch:=by
   rw[<-hHR]
   cases s.len.toNat-j with
   |zero=>rfl
   |succ k=>rw[QS,Tf (by rw[hl2];exact hyl)]
  rw[hHR2]at hrel
  dsimp only at hrel
  clear hK2
  refine zX0 ?_<;>intros
  apply hK ⟨i+1,s2,P2⟩
  ·exact⟨by exact zc71,hF,hrel⟩
  ·exact zc36
  ·exact zc1
  ·exact zc0
 obtain⟨k,hk⟩:∃k,s.len.toNat-j=k+1:=⟨s.len.toNat-j-1,by omega⟩
 rw[hk,QS,Tj (by rw[hl2];exact hyl)]at hHR
 have hxw:=hx.rw_ r hrm
 have pr:=λ{R':List HP}{w:World}(hw:St B w0 (many R'::many P2::[many H]) w)=>Yd5 n L s2 x.f r y hF.sm (by have:=hF.len;omega) hro.lk hro.key hro.len ⟨by omega,by omega⟩ ⟨by omega,by omega⟩ (R:=R') (H:=many P2::[many H]) hin.cons hF.rd hxw.cons hw
 unfold grdV flwV at pr
 refine Yml ?_<;>intros
 apply Xv (many [grdA g8 n s2,blk g6 (.cells #[.int .i64 0,.int .i64 0,.slice none 0 0] 30 (0,0)),rqA g5 x,schA g4 s]::many P2::[many H])
 ·intro w hw
  have h5:St B w0 (grdA g8 n s2::blk g6 (.cells #[.int .i64 0,.int .i64 0,.slice none 0 0] 30 (0,0))::rqA g5 x::schA g4 s::many P2::[many H]) w:=by
   revert w
   exact zc0
  exact h5.perm (.close [_,_,_,_] (many P2::[many H]))
 apply Ye _ Ywk
 exact za
 exact rfl
 exactλ_ hw=>(pr (hw))
 rintro _ _ ⟨s3,ok,P3,rfl,ho1,ho2,rfl⟩
 apply Xv (many P3::grdA g8 n s2::blk g6 (.cells #[.int .i64 0,.int .i64 0,.slice none 0 0] 30 (0,0))::rqA g5 x::schA g4 s::many P2::[many H])
 ·exactλw hw=>hw.perm (.cons _ (.open_ [_,_,_,_] (many P2::[many H])))
 cases ok with
 |false=>
  have hn:=ho2 rfl
  rw[hn]at hHR
  dsimp only at hHR
  rw[<-hHR]at hrel
  dsimp only at hrel
  clear hK hK2
  refine zX2 ?_
  apply Yw T (H2:=many P2::H);(iterate 3 exact rfl);(focus exact zc2);exact rfl;exact rfl
  ·intro w hw
   have h5:St B w0 (many P2::[many H]) w:=by
    revert w
    exact zc0
   exact Yjm
  exact⟨s,false,P2,rfl,λh=>(by cases h),λ_=>hrel.symm,rfl⟩
 |true=>
  obtain⟨h1,hrd3⟩:=ho1 rfl
  rw[h1]at hHR
  dsimp only at hHR
  obtain⟨hsm3,hg3,-⟩:=YgG (Yq n.net r.xs) hro.lk hF.sm (by omega) (by omega) (by rw[hl2];omega) h1
  have h3l:s3.len=s.len:=hg3.len.trans hF.len
  have h3o:s3.off=s.off:=hg3.off.trans hF.off
  have hyn:x.f.2.2.2.2.1+((j+1:Nat):Int)*x.f.2.2.2.1=y+x.f.2.2.2.1:=by
   rw[<-hy,show((j+1:Nat):Int)=(j:Int)+1 by omega,Mc];omega
  refine zX2 ?_
  apply hK2 ⟨j+1,s3,[many P3,many P2]⟩
  ·refine⟨by show j+1<=_;omega,⟨hsm3,h3l,h3o,hrd3.mono λw hw=>hw.perm (.open_ [_,_] [many H])⟩,?_⟩
   dsimp only
   rw[hyn,show s.len.toNat-(j+1)=k by omega]
   exact hHR
  ·exact zc36
  ·dsimp only
   rw[hyn]
   exact zc1
  ·intro w hw
   have h5:St B w0 (grdA g8 n s3::blk g6 (.cells #[.int .i64 0,.int .i64 0,.slice none 0 0] 30 (0,0))::rqA g5 x::schA g4 s::many P3::many P2::[many H]) w:=by
    revert w
    exact zc0
   exact h5.perm (.cons _ (.cons _ (.cons _ (.cons _ (.close [_,_] [many H])))))
end Go.Proofs.YtambgjgljcadlaaGreatDoor
