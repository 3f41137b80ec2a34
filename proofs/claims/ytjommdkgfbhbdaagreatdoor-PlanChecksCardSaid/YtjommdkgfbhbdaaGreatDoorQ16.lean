/- Lemmas. -/
import Derived.Test.YtjommdkgfbhbdaaGreatDoorQ14
import Derived.Test.YtjommdkgfbhbdaaGreatDoorQ15
set_option maxRecDepth 100000
set_option maxHeartbeats 8000000
set_option linter.all false
namespace Go.Eng
open Go.RowKit
end Go.Eng
namespace Go.Proofs.YtjommdkgfbhbdaaGreatDoor
open Go.RowKit Go.Eng Go.Nw Go.Rt
theorem YbB(q:List RqM){A:Option Addr}{cap B:Nat}{w0:World}{H:List HP}{w:World}(hl:q.length<=1000000000000)(hr:Rd B w0 H A (q.flatMap rqF))(hw:St B w0 H w):
 CX B w0 70 [.slice A q.length cap] w λv K=>∃A2 cap2,v=.slice A2 (RqM.fl q).length cap2/\K=flws A2 cap2 (RqM.fl q)::H:=by
 refine Ya Tryz.func70 Tryz.ntmps70 rfl rfl hw ?_
 repeat'(first|(apply YK T;exact rfl;exact rfl;intro g2)|apply(zs2 ?_)|apply(zs65 ?_)|apply(zs68 ?_)|apply(zs69 ?_)|apply(zs70 ?_)|apply(zs73 ?_)|fail)
 refine Ye (λz:FlM=>[(4,.int .i64 (z.i:Nat)),(3,.slice z.A (RqM.fl (q.take z.i)).length z.cap),(0,.slice A q.length cap)]) (λz=>flws z.A z.cap (RqM.fl (q.take z.i))::H) (λz=>z.i<=q.length) (λz=>q.length-z.i) ⟨0,some ⟨g2,0,none⟩,0⟩ (Td _) ?_ (λw hw=>hw) ?_
 ·exact zu
 rintro⟨i,A2,cap2⟩ hi K hK
 dsimp only at hi⊢
 have hlen:(RqM.fl (q.take i)).length=i:=by grind [Go.Proofs.YtjommdkgfbhbdaaGreatDoor.RqM.fl]
 have hr':=hr.cons (X:=flws A2 cap2 (RqM.fl (q.take i)))
 by_cases hlt:i<q.length
 ·obtain⟨x,hx⟩:∃x,q[i]? =some x:=⟨_,Ta hlt⟩
  have hst:RqM.fl (q.take (i+1))=RqM.fl (q.take i)++[x.f]:=by grind [Go.Proofs.YtjommdkgfbhbdaaGreatDoor.RqM.fl,TB]
  repeat'(first|(apply WS T (vs:=[.int .i64 x.f.1,.int .i64 x.f.2.1,.int .i64 x.f.2.2.1,.int .i64 x.f.2.2.2.1,.int .i64 x.f.2.2.2.2.1,.int .i64 x.f.2.2.2.2.2]);exact rfl;exact hr';exact hx;exactλ_=>rfl;(iterate 6 exact rfl))|apply(zs1 ?_)|apply(zs2 ?_)|(apply zg2;refine zs58 ?_)|(apply zg4;refine zs9 ?_)|(apply zg5;refine zs57 ?_)|(apply(zs17 ?_ ?_)<;>intro _<;>try exact zo)|(apply zg13;refine zs30 ?_)|(apply zg21;(refine zs49 ?_;intro _ _))|(apply zg26;(refine zs56 ?_;intro _))|apply(zs65 ?_)|apply(zs68 ?_)|apply(zs69 ?_)|apply(zs70 ?_)|(apply zg27;refine zs71 ?_)|apply(zs73 ?_)|apply(zs76 ?_)|apply(zs79 ?_)|fail)
  rename_i A' cap'
  rw[Yfk,<-hst,show(RqM.fl (q.take i)).length+1=(RqM.fl (q.take (i+1))).length from by rw[hst];simp]
  apply hK ⟨i+1,A',cap'⟩
  ·show i+1<=_
   omega
  ·dsimp only;omega
  ·exact zu
  ·exact zk
 ·obtain rfl:i=q.length:=by omega
  rw[TI]
  repeat'(first|apply(zs1 ?_)|apply(zs2 ?_)|(apply zg4;refine zs9 ?_)|(apply(zs17 ?_ ?_)<;>intro _<;>try exact zo)|apply(zs65 ?_)|apply(zs68 ?_)|apply(zs69 ?_)|apply(zs70 ?_)|(apply zg27;refine zs72 ?_)|apply(zs74 ?_)|apply(zs75 ?_)|apply(zs80 ?_)|apply(zs81 ?_)|fail)
  apply Yd;exact rfl;exact rfl
  exact⟨A2,cap2,rfl,rfl⟩
abbrev flwB(g:Nat)(f:Flw):HP:=blk g (.cells #[.int .i64 f.1,.int .i64 f.2.1,.int .i64 f.2.2.1,.int .i64 f.2.2.2.1,.int .i64 f.2.2.2.2.1,.int .i64 f.2.2.2.2.2] 45 (0,0))
theorem Ynq{nodes:Int}{l:List Flw}(h:(YB nodes l).2=0):∀{i j:Nat},i<j->j<l.length->(Xa l i).1<(Xa l j).1:=by
 have hstep:∀j,0<j->j<l.length->(Xa l (j-1)).1<(Xa l j).1:=λj h0 hj=>by
  unfold YB at h
  split at h
  ·cases h
  split at h
  ·cases h
  have:=YI.1 h j (Td _) (by omega)
  grind [YP]
 intro i j hij hj
 induction j with
 |zero=>omega
 |succ j ih=>
  grind
theorem max_le:∀(l:List Int) (a m:Int),a<=m->(∀z∈l,z<=m)->l.foldl (λx y=>if x<y then y else x) a<=m
 |[],_,_,h,_=>h
 |z::l,a,m,h,hl=>by
  refine max_le l _ m ?_ λy hy=>hl y (TO _ hy)
  grind [TG]
structure Grow(id:Int)(s t:Sch):Prop where
 len:t.len=s.len
 off:t.off=s.off
 sub:∀c∈s.cells,c∈t.cells
 oth:∀p:Cel->Bool,(∀c,XE c=id->p c=false)->t.cells.filter p=s.cells.filter p
theorem Grow.refl(id:Int)(s:Sch):Grow id s s:=⟨rfl,rfl,λ_ h=>h,λ_ _=>rfl⟩
variable {id a b:Int}{s t u:Sch}
theorem Grow.trans(h:Grow id s t)(k:Grow id t u):Grow id s u:=⟨k.len.trans h.len,k.off.trans h.off,λc hc=>k.sub c (h.sub c hc),λp hp=>(k.oth p hp).trans (h.oth p hp)⟩
structure LkOk(n:Net)(l:List Flw)(a b id:Int):Prop where
 g:YX n a b=true
 f:0<=ZB l id
 i:0<=id/\id<256
theorem Yi9{n:Net}{l:List Flw}{slot:Int}(h:Sm n l s)(hk:LkOk n l a b id)(hs:0<=slot/\slot<s.len)(ht:JL n s a b id slot=some t):Sm n l t/\Grow id s t/\hasC t.cells slot a b id=true:=by
 unfold JL at ht
 by_cases hh:hasC s.cells slot a b id=true
 ·rw[Tn hh]at ht
  obtain rfl:=TJ ht
  exact⟨h,.refl _ _,hh⟩
 rw[Tj hh]at ht
 cases hf:(List.range s.off.toNat).find? λo:Nat=>fitE n s.cells slot o a b with
 |none=>simp_all
 |some o=>
  rw[hf]at ht
  obtain rfl:=TJ ht
  have h1:=List.find?_some hf
  have h2:=TQ.1 (List.mem_of_find?_eq_some hf)
  refine⟨h.ins hs (by omega) hk.g hk.f hk.i h1,⟨rfl,rfl,λc hc=>OM.2 (.inr hc),λp hp=>?_⟩,?_⟩
  ·unfold insC
   rw[SI,Nx,Tj (by rw[hp _ rfl];decide),<-SI,RV]
  ·exact Rj.2 ⟨(slot,(o:Int),a,b,id),OM.2 (.inl rfl),Tf ⟨rfl,rfl,rfl,rfl⟩⟩
structure Sup(t u:Sch):Prop where
 len:u.len=t.len
 sub:∀c∈t.cells,c∈u.cells
theorem Grow.sup(h:Grow id s t)(k:Sup t u):Sup s u:=⟨k.len.trans h.len,λc hc=>k.sub c (h.sub c hc)⟩
theorem YrE{loss z:Int}(h:hasC u.cells (z.tmod u.len) a b id=true):1<=slC u.len (XT u id (a,b,loss)) z:=by
 obtain⟨d,hd,h1⟩:=Rj.1 h
 have h1:=TT h1
 refine List.length_pos_of_mem (a:=d) (RU.2 ⟨RU.2 ⟨hd,Tf ⟨h1.2.2.2,h1.2.1,h1.2.2.1⟩⟩,Tf h1.1⟩)
theorem Ygp{n:Net}{l:List Flw}{a b id:Int}(hk:LkOk n l a b id)(loss:Int):∀(f k:Nat) {s t:Sch}{z y:Int},Sm n l s->0<=z->1<=s.len->hopA n a b id f k s z=some (t,y)->
 Sm n l t/\Grow id s t/\(z<=y/\y<=z+f)/\∀u,Sup t u->k<=cntS u.len (XT u id (a,b,loss)) (y-z).toNat z
 |0,0,s,t,z,y,h,_,_,e=>by
  exact zc90
 |f+1,0,s,t,z,y,h,_,_,e=>by
  exact zc90
 |0,k+1,s,t,z,y,h,_,_,e=>by cases e
 |f+1,k+1,s,t,z,y,h,hz,hl,e=>by
  rw[hopA]at e
  have hm:0<=z.tmod s.len/\z.tmod s.len<s.len:=by
   rw[Rh hz]
   exact⟨Int.emod_nonneg _ (by omega),Int.emod_lt_of_pos _ (by omega)⟩
  cases hs:JL n s a b id (z.tmod s.len)with
  |none=>
   rw[hs]at e
   obtain⟨h1,h2,h3,h4⟩:=Ygp hk loss f (k+1) h (show 0<=z+1 by omega) hl e
   refine⟨h1,h2,by omega,λu hu=>?_⟩
   have:=h4 u hu
   exact Yux
  |some t1=>
   rw[hs]at e
   obtain⟨g1,g2,g3⟩:=Yi9 h hk hm hs
   obtain⟨h1,h2,h3,h4⟩:=Ygp hk loss f k g1 (show 0<=z+1 by omega) (by rw[g2.len];exact hl) e
   refine⟨h1,g2.trans h2,by omega,λu hu=>?_⟩
   have:=h4 u hu
   have hsu:=(g2.trans h2).sup hu
   have h5:1<=slC u.len (XT u id (a,b,loss)) z:=YrE (by
    obtain⟨d,hd,h6⟩:=Rj.1 g3
    refine Rj.2 ⟨d,(h2.sup hu).sub d hd,?_⟩
    rw[hsu.len];exact h6)
   exact Yux
theorem YgJ{n:Net}{l:List Flw}{id endd:Int}:∀(ls:List Lk) {s t:Sch}{z:Int},(∀x∈ls,LkOk n l x.1 x.2.1 id)->Sm n l s->0<=z->z<=endd->1<=s.len->relA n id endd ls s z=some t->
 Sm n l t/\Grow id s t/\∀u,Sup t u->∃y,y<=endd/\WayT u.len (XT u id) ls z y
 |[],s,t,z,_,h,_,hze,_,e=>by
  obtain rfl:=TJ (show some s=some t from e)
  exact⟨h,.refl _ _,λu _=>⟨z,hze,SK _⟩⟩
 |x::ls,s,t,z,hk,h,hz,hze,hl,e=>by
  rw[relA]at e
  cases hs:hopA n x.1 x.2.1 id (endd-z).toNat (Y2 x) s z with
  |none=>simp_all
  |some w=>
   obtain⟨t1,y1⟩:=w
   rw[hs]at e
   obtain⟨g1,g2,g3,g4⟩:=Ygp (hk x TG) x.2.2 _ _ h hz hl hs
   obtain⟨h1,h2,h3⟩:=YgJ ls (λy hy=>hk y (TO _ hy)) g1 (by omega) (by omega) (by rw[g2.len];exact hl) e
   refine⟨h1,g2.trans h2,λu hu=>?_⟩
   obtain⟨y,k1,k2⟩:=h3 u hu
   exact⟨y,k1,y1,g3.1,g4 u (h2.sup hu),k2⟩
theorem YiP{n:Net}{l:List Flw}{f:Flw}{ls:List Lk}(hk:∀x∈ls,LkOk n l x.1 x.2.1 f.1)(hd:0<=f.2.2.2.2.2)(hp:1<=f.2.2.2.1):∀(k:Nat) {s t:Sch}{z:Int},Sm n l s->0<=z->1<=s.len->Yai n f ls k s z=some t->
 Sm n l t/\Grow f.1 s t/\∀u,Sup t u->∀i:Nat,i<k->z+i*f.2.2.2.1<s.len->∃y,y<=z+i*f.2.2.2.1+f.2.2.2.2.2/\WayT u.len (XT u f.1) ls (z+i*f.2.2.2.1) y
 |0,s,t,z,h,_,_,e=>by
  obtain rfl:=TJ (show some s=some t from e)
  exact⟨h,.refl _ _,λu _ i hi=>absurd hi (TZ _)⟩
 |k+1,s,t,z,h,hz,hl,e=>by
  rw[Yai]at e
  by_cases hzl:z<s.len
  rotate_left
  ·rw[Tj hzl]at e
   obtain rfl:=TJ e
   refine⟨h,.refl _ _,λu _ i _ hi=>?_⟩
   have:0<=(i:Int)*f.2.2.2.1:=Int.mul_nonneg (by omega) (by omega)
   omega
  rw[Tn hzl]at e
  cases hs:relA n f.1 (z+f.2.2.2.2.2) ls s z with
  |none=>simp_all
  |some t1=>
   rw[hs]at e
   obtain⟨g1,g2,g3⟩:=YgJ ls hk h hz (by omega) hl hs
   obtain⟨h1,h2,h3⟩:=YiP hk hd hp k (z:=z+f.2.2.2.1) g1 (by omega) (by rw[g2.len];exact hl) e
   refine⟨h1,g2.trans h2,λu hu i hi hil=>?_⟩
   cases i with
   |zero=>
    obtain⟨y,k1,k2⟩:=g3 u (h2.sup hu)
    grind
   |succ i=>
    grind [Go.Proofs.YtjommdkgfbhbdaaGreatDoor.Grow.len]
theorem YfC{n:Net}{l:List Flw}{f:Flw}(hd:0<=f.2.2.2.2.2)(hp:1<=f.2.2.2.1)(h0:0<=f.2.2.2.2.1):∀(rs:List (List Int)) {s t:Sch},(∀r∈rs,∀x∈Yp n r,LkOk n l x.1 x.2.1 f.1)->Sm n l s->1<=s.len->JG n f rs s=some t->
 Sm n l t/\Grow f.1 s t/\∀u,Sup t u->∀r∈rs,∀i:Nat,f.2.2.2.2.1+i*f.2.2.2.1<s.len->∃y,y<=f.2.2.2.2.1+i*f.2.2.2.1+f.2.2.2.2.2/\WayT u.len (XT u f.1) (Yp n r) (f.2.2.2.2.1+i*f.2.2.2.1) y
 |[],s,t,_,h,_,e=>by
  obtain rfl:=TJ (show some s=some t from e)
  exact⟨h,.refl _ _,λu _ r hr=>by cases hr⟩
 |r::rs,s,t,hk,h,hl,e=>by
  rw[JG]at e
  cases hs:Yai n f (Yp n r) s.len.toNat s f.2.2.2.2.1 with
  |none=>simp_all
  |some t1=>
   rw[hs]at e
   obtain⟨g1,g2,g3⟩:=YiP (hk r TG) hd hp s.len.toNat h h0 hl hs
   obtain⟨h1,h2,h3⟩:=YfC hd hp h0 rs (λx hx=>hk x (TO _ hx)) g1 (by rw[g2.len];exact hl) e
   refine⟨h1,g2.trans h2,λu hu x hx i hi=>?_⟩
   rcases RA.1 hx with rfl|hx
   ·refine g3 u (h2.sup hu) i ?_ hi
    have:(i:Int)<=i*f.2.2.2.1:=by
     have:=SN hp (show(0:Int)<=i by omega)
     omega
    omega
   grind [Go.Proofs.YtjommdkgfbhbdaaGreatDoor.Grow.len]
variable {r:List Int}
theorem YqD:Ov r=false↔r.Nodup:=by
 unfold Ov
 rw[RE]
 constructor
 ·intro h
  refine Rn.2 λi j hi hj hij e=>?_
  have h1:=h j (TQ.2 hj)
  apply h1
  rw[List.contains_iff_mem,Tz,Ta hj,Option.getD_some,<-e]
  refine TP.2 ⟨i,?_⟩
  simp_all
 grind [TP,Rn]
theorem YcG{n:Net}{b:Int}{r:List Int}(hl:r.getD (r.length-1) 0=b)(hnd:r.Nodup)(hk:∀i,i+1<r.length->(XS n r i).1=r.getD i 0/\(XS n r i).2.1=r.getD (i+1) 0):∀(m i:Nat),i+m+1=r.length->
 Chain b (r.getD i 0) ((List.range' i m).map (XS n r))
 |0,i,h=>by
  show r.getD i 0=b
  grind
 |m+1,i,h=>by
  obtain⟨h1,h2⟩:=hk i (by omega)
  refine⟨h1.symm,λe=>?_,?_⟩
  ·rw[<-hl]at e
   rw[Tz,Tz,Ta (show i<r.length by omega),Ta (show r.length-1<r.length by omega)]at e
   exact Rn.1 hnd i (r.length-1) (by omega) (by omega) (by omega) (TJ (by simp_all))
  ·rw[h2]
   exact YcG hl hnd hk m (i+1) (by omega)
theorem Ybv{n:Net}{a b:Int}(h:Xu n a b r=0):Chain b a (Yp n r)/\(∀x∈Yp n r,0<=x.2.2)/\Yp n r≠[]/\r.Nodup/\
 ∀i,i+1<r.length->(XS n r i).1=r.getD i 0/\(XS n r i).2.1=r.getD (i+1) 0:=by
 have h':=h
 unfold Xu at h
 by_cases h0:Zp n a b=0
 rotate_left
 ·omega
 rw[Tj (λe=>e h0)]at h
 obtain⟨hlen,-,⟨hs,ht⟩,htw,-⟩:=QX h
 obtain⟨hck,-,hg⟩:=JV h'
 have hok:=YO hck
 have hnd:=YqD.1 htw
 have hk:∀i,i+1<r.length->(XS n r i).1=r.getD i 0/\(XS n r i).2.1=r.getD (i+1) 0:=λi hi=>Oa (VI (hg i hi))
 refine⟨?_,λx hx=>?_,?_,hnd,hk⟩
 ·grind [YcG,Yp,List.range_eq_range']
 ·obtain⟨i,hi,rfl⟩:=TD.1 hx
  exact(Yb6 hok (r.getD i 0) (r.getD (i+1) 0)).1
 ·intro e
  have:=TF List.length e
  grind [Yp]
def posQ(q:List Rqs)(id:Int):Nat:=(q.takeWhile λy=>decide (y.1.1<id)).length
def insQ(q:List Rqs)(x:Rqs):List Rqs:=q.take (posQ q x.1.1)++x::q.drop (posQ q x.1.1)
variable {q:List Rqs}{x:Rqs}
theorem Vi{y:Rqs}:y∈insQ q x↔y=x\/y∈q:=by
 have h:y∈q↔y∈q.take (posQ q x.1.1)\/y∈q.drop (posQ q x.1.1):=by grind [RV]
 grind [insQ]
variable {l:List Flw}{f:Flw}
theorem VH{nodes:Int}(h:(YB nodes l).2=0)(hf:f∈l):Xi nodes f=0:=by
 obtain⟨j,hj,rfl⟩:=List.mem_iff_getElem.1 hf
 unfold YB at h
 split at h
 ·cases h
 split at h
 ·cases h
 have:=YI.1 h j (Td _) (by omega)
 unfold YP at this
 split at this
 all_goals simp_all [Xa]
theorem ZS{nodes:Int}(hf:Xi nodes f=0):(0<=f.1/\f.1<256)/\(1<=f.2.2.2.1/\f.2.2.2.1<=512)/\(0<=f.2.2.2.2.1/\f.2.2.2.2.1<f.2.2.2.1)/\f.2.1≠f.2.2.1/\(1<=f.2.2.2.2.2/\f.2.2.2.2.2<=f.2.2.2.1):=by
 unfold Xi at hf
 omega
theorem VG{id:Int}:0<=ZB l id↔∃f∈l,f.1=id:=by
 unfold ZB
 rw[Vz _ _ _ (SK 0),Rj]
 simp_all
variable {n:Net}{s t:Sch}{r:List Int}
theorem YkV(hl:t.len=s.len)(hs:Xd s=true)(ht:Xd t=true)(hc:∀l,XT t f.1 l=XT s f.1 l):Y1 n t f r=Y1 n s f r:=by
 have h1:wayE n t f r=wayE n s f r:=by grind [wayE]
 have h2:JC n t f r=JC n s f r:=by
  have:XT t f.1=XT s f.1:=funext hc
  unfold JC
  have h3:Zx n t f r=Zx n s f r:=by grind [Zx]
  simp_all
 grind [Y1]
theorem Yog(hl:t.len=s.len)(hs:Xd s=true)(ht:Xd t=true)(hc:∀l,XT t x.1.1 l=XT s x.1.1 l):Qe n t x=Qe n s x:=by
 unfold Qe ZK
 have:badR n t x.1=badR n s x.1:=by grind [badR,YkV]
 rw[this]
theorem YkW(hw:wayE n t f r=0)(h:∀i:Nat,f.2.2.2.2.1+i*f.2.2.2.1<t.len->∃y,y<=f.2.2.2.2.1+i*f.2.2.2.1+f.2.2.2.2.2/\WayT t.len (XT t f.1) (Yp n r) (f.2.2.2.2.1+i*f.2.2.2.1) y):
 (Y1 n t f r).2=0/\(Y1 n t f r).1.1<=f.2.2.2.2.2:=by
 obtain⟨-,-,hf,-,hck⟩:=Ylb hw
 obtain⟨-,hp,h0,-,hd⟩:=ZS hf
 obtain⟨-,hloss,hne,-,-⟩:=Ybv hck
 obtain⟨b,hb,hbd⟩:=Yly (S:=Zx n t f r) (len:=t.len) (per:=f.2.2.2.1) (d:=f.2.2.2.2.2) hp.1 (fuel:=t.len.toNat) (rel:=f.2.2.2.2.1) (b:=(0,0,[])) (by omega) (λi hi=>by
  obtain⟨y,h1,h2⟩:=h i hi
  obtain⟨l,h3,h4⟩:=Yoh hne hloss (by omega) h2
  grind)
 have hbe:JC n t f r=some b:=hb
 unfold Y1
 simp_all
theorem UA(h:(rqsE n q).2=0):Yl n=0/\(YB n.nodes (Y8 q)).2=0/\∀x∈q,rtsE n x=0:=by
 unfold rqsE at h
 by_cases h1:Yl n=0
 rotate_left
 ·simp_all
 by_cases h2:(YB n.nodes (Y8 q)).2=0
 rotate_left
 ·simp_all
 refine⟨h1,h2,λx hx=>?_⟩
 obtain⟨i,hi,rfl⟩:=Yis hx
 simp_all [YI]
theorem J2(h:rtsE n x=0):∀r∈x.2,Xu n x.1.2.1 x.1.2.2.1 r=0:=by
 intro r hr
 unfold rtsE at h
 split at h
 ·cases h
 split at h
 ·cases h
 split at h
 ·omega
 rename_i h3
 obtain⟨k,hk⟩:=TP.1 hr
 have hkl:=(Tu.1 hk).1
 have:=YI.1 (Rw.1 h3) k (Td _) (by omega)
 grind [rtAt]
theorem Ydx{a b:Int}(h:Xu n a b r=0):∀x∈Yp n r,YX n x.1 x.2.1=true:=by
 obtain⟨-,-,-,-,hk⟩:=Ybv h
 obtain⟨-,-,hg⟩:=JV h
 grind [Yp]
theorem Yf7(hc:(YJ n q s).2.2=0)(hx:(rqsE n (insQ q x)).2=0)(hnew:∀y∈q,y.1.1≠x.1.1)(hm:s.len.tmod x.1.2.2.2.1=0)(hp:JG n x.1 x.2 s=some t)(hl:t.cells.length<=512):
 (YJ n (insQ q x) t).2.2=0/\Grow x.1.1 s t:=by
 obtain⟨h1,h2⟩:=Z7.1 hc
 have hsem:=Vb.1 (Jh.1 h1)
 obtain⟨-,hfl,hrt⟩:=UA hx
 have hxm:x∈insQ q x:=by simp[Vi]
 have hrx:=hrt x hxm
 have hfx:Xi n.nodes x.1=0:=VH hfl (TD.2 ⟨x,hxm,rfl⟩)
 obtain⟨hib,hper,hph,-,hd⟩:=ZS hfx
 have hsz:1<=s.len:=by
  have:=hsem.frm.sized
  unfold Zw at this
  simp_all
 have hsm:Sm n (Y8 (insQ q x)) s:=by
  have h0:=hsem.sm
  refine⟨h0.ck,hfl,λf hf=>?_,h0.sized,h0.formed,h0.ord,λc hcm=>⟨(h0.good c hcm).1,?_⟩,h0.once,h0.clear⟩
  ·obtain⟨y,hy,rfl⟩:=TD.1 hf
   rcases Vi.1 hy with rfl|hy
   ·exact hm
   ·exact h0.per _ (TD.2 ⟨y,hy,rfl⟩)
  ·obtain⟨f,hf,e⟩:=VG.1 (h0.good c hcm).2
   obtain⟨y,hy,rfl⟩:=TD.1 hf
   exact VG.2 ⟨y.1,TD.2 ⟨y,Vi.2 (.inr hy),rfl⟩,e⟩
 have hfi:0<=ZB (Y8 (insQ q x)) x.1.1:=VG.2 ⟨x.1,TD.2 ⟨x,hxm,rfl⟩,rfl⟩
 obtain⟨g1,g2,g3⟩:=YfC (l:=Y8 (insQ q x)) (by omega) hper.1 hph.1 x.2 (λr hr y hy=>⟨Ydx (J2 hrx r hr) y hy,hfi,hib⟩) hsm hsz hp
 have hsem2:=g1.sem hl
 have hft:=XF.2 hsem2.frm
 have hfs:=XF.2 hsem.frm
 refine⟨Z7.2 ⟨Jh.2 (Vb.2 hsem2),λy hy=>?_⟩,g2⟩
 rcases Vi.1 hy with rfl|hy
 ·unfold Qe
  rw[Tq,Tm]
  refine⟨Yan hrx,?_⟩
  unfold ZK
  rw[R9,RE]
  intro r hr
  have hway:wayE n t y.1 r=0:=by
   unfold wayE
   rw[hft,Tj (by rintro(h|h|h);exact h g1.ck;cases h;exact h hfx),Tj (λe=>e (by rw[g2.len];exact hm))]
   exact J2 hrx r hr
  have:=YkW hway λi hi=>g3 t ⟨rfl,λ_ h=>h⟩ r hr i (by rw[<-g2.len];exact hi)
  unfold badR
  rw[Tm]
  omega
 ·rw[Yog g2.len hfs hft λl=>g2.oth _ λc e=>by
   refine Ti λh=>?_
   exact hnew y hy (h.1.symm.trans e)]
  exact h2 y hy
def Ow(n:Net)(s:Sch)(f:Flw)(r:List Int)(c:Cel):Bool:=(List.range s.len.toNat).any λi=>decide (f.2.2.2.2.1+i*f.2.2.2.1<s.len)&&(runP s.len (XT s f.1) (f.2.2.2.2.1+i*f.2.2.2.1+f.2.2.2.1) (Yp n r) (f.2.2.2.2.1+i*f.2.2.2.1)).any λp=>decide (p.1=c)
def Yav(n:Net)(s:Sch)(x:Rqs)(c:Cel):Bool:=x.2.any λr=>Ow n s x.1 r c
def Yjk(n:Net)(s:Sch)(q:List Rqs)(c:Cel):Bool:=q.any λx=>Yav n s x c
def Yxu(n:Net)(q:List Rqs)(s:Sch):Sch:=⟨s.len,s.off,s.cells.filter (Yjk n s q)⟩
def hasQ(q:List Rqs)(id:Int):Bool:=q.any λy=>decide (y.1.1=id)
def JT(n:Net)(q:List Rqs)(s:Sch)(x:Rqs):Sch×Int:=
 if(YJ n q s).2.2≠0 then(ZC,1)else if hasQ q x.1.1=true then(ZC,6)else if(rqsE n (insQ q x)).2≠0 then(ZC,1)
 else if s.len.tmod x.1.2.2.2.1≠0 then(ZC,11)else match JG n x.1 x.2 s with
  |none=>(ZC,18)
  |some t=>if 512<t.cells.length then(ZC,8)else(t,0)
structure AllS where
 s:Sch
 q:List Rqs
 at_:List Int
def Yb0(n:Net)(r:AllS)(k:Nat)(x:Rqs):AllS:=
 if(JT n r.q r.s x).2=0 then⟨(JT n r.q r.s x).1,r.q++[x],r.at_++[(k:Int)]⟩else r
def WE(n:Net)(q:List Rqs)(len off:Int):Nat->AllS
 |0=>⟨⟨len,off,[]⟩,[],[]⟩
 |k+1=>Yb0 n (WE n q len off k) k (rqAt q k)
def Xv(n:Net)(q:List Rqs)(len off:Int):(Sch×List Int)×Int:=
 if Yl n≠0\/(rqsE n q).2≠0 then((ZC,[]),1)else if len<1\/512<len\/off<1\/16<off then((ZC,[]),2)
 else if(q.any λx=>decide (len.tmod x.1.2.2.2.1≠0))=true then((ZC,[]),11)else(((WE n q len off q.length).s,(WE n q len off q.length).at_),0)
def Yee(n:Net)(q:List Rqs)(s:Sch):Sch×Int:=if(YJ n q s).2.2≠0 then(ZC,1)else(Yxu n q s,0)
def Ysu(s:Sch)(id:Int):Sch:=⟨s.len,s.off,s.cells.filter λc=>decide (XE c≠id)⟩
def QW(s:Sch)(id:Int):Sch×Int:=if Xd s=false then(ZC,1)else(Ysu s id,0)
variable {q:List Rqs}
theorem YlZ{id:Int}(h:hasQ q id=false):∀y∈q,y.1.1≠id:=by grind [hasQ]
variable {n:Net}{x:Rqs}
theorem YmT{s:Sch}(h:(JT n q s x).2=0):(YJ n (insQ q x) (JT n q s x).1).2.2=0/\Grow x.1.1 s (JT n q s x).1/\(∀y∈q,y.1.1≠x.1.1)/\(rqsE n (insQ q x)).2=0:=by
 unfold JT at h⊢
 by_cases h1:(YJ n q s).2.2=0
 rotate_left
 ·simp_all
 rw[Tj (λe=>e h1)]at h⊢
 cases h2:hasQ q x.1.1 with
 |true=>simp_all
 |false=>
 rw[h2,Tj (by decide)]at h
 rw[Tj (by decide)]
 by_cases h3:(rqsE n (insQ q x)).2=0
 rotate_left
 ·simp_all
 rw[Tj (λe=>e h3)]at h⊢
 by_cases h4:s.len.tmod x.1.2.2.2.1=0
 rotate_left
 ·simp_all
 rw[Tj (λe=>e h4)]at h⊢
 cases h5:JG n x.1 x.2 s with
 |none=>simp_all
 |some t=>
  dsimp only at h⊢
  by_cases h6:512<t.cells.length
  ·simp_all
  rw[Tj h6]
  obtain⟨k1,k2⟩:=Yf7 h1 h3 (YlZ h2) h4 h5 (by omega)
  exact⟨k1,k2,YlZ h2,h3⟩
theorem YiL{id:Int}:∀{q:List Rqs},(∀y∈q,y.1.1<id)->posQ q id=q.length
 |[],_=>rfl
 |y::q,h=>by
  unfold posQ
  rw[List.takeWhile_cons,Tn (Tf (h y TG)),Ro,Ro]
  exact TF (·+1) (YiL λz hz=>h z (TO _ hz))
theorem Ynx(h:∀y∈q,y.1.1<x.1.1):insQ q x=q++[x]:=by
 grind [insQ,YiL]
theorem Yqr(h:(rqsE n q).2=0){i j:Nat}(hij:i<j)(hj:j<q.length):(rqAt q i).1.1<(rqAt q j).1.1:=by
 obtain⟨-,hfl,-⟩:=UA h
 have:=Ynq hfl hij (by grind [Y8])
 grind [Xa,Y8,VK]
theorem Ygi{len off:Int}(hck:Yl n=0)(hl:1<=len/\len<=512)(ho:1<=off/\off<=16):(YJ n [] ⟨len,off,[]⟩).2.2=0:=by
 have hn:=YO hck
 refine Z7.2 ⟨Jh.2 (Vb.2 ⟨hck,?_,(λf hf=>by cases hf),⟨?_,Td _,(λc hc=>by cases hc),.nil⟩,(λc hc=>by cases hc),.nil,(λc hc=>by cases hc)⟩),(λx hx=>by cases hx)⟩
 ·have h1:=hn.n0;have h2:=hn.n1
  unfold YB Y8
  rw[Tj (by omega)]
  rfl
 ·exact Tf ⟨hl.1,hl.2,ho.1,ho.2⟩
structure AllI(n:Net)(q:List Rqs)(len off:Int)(k:Nat)(r:AllS):Prop where
 ok:(YJ n r.q r.s).2.2=0
 mem:∀y∈r.q,∃i,i<k/\y=rqAt q i
 len:r.s.len=len
 off:r.s.off=off
 cnt:r.at_.length=r.q.length
 few:r.q.length<=k
 all:r.q.length=k->r.q=q.take k
 idx:∀i∈r.at_,0<=i/\i<k
theorem Yb1{n:Net}{q:List Rqs}{len off:Int}(hq:(rqsE n q).2=0)(hl:1<=len/\len<=512)(ho:1<=off/\off<=16):∀k,k<=q.length->AllI n q len off k (WE n q len off k)
 |0,_=>⟨Ygi (UA hq).1 hl ho,(λy hy=>by cases hy),rfl,rfl,rfl,TK _,(λ_=>by simp_all),(λi hi=>by cases hi)⟩
 |k+1,hk=>by
  have ih:=Yb1 hq hl ho k (by omega)
  unfold WE Yb0
  generalize WE n q len off k=r at ih
  by_cases h:(JT n r.q r.s (rqAt q k)).2=0
  ·rw[Tn h]
   obtain⟨h1,h2,-,-⟩:=YmT h
   have hlt:∀y∈r.q,y.1.1<(rqAt q k).1.1:=λy hy=>by
    obtain⟨i,hi,rfl⟩:=ih.mem y hy
    exact Yqr hq hi (by omega)
   rw[Ynx hlt]at h1
   refine⟨h1,λy hy=>?_,h2.len.trans ih.len,h2.off.trans ih.off,?_,?_,λe=>?_,λi hi=>?_⟩
   ·rcases Rl.1 hy with hy|hy
    ·obtain⟨i,hi,e⟩:=ih.mem y hy
     grind
    grind
   ·show(r.at_++[(k:Int)]).length=(r.q++[rqAt q k]).length
    grind [Go.Proofs.YtjommdkgfbhbdaaGreatDoor.AllI.cnt]
   ·show(r.q++[rqAt q k]).length<=k+1
    have:=ih.few
    simp_all
   ·have e:(r.q++[rqAt q k]).length=k+1:=e
    rw[Tt,T9]at e
    show r.q++[rqAt q k]=_
    rw[ih.all (by omega),TB,VK (by omega)];rfl
   ·rcases Rl.1 hi with hi|hi
    ·have:=ih.idx i hi;omega
    grind
  ·rw[Tj h]
   refine⟨ih.ok,λy hy=>?_,ih.len,ih.off,ih.cnt,by have:=ih.few;omega,λe=>by have:=ih.few;omega,λi hi=>by have:=ih.idx i hi;omega⟩
   obtain⟨i,hi,e⟩:=ih.mem y hy
   grind
end Go.Proofs.YtjommdkgfbhbdaaGreatDoor
namespace Go.Eng
open Go.RowKit
section
variable {P:Program}{n:Shp}{B:Nat}{w0:World}{Q:Exit->Act->World->Prop}{env:Env}{H:List HP}{m:Mode}{ops:Array Oper}{rest:List Oper}{d:Nat}{ty:TypeId}{pos:String}{after:Array Edge}
variable {a b:Int}
theorem YmG{x y:Operand}{k:IntKind}{xt yt:TypeId}(hx:evo env x=some (.int k a))(hy:evo env y=some (.int k b))(hn:Nat.ble (d+1) n.k=true)(h:VL P m n B w0 ops Q rest ((d,.int k (bits .andNot k a b))::env) H):
 VL P m n B w0 ops Q (⟨some d,.binOp .andNot xt x y yt,ty,pos,after,none⟩::rest) env H:=Y3 hx hy hn (λ_=>rfl) (λ_=>by rw[show binOp .andNot xt (.int k a) (.int k b)=Op.intBits .andNot k a b by simp[binOp]];rfl) h
end
end Go.Eng
namespace Go.Proofs.YtjommdkgfbhbdaaGreatDoor
open Go.RowKit Go.Eng Go.Nw Go.Rt
def pow1(o:Int):Int:=IntKind.i64.wrap (1*2^o.toNat)
theorem Ymb{o:Int}(h:0<=o/\o<=16):1<=pow1 o/\pow1 o<=65536:=by
 have key:∀n:Nat,n<17->1<=IntKind.i64.wrap (1*2^n)/\IntKind.i64.wrap (1*2^n)<=65536:=by decide+kernel
 exact key o.toNat (by omega)
def ZT(m:List Int)(c:Cel):List Int:=m.set c.1.toNat (bits .andNot .i64 (m.getD c.1.toNat 0) (pow1 c.2.1))
def JP(s:Sch):List Int:=s.cells.foldl ZT (List.replicate s.len.toNat (pow1 s.off-1))
def XP(s:Sch):List Int×Int:=if Xd s=false then([],1)else(JP s,0)
theorem YpV(m:List Int)(c:Cel):(ZT m c).length=m.length:=TE
theorem Jx:∀(cs:List Cel) (m:List Int),(cs.foldl ZT m).length=m.length
 |[],_=>rfl
 |c::cs,m=>by rw[List.foldl_cons,Jx cs,YpV]
variable {a b:Int}
theorem Ysa{n i:Nat}(h:i<n):(List.replicate i a++List.replicate (n-i) b).set i a=List.replicate (i+1) a++List.replicate (n-(i+1)) b:=by
 obtain⟨k,rfl⟩:∃k,n=i+(k+1):=⟨n-i-1,by omega⟩
 rw[show i+(k+1)-i=k+1 by omega,show i+(k+1)-(i+1)=k by omega,SZ _ _ (by simp),TS,Nl,SQ,Nj,List.replicate_succ' (n:=i),TV];rfl
theorem Yql(n:Nat)(x:Int):(List.replicate 0 x++List.replicate (n-0) 0).flatMap numF=List.replicate n (Value.int .i64 0):=by
 rw[Na,TC,Nat.sub_zero]
 induction n with
 |zero=>rfl
 |succ n ih=>rw[SQ,Re,ih,SQ];rfl
variable {B:Nat}{w0 w:World}{H:List HP}
theorem Yh6(s:SchM)(ht:TabsB B w0)(hr:Rd B w0 H s.A (s.cells.flatMap celF))(hl:s.cells.length<=1000000000000)(hw:St B w0 H w):
 CX B w0 184 [s.val] w λv K=>v=.bool (Xd s.sch)/\K=H:=by
 refine Ya Tryz.func184 Tryz.ntmps184 rfl rfl hw ?_
 have p1:=λ{H':List HP}{w:World}(hr:Rd B w0 H' s.A (s.cells.flatMap celF)) (hw:St B w0 H' w)=>Wp s ht hr hl hw
 unfold SchM.val at p1⊢
 refine zX73 ?_<;>intros
 apply Yb en82
 exact za
 exact rfl
 exactλ_ hw=>(p1 hr.cons hw)
 cases hf:Xd s.sch with
 |false=>
  rw[show(Xq s.sch).2=1 by simp_all [Xq]]
  refine Yaw ?_<;>intros
  apply Yf H
  ·exact zc0
  exact zc10
 |true=>
  rw[show(Xq s.sch).2=0 by simp_all [Xq]]
  refine Yaw ?_<;>intros
  apply Yf H
  ·exact zc0
  exact zc10
theorem Ykw(s:SchM)(hf:Frm s.sch)(hr:Rd B w0 H s.A (s.cells.flatMap celF))(hw:St B w0 H w):
 CX B w0 185 [s.val] w λv K=>∃g,v=.slice (some ⟨g,0,none⟩) (JP s.sch).length (JP s.sch).length/\K=nrs (some ⟨g,0,none⟩) (JP s.sch).length (JP s.sch)::H:=by
 refine Ya Tryz.func185 Tryz.ntmps185 rfl rfl hw ?_
 have hsz:1<=s.len/\s.len<=512/\1<=s.off/\s.off<=16:=TT hf.sized
 have hp:=Ymb (o:=s.off) ⟨by omega,hsz.2.2.2⟩
 have hcl:s.cells.length<=512:=hf.few
 obtain⟨n,hn⟩:∃n:Nat,s.len=n:=⟨s.len.toNat,by omega⟩
 have hp2:1<=IntKind.i64.wrap (1*2^s.off.toNat)/\IntKind.i64.wrap (1*2^s.off.toNat)<=65536:=hp
 have hm0:List.replicate s.sch.len.toNat (pow1 s.sch.off-1)=List.replicate n (IntKind.i64.wrap (1*2^s.off.toNat)-1):=by
  show List.replicate s.len.toNat _=_
  rw[hn,Ry];rfl
 have hml:(JP s.sch).length=n:=by
  unfold JP
  rw[Jx,hm0,TS]
 unfold SchM.val
 rw[hn]
 repeat'(first|(apply Ycq T;(iterate 3 exact rfl);exact zi3;(iterate 3 exact rfl);omega;intro _)|refine zgb ?_|(refine zgh ?_;intro _)|fail)
 rename_i gs g
 simp only[Ry]
 refine Ye (λi:Nat=>[(12,.int .i64 (i:Nat)),(11,.int .i64 (n:Nat)),(3,.slice (some ⟨g,0,none⟩) n n),(1,.pointer (some ⟨gs,0,none⟩))])
  (λi=>sl 3 1 (some ⟨g,0,none⟩) n n ((List.replicate i (IntKind.i64.wrap (1*2^s.off.toNat)-1)++List.replicate (n-i) 0).flatMap numF)::blk gs (.cells #[.int .i64 (n:Nat),.int .i64 s.off,.slice s.A s.cells.length s.cap] 33 (0,0))::H) (λi=>i<=n) (λi=>n-i) 0 (Td _) ?_ ?_ ?_
 ·exact zc1
 ·have e0:=Yql n (IntKind.i64.wrap (1*2^s.off.toNat)-1)
  rw[e0]
  exact zc0
 rintro i hi K hK
 by_cases hlt:i<n
 ·have hL:(List.replicate i (IntKind.i64.wrap (1*2^s.off.toNat)-1)++List.replicate (n-i) 0).length=n:=by
   rw[Tt,TS,TS];omega
  repeat'(first|(apply XI T (f:=numF) (l:=List.replicate i (IntKind.i64.wrap (1*2^s.off.toNat)-1)++List.replicate (n-i) 0) (i:=(i:Int).toNat) (a:=IntKind.i64.wrap (1*2^s.off.toNat)-1);(iterate 3 exact rfl);exact zd;exact rfl;exactλ_=>rfl;exact rfl;omega)|refine zgd ?_|(refine zge ?_ ?_<;>intro _<;>try exact zo)|fail)
  rw[Ry,Ysa hlt]
  apply hK (i+1)
  ·show i+1<=n;omega
  ·omega
  ·exact zc1
  ·exact zc0
 obtain rfl:i=n:=by omega
 rw[Nl,Na,Rr]
 clear hK
 refine zX0 ?_<;>intros
 refine Ye (λj:Nat=>[(26,.int .i64 (j:Nat)),(25,.int .i64 s.cells.length),(24,.slice s.A s.cells.length s.cap),(3,.slice (some ⟨g,0,none⟩) i i),(1,.pointer (some ⟨gs,0,none⟩))])
  (λj=>sl 3 1 (some ⟨g,0,none⟩) i i (((s.cells.take j).foldl ZT (List.replicate i (IntKind.i64.wrap (1*2^s.off.toNat)-1))).flatMap numF)::blk gs (.cells #[.int .i64 (i:Nat),.int .i64 s.off,.slice s.A s.cells.length s.cap] 33 (0,0))::H) (λj=>j<=s.cells.length) (λj=>s.cells.length-j) 0 (Td _) ?_ ?_ ?_
 ·exact zc1
 ·rw[Ns,List.foldl_nil]
  exact zc0
 rintro j hj K hK
 by_cases hlt2:j<s.cells.length
 rotate_left
 ·obtain rfl:j=s.cells.length:=by omega
  rw[TI]
  clear hK
  refine zX0 ?_<;>intros
  apply Yf (nrs (some ⟨g,0,none⟩) (JP s.sch).length (JP s.sch)::H)
  ·unfold nrs
   rw[hml]
   unfold JP
   rw[hm0,show s.sch.cells=s.cells from rfl]
   exact zc0
  apply Yd;exact rfl;exact rfl
  exact⟨g,by rw[hml],rfl⟩
 obtain⟨c,hc⟩:∃c,s.cells[j]? =some c:=⟨_,Ta hlt2⟩
 obtain⟨m,hm⟩:∃m,(s.cells.take j).foldl ZT (List.replicate i (IntKind.i64.wrap (1*2^s.off.toNat)-1))=m:=⟨_,rfl⟩
 have hmn:m.length=i:=by rw[<-hm,Jx,TS]
 have hnext:(s.cells.take (j+1)).foldl ZT (List.replicate i (IntKind.i64.wrap (1*2^s.off.toNat)-1))=ZT m c:=by
  rw[TB,hc,List.foldl_append,hm];rfl
 rw[hm]
 have hform:=hf.formed c (Tc hc)
 unfold XJ XK insE at hform
 simp only[Tq,Tm]at hform
 have hc1:0<=c.1/\c.1<i:=by have:=hform.1.1.1.1;have e:s.sch.len=i:=hn;omega
 have hc2:0<=c.2.1/\c.2.1<16:=by have:=hform.1.1.1.2;have e:s.sch.off=s.off:=rfl;omega
 obtain⟨v,hv⟩:∃v,m[c.1.toNat]? =some v:=⟨_,Ta (by omega)⟩
 have hmc:ZT m c=m.set c.1.toNat (bits .andNot .i64 v (IntKind.i64.wrap (1*2^c.2.1.toNat))):=by
  unfold ZT;rw[Tz,hv];rfl
 refine zX46 ?_<;>intros
 apply YV [0,1,2,3,4,5,6,7,8,9] [10]
 kernel_rfl
 kernel_rfl
 (simp only[Yc,nthO];rfl)
 (simp only[Yc,nthO];rfl)
 refine YtD ?_
 rw[<-hmc,<-hnext]
 apply hK (j+1)
 ·exact Yjy
 ·omega
 ·exact zc1
 ·exact zc0
theorem YeV(s:SchM)(ht:TabsB B w0)(hr:Rd B w0 H s.A (s.cells.flatMap celF))(hl:s.cells.length<=1000000000000)(hw:St B w0 H w):
 CX B w0 92 [s.val] w λv K=>∃A,v=.tuple #[.slice A (XP s.sch).1.length (XP s.sch).1.length,.int .i64 (XP s.sch).2]/\K=nrs A (XP s.sch).1.length (XP s.sch).1::H:=by
 refine Ya Tryz.func92 Tryz.ntmps92 rfl rfl hw ?_
 have p1:=λ{H':List HP}{w:World}(hr:Rd B w0 H' s.A (s.cells.flatMap celF)) (hw:St B w0 H' w)=>Yh6 s ht hr hl hw
 have p2:=λ(hf:Frm s.sch) {H':List HP}{w:World}(hr:Rd B w0 H' s.A (s.cells.flatMap celF)) (hw:St B w0 H' w)=>Ykw s hf hr hw
 repeat'(first|(refine zs8 ?_)|((refine zs52 ?_;intro _))|refine zga ?_|fail)
 apply Yb Yv5
 exact za
 exact rfl
 exactλ_ hw=>(p1 hr.cons hw)
 cases hf:Xd s.sch with
 |false=>
  rw[show XP s.sch=([],1) by simp_all [XP]]
  repeat'(first|(refine zs48 ?_)|(refine zs71 ?_)|refine zgb ?_|fail)
  apply Yf (nrs none 0 []::H)
  ·intro w hw
   have h5:St B w0 H w:=by
    revert w
    exact zc45
   exact Yen
  exact zc55
 |true=>
  rw[show XP s.sch=(JP s.sch,0) by simp_all [XP]]
  repeat'(first|(refine zs8 ?_)|(refine zs47 ?_)|(refine zs72 ?_)|refine zgb ?_|fail)
  apply Yg _ Yv6
  exact za
  exact rfl
  exactλ_ hw=>(p2 (XF.1 hf) hr.cons (hw))
  rintro _ _ ⟨g,rfl,rfl⟩
  refine zX2 ?_
  apply Yf (nrs (some ⟨g,0,none⟩) (JP s.sch).length (JP s.sch)::H)
  ·exact zc0
  exact zc55
variable {B:Nat}{w0 w:World}{H:List HP}
theorem Yjh(c:Cel)(l:Lk)(hw:St B w0 H w):
 CX B w0 406 [celV c,lkV l] w λv K=>v=.bool (Yx c (0,0,l.1,l.2.1,0))/\K=H:=by
 refine Ya Tryz.func406 Tryz.ntmps406 rfl rfl hw ?_
 have htc:Yx c (0,0,l.1,l.2.1,0)=true↔(c.2.2.1=l.1\/c.2.2.1=l.2.1\/c.2.2.2.1=l.1\/c.2.2.2.1=l.2.1):=by unfold Yx YF toC;simp_all
 obtain⟨z,hz⟩:∃z,Yx c (0,0,l.1,l.2.1,0)=z:=⟨_,rfl⟩
 rw[hz]at htc⊢
 unfold lkV
 repeat'(first|refine zgd ?_|(refine zgf ?_ ?_<;>intro _<;>try exact zo)|(refine zgh ?_;intro _)|fail)
 all_goals(
  apply Yf H
  ·exact zk
  apply Yd;exact rfl;exact rfl
  cases z<;>simp at htc<;>first|exact⟨rfl,rfl⟩|(exfalso;omega))
abbrev grdA(g:Nat)(n:NetM)(s:SchM):HP:=blk g (.cells #[.int .i64 n.nodes,.slice n.pA n.rows.length n.pcap,.int .i64 n.noise,.int .i64 n.thr,.slice n.lA n.links.length n.lcap,.slice n.mA n.margin.length n.mcap,.int .i64 s.len,.int .i64 s.off,.slice s.A s.cells.length s.cap] 262 (0,0))
def grdV(n:NetM)(s:SchM):Value:=.agg #[.int .i64 n.nodes,.slice n.pA n.rows.length n.pcap,.int .i64 n.noise,.int .i64 n.thr,.slice n.lA n.links.length n.lcap,.slice n.mA n.margin.length n.mcap,.int .i64 s.len,.int .i64 s.off,.slice s.A s.cells.length s.cap]
abbrev lnkA(g:Nat)(l:Lk):HP:=blk g (.cells #[.int .i64 l.1,.int .i64 l.2.1,.int .i64 l.2.2] 164 (0,0))
abbrev intA(g:Nat)(v:Int):HP:=blk g (.cells #[.int .i64 v] 3 (0,0))
theorem Ynt(c:Cel)(l:Lk)(slot id:Int)(g7 g5 g6:Nat)(h7:intA g7 slot∈H)(h5:lnkA g5 l∈H)(h6:intA g6 id∈H)(hw:St B w0 H w):
 CX B w0 404 [celV c,.pointer (some ⟨g7,0,none⟩),.pointer (some ⟨g5,0,none⟩),.pointer (some ⟨g6,0,none⟩)] w λv K=>v=.bool (decide (c.1=slot/\YF c=l.1/\toC c=l.2.1/\XE c=id))/\K=H:=by
 refine Ya Tryz.func404 Tryz.ntmps404 rfl rfl hw ?_
 have hb:decide (c.1=slot/\YF c=l.1/\toC c=l.2.1/\XE c=id)=true↔c.1=slot/\c.2.2.1=l.1/\c.2.2.2.1=l.2.1/\c.2.2.2.2=id:=by unfold XE YF toC;simp_all
 obtain⟨b,hbe⟩:∃b,decide (c.1=slot/\YF c=l.1/\toC c=l.2.1/\XE c=id)=b:=⟨_,rfl⟩
 rw[hbe]at hb⊢
 repeat'(first|refine zgd ?_|(refine zgf ?_ ?_<;>intro _<;>try exact zo)|(refine zgh ?_;intro _)|fail)
 all_goals(
  apply Yf H
  ·exact zk
  apply Yd;exact rfl;exact rfl
  cases b<;>simp at hb<;>first|exact⟨rfl,rfl⟩|(exfalso;omega))
theorem Ynu(n:NetM)(s:SchM)(l:Lk)(id slot:Int)(hl:s.cells.length<=1000)(hr:Rd B w0 H s.A (s.cells.flatMap celF))(hw:St B w0 H w):
 CX B w0 367 [grdV n s,lkV l,.int .i64 id,.int .i64 slot] w λv K=>v=.bool (hasC s.cells slot l.1 l.2.1 id)/\K=H:=by
 refine Ya Tryz.func367 Tryz.ntmps367 rfl rfl hw ?_
 unfold grdV lkV
 repeat'(first|(apply zg23;first|(refine zs52 ?_;intro _)|(refine zs53 ?_;intro _))|(apply zg29;(apply Ys;exact za;exact rfl))|refine zgb ?_|fail)
 rename_i g4 g5 g6 g7
 apply Yb Yto
 exact za
 exact rfl
 exactλ_ hw=>(W0 (λc=>decide (c.1=slot/\YF c=l.1/\toC c=l.2.1/\XE c=id)) s.cells 404 [.pointer (some ⟨g7,0,none⟩),.pointer (some ⟨g5,0,none⟩),.pointer (some ⟨g6,0,none⟩)] Yxa hl hr.cons.cons.cons.cons (λc _ w hw=>Ynt c l slot id g7 g5 g6 zm zm zm hw) hw)
 repeat'(first|refine zga ?_|fail)
 apply Yf H
 ·exact zk
 apply Yd;exact rfl;exact rfl;exact⟨rfl,rfl⟩
theorem YkE(c:Cel)(o:Int)(g:Nat)(hm:intA g o∈H)(hw:St B w0 H w):
 CX B w0 407 [celV c,.pointer (some ⟨g,0,none⟩)] w λv K=>v=.bool (!(decide (c.2.1=o)))/\K=H:=by
 refine Ya Tryz.func407 Tryz.ntmps407 rfl rfl hw ?_
 by_cases h:c.2.1=o
 ·rw[Tf h]
  refine zX22 ?_<;>intros
  apply Yf H
  ·exact zc0
  exact zc10
 ·rw[Ti h]
  refine zX22 ?_<;>intros
  apply Yf H
  ·exact zc0
  exact zc10
theorem Yj5(c:Cel)(id:Int)(g:Nat)(hm:intA g id∈H)(hw:St B w0 H w):
 CX B w0 163 [celV c,.pointer (some ⟨g,0,none⟩)] w λv K=>v=.bool (decide (XE c=id))/\K=H:=by
 refine Ya Tryz.func163 Tryz.ntmps163 rfl rfl hw ?_
 by_cases h:c.2.2.2.2=id
 ·rw[Tf (show XE c=id from h)]
  refine zX45 ?_<;>intros
  apply Yf H
  ·exact zc0
  exact zc10
 ·rw[Ti (show¬XE c=id from h)]
  refine zX45 ?_<;>intros
  apply Yf H
  ·exact zc0
  exact zc10
def tchB(l:List Cel)(slot a b:Int):Bool:=l.any λd=>decide (d.1=slot)&&Yx d (0,0,a,b,0)
def offI(n:Net)(l:List Cel)(slot a b:Int)(k:Nat):List Nat:=(List.range k).filter λo:Nat=>JE n (l.filter (atP slot o)++[(0,0,a,b,0)])
def U0(n:Net)(s:Sch)(slot a b:Int):List (List Value):=if tchB s.cells slot a b=true then []else(offI n s.cells slot a b s.off.toNat).map λ(o:Nat)=>[Value.int .i64 (o:Int)]
variable {n:Net}{l:List Cel}{slot a b:Int}{k i:Nat}
theorem Yp6(h:JE n (l.filter (atP slot k)++[(0,0,a,b,0)])=true):offI n l slot a b (k+1)=offI n l slot a b k++[k]:=by
 grind [offI,Rq]
theorem YrW(h:JE n (l.filter (atP slot k)++[(0,0,a,b,0)])=false):offI n l slot a b (k+1)=offI n l slot a b k:=by
 grind [offI,Rq]
theorem Yp5{m:Nat}(h:JE n (l.filter (atP slot k)++[(0,0,a,b,0)])=true)(hk:k<m):(offI n l slot a b m)[(offI n l slot a b k).length]? =some k:=by
 obtain⟨j,rfl⟩:∃j,m=k+(j+1):=⟨m-k-1,by omega⟩
 have e:offI n l slot a b (k+(j+1))=offI n l slot a b k++((List.range (j+1)).map (k+·)).filter λo:Nat=>JE n (l.filter (atP slot o)++[(0,0,a,b,0)]):=by
  grind [offI,List.range_add]
 simp_all [List.range_succ_eq_map]
structure AiM where
 i:Nat
 A:Option Addr
 cap:Nat
 l:List Cel
variable {c:Cel}
theorem YpD(hc:l[i]? =some c)(h:c.1=slot):(l.take (i+1)).filter (λd=>decide (d.1=slot))=(l.take i).filter (λd=>decide (d.1=slot))++[c]:=zc76
theorem YrG(hc:l[i]? =some c)(h:c.1≠slot):(l.take (i+1)).filter (λd=>decide (d.1=slot))=(l.take i).filter (λd=>decide (d.1=slot)):=zc76
theorem YqC(hc:l[i]? =some c):tchB (l.take (i+1)) slot a b=(tchB (l.take i) slot a b||(decide (c.1=slot)&&Yx c (0,0,a,b,0))):=by
 grind [tchB,TB]
theorem YvA(hc:l[i]? =some c)(h:c.1=slot)(ht:Yx c (0,0,a,b,0)=true):tchB l slot a b=true:=
 Rj.2 ⟨c,Tc hc,by simp_all⟩
theorem YnM(n:NetM)(s:SchM)(l:Lk)(slot:Int)(g3 g5 g4:Nat)(hck:Yl n.net=0)(hl:s.cells.length<=900)(hoff:0<=s.off/\s.off<=16){B:Nat}{w0:World}{R:List HP}(hin:n.In B w0 [many R])(hr:Rd B w0 [many R] s.A (s.cells.flatMap celF)):
 Ycg Tryz.prog 405 [.pointer (some ⟨g3,0,none⟩),.pointer (some ⟨g5,0,none⟩),.pointer (some ⟨g4,0,none⟩)] (U0 n.net s.sch slot l.1 l.2.1) B w0 [intA g5 slot,lnkA g4 l,grdA g3 n s,many R]:=by
 refine Ych Tryz.func405 Tryz.ntmps405 rfl rfl ?_
 intro ly SS X hy L0 h0
 refine Vc 162 5 ?_
 have hsc:s.sch.cells=s.cells:=rfl
 refine zX7 ?_
 refine Ye (λ(x:AiM)=>[(14,.int .i64 x.i),(13,.int .i64 s.cells.length),(12,.slice s.A s.cells.length s.cap),(5,.slice x.A x.l.length x.cap),(0,.func (.yield ly) #[] #[]),(1,.pointer (some ⟨g3,0,none⟩)),(2,.pointer (some ⟨g5,0,none⟩)),(3,.pointer (some ⟨g4,0,none⟩))])
  (λx=>sl 162 5 x.A x.l.length x.cap (x.l.flatMap celF)::many L0::intA g5 slot::lnkA g4 l::grdA g3 n s::[many R]) (λx=>x.i<=s.cells.length/\x.l=(s.cells.take x.i).filter (λd=>decide (d.1=slot))/\tchB (s.cells.take x.i) slot l.1 l.2.1=false) (λx=>s.cells.length-x.i) ⟨0,none,0,[]⟩ ⟨Td _,by simp,rfl⟩ ?_ ?_ ?_
 ·exact zc1
 ·dsimp only
  rw[show([]:List Cel).flatMap celF=[] from rfl,show([]:List Cel).length=0 from rfl]
  exact zc0
 rintro⟨i,A,cap,hs⟩ ⟨hi,hhs,htc⟩ K hK
 dsimp only at hi hhs htc⊢
 have hhl:hs.length<=900:=by
  have:=Sl (λd:Cel=>decide (d.1=slot)) (s.cells.take i)
  rw[<-hhs,TU]at this
  omega
 by_cases hlt:i<s.cells.length
 ·obtain⟨c,hc⟩:∃c,s.cells[i]? =some c:=⟨_,Ta hlt⟩
  have hts:=YqC (slot:=slot) (a:=l.1) (b:=l.2.1) hc
  rw[htc,Nz]at hts
  have p1:=λ{H':List HP}{w:World}(hw:St B w0 H' w)=>Yjh c l hw
  unfold celV lkV at p1
  by_cases hsl:c.1=slot
  rotate_left
  ·rw[Ti hsl,Nb]at hts
   refine zX46 ?_<;>intros
   apply hK ⟨i+1,A,cap,hs⟩
   ·exact⟨by exact Qf,by rw[YrG hc hsl];exact hhs,hts⟩
   ·exact zc50
   ·exact zc1
   ·exact zc0
  cases ht:Yx c (0,0,l.1,l.2.1,0)with
  |true=>
   rw[ht]at p1
   have hnil:U0 n.net s.sch slot l.1 l.2.1=[]:=by
    unfold U0
    rw[Tn (by rw[hsc];exact YvA hc hsl ht)]
   clear hK
   repeat'(first|((apply Yb Yts);exact za;exact rfl;exactλ_ hw=>(p1 hw))|refine zgd ?_|(refine zge ?_ ?_<;>intro _<;>try exact zo)|(refine zgh ?_;intro _)|fail)
   apply Yf (many L0::intA g5 slot::lnkA g4 l::grdA g3 n s::[many R])
   ·exact zc0
   apply U9;exact rfl
   exact .inl ⟨L0,by rw[hnil];exact h0,rfl⟩
  |false=>
   rw[Tf hsl,ht,RD]at hts
   rw[ht]at p1
   repeat'(first|((apply Yb Yts);exact za;exact rfl;exactλ_ hw=>(p1 hw))|refine zgd ?_|(refine zge ?_ ?_<;>intro _<;>try exact zo)|(refine zgh ?_;intro _)|(refine zgi ?_;intro _ _)|fail)
   rename_i A' cap'
   have hl1:(hs++[c]).length=hs.length+1:=by rw[Tt];rfl
   apply hK ⟨i+1,A',cap',hs++[c]⟩
   ·exact⟨by exact Qf,by rw[YpD hc hsl,<-hhs],hts⟩
   ·exact zc50
   ·dsimp only
    rw[hl1]
    exact zc1
   ·dsimp only
    have e5:=JU A' cap' hs c
    unfold cels at e5
    rw[<-e5]
    exact zc0
 ·obtain rfl:i=s.cells.length:=by omega
  rw[TI]at hhs htc
  clear hK
  refine zX0 ?_<;>intros
  have hxs:U0 n.net s.sch slot l.1 l.2.1=(offI n.net s.cells slot l.1 l.2.1 s.off.toNat).map λ(o:Nat)=>[Value.int .i64 (o:Int)]:=by
   unfold U0
   rw[Tj (by rw[hsc,htc];decide)];rfl
  refine Ye (λ(x:Nat×List HP)=>[(33,.int .i64 (x.1:Nat)),(32,.int .i64 s.off),(5,.slice A hs.length cap),(0,.func (.yield ly) #[] #[]),(1,.pointer (some ⟨g3,0,none⟩)),(2,.pointer (some ⟨g5,0,none⟩)),(3,.pointer (some ⟨g4,0,none⟩))])
   (λx=>sl 162 5 A hs.length cap (hs.flatMap celF)::many x.2::intA g5 slot::lnkA g4 l::grdA g3 n s::[many R]) (λx=>(x.1:Int)<=s.off/\SS (offI n.net s.cells slot l.1 l.2.1 x.1).length x.2) (λx=>(s.off-x.1).toNat) (0,L0) ⟨by show((0:Nat):Int)<=_;omega,h0⟩ ?_ ?_ ?_
  ·exact zc1
  ·exact zc0
  rintro⟨o,L⟩ ⟨ho,hS⟩ K hK
  dsimp only at ho hS⊢
  by_cases hlt2:(o:Int)<s.off
  rotate_left
  ·obtain rfl:o=s.off.toNat:=by omega
   clear hK
   refine zX0 ?_<;>intros
   apply Yf (many L::intA g5 slot::lnkA g4 l::grdA g3 n s::[many R])
   ·exact zc0
   apply JB;exact rfl
   exact .inl ⟨L,by rw[hxs,To];exact hS,rfl⟩
  obtain⟨own,hown⟩:∃own,s.cells.filter (atP slot o)=own:=⟨_,rfl⟩
  have hof:(hs.filter λc=>!!(decide (c.2.1=(o:Int))))=own:=by
   rw[<-hown,hhs,List.filter_filter]
   refine Nq λc _=>?_
   unfold atP
   rw[Bool.not_not,Bool.decide_and,Bool.and_comm]
  have hol:own.length<=900:=by
   have:=Sl (atP slot o) s.cells
   rw[hown]at this
   omega
  have pg:=λ{A2:Option Addr}{cap2:Nat}{H':List HP}{w:World}(hin:n.In B w0 H') (hr:Rd B w0 H' A2 (own.flatMap celF++#[Value.int .i64 0,.int .i64 0,.int .i64 l.1,.int .i64 l.2.1,.int .i64 0].toList)) (hw:St B w0 H' w)=>Ykj n (own++[(0,0,l.1,l.2.1,0)]) hck (by rw[Tt];show own.length+1<=1000;omega) (A:=A2) (cap:=cap2) hin (by rw[RB];exact hr) hw
  have hol1:(own++[((0,0,l.1,l.2.1,0):Cel)]).length=own.length+1:=by rw[Tt];rfl
  rw[hol1]at pg
  unfold NetM.val at pg
  refine zX46 ?_<;>intros
  rename_i g8
  apply Yg _ Yfa
  exact za
  exact rfl
  exactλ_ hw=>(Jv hs (by omega) (.sl (by(focus exact zc2))) (hw))
  rintro _ _ ⟨A1,c1,rfl,rfl⟩
  repeat'(first|(apply zg29;(apply Ys;exact za;exact rfl))|fail)
  apply Yg _ YlF
  exact za
  exact rfl
  exactλ_ hw=>(Ui (λc=>!(decide (c.2.1=(o:Int)))) hs 407 [.pointer (some ⟨g8,0,none⟩)] Yxc (by omega) (λc _ X w hw=>YkE c o g8 (SG _ (by(focus exact zc2))) hw) (hw))
  rintro _ _ ⟨rfl,rfl⟩
  rw[hof]
  unfold cels
  refine zX2 ?_
  apply YmE [0,1,2,3,4,5,6,7,8,9,10,11,12,13] [14,15,16] [false,true,false,false,true,true,true,true]
  kernel_rfl
  kernel_rfl
  exact zy
  (simp only[Yc,nthO];rfl)
  (simp only[Yc,nthO];rfl)
  repeat'(first|refine Yr T ?_|(apply Yh;try exact zl)|refine zgd ?_|(refine zgh ?_;intro _)|(refine zgi ?_;intro _ _)|fail)
  apply Yb Yxd
  exact za
  exact rfl
  exactλ_ hw=>(pg (hin.mono zc0) (.sl (by(focus exact zc2))) hw)
  cases hg:JE n.net (own++[(0,0,l.1,l.2.1,0)])with
  |true=>
   have hg2:JE n.net (s.cells.filter (atP slot o)++[(0,0,l.1,l.2.1,0)])=true:=by rw[hown];exact hg
   have hx:(U0 n.net s.sch slot l.1 l.2.1)[(offI n.net s.cells slot l.1 l.2.1 o).length]? =some [.int .i64 (o:Int)]:=by
    rw[hxs,TN,Yp5 hg2 (by omega)];rfl
   have hY:=hy _ _ hx [sl 162 5 A hs.length cap (hs.flatMap celF)] L hS
   refine zX16 ?_
   apply Yf (sl 162 5 A hs.length cap (hs.flatMap celF)::many L::intA g5 slot::lnkA g4 l::grdA g3 n s::[many R])
   ·exact zc0
   apply YoS
   apply Ycw _ _ (hy:=hY)
   ·exact YbJ (j:=11) (s:=51) rfl rfl rfl
   ·exact rfl
   ·exact YqP
   ·exact rfl
   ·exact Yjw
   ·rintro _ ⟨L',hS',rfl⟩
    refine zX10 ?_
    apply hK (o+1,L')
    ·exact⟨by show((o+1:Nat):Int)<=_;omega,by rw[Yp6 hg2,Tt];exact hS'⟩
    ·exact zc50
    ·exact zc1
    exact zc21
   ·rintro _ ⟨L',hX',rfl⟩
    refine zX3 ?_
    apply Yf (many L'::intA g5 slot::lnkA g4 l::grdA g3 n s::[many R])
    ·exact Yax
    apply U9;exact rfl
    exact .inr ⟨L',hX',rfl⟩
  |false=>
   have hg2:JE n.net (s.cells.filter (atP slot o)++[(0,0,l.1,l.2.1,0)])=false:=by rw[hown];exact hg
   refine zX16 ?_
   apply YoS
   apply Yhr Yjw
   refine zX3 ?_
   apply hK (o+1,L)
   ·exact⟨by show((o+1:Nat):Int)<=_;omega,by rw[YrW hg2];exact hS⟩
   ·exact zc50
   ·exact zc1
   ·exact zc0
theorem YkB:∀a b:List Int,a.length=b.length->Zc (List.zipWith cmpI a b)=cmpV a b
 |[],[],_=>rfl
 |[],_::_,h=>by cases h
 |_::_,[],h=>by cases h
 |x::a,y::b,h=>by
  have ih:=YkB a b (by simp_all)
  rw[List.zipWith_cons_cons,Zc]
  by_cases h1:x<y
  ·have e1:cmpI x y= -1:=Tn h1
   have e2:X6 (x::a) (y::b)=true:=by rw[X6,Tn (show x≠y by omega)];simp_all
   simp_all [cmpV]
  ·by_cases h2:y<x
   ·have e1:cmpI x y=1:=by simp_all [cmpI]
    have e2:X6 (x::a) (y::b)=false:=by rw[X6,Tn (show x≠y by omega)];simp_all
    have e3:X6 (y::b) (x::a)=true:=by rw[X6,Tn (show y≠x by omega)];simp_all
    simp_all [cmpV]
   ·obtain rfl:x=y:=by omega
    simp_all [cmpI,X6,cmpV]
variable {B:Nat}{w0 w:World}{H:List HP}
theorem O1(a b:Cel)(hw:St B w0 H w):
 CX B w0 126 [celV a,celV b] w λv K=>v=.int .i64 (cmpV (nums a) (nums b))/\K=H:=by
 refine Ya Tryz.func126 Tryz.ntmps126 rfl rfl hw ?_
 rw[<-YkB (nums a) (nums b) rfl]
 unfold celV
 refine zX14 ?_<;>intros
 apply YA [0,1,2,3,5,6,7,8,10,11,12,13,15,16,17,18,20,21,22,23,4,9,14,19,24,25,26,27] [] [true,true]
 kernel_rfl
 kernel_rfl
 exact zy
 (simp only[Yc,nthO];rfl)
 exact rfl
 refine zX15 ?_<;>intros
 rename_i g
 apply Yb YsT
 exact za
 exact rfl
 exactλ_ hw=>(Yl7 (List.zipWith cmpI (nums a) (nums b)) (by simp[nums]) (Rd.blk (g:=g) (cs:=#[.int .i64 (cmpI a.1 b.1),.int .i64 (cmpI a.2.1 b.2.1),.int .i64 (cmpI a.2.2.1 b.2.2.1),.int .i64 (cmpI a.2.2.2.1 b.2.2.2.1),.int .i64 (cmpI a.2.2.2.2 b.2.2.2.2)]) (by(focus exact zc2))) hw)
 refine zX16 ?_
 apply Yf H
 ·exact zc0
 exact zc24
theorem YgR(l:List Cel)(c:Cel)(ho:Ord l)(hlen:l.length<=1000000000){A:Option Addr}{cap:Nat}(hr:Rd B w0 H A (l.flatMap celF))(hw:St B w0 H w):
 CX B w0 369 [.slice A l.length cap,celV c,.func (.func 126) #[] #[]] w λv K=>
  v=.tuple #[.int .i64 (posE l c),.bool (decide (c∈l))]/\K=H:=by
 refine Ya Tryz.func369 Tryz.ntmps369 rfl rfl hw ?_
 (apply Xc;apply YW;apply YR;exact rfl;exact rfl;intro g)
 refine zX7 ?_
 have hr:=hr.cons (X:=blk g (.cells (celF c).toArray 162 (0,0)))
 refine Yci (λ(lo hi:Nat)=>[(9,.int .i64 lo),(10,.int .i64 hi),(8,.int .i64 l.length),(0,.slice A l.length cap),(2,.func (.func 126) #[] #[]),(4,.pointer (some ⟨g,0,none⟩))]) (λ_ _=>blk g (.cells (celF c).toArray 162 (0,0))::H)
  (λlo hi=>lo<=hi/\hi<=l.length/\(∀i x,i<lo->l[i]? =some x->Xg x c=true)/\(∀i x,hi<=i->l[i]? =some x->Xg x c=false)) (λlo hi=>hi-lo) 0 l.length ⟨by omega,by omega,λj x hj=>by omega,λj x h1 h2=>by simp_all⟩ ?_ (λw hw=>hw) ?_
 ·exact zc1
 rintro lo hi ⟨h1,h2,h3,h4⟩ K hK
 by_cases hlt:lo<hi
 ·obtain⟨b,hb⟩:∃b,l[(((lo:Int)+hi)/2).toNat]? =some b:=⟨_,Ta (by omega)⟩
  have hm:(((lo:Int)+hi)/2).toNat=(lo+hi)/2:=by omega
  have hb2:l[(lo+hi)/2]? =some b:=by grind
  repeat'(first|((apply Jq (cs:=[]));exact rfl;exact Ypg;exact za;exact rfl;exactλ_ hw=>(O1 b c hw))|(apply zg28;refine zs84 ?_)|refine zgd ?_|(refine zge ?_ ?_<;>intro _<;>try exact zo)|fail)
  ·rename_i hc
   rw[YaG]at hc
   apply hK ((lo+hi)/2+1) hi
   ·refine⟨by omega,by omega,λj x hj hx=>?_,h4⟩
    by_cases e:j=(lo+hi)/2
    ·grind
    ·exact Ju (Ygz ho hx hb2 (by omega)) hc
   ·omega
   ·exact zc1
   exact zc21
  ·rename_i hc
   have hc:Xg b c=false:=by
    cases h:Xg b c with
    |false=>rfl
    |true=>rw[<-YaG]at h;omega
   apply hK lo ((lo+hi)/2)
   ·refine⟨by omega,by omega,h3,λj x hj hx=>?_⟩
    by_cases e:j=(lo+hi)/2
    ·exact YqR
    ·cases h:Xg x c with
     |false=>rfl
     |true=>rw[Ju (Ygz ho hb2 hx (by omega)) h]at hc;cases hc
   ·omega
   ·exact zc1
   exact zc21
 ·obtain rfl:lo=hi:=by omega
  have hp:Pos l c lo:=⟨h2,h3,h4⟩
  have hpe:=hp.posE ho
  have hpm:=Yr9 ho hp
  by_cases hl:lo<l.length
  ·obtain⟨b,hb⟩:∃b,l[lo]? =some b:=⟨_,Ta hl⟩
   rw[hb]at hpm
   repeat'(first|((apply Jq (cs:=[]));exact rfl;exact Ypg;exact za;exact rfl;exactλ_ hw=>(O1 b c hw))|(apply zg28;refine zs84 ?_)|refine zgd ?_|(refine zgf ?_ ?_<;>intro _<;>try exact zo)|fail)
   all_goals(apply Yi;apply YH;(iterate 3 exact rfl);rw[<-hpe])
   ·rename_i hc
    rw[Yo5]at hc
    exact⟨by rw[Tf (hpm.1 (by rw[hc]))],rfl⟩
   ·rename_i hc
    rw[ne_eq,Yo5]at hc
    exact⟨by rw[Ti λh=>hc (TJ (hpm.2 h))],rfl⟩
  ·refine zX17 ?_<;>intros
   apply Yi;apply YH;(iterate 3 exact rfl);rw[<-hpe]
   rw[List.getElem?_eq_none (by omega)]at hpm
   exact⟨by rw[Ti λh=>by cases hpm.2 h],rfl⟩
theorem Ygw(n:NetM)(s:SchM)(l:Lk)(slot:Int)(hw:St B w0 H w):
 CX B w0 368 [grdV n s,lkV l,.int .i64 slot] w λv K=>∃g3 g4 g5,v=.func (.func 405) #[] #[.pointer (some ⟨g3,0,none⟩),.pointer (some ⟨g5,0,none⟩),.pointer (some ⟨g4,0,none⟩)]/\K=intA g5 slot::lnkA g4 l::grdA g3 n s::H:=by
 refine Ya Tryz.func368 Tryz.ntmps368 rfl rfl hw ?_
 refine zX28 ?_<;>intros
 exact zc84
end Go.Proofs.YtjommdkgfbhbdaaGreatDoor
namespace Go.Eng
open Go.RowKit
section
variable {P:Program}{B:Nat}{w0:World}{env:Env}{H:List HP}
theorem Ycu{n:Nat}(T:Tab P){fn:Func}{Φ:Value->List HP->Prop}{p g k q g2 rt st:Nat}{v:Value}{cs:Array Value}{tt tt2:TypeId}{fr fr2:Nat×Nat}(hr:fn.results=#[.cell p rt,.cell q st])(hp:get env p=some (.pointer (some ⟨g,0,none⟩)))(hq:get env q=some (.pointer (some ⟨g2,0,none⟩)))
 (hm:blk g (.cells cs tt fr)∈H) (hm2:blk g2 (.cells #[v] tt2 fr2)∈H) (ht:look T.ag rt=some k) (hk:cs.size=k) (ht2:look T.sc st=some ()) {H2:List HP}(hH:∀w,St B w0 H w->St B w0 H2 w) (h:Φ (.tuple #[.agg cs,v]) H2):VQ ⟨n,[],none⟩ B w0 (bodyPost P fn (Post B w0 Φ)) .ret env H:=by
 refine⟨λa w ha hw=>bodyPost_ret (v:=.tuple #[.agg cs,v]) ?_ ha.defers ⟨_,H2,rfl,hH w hw,h⟩⟩
 have hp':=ha.slot p _ hp
 have hq':=ha.slot q _ hq
 have hc:=Y7 (i:=0) (hw.blk hm2).1
 have h2:(loadVar st ⟨g2,0,none⟩).run P w=.ok v w:=by simp[loadVar,Xj (T.scal ht2).1,hc]
 simp[results,hr,Array.getD_eq_getD_getElem?,hp',hq',asAddr,VE T (hw.blk hm).1 ht hk,h2]
end
end Go.Eng
namespace Go.Proofs.YtjommdkgfbhbdaaGreatDoor
open Go.RowKit Go.Eng Go.Nw Go.Rt
theorem Wi{α:Type}(p:α->Bool):∀l:List α,(l.filter p)[0]? =l.find? p
 |[]=>rfl
 |a::l=>by
  rw[Nx,List.find?_cons]
  cases h:p a with
  |true=>rfl
  |false=>exact Wi p l
variable {n:Net}{l:List Cel}{slot a b id:Int}
theorem YlX(h:tchB l slot a b=false):(λo:Nat=>fitE n l slot o a b)=λo:Nat=>JE n (l.filter (atP slot o)++[(0,0,a,b,0)]):=by
 grind [fitE,tchB]
theorem Yu6(h:tchB l slot a b=true):(λo:Nat=>fitE n l slot o a b)=λ_=>false:=by
 grind [fitE,tchB]
variable {s:Sch}
theorem YkC(hh:hasC s.cells slot a b id=false)(h:(U0 n s slot a b).length=0):JL n s a b id slot=none:=by
 unfold JL
 have:((List.range s.off.toNat).find? λo:Nat=>fitE n s.cells slot o a b)=none:=by
  cases ht:tchB s.cells slot a b with
  |true=>simp_all [Yu6]
  |false=>
   rw[YlX ht,<-Wi]
   unfold U0 at h
   grind [offI]
 simp_all
theorem YkD(hh:hasC s.cells slot a b id=false){args:List Value}(h:(U0 n s slot a b)[0]? =some args):∃o:Nat,args=[.int .i64 (o:Int)]/\o<s.off.toNat/\fitE n s.cells slot o a b=true/\JL n s a b id slot=some ⟨s.len,s.off,insC s.cells (slot,(o:Int),a,b,id)⟩:=by
 unfold U0 at h
 cases ht:tchB s.cells slot a b with
 |true=>simp_all
 |false=>
  rw[ht,Tj (by decide),TN]at h
  unfold offI at h
  rw[Wi]at h
  cases hf:(List.range s.off.toNat).find? λo:Nat=>JE n (s.cells.filter (atP slot o)++[(0,0,a,b,0)])with
  |none=>simp_all
  |some o=>
   have hf2:(List.range s.off.toNat).find? (λo:Nat=>fitE n s.cells slot o a b)=some o:=by rw[YlX ht];exact hf
   unfold JL
   grind
theorem Yk2(n:NetM)(s:SchM)(l:Lk)(id slot:Int)(hck:Yl n.net=0)(hl:s.cells.length<=900)(hoff:0<=s.off/\s.off<=16)(ho:Ord s.cells){B:Nat}{w0:World}{R:List HP}{w:World}(hin:n.In B w0 [many R])(hr:Rd B w0 [many R] s.A (s.cells.flatMap celF))(hw:St B w0 [many R] w):
 CX B w0 312 [grdV n s,lkV l,.int .i64 id,.int .i64 slot] w λv K=>
  (v=.tuple #[grdV n s,.bool true]/\JL n.net s.sch l.1 l.2.1 id slot=some s.sch/\K=[many R])\/
  (v=.tuple #[grdV n s,.bool false]/\JL n.net s.sch l.1 l.2.1 id slot=none/\K=[many R])\/
  ∃A cap c,v=.tuple #[grdV n ⟨s.len,s.off,A,cap,insC s.cells c⟩,.bool true]/\JL n.net s.sch l.1 l.2.1 id slot=some ⟨s.len,s.off,insC s.cells c⟩/\K=[cels A cap (insC s.cells c),many R]:=by
 refine Zr Tryz.func312 Tryz.ntmps312 rfl rfl hw ?_
 have p1:=λ{H':List HP}{w:World}(hr:Rd B w0 H' s.A (s.cells.flatMap celF)) (hw:St B w0 H' w)=>Ynu n s l id slot (by omega) hr hw
 have p2:=λ{H':List HP}{w:World}(hw:St B w0 H' w)=>Ygw n s l slot hw
 cases hh:hasC s.cells slot l.1 l.2.1 id with
 |true=>
  rw[hh]at p1
  unfold grdV lkV at p1⊢
  refine Yjr ?_<;>intros
  apply Yb Ytl
  exact za
  exact rfl
  exactλ_ hw=>(p1 hr.cons.cons.cons.cons.cons.cons hw)
  refine zX3 ?_
  apply VQ_m
  apply Ycu T (H2:=[many R]);(iterate 3 exact rfl);(focus exact zc2);(focus exact zc2);(iterate 3 exact rfl);(intro w hw;refine hw.perm ?_;focus exact zc4)
  refine .inl ⟨rfl,?_,rfl⟩
  unfold JL
  rw[show s.sch.cells=s.cells from rfl,Tn hh]
 |false=>
 rw[hh]at p1
 unfold grdV lkV at p1 p2⊢
 refine Yjr ?_<;>intros
 rename_i g4 g5 g6 g7 g8 g9
 apply Yb Ytl
 exact za
 exact rfl
 exactλ_ hw=>(p1 hr.cons.cons.cons.cons.cons.cons hw)
 refine zX7 ?_
 apply Yg _ YwX
 exact za
 exact rfl
 exactλ_ hw=>(p2 (hw))
 rintro _ _ ⟨k3,k4,k5,rfl,rfl⟩
 refine zX7 ?_
 have hlen0:∀args∈U0 n.net s.sch slot l.1 l.2.1,args.length=[24].length:=by
  intro args h
  unfold U0 at h
  split at h
  ·cases h
  ·obtain⟨o,_,rfl⟩:=TD.1 h
   rfl
 refine Zt (gf:=405) (lb:=[.pointer (some ⟨k3,0,none⟩),.pointer (some ⟨k5,0,none⟩),.pointer (some ⟨k4,0,none⟩)]) (xs:=U0 n.net s.sch slot l.1 l.2.1) (intA k5 slot::lnkA k4 l::grdA k3 n s::[many R])
  (λ_:Unit=>[blk g9 (.cells #[.bool false] 4 (0,0)),blk g8 (.cells #[.int .i64 0,.slice none 0 0,.int .i64 0,.int .i64 0,.slice none 0 0,.slice none 0 0,.int .i64 0,.int .i64 0,.slice none 0 0] 262 (0,0)),intA g7 slot,intA g6 id,lnkA g5 l,grdA g4 n s])
  (λk _=>k=0) (λe K=>e=.ret/\∃A cap,∃o:Int,JL n.net s.sch l.1 l.2.1 id slot=some ⟨s.len,s.off,insC s.cells (slot,o,l.1,l.2.1,id)⟩/\K=[blk g9 (.cells #[.bool true] 4 (0,0)),grdA g8 n ⟨s.len,s.off,A,cap,insC s.cells (slot,o,l.1,l.2.1,id)⟩,cels A cap (insC s.cells (slot,o,l.1,l.2.1,id))]) () rfl Yxb (YnM n s l slot k3 k5 k4 hck hl hoff hin hr) rfl hlen0 (by kernel_rfl) (by kernel_rfl) ?_ rfl ?_ ?_ ?_
 ·intro w hw
  have h5:St B w0 (blk g9 (.cells (Value.bool false).cells 4 (0,0))::blk g8 (.cells (Value.agg #[.int .i64 0,.slice none 0 0,.int .i64 0,.int .i64 0,.slice none 0 0,.slice none 0 0,.int .i64 0,.int .i64 0,.slice none 0 0]).cells 262 (0,0))::intA g7 slot::intA g6 id::lnkA g5 l::grdA g4 n s::intA k5 slot::lnkA k4 l::grdA k3 n s::[many R]) w:=by
   revert w
   exact zc0
  exact h5
 ·rintro ly k args R1 ⟨⟩ hk rfl
  obtain⟨o,rfl,hol,hfit,hsl⟩:=YkD (id:=id) hh hk
  dsimp only[Uz,List.cons_append,List.nil_append]
  have hrx:∀{H':List HP},(∀w,St B w0 H' w->St B w0 [many R] w)->Rd B w0 H' s.A (s.cells.flatMap celF):=λh=>hr.mono h
  refine zX2 ?_
  apply JS Yo
  intro R2
  have hpl:posE s.cells (slot,(o:Int),l.1,l.2.1,id)<=s.cells.length:=(YgG ho _).1
  refine zX26 ?_<;>intros
  rename_i g11
  apply Yb YwY
  exact za
  exact rfl
  exactλ_ hw=>(YgR s.cells (slot,(o:Int),l.1,l.2.1,id) ho (by omega) (hrx zc0) hw)
  refine zX10 ?_
  apply Qz (.p1 0 (.p1 1 (.p1 2 (.p1 4 (.p1 5 (.d2 3 (.d1 6 (.d1 7 (.d1 8 (.d1 9 .done)))) 6 (.d1 3 (.d1 7 (.d1 8 (.d1 9 .done)))))))))) [10] [true,false,false,false,false,false,false,true,false,false,false,true]
  kernel_rfl
  kernel_rfl
  exact zy
  (simp only[Yc,nthO];rfl)
  repeat'(first|((apply Yg _ Yfa);exact za;exact rfl;exactλ_ hw=>Jv s.cells (by omega) (hrx zk) hw;rintro _ _ ⟨A1,cap1,rfl,rfl⟩)|(apply VN T T2;(iterate 7 exact rfl);intro gv)|(apply XD [cels A1 cap1 s.cells,blk gv (.cells #[.int .i64 slot,.int .i64 (o:Int),.int .i64 l.1,.int .i64 l.2.1,.int .i64 id] 162 (0,0))] _ YwZ;exact za;try exact zl;exact zp;exact rfl;exactλ_ hw=>Ygr s.cells _ (slot,(o:Int),l.1,l.2.1,id) hpl (by omega) hw;rintro _ _ ⟨A2,cap2,rfl,rfl⟩)|(apply Ylu;(simp only[nthO];rfl))|(apply Yls;(simp only[nthO];rfl);exact zp)|(apply Ylt;(simp only[nthO];rfl);(simp only[nthO];rfl);exact zp)|(apply QF;try exact zl)|refine zgd ?_|fail)
  all_goals(
   refine QE [blk g9 (.cells #[.bool true] 4 (0,0)),grdA g8 n ⟨s.len,s.off,A2,cap2,insC s.cells (slot,(o:Int),l.1,l.2.1,id)⟩,cels A2 cap2 (insC s.cells (slot,(o:Int),l.1,l.2.1,id))] ⟨rfl,A2,cap2,(o:Int),hsl,rfl⟩ ?_
   dsimp only[List.cons_append,List.nil_append]
   unfold insC
   exact zk)
 ·rintro D ⟨⟩ hI
  have hnone:=YkC (id:=id) hh hI
  dsimp only[List.cons_append,List.nil_append]
  refine zX3 ?_
  apply ZZ Yo
  apply VQ_m
  apply Ycu T (H2:=[many R]);(iterate 3 exact rfl);(focus exact zc2);(focus exact zc2);(iterate 3 exact rfl);(intro w hw;refine hw.perm ?_;focus exact zc4)
  exact .inr (.inl ⟨rfl,hnone,rfl⟩)
 ·rintro D e K ⟨rfl,A,cap,o,hsl,rfl⟩ hjmp
  dsimp only[List.cons_append,List.nil_append]
  refine zX3 ?_
  apply ZZ Yo
  apply VQ_m
  apply Ycu T (H2:=[cels A cap (insC s.cells (slot,o,l.1,l.2.1,id)),many R]);(iterate 3 exact rfl);(focus exact zc2);(focus exact zc2);(iterate 3 exact rfl);(intro w hw;refine hw.perm ?_;focus exact zc4)
  exact .inr (.inr ⟨A,cap,_,rfl,hsl,rfl⟩)
variable {n:Net}
theorem Sm.few{l:List Flw}{s:Sch}(h:Sm n l s)(hl:s.len<=24):s.cells.length<=768:=by
 have hok:=YO h.ck
 have hnd:(s.cells.map λc=>c.1*32+YF c).Nodup:=by
  refine List.pairwise_map.2 (h.once.imp_of_mem λ{a b} ha hb hab e=>?_)
  have h1:=Xo hok (h.good a ha).1
  have h2:=Xo hok (h.good b hb).1
  have hn:=hok.n1
  grind [Yx]
 have:=Go.Nw.nodup_len 768 _ hnd λx hx=>by
  obtain⟨c,hc,rfl⟩:=TD.1 hx
  have h1:=Xo hok (h.good c hc).1
  have hn:=hok.n1
  have hf:=h.formed c hc
  unfold XJ XK insE at hf
  grind
 simp_all
variable {B:Nat}{w0 w:World}{H:List HP}
theorem Yqw(n:NetM)(s:SchM)(l:Lk)(id slot:Int)(hck:Yl n.net=0)(hl:s.cells.length<=900)(hoff:0<=s.off/\s.off<=16)(ho:Ord s.cells)(hin:n.In B w0 H)(hr:Rd B w0 H s.A (s.cells.flatMap celF))(hw:St B w0 H w):
 CX B w0 312 [grdV n s,lkV l,.int .i64 id,.int .i64 slot] w λv K=>
  (v=.tuple #[grdV n s,.bool true]/\JL n.net s.sch l.1 l.2.1 id slot=some s.sch/\K=H)\/
  (v=.tuple #[grdV n s,.bool false]/\JL n.net s.sch l.1 l.2.1 id slot=none/\K=H)\/
  ∃A cap c,v=.tuple #[grdV n ⟨s.len,s.off,A,cap,insC s.cells c⟩,.bool true]/\JL n.net s.sch l.1 l.2.1 id slot=some ⟨s.len,s.off,insC s.cells c⟩/\K=cels A cap (insC s.cells c)::H:=by
 have hop:∀w,St B w0 [many H] w->St B w0 H w:=λw hw=>hw.perm (.openT H)
 refine(Yk2 n s l id slot hck hl hoff ho (R:=H) (hin.mono hop) (hr.mono hop) (hw.perm (.closeT H))).mono ?_
 rintro e w' ⟨v,K,h1,hst,h⟩
 rcases h with⟨h2,h3,rfl⟩|⟨h2,h3,rfl⟩|⟨A,cap,c,h2,h3,rfl⟩
 ·exact⟨v,_,h1,hop _ hst,.inl ⟨h2,h3,rfl⟩⟩
 ·exact⟨v,_,h1,hop _ hst,.inr (.inl ⟨h2,h3,rfl⟩)⟩
 ·exact⟨v,_,h1,hst.perm (.cons _ (.openT H)),.inr (.inr ⟨A,cap,c,h2,h3,rfl⟩)⟩
structure ReM where
 i:Nat
 s:SchM
 z:Int
 L:List HP
theorem YkM(m k:Nat)(h:k<m):(List.range m).drop k=k::(List.range m).drop (k+1):=by
 grind [Rm]
theorem Ykv{r:List Int}{k:Nat}(h:k+1<r.length):(Yp n r).drop k=XS n r k::(Yp n r).drop (k+1):=by
 unfold Yp
 rw[<-NA,<-NA,YkM _ _ (by omega),Rx]
abbrev flwA(g:Nat)(f:Flw):HP:=blk g (.cells #[.int .i64 f.1,.int .i64 f.2.1,.int .i64 f.2.2.1,.int .i64 f.2.2.2.1,.int .i64 f.2.2.2.2.1,.int .i64 f.2.2.2.2.2] 45 (0,0))
theorem Ynv(n:Net)(a b id:Int)(f:Nat)(s:Sch)(z:Int):hopA n a b id f 0 s z=some (s,z):=by cases f<;>rfl
structure FilI(n:NetM)(L:List Flw)(len off:Int)(B:Nat)(w0:World)(H:List HP)(s:SchM)(P:List HP):Prop where
 sm:Sm n.net L s.sch
 len:s.len=len
 off:s.off=off
 rd:Rd B w0 (many P::[many H]) s.A (s.cells.flatMap celF)
theorem YeG(n:NetM)(L:List Flw)(s:SchM)(f:Flw)(r:RowM)(at_:Int)(hsm:Sm n.net L s.sch)(h24:s.len<=24)(hk:∀x∈Yp n.net r.xs,LkOk n.net L x.1 x.2.1 f.1)(hkey:∀i,i+1<r.xs.length->0<=Yq n.net (r.xs.getD i 0) (r.xs.getD (i+1) 0))
 (hrl:1<=r.xs.length/\r.xs.length<=9) (hat:0<=at_/\at_<=1000) (hd:0<=f.2.2.2.2.2/\f.2.2.2.2.2<=512) {R:List HP}(hin:n.In B w0 H) (hr:Rd B w0 H s.A (s.cells.flatMap celF)) (hrr:Rd B w0 H r.A (r.xs.flatMap numF)) (hw:St B w0 (many R::H) w):
 CX B w0 235 [grdV n s,flwV f,.slice r.A r.xs.length r.cap,.int .i64 at_] w λv K=>∃s' ok P,v=.tuple #[grdV n s',.bool ok]/\
  (ok=true->relA n.net f.1 (at_+f.2.2.2.2.2) (Yp n.net r.xs) s.sch at_=some s'.sch/\Rd B w0 (many P::H) s'.A (s'.cells.flatMap celF))/\(ok=false->relA n.net f.1 (at_+f.2.2.2.2.2) (Yp n.net r.xs) s.sch at_=none)/\K=many P::many R::H:=by
 refine Ya Tryz.func235 Tryz.ntmps235 rfl rfl hw ?_
 have hop:∀w,St B w0 [many H] w->St B w0 H w:=λw hw=>hw.perm (.openT H)
 have hin:=hin.mono hop
 have hr:=hr.mono hop
 have hrr:=hrr.mono hop
 have hok:=YO hsm.ck
 obtain⟨endd,hend⟩:∃e,at_+f.2.2.2.2.2=e:=⟨_,rfl⟩
 obtain⟨RR,hRR⟩:∃R,relA n.net f.1 endd (Yp n.net r.xs) s.sch at_=R:=⟨_,rfl⟩
 rw[hend,hRR]
 have hsz:1<=s.len/\s.len<=512/\1<=s.off/\s.off<=16:=TT hsm.sized
 refine Y6 (many R::[many H]) (λw hw=>hw.perm (.cons _ (.closeT H))) ?_
 refine Y6 (many []::many R::[many H]) (λw hw=>hw.perm (.noMany _)) ?_
 unfold grdV flwV
 refine zX67 ?_<;>intros
 rename_i g4 g5 g8
 rw[hend]
 refine Ye (λz:ReM=>[(11,.int .i64 (z.i:Nat)),(10,.int .i64 endd),(9,.bool false),(3,.int .i64 z.z),(2,.slice r.A r.xs.length r.cap),(4,.pointer (some ⟨g4,0,none⟩)),(5,.pointer (some ⟨g5,0,none⟩)),(8,.pointer (some ⟨g8,0,none⟩))])
  (λz=>grdA g4 n z.s::flwA g5 f::blk g8 (.cells #[.int .i64 0,.slice none 0 0,.int .i64 0,.int .i64 0,.slice none 0 0,.slice none 0 0,.int .i64 0,.int .i64 0,.slice none 0 0] 262 (0,0))::many z.L::many R::[many H])
  (λz=>(1<=z.i/\z.i<=r.xs.length)/\FilI n L s.len s.off B w0 H z.s z.L/\(0<=z.z/\z.z<=endd)/\relA n.net f.1 endd ((Yp n.net r.xs).drop (z.i-1)) z.s.sch z.z=RR) (λz=>r.xs.length-z.i) ⟨1,s,at_,[]⟩ ⟨⟨by show 1<=1;omega,hrl.1⟩,⟨hsm,rfl,rfl,hr.cons⟩,⟨hat.1,by show at_<=endd;omega⟩,hRR⟩ ?_ ?_ ?_
 ·exact zc1
 ·intro w hw
  have h5:St B w0 (grdA g4 n s::flwA g5 f::blk g8 (.cells (Value.agg #[.int .i64 0,.slice none 0 0,.int .i64 0,.int .i64 0,.slice none 0 0,.slice none 0 0,.int .i64 0,.int .i64 0,.slice none 0 0]).cells 262 (0,0))::many []::many R::[many H]) w:=by
   revert w
   exact zc0
  exact h5
 rintro⟨i,s1,z,P⟩ ⟨⟨hi1,hi2⟩,hF,hz,hrel⟩ K hK
 dsimp only at hi1 hi2 hF hz hrel⊢
 by_cases hlt:i<r.xs.length
 rotate_left
 ·obtain rfl:i=r.xs.length:=by omega
  clear hK
  rw[Rb (by unfold Yp;simp)]at hrel
  refine zX0 ?_<;>intros
  apply Yy T (H2:=many P::many R::H);(iterate 3 exact rfl);(focus exact zc2);exact rfl;exact rfl
  ·intro w hw
   have h5:St B w0 (many P::many R::[many H]) w:=by
    revert w
    exact zc0
   exact Ymr
  exact YtS
 obtain⟨k,rfl⟩:∃k,i=k+1:=⟨i-1,by omega⟩
 rw[SX,Ykv hlt]at hrel
 obtain⟨a,ha⟩:∃a,r.xs[(((k+1:Nat):Int)-1).toNat]? =some a:=⟨_,Ta (by omega)⟩
 obtain⟨b,hb⟩:∃b,r.xs[((k+1:Nat):Int).toNat]? =some b:=⟨_,Ta (by omega)⟩
 have ha2:r.xs.getD k 0=a:=by rw[Tz,<-show(((k+1:Nat):Int)-1).toNat=k by omega,ha];rfl
 have hb2:r.xs.getD (k+1) 0=b:=by rw[Tz,<-show((k+1:Nat):Int).toNat=k+1 by omega,hb];rfl
 have hfi:=hkey k hlt
 rw[ha2,hb2]at hfi
 have hfl:=XV hfi
 have hlk:n.links[(Yq n.net a b).toNat]? =some (XS n.net r.xs k):=by
  unfold XS
  rw[ha2,hb2]
  obtain⟨x,hx⟩:∃x,n.links[(Yq n.net a b).toNat]? =some x:=⟨_,Ta hfl⟩
  rw[JF (n:=n.net) hx];exact hx
 obtain⟨lk,hlkd⟩:∃lk,XS n.net r.xs k=lk:=⟨_,rfl⟩
 rw[hlkd]at hlk hrel
 have pi:=λ{H':List HP}{w:World}(hin:n.In B w0 H') (hw:St B w0 H' w)=>Zv n a b hin hw
 rw[show Zj n.net a b=Yq n.net a b by unfold Zj;rw[Tj (λe=>e hsm.ck)]]at pi
 unfold NetM.val at pi
 have hnl:n.links.length<=128:=hok.k0
 have hnlk:=hin.lk
 have hfl2:(Yq n.net a b).toNat<n.links.length:=hfl
 refine zX1 ?_<;>intros
 refine Zs (λg12:Nat=>[(12,.pointer (some ⟨g12,0,none⟩)),(11,.int .i64 ((k+1:Nat):Int)),(10,.int .i64 endd),(9,.bool false),(3,.int .i64 z),(2,.slice r.A r.xs.length r.cap),(4,.pointer (some ⟨g4,0,none⟩)),(5,.pointer (some ⟨g5,0,none⟩)),(8,.pointer (some ⟨g8,0,none⟩))])
  (λg12=>lnkA g12 lk::grdA g4 n s1::flwA g5 f::blk g8 (.cells #[.int .i64 0,.slice none 0 0,.int .i64 0,.int .i64 0,.slice none 0 0,.slice none 0 0,.int .i64 0,.int .i64 0,.slice none 0 0] 262 (0,0))::many P::many R::[many H]) ?_ ?_
 ·intro K2 hK2
  apply Jb (.n1 0 (.n1 1 (.n1 2 (.n1 3 (.n1 4 (.n1 5 (.n1 6 (.n1 7 (.n1 8 (.n1 9 (.n1 10 (.n1 11 (.n1 12 (.n1 13 (.n2 14 (.n1 15 (.n1 16 (.n1 17 .done))) 17 (.n1 14 (.n1 15 (.n1 16 .done)))))))))))))))))) [18] [true,true,true,true,true,true]
  kernel_rfl
  kernel_rfl
  exact zy
  (simp only[Yc,nthO];rfl)
  repeat'(first|((apply Yb Vg);exact za;exact rfl;exactλ_ hw=>(pi (hin.mono zk) hw))|refine Yr T ?_|(apply Yh;try exact zl)|apply(zs91 ?_ ?_)|(apply Xf;try exact zl)|refine zgd ?_|(refine zgh ?_;intro _)|fail)
  all_goals(
   rename_i g12
   apply hK2 g12
   ·exact zu
   ·exact zk)
 rintro g12
 dsimp only
 have hlb:=Yb6 hok (r.xs.getD k 0) (r.xs.getD (k+1) 0)
 have hlb2:0<=lk.2.2/\lk.2.2<=7:=by rw[<-hlkd];exact hlb
 obtain⟨HR,hHR⟩:∃R,hopA n.net lk.1 lk.2.1 f.1 (endd-z).toNat (Y2 lk) s1.sch z=R:=⟨_,rfl⟩
 rw[relA,hHR]at hrel
 have hnd:lk.2.2+1=((Y2 lk:Nat):Int):=by unfold Y2;omega
 have hkl:LkOk n.net L lk.1 lk.2.1 f.1:=hk lk (by rw[<-hlkd];exact RJ (TQ.2 (by omega)))
 refine zX10 ?_
 rw[hnd]
 refine Ye (λy:ReM=>[(13,.int .i64 (y.i:Nat)),(12,.pointer (some ⟨g12,0,none⟩)),(11,.int .i64 ((k+1:Nat):Int)),(10,.int .i64 endd),(9,.bool false),(3,.int .i64 y.z),(2,.slice r.A r.xs.length r.cap),(4,.pointer (some ⟨g4,0,none⟩)),(5,.pointer (some ⟨g5,0,none⟩)),(8,.pointer (some ⟨g8,0,none⟩))])
  (λy=>lnkA g12 lk::grdA g4 n y.s::flwA g5 f::blk g8 (.cells #[.int .i64 0,.slice none 0 0,.int .i64 0,.int .i64 0,.slice none 0 0,.slice none 0 0,.int .i64 0,.int .i64 0,.slice none 0 0] 262 (0,0))::many y.L::many R::[many H])
  (λy=>FilI n L s.len s.off B w0 H y.s y.L/\(0<=y.z/\y.z<=endd)/\y.i<=8/\hopA n.net lk.1 lk.2.1 f.1 (endd-y.z).toNat y.i y.s.sch y.z=HR) (λy=>(endd-y.z).toNat) ⟨Y2 lk,s1,z,P⟩ ⟨hF,hz,by show Y2 lk<=8;omega,hHR⟩ ?_ ?_ ?_
 ·exact zc1
 ·exact zc0
 clear hF hz hHR
 rintro⟨m,s2,y,P2⟩ ⟨hF,hz,hm8,hHR⟩ K2 hK2
 dsimp only at hF hz hm8 hHR⊢
 cases m with
 |zero=>
  rw[Ynv]at hHR
  subst hHR
  dsimp only at hrel
  clear hK2
  refine zX50 ?_<;>intros
  apply hK ⟨k+1+1,s2,y,P2⟩
  ·exact⟨⟨by show 1<=k+1+1;omega,by show k+1+1<=_;omega⟩,hF,hz,hrel⟩
  ·exact zc50
  ·exact zc1
  ·exact zc0
 |succ m=>
 by_cases hlt2:y<endd
 rotate_left
 ·rw[show(endd-y).toNat=0 by omega,hopA]at hHR
  subst hHR
  dsimp only at hrel
  clear hK2 hK
  refine zX50 ?_<;>intros
  apply Yy T (H2:=many P2::many R::H);(iterate 3 exact rfl);(focus exact zc2);exact rfl;exact rfl
  ·intro w hw
   have h5:St B w0 (many P2::many R::[many H]) w:=by
    revert w
    exact zc0
   exact Ymr
  exact⟨s2,false,P2,rfl,λh=>(by cases h),λ_=>hrel.symm,rfl⟩
 have hfew:=hF.sm.few (by show s2.len<=24;rw[hF.len];exact h24)
 have h2l:=hF.len
 have h2o:=hF.off
 have ps:=λ{H':List HP}{w:World}(hin:n.In B w0 H') (hr:Rd B w0 H' s2.A (s2.cells.flatMap celF)) (hw:St B w0 H' w)=>Yqw n s2 lk f.1 (y%s2.len) hsm.ck (by have:s2.sch.cells.length=s2.cells.length:=rfl;omega) ⟨by omega,by omega⟩ hF.sm.ord hin hr hw
 unfold grdV lkV at ps
 rw[show(endd-y).toNat=(endd-(y+1)).toNat+1 by omega,hopA,Rh hz.1]at hHR
 refine zX0 ?_<;>intros
 apply UB [0,1,2,3,4,5,6,7,8,9,10,12,11] [12,13,14] [13,14] [true,true,true,true,true,true,true]
 kernel_rfl
 kernel_rfl
 exact zy
 (simp only[Yc,nthO];rfl)
 (simp only[Yc,nthO];rfl)
 refine zX3 ?_
 apply Yg _ YwC
 exact za
 exact rfl
 exactλ_ hw=>(ps (hin.mono zc0) (hF.rd.mono zc0) (hw))
 rintro _ _ (⟨rfl,hs,rfl⟩|⟨rfl,hs,rfl⟩|⟨A3,cap3,c3,rfl,hs,rfl⟩)
 ·rw[show JL n.net s2.sch lk.1 lk.2.1 f.1 (y%s2.sch.len)=some s2.sch from hs]at hHR
  dsimp only at hHR
  refine zX16 ?_
  rw[show((m+1:Nat):Int)-1=(m:Nat) by omega]
  apply hK2 ⟨m,s2,y+1,P2⟩
  ·exact⟨hF,⟨by show 0<=y+1;omega,by show y+1<=endd;omega⟩,by show m<=8;omega,hHR⟩
  ·exact zc50
  ·exact zc1
  ·exact zc0
 ·rw[show JL n.net s2.sch lk.1 lk.2.1 f.1 (y%s2.sch.len)=none from hs]at hHR
  dsimp only at hHR
  refine zX16 ?_
  apply hK2 ⟨m+1,s2,y+1,P2⟩
  ·exact⟨hF,⟨by show 0<=y+1;omega,by show y+1<=endd;omega⟩,hm8,hHR⟩
  ·exact zc50
  ·exact zc1
  ·exact zc0
 ·rw[show JL n.net s2.sch lk.1 lk.2.1 f.1 (y%s2.sch.len)=some ⟨s2.len,s2.off,insC s2.cells c3⟩ from hs]at hHR
  dsimp only at hHR
  have hmz:0<=y%s2.len/\y%s2.len<s2.len:=⟨Int.emod_nonneg _ (by omega),Int.emod_lt_of_pos _ (by omega)⟩
  obtain⟨hsm3,-,-⟩:=Yi9 hF.sm hkl hmz hs
  have hop3:∀w,St B w0 (many (cels A3 cap3 (insC s2.cells c3)::[many P2])::[many H]) w->St B w0 (cels A3 cap3 (insC s2.cells c3)::many P2::[many H]) w:=λw hw=>hw.perm (.open_ [_,_] [many H])
  refine zX16 ?_
  rw[show((m+1:Nat):Int)-1=(m:Nat) by omega]
  apply hK2 ⟨m,⟨s2.len,s2.off,A3,cap3,insC s2.cells c3⟩,y+1,cels A3 cap3 (insC s2.cells c3)::[many P2]⟩
  ·exact⟨⟨hsm3,h2l,h2o,(Rd.sl (.head _)).mono hop3⟩,⟨by show 0<=y+1;omega,by show y+1<=endd;omega⟩,by show m<=8;omega,hHR⟩
  ·exact zc50
  ·exact zc1
  ·intro w hw
   have h5:St B w0 (lnkA g12 lk::grdA g4 n ⟨s2.len,s2.off,A3,cap3,insC s2.cells c3⟩::flwA g5 f::blk g8 (.cells #[.int .i64 0,.slice none 0 0,.int .i64 0,.int .i64 0,.slice none 0 0,.slice none 0 0,.int .i64 0,.int .i64 0,.slice none 0 0] 262 (0,0))::cels A3 cap3 (insC s2.cells c3)::many P2::many R::[many H]) w:=by
    revert w
    exact zc0
   exact h5.perm (.cons _ (.cons _ (.cons _ (.cons _ (.close [_,_] (many R::[many H]))))))
structure Yoq(n:NetM)(L:List Flw)(id:Int)(r:RowM):Prop where
 lk:∀x∈Yp n.net r.xs,LkOk n.net L x.1 x.2.1 id
 key:∀i,i+1<r.xs.length->0<=Yq n.net (r.xs.getD i 0) (r.xs.getD (i+1) 0)
 len:1<=r.xs.length/\r.xs.length<=9
structure PlM2 where
 i:Nat
 s:SchM
 P:List HP
theorem YiK(n:NetM)(L:List Flw)(s:SchM)(x:RqM)(hsm:Sm n.net L s.sch)(h24:s.len<=24)(hrow:∀r∈x.rows,Yoq n L x.f.1 r)(hf:Xi n.net.nodes x.f=0){B:Nat}{w0:World}{H:List HP}{w:World}(hin:n.In B w0 H)(hr:Rd B w0 H s.A (s.cells.flatMap celF))(hx:x.In B w0 H)(hw:St B w0 H w):
 CX B w0 154 [n.val,s.val,rqV x] w λv K=>∃(s':SchM) (ok:Bool) (P:List HP),v=.tuple #[s'.val,.bool ok]/\
  (ok=true->JG n.net x.f (x.rows.map (·.xs)) s.sch=some s'.sch/\Rd B w0 (many P::H) s'.A (s'.cells.flatMap celF))/\(ok=false->JG n.net x.f (x.rows.map (·.xs)) s.sch=none)/\K=many P::H:=by
 refine Ya Tryz.func154 Tryz.ntmps154 rfl rfl hw ?_
 have hop:∀w,St B w0 [many H] w->St B w0 H w:=λw hw=>hw.perm (.openT H)
 have hin:=hin.mono hop
 have hr:=hr.mono hop
 have hx:=hx.mono hop
 obtain⟨-,hper,hph,-,hd⟩:=ZS hf
 have hxr:=hx.rt
 have hxl:=hx.ln
 obtain⟨RR,hRR⟩:∃R,JG n.net x.f (x.rows.map (·.xs)) s.sch=R:=⟨_,rfl⟩
 rw[hRR]
 have hsz:1<=s.len/\s.len<=512/\1<=s.off/\s.off<=16:=TT hsm.sized
 refine Y6 [many H] (λw hw=>hw.perm (.closeT H)) ?_
 refine Y6 (many []::[many H]) (λw hw=>hw.perm (.noMany _)) ?_
 unfold NetM.val SchM.val rqV
 refine zX26 ?_<;>intros
 rename_i g3 g4 g5 g6 g8
 refine Ye (λz:PlM2=>[(19,.int .i64 (z.i:Nat)),(18,.int .i64 x.rows.length),(17,.slice x.A x.rows.length x.cap),(9,.bool true),(7,.bool false),(8,.pointer (some ⟨g8,0,none⟩)),(6,.pointer (some ⟨g6,0,none⟩)),(5,.pointer (some ⟨g5,0,none⟩)),(4,.pointer (some ⟨g4,0,none⟩)),(3,.pointer (some ⟨g3,0,none⟩))])
  (λz=>grdA g8 n z.s::blk g6 (.cells #[.int .i64 0,.int .i64 0,.slice none 0 0] 33 (0,0))::rqA g5 x::schA g4 s::many z.P::[many H])
  (λz=>z.i<=x.rows.length/\FilI n L s.len s.off B w0 H z.s z.P/\JG n.net x.f ((x.rows.map (·.xs)).drop z.i) z.s.sch=RR) (λz=>x.rows.length-z.i) ⟨0,s,[]⟩ ⟨Td _,⟨hsm,rfl,rfl,hr.cons⟩,hRR⟩ ?_ ?_ ?_
 ·exact zc1
 ·intro w hw
  have h5:St B w0 (grdA g8 n s::blk g6 (.cells (Value.agg #[.int .i64 0,.int .i64 0,.slice none 0 0]).cells 33 (0,0))::rqA g5 x::schA g4 s::many []::[many H]) w:=by
   revert w
   exact zc0
  exact h5
 rintro⟨i,s1,P⟩ ⟨hi,hF,hrel⟩ K hK
 dsimp only at hi hF hrel⊢
 by_cases hlt:i<x.rows.length
 rotate_left
 ·obtain rfl:i=x.rows.length:=by omega
  clear hK
  rw[Rb Yq0]at hrel
  refine Yel ?_<;>intros
  apply Yy T (H2:=many P::H);(iterate 3 exact rfl);(focus exact zc2);exact rfl;exact rfl
  ·intro w hw
   have h5:St B w0 (many P::[many H]) w:=by
    revert w
    exact zc0
   exact zc69
  exact YtS
 obtain⟨r,hrx⟩:∃r,x.rows[i]? =some r:=⟨_,Ta hlt⟩
 have hrm:r∈x.rows:=Tc hrx
 have hro:=hrow r hrm
 have hdrop:(x.rows.map (·.xs)).drop i=r.xs::(x.rows.map (·.xs)).drop (i+1):=by
  have hl2:i<(x.rows.map (·.xs)).length:=by rw[To];exact hlt
  rw[Rm hl2]
  congr 1
  have h6:(x.rows.map (·.xs))[i]? =some r.xs:=by rw[TN,hrx];rfl
  rw[Ta hl2]at h6
  exact TJ h6
 rw[hdrop,JG]at hrel
 obtain⟨HR,hHR⟩:∃R,Yai n.net x.f (Yp n.net r.xs) s1.sch.len.toNat s1.sch x.f.2.2.2.2.1=R:=⟨_,rfl⟩
 rw[hHR]at hrel
 have hl1:s1.sch.len=s.len:=hF.len
 rw[hl1]at hHR
 refine zX50 ?_<;>intros
 refine Ye (λz:PlM2=>[(12,.int .i64 (x.f.2.2.2.2.1+(z.i:Int)*x.f.2.2.2.1)),(11,.slice r.A r.xs.length r.cap),(19,.int .i64 (i:Nat)),(18,.int .i64 x.rows.length),(17,.slice x.A x.rows.length x.cap),(9,.bool true),(7,.bool false),(8,.pointer (some ⟨g8,0,none⟩)),(6,.pointer (some ⟨g6,0,none⟩)),(5,.pointer (some ⟨g5,0,none⟩)),(4,.pointer (some ⟨g4,0,none⟩)),(3,.pointer (some ⟨g3,0,none⟩))])
  (λz=>grdA g8 n z.s::blk g6 (.cells #[.int .i64 0,.int .i64 0,.slice none 0 0] 33 (0,0))::rqA g5 x::schA g4 s::many z.P::[many H])
  (λz=>z.i<=s.len.toNat/\FilI n L s.len s.off B w0 H z.s z.P/\Yai n.net x.f (Yp n.net r.xs) (s.len.toNat-z.i) z.s.sch (x.f.2.2.2.2.1+(z.i:Int)*x.f.2.2.2.1)=HR) (λz=>s.len.toNat-z.i) ⟨0,s1,P⟩ ⟨Td _,hF,by simpa using hHR⟩ ?_ ?_ ?_
 ·dsimp only
  rw[show x.f.2.2.2.2.1+((0:Nat):Int)*x.f.2.2.2.1=x.f.2.2.2.2.1 by simp]
  exact zc1
 ·exact zc0
 clear hF hHR hl1
 rintro⟨j,s2,P2⟩ ⟨hj,hF,hHR⟩ K2 hK2
 dsimp only at hj hF hHR⊢
 have hl2:s2.sch.len=s.len:=hF.len
 obtain⟨y,hy⟩:∃y:Int,x.f.2.2.2.2.1+(j:Int)*x.f.2.2.2.1=y:=⟨_,rfl⟩
 have hjy:(j:Int)<=(j:Int)*x.f.2.2.2.1:=by
  have:=SN hper.1 (show(0:Int)<=j by omega)
  rw[Int.mul_one]at this
  exact this
 rw[hy]at hHR⊢
 by_cases hyl:y<s.len
 rotate_left
 ·have hHR2:HR=some s2.sch:=by
   rw[<-hHR]
   cases s.len.toNat-j with
   |zero=>rfl
   |succ k=>rw[Yai,Tj (by rw[hl2];exact hyl)]
  rw[hHR2]at hrel
  dsimp only at hrel
  clear hK2
  refine zX0 ?_<;>intros
  apply hK ⟨i+1,s2,P2⟩
  ·exact⟨by exact Qf,hF,hrel⟩
  ·exact zc50
  ·exact zc1
  ·exact zc0
 obtain⟨k,hk⟩:∃k,s.len.toNat-j=k+1:=⟨s.len.toNat-j-1,by omega⟩
 rw[hk,Yai,Tn (by rw[hl2];exact hyl)]at hHR
 have hxw:=hx.rw_ r hrm
 have pr:=λ{R':List HP}{w:World}(hw:St B w0 (many R'::many P2::[many H]) w)=>YeG n L s2 x.f r y hF.sm (by have:=hF.len;omega) hro.lk hro.key hro.len ⟨by omega,by omega⟩ ⟨by omega,by omega⟩ (R:=R') (H:=many P2::[many H]) hin.cons hF.rd hxw.cons hw
 unfold grdV flwV at pr
 repeat'(first|refine Yr T ?_|refine zgb ?_|(refine zge ?_ ?_<;>intro _<;>try exact zo)|fail)
 apply Zh (many [grdA g8 n s2,blk g6 (.cells #[.int .i64 0,.int .i64 0,.slice none 0 0] 33 (0,0)),rqA g5 x,schA g4 s]::many P2::[many H])
 ·intro w hw
  have h5:St B w0 (grdA g8 n s2::blk g6 (.cells #[.int .i64 0,.int .i64 0,.slice none 0 0] 33 (0,0))::rqA g5 x::schA g4 s::many P2::[many H]) w:=by
   revert w
   exact zc0
  exact h5.perm (.close [_,_,_,_] (many P2::[many H]))
 apply Yg _ Ywj
 exact za
 exact rfl
 exactλ_ hw=>(pr (hw))
 rintro _ _ ⟨s3,ok,P3,rfl,ho1,ho2,rfl⟩
 apply Zh (many P3::grdA g8 n s2::blk g6 (.cells #[.int .i64 0,.int .i64 0,.slice none 0 0] 33 (0,0))::rqA g5 x::schA g4 s::many P2::[many H])
 ·exactλw hw=>hw.perm (.cons _ (.open_ [_,_,_,_] (many P2::[many H])))
 cases ok with
 |false=>
  have hn:=ho2 rfl
  rw[hn]at hHR
  dsimp only at hHR
  rw[<-hHR]at hrel
  dsimp only at hrel
  clear hK hK2
  refine zX3 ?_
  apply Yy T (H2:=many P2::H);(iterate 3 exact rfl);(focus exact zc2);exact rfl;exact rfl
  ·intro w hw
   have h5:St B w0 (many P2::[many H]) w:=by
    revert w
    exact zc0
   exact zc69
  exact⟨s,false,P2,rfl,λh=>(by cases h),λ_=>hrel.symm,rfl⟩
 |true=>
  obtain⟨h1,hrd3⟩:=ho1 rfl
  rw[h1]at hHR
  dsimp only at hHR
  obtain⟨hsm3,hg3,-⟩:=YgJ (Yp n.net r.xs) hro.lk hF.sm (by omega) (by omega) (by rw[hl2];omega) h1
  have h3l:s3.len=s.len:=hg3.len.trans hF.len
  have h3o:s3.off=s.off:=hg3.off.trans hF.off
  have hyn:x.f.2.2.2.2.1+((j+1:Nat):Int)*x.f.2.2.2.1=y+x.f.2.2.2.1:=by
   rw[<-hy,show((j+1:Nat):Int)=(j:Int)+1 by omega,Int.add_mul];omega
  refine zX10 ?_
  apply hK2 ⟨j+1,s3,[many P3,many P2]⟩
  ·refine⟨by exact Yjy,⟨hsm3,h3l,h3o,hrd3.mono λw hw=>hw.perm (.open_ [_,_] [many H])⟩,?_⟩
   dsimp only
   rw[hyn,show s.len.toNat-(j+1)=k by omega]
   exact hHR
  ·exact zc50
  ·dsimp only
   rw[hyn]
   exact zc1
  ·intro w hw
   have h5:St B w0 (grdA g8 n s3::blk g6 (.cells #[.int .i64 0,.int .i64 0,.slice none 0 0] 33 (0,0))::rqA g5 x::schA g4 s::many P3::many P2::[many H]) w:=by
    revert w
    exact zc0
   exact h5.perm (.cons _ (.cons _ (.cons _ (.cons _ (.close [_,_] [many H])))))
variable {B:Nat}{w0 w:World}{H:List HP}
theorem YbE(n:NetM)(q:List RqM)(s:SchM){A:Option Addr}{cap:Nat}(ht:TabsB B w0)(hin:n.In B w0 H)(hq:QIn B w0 H A q)(hrs:Rd B w0 H s.A (s.cells.flatMap celF))(hsl:s.cells.length<=1000000000000)(hw:St B w0 H w):
 CX B w0 123 [n.val,.slice A q.length cap,s.val] w λv K=>v=.bool (decide ((YJ n.net (q.map RqM.rq) s.sch).2.2=0))/\K=H:=by
 refine Ya Tryz.func123 Tryz.ntmps123 rfl rfl hw ?_
 have p1:=λ{H':List HP}{w:World}(hin:n.In B w0 H') (hq:QIn B w0 H' A q) (hrs:Rd B w0 H' s.A (s.cells.flatMap celF)) (hw:St B w0 H' w)=>UY n q s (cap:=cap) ht hin hq hrs hsl hw
 unfold OutC NetM.val SchM.val at p1
 obtain⟨⟨RC,ri,re⟩,hR⟩:∃R,YJ n.net (q.map RqM.rq) s.sch=R:=⟨_,rfl⟩
 rw[hR]at p1⊢
 dsimp only at p1⊢
 unfold NetM.val SchM.val
 refine zX73 ?_<;>intros
 apply Yg _ en90
 exact za
 exact rfl
 exactλ_ hw=>(p1 hin.cons.cons hq.cons.cons hrs.cons.cons (hw))
 rintro _ _ ⟨A2,cap2,C,rfl,hC,hCl,rfl⟩
 by_cases h0:re=0
 ·rw[Tf h0]
  refine Yaw ?_<;>intros
  apply Yf H
  ·exact zc0
  apply Yd;exact rfl;exact rfl;grind
 ·rw[Ti h0]
  refine Yaw ?_<;>intros
  apply Yf H
  ·exact zc0
  exact zc10
theorem YrB(s:SchM)(id:Int)(hf:Xd s.sch=true):QW s.sch id=(⟨s.len,s.off,s.cells.filter λc=>!(decide (XE c=id))⟩,0):=by
 unfold QW
 rw[Tj (by simp_all)]
 unfold Ysu
 have h2:(λc:Cel=>decide (XE c≠id))=λc=>!(decide (XE c=id)):=by
  simp_all
 rw[h2]
 exact rfl
theorem YmB(s:SchM)(id:Int)(ht:TabsB B w0)(hr:Rd B w0 H s.A (s.cells.flatMap celF))(hl:s.cells.length<=1000000000000)(hw:St B w0 H w):
 CX B w0 78 [s.val,.int .i64 id] w (OutS H (QW s.sch id)):=by
 refine Ya Tryz.func78 Tryz.ntmps78 rfl rfl hw ?_
 have p1:=λ{H':List HP}{w:World}(hr:Rd B w0 H' s.A (s.cells.flatMap celF)) (hw:St B w0 H' w)=>Wp s ht hr hl hw
 unfold SchM.val at p1⊢
 repeat'(first|(apply zg23;first|(refine zs52 ?_;intro _)|(refine zs53 ?_;intro _))|refine zgb ?_|(refine zgh ?_;intro _)|fail)
 apply Yb en82
 exact za
 exact rfl
 exactλ_ hw=>(p1 hr.cons.cons.cons hw)
 cases hf:Xd s.sch with
 |false=>
  rw[show(Xq s.sch).2=1 by unfold Xq;rw[hf,Tn rfl]]
  repeat'(first|refine zgd ?_|(refine zge ?_ ?_<;>intro _<;>try exact zo)|fail)
  apply Yy T (H2:=cels none 0 []::H);(iterate 3 exact rfl);exact zm;exact rfl;exact rfl;(intro w hw;refine St.nilSlice (H:=H) ?_ _ _;revert w;exact zk)
  exact Ur 1 (by rw[QW,Tn hf]) rfl
 |true=>
  rw[show(Xq s.sch).2=0 by unfold Xq;rw[hf,Tj (by decide)]]
  have hle:s.cells.length<=512:=(XF.1 hf).few
  repeat'(first|refine zgc ?_|(refine zge ?_ ?_<;>intro _<;>try exact zo)|fail)
  rename_i g2 g3 g4
  apply Yg _ Yfa
  exact za
  exact rfl
  exactλ_ hw=>(Jv s.cells (by omega) hr.cons.cons.cons (hw))
  rintro _ _ ⟨A1,c1,rfl,rfl⟩
  repeat'(first|(apply zg29;(apply Ys;exact za;exact rfl))|fail)
  apply Yg _ YlF
  exact za
  exact rfl
  exactλ_ hw=>(Ui (λc=>decide (XE c=id)) s.cells 163 [.pointer (some ⟨g2,0,none⟩)] YvY (by omega) (λc _ X w hw=>Yj5 c id g2 (SG _ zm) hw) (hw))
  rintro _ _ ⟨rfl,rfl⟩
  have hd:=YrB s id hf
  repeat'(first|refine zgd ?_|fail)
  apply Yy T (H2:=cels A1 c1 (s.cells.filter λc=>!(decide (XE c=id)))::H);(iterate 3 exact rfl);exact zm;exact rfl;exact rfl;exact zk
  rw[hd]
  exact⟨A1,c1,rfl,rfl⟩
end Go.Proofs.YtjommdkgfbhbdaaGreatDoor
