/- Lemmas. -/
import Derived.LoopN
import Derived.StillTailTactics
import Derived.Test.YtambgjgljcadlaaGreatDoorQ14
set_option maxRecDepth 100000
set_option maxHeartbeats 8000000
set_option linter.all false
namespace Go.Proofs.YtambgjgljcadlaaGreatDoor
open Go.RowKit Go.Eng Go.Nw Go.Rt
variable {B:Nat}{w0 w:World}{H:List HP}
theorem WQ(f:Flw)(hf:YX 32 f=0)(hw:St B w0 H w):
 CX B w0 50 [flwV f] w λv K=>v=.int .i64 0/\K=H:=by
 refine Ya Tryz.func50 Tryz.ntmps50 rfl rfl hw ?_
 have p1:=λ{H':List HP}{w:World}(hw:St B w0 H' w)=>WS 32 f hw
 rw[hf]at p1
 unfold flwV at p1⊢
 repeat'(first|((first|apply Yb YeC|apply Yc YeC);exact za;exact rfl;exactλ_ hw=>(p1 hw))|refine zgb ?_|(refine zgh ?_;intro _)|fail)
 apply Yg H
 ·exact zc0
 exact zc22
variable {f:Flw}
theorem XW(hf:YX 32 f=0):(1<=f.2.2.2.1/\f.2.2.2.1<=512)/\(0<=f.2.2.2.2.1/\f.2.2.2.2.1<f.2.2.2.1)/\f.2.1≠f.2.2.1/\(1<=f.2.2.2.2.2/\f.2.2.2.2.2<=f.2.2.2.1):=by
 unfold YX at hf
 omega
theorem YrQ(hf:YX 32 f=0):FlOk f:=by
 obtain⟨h1,h2,h3,h4⟩:=XW hf
 exact⟨h1.1,h2.1,h3⟩
theorem Yf2(f:Flw)(n:Int)(hf:YX 32 f=0)(hn:0<=n/\n<=1000000)(hw:St B w0 H w):
 CX B w0 181 [flwV f,.int .i64 n] w λv K=>v=.tuple #[.int .i64 (if n<f.2.2.2.2.1 then 0 else(n-f.2.2.2.2.1)/f.2.2.2.1),.bool (decide (f.2.2.2.2.1<=n))]/\K=H:=by
 refine Ya Tryz.func181 Tryz.ntmps181 rfl rfl hw ?_
 obtain⟨h1,h2,-,-⟩:=XW hf
 have p1:=λ{H':List HP}{w:World}(hw:St B w0 H' w)=>WQ f hf hw
 unfold flwV at p1⊢
 by_cases hlt:n<f.2.2.2.2.1
 ·rw[Tj hlt,Tn (by omega)]
  repeat'(first|((first|apply Yb en50|apply Yc en50);exact za;exact rfl;exactλ_ hw=>(p1 hw))|refine zgc ?_|(refine zge ?_ ?_<;>intro _<;>try exact zo)|(refine zgh ?_;intro _)|fail)
  apply Yg H
  ·exact zc0
  exact zc64
 ·rw[Tf hlt,Ti (by omega)]
  refine zX70 ?_<;>intros
  apply Yg H
  ·exact zc0
  exact zc64
theorem YhS{k:Int}(hf:YX 32 f=0)(hk:0<=k/\k<=1000000):0<=k*f.2.2.2.1/\k*f.2.2.2.1<=512000000:=by
 obtain⟨h1,-,-,-⟩:=XW hf
 have a:=SJ hk.1 (show 0<=f.2.2.2.1 by omega)
 have b:=Int.mul_le_mul hk.2 h1.2 (by omega) (by omega)
 omega
theorem Yd6(f:Flw)(k:Int)(hf:YX 32 f=0)(hk:0<=k/\k<=1000000)(hw:St B w0 H w):
 CX B w0 52 [flwV f,.int .i64 k] w λv K=>v=.tuple #[.int .i64 (YC f k),.int .i64 0]/\K=H:=by
 refine Ya Tryz.func52 Tryz.ntmps52 rfl rfl hw ?_
 obtain⟨h1,h2,-,-⟩:=XW hf
 have h3:=YhS hf hk
 have p1:=λ{H':List HP}{w:World}(hw:St B w0 H' w)=>WQ f hf hw
 unfold YC phaF perF
 unfold flwV at p1⊢
 refine zX70 ?_<;>intros
 apply Yg H
 ·exact zc0
 exact zc64
structure RuM where
 f:Int
 u:Int
 v:Int
 k:Int
 A:Option Addr
 cap:Nat
 os:List Int
def ruF(r:RuM):List Value:=[.int .i64 r.f,.int .i64 r.u,.int .i64 r.v,.int .i64 r.k,.slice r.A r.os.length r.cap]
def ruV(r:RuM):Value:=.agg #[.int .i64 r.f,.int .i64 r.u,.int .i64 r.v,.int .i64 r.k,.slice r.A r.os.length r.cap]
structure RuM.In(B:Nat)(w0:World)(H:List HP)(r:RuM):Prop where
 rd:Rd B w0 H r.A (r.os.flatMap numF)
 ln:r.os.length<=9223372036854775807
structure XIn(B:Nat)(w0:World)(H:List HP)(A:Option Addr)(xs:List RuM):Prop where
 rd:Rd B w0 H A (xs.flatMap ruF)
 x:∀r∈xs,r.In B w0 H
variable {B cap:Nat}{w0 w:World}{H K:List HP}
theorem RuM.In.mono{r:RuM}(h:r.In B w0 H)(hop:∀w,St B w0 K w->St B w0 H w):r.In B w0 K:=⟨h.rd.mono hop,h.ln⟩
variable {A:Option Addr}
theorem XIn.mono{xs:List RuM}(h:XIn B w0 H A xs)(hop:∀w,St B w0 K w->St B w0 H w):XIn B w0 K A xs:=⟨h.rd.mono hop,λr hr=>(h.x r hr).mono hop⟩
def cmpR(a b:RuM):Int:=YJ [cmpI a.f b.f,cmpI a.k b.k,cmpI a.u b.u,cmpI a.v b.v]
theorem Ydl(a b:RuM)(hw:St B w0 H w):
 CX B w0 180 [ruV a,ruV b] w λv K=>v=.int .i64 (cmpR a b)/\K=H:=by
 refine Ya Tryz.func180 Tryz.ntmps180 rfl rfl hw ?_
 unfold ruV
 refine zX16 ?_<;>intros
 apply YD [0,1,2,3,5,6,7,8,10,11,12,13,15,16,17,18,4,9,14,19,20,21,22] [] [true,true]
 kernel_rfl
 kernel_rfl
 exact zy
 (simp only[Yd,nthO];rfl)
 exact rfl
 refine zX17 ?_<;>intros
 rename_i g
 first|apply Yb en48|apply Yc en48
 exact za
 exact rfl
 exactλ_ hw=>(Ygp [cmpI a.f b.f,cmpI a.k b.k,cmpI a.u b.u,cmpI a.v b.v] (by simp) (Rd.blk (g:=g) (cs:=#[.int .i64 (cmpI a.f b.f),.int .i64 (cmpI a.k b.k),.int .i64 (cmpI a.u b.u),.int .i64 (cmpI a.v b.v)]) (by(focus exact zc2))) hw)
 refine zX18 ?_
 apply Yg H
 ·exact zc0
 exact zc30
theorem YgN(l:List RuM)(c:RuM)(hlen:l.length<=1000000000)(hr:Rd B w0 H A (l.flatMap ruF))(hw:St B w0 H w):
 CX B w0 248 [.slice A l.length cap,ruV c,.func (.func 180) #[] #[]] w λv K=>
  (∃(i:Nat) (b:Bool),v=.tuple #[.int .i64 (i:Nat),.bool b]/\(b=true->i<l.length))/\K=H:=by
 refine Ya Tryz.func248 Tryz.ntmps248 rfl rfl hw ?_
 have p1:=λ(a b:RuM) {H':List HP}{w:World}(hw:St B w0 H' w)=>Ydl a b hw
 unfold ruV at p1⊢
 (apply Xm;apply YY;apply YV;exact rfl;exact rfl;intro g)
 refine zX9 ?_
 have hr:=hr.cons (X:=blk g (.cells #[.int .i64 c.f,.int .i64 c.u,.int .i64 c.v,.int .i64 c.k,.slice c.A c.os.length c.cap] 271 (0,0)))
 refine Qh (λ(lo hi:Nat)=>[(9,.int .i64 lo),(10,.int .i64 hi),(8,.int .i64 l.length),(0,.slice A l.length cap),(2,.func (.func 180) #[] #[]),(4,.pointer (some ⟨g,0,none⟩))]) (λ_ _=>blk g (.cells #[.int .i64 c.f,.int .i64 c.u,.int .i64 c.v,.int .i64 c.k,.slice c.A c.os.length c.cap] 271 (0,0))::H)
  (λlo hi=>lo<=hi/\hi<=l.length) (λlo hi=>hi-lo) 0 l.length ⟨by omega,by omega⟩ ?_ (λw hw=>hw) ?_
 ·exact zc1
 rintro lo hi ⟨h1,h2⟩ K hK
 by_cases hlt:lo<hi
 ·obtain⟨b,hb⟩:∃b,l[(((lo:Int)+hi)/2).toNat]? =some b:=⟨_,Ta (by omega)⟩
  repeat'(first|((first|apply YU (cs:=[])|apply Xa (cs:=[]));exact rfl;exact Ylz;exact za;exact rfl;exactλ_ hw=>(p1 b c hw))|(apply zg28;refine zs84 ?_)|refine zgd ?_|(refine zge ?_ ?_<;>intro _<;>try exact zo)|fail)
  ·apply hK ((lo+hi)/2+1) hi
   ·omega
   ·omega
   ·exact zc1
   exact zc19
  ·apply hK lo ((lo+hi)/2)
   ·omega
   ·omega
   ·exact zc1
   exact zc19
 ·obtain rfl:lo=hi:=by omega
  by_cases hl:lo<l.length
  ·obtain⟨b,hb⟩:∃b,l[lo]? =some b:=⟨_,Ta hl⟩
   repeat'(first|((first|apply YU (cs:=[])|apply Xa (cs:=[]));exact rfl;exact Ylz;exact za;exact rfl;exactλ_ hw=>(p1 b c hw))|(apply zg28;refine zs84 ?_)|refine zgd ?_|(refine zge ?_ ?_<;>intro _<;>try exact zo)|fail)
   all_goals(apply Yn;apply YL;(iterate 3 exact rfl);exact⟨⟨lo,_,rfl,λ_=>hl⟩,rfl⟩)
  ·refine zX19 ?_<;>intros
   apply Yn;apply YL;(iterate 3 exact rfl)
   exact⟨⟨lo,_,rfl,λh=>by cases h⟩,rfl⟩
theorem Yj6(x m:Int)(hw:St B w0 H w):
 CX B w0 244 [.int .i64 x,.int .i64 m] w λv K=>v=.bool (decide (0<=x)&&decide (x<=m))/\K=H:=by
 refine Ya Tryz.func244 Tryz.ntmps244 rfl rfl hw ?_
 by_cases h1:0<=x
 ·by_cases h2:x<=m
  ·rw[Ti h1,Ti h2]
   refine zX40 ?_<;>intros
   exact zc13
  ·rw[Ti h1,Tn h2]
   refine zX40 ?_<;>intros
   exact zc13
 ·rw[Tn h1,SD]
  refine zX40 ?_<;>intros
  exact zc13
def outB(o:Int):Bool:=decide (o<1)||decide (3<o)
theorem YiA(o:Int)(hw:St B w0 H w):
 CX B w0 245 [.int .i64 o] w λv K=>v=.bool (outB o)/\K=H:=by
 refine Ya Tryz.func245 Tryz.ntmps245 rfl rfl hw ?_
 unfold outB
 by_cases h1:o<1
 ·rw[Ti h1,Bool.true_or]
  refine zX0 ?_<;>intros
  exact zc13
 ·by_cases h2:3<o
  ·rw[Tn h1,Ti h2]
   refine zX40 ?_<;>intros
   exact zc13
  ·rw[Tn h1,Tn h2]
   refine zX40 ?_<;>intros
   exact zc13
theorem YiN(r:RuM)(hr:r.In B w0 H)(hw:St B w0 H w):
 CX B w0 179 [ruV r] w λv K=>(∃b,v=.bool b)/\K=H:=by
 refine Ya Tryz.func179 Tryz.ntmps179 rfl rfl hw ?_
 have hl:=hr.ln
 have hrd:=hr.rd
 unfold ruV
 repeat'(first|((first|apply JC (cs:=[])|apply JB (cs:=[]));exact rfl;exact Ywf;exact za;exact rfl;exactλ_ hw=>(Yj6 _ _ hw);all_goals(intro hB;(try simp only[Tt,T8]at hB);try exact zo))|((first|apply ZC YeF|apply ZB YeF);exact za;exact rfl;exactλ_ hw=>(JI (λo=>Value.int .i64 o) outB r.os 245 [] Ywg (by omega) zr (λo _ w hw=>YiA o hw) hw);all_goals(intro hB;(try simp only[Tt,T8]at hB);try exact zo))|refine zgd ?_|(refine zgf ?_ ?_<;>intro _<;>try exact zo)|(refine zgh ?_;intro _)|fail)
 all_goals(
  apply Yg H
  ·exact zk
  apply Yf;exact rfl;exact rfl
  exact⟨⟨_,rfl⟩,rfl⟩)
theorem Yjh(xs:List RuM)(hlen:xs.length<=1000000)(hx:XIn B w0 H A xs)(hw:St B w0 H w):
 CX B w0 103 [.slice A xs.length cap] w λv K=>(∃i e:Int,v=.tuple #[.int .i64 i,.int .i64 e])/\K=H:=by
 refine Ya Tryz.func103 Tryz.ntmps103 rfl rfl hw ?_
 have hop:∀w,St B w0 [many H] w->St B w0 H w:=λw hw=>hw.perm (.openT H)
 have hx:=hx.mono hop
 refine XM [many H] (λw hw=>hw.perm (.closeT H)) ?_
 have hrd:=hx.rd
 have leaf:∀{i e:Int}{K:List HP}{v:Value},v=.tuple #[.int .i64 i,.int .i64 e]->K=H->(∃i e:Int,v=.tuple #[.int .i64 i,.int .i64 e])/\K=H:=λh1 h2=>⟨⟨_,_,h1⟩,h2⟩
 by_cases hbig:1024<xs.length
 ·refine zX40 ?_<;>intros
  apply Yg H
  ·intro w hw
   refine hop w ?_
   revert w
   exact zc0
  exact zc70
 refine zX40 ?_<;>intros
 refine Yh (λk:Nat=>[(11,.int .i64 (k:Nat)),(10,.int .i64 xs.length),(9,.slice A xs.length cap),(0,.slice A xs.length cap)]) (λ_=>[many H]) (λk=>k<=xs.length) (λk=>xs.length-k) 0 (Tm _) ?_ (λw hw=>hw) ?_
 ·exact zc1
 rintro k hk K hK
 by_cases hlt:k<xs.length
 rotate_left
 ·clear hK
  refine zX0 ?_<;>intros
  apply Yg H
  ·intro w hw
   refine hop w ?_
   revert w
   exact zc0
  exact zc70
 obtain⟨r,hr⟩:∃r,xs[k]? =some r:=⟨_,Ta hlt⟩
 have hri:=hx.x r (Tc hr)
 have p1:=λ{H':List HP}{w:World}(hr:r.In B w0 H') (hw:St B w0 H' w)=>YiN r hr hw
 have p2:=λ(a b:RuM) {H':List HP}{w:World}(hw:St B w0 H' w)=>Ydl a b hw
 unfold ruV at p1 p2
 refine zX44 ?_<;>intros
 apply Ye _ Yv1
 exact za
 exact rfl
 exactλ_ hw=>(p1 (hri.mono zc0) (hw))
 rintro _ _ ⟨⟨b,rfl⟩,hK0⟩
 rw[hK0]
 cases b with
 |false=>
  refine zX2 ?_
  apply Yg H
  ·intro w hw
   refine hop w ?_
   revert w
   exact zc0
  exact zc70
 |true=>
 by_cases hk0:0<k
 rotate_left
 ·repeat'(first|(apply zg28;refine zs84 ?_)|refine zgd ?_|(refine zgf ?_ ?_<;>intro _<;>try exact zo)|fail)
  apply hK (k+1)
  ·show k+1<=_
   omega
  ·omega
  ·exact zc1
  ·exact zc0
 obtain⟨q,hq⟩:∃q,xs[k-1]? =some q:=⟨_,Ta (by omega)⟩
 have hq2:xs[((k:Int)-1).toNat]? =some q:=by rw[show((k:Int)-1).toNat=k-1 by omega];exact hq
 repeat'(first|((first|apply Yb Ylz|apply Yc Ylz);exact za;exact rfl;exactλ_ hw=>(p2 q r hw))|(apply zg28;refine zs84 ?_)|refine zgd ?_|(refine zgf ?_ ?_<;>intro _<;>try exact zo)|fail)
 ·apply Yg H
  ·intro w hw
   refine hop w ?_
   revert w
   exact zc0
  exact zc70
 ·apply hK (k+1)
  ·show k+1<=_
   omega
  ·omega
  ·exact zc1
  ·exact zc0
def iE(es:List (Int×Int×Nat)):Ents:=es.map λe=>(e.1,Value.int .i64 e.2.1,e.2.2)
def wE(es:List (KL×Int×Nat)):YR:=es.map λe=>(e.1,Value.int .i64 e.2.1,e.2.2)
def Jo(es:List (Int×Int×Nat))(k:Int):Option Int:=(es.find? λe=>e.1==k).map (·.2.1)
def Jx(es:List (KL×Int×Nat))(k:KL):Option Int:=(es.find? λe=>e.1==k).map (·.2.1)
theorem Yl5(es:List (Int×Int×Nat))(k:Int):mget (iE es) k=(Jo es k).map (Value.int .i64):=by
 unfold mget iE Jo
 exact Yux
theorem YsI(es:List (KL×Int×Nat))(k:KL):vget (wE es) k=(Jx es k).map (Value.int .i64):=by
 unfold vget wE Jx
 exact Yux
variable {z b':Int}{c N ct b i:Nat}
theorem Ynq{es:List (Int×Int×Nat)}{k:Int}(h:Jo es k=none)(v:Int):Jo (es++[(k,z,c)]) v=if v=k then some z else Jo es v:=by
 unfold Jo at h⊢
 grind
variable {k:KL}
theorem Yol{es:List (KL×Int×Nat)}(h:Jx es k=none)(v:KL):Jx (es++[(k,z,c)]) v=if v=k then some z else Jx es v:=by
 unfold Jx at h⊢
 grind
structure SM where
 frame:Int
 g:Option (Nat×Nat×Nat)
 es:List (Int×Int×Nat)
 ce:Nat
 ts:YR
 ct:Nat
 ak:List (KL×Int×Nat)
 ca:Nat
 done:Bool
def smF(x:SM):List Value:=[.int .i64 x.frame,.map (x.g.map (·.1)),.map (x.g.map (·.2.1)),.map (x.g.map (·.2.2)),.bool x.done]
def smP(x:SM):List HP:=match x.g with
 |none=>[]
 |some (a,b,c)=>[blk a (mobj (iE x.es) x.ce),blk b (vobj x.ts x.ct),blk c (vobj (wE x.ak) x.ca)]
def smQ(x:SM):HP:=many (smP x)
def SM.st(x:SM):StM:=⟨x.frame,Jo x.es,λu v=>Jx x.ak [u,v],x.done⟩
structure VOk(N:Nat)(es:YR)(ct:Nat):Prop where
 len:∀e∈es,e.1.length=N
 lt:∀e∈es,e.2.2<ct
 ne:es.Pairwise λa b=>a.2.2≠b.2.2
theorem VOk.nil:VOk N [] ct:=by simp_all [Go.Proofs.YtambgjgljcadlaaGreatDoor.VOk.mk]
theorem VOk.snoc{es:YR}(h:VOk N es ct)(hk:k.length=N)(v:Value):VOk N (es++[(k,v,ct)]) (ct+1):=by
 refine⟨λe he=>?_,λe he=>?_,?_⟩
 ·rcases TF.1 he with he|he
  ·exact h.len e he
  simp_all
 ·rcases TF.1 he with he|he
  ·exact Nat.lt_succ_of_lt (h.lt e he)
  simp_all
 ·refine Np.2 ⟨h.ne,List.pairwise_singleton _ _,λa ha b hb=>?_⟩
  rw[TO.1 hb]
  exact Nat.ne_of_lt (h.lt a ha)
variable {l1 l2:YR}{v0:Value}
theorem VOk.set(h:VOk N (l1++(k,v0,b)::l2) ct)(v:Value):VOk N (l1++(k,v,b)::l2) ct:=by
 have e:∀P:KL×Value×Nat->Prop,(∀z:KL×Value×Nat,P z↔P (z.1,v,z.2.2))->(∀z∈l1++(k,v0,b)::l2,P z)->∀z∈l1++(k,v,b)::l2,P z:=λP hP hz z hm=>by
  rcases TF.1 hm with hm|hm
  ·grind
  ·rcases TV.1 hm with rfl|hm
   ·exact(hP (k,v0,b)).1 (hz (k,v0,b) (by simp))
   ·exact hz z (TF.2 (.inr (TJ _ hm)))
 refine⟨e (λz=>z.1.length=N) (λ_=>Iff.rfl) h.len,e (λz=>z.2.2<ct) (λ_=>Iff.rfl) h.lt,?_⟩
 have hp:=h.ne
 rw[Np,Nb]at hp⊢
 refine⟨hp.1,hp.2.1,λa ha z hz=>?_⟩
 rcases TV.1 hz with rfl|hz
 ·exact hp.2.2 a ha (k,v0,b) (by simp)
 grind
theorem VOk.births(h:VOk N (l1++(k,v0,b)::l2) ct):∀e∈l1,e.2.2≠b:=λe he=>(Np.1 h.ne).2.2 e he (k,v0,b) (by simp)
structure TOk(ts:YR)(ct:Nat)(b:Int):Prop where
 ok:VOk 2 ts ct
 z:∀e∈ts,∃z,e.2.1=.int .i64 z/\0<=z/\z<=b
theorem TOk.mono{ts:YR}{b:Int}(h:TOk ts ct b)(hb:b<=b'):TOk ts ct b':=⟨h.ok,λe he=>by
 obtain⟨z,h1,h2,h3⟩:=h.z e he
 grind⟩
structure SM.Ok(x:SM)(b:Int):Prop where
 g:0<=x.frame->x.g.isSome=true
 ts:TOk x.ts x.ct b
 ak:∀e∈x.ak,e.1.length=2
theorem SM.Ok.mono{x:SM}{b:Int}(h:x.Ok b)(hb:b<=b'):x.Ok b':=⟨h.g,h.ts.mono hb,h.ak⟩
def XD:SM:=⟨-1,none,[],0,[],0,[],0,false⟩
structure PlC where
 fA:Option Addr
 fc:Nat
 l:List Flw
 s:SchM
 xA:Option Addr
 xc:Nat
 xs:List RuM
def attF(a:AttM):List Value:=[.int .i64 a.slot,.int .i64 a.frame,.int .i64 a.c.1,.int .i64 a.c.2.1,.int .i64 a.c.2.2.1,.int .i64 a.c.2.2.2.1,.int .i64 a.c.2.2.2.2,.int .i64 a.o]
def delF(d:Int×Int×Int):List Value:=[.int .i64 d.1,.int .i64 d.2.1,.int .i64 d.2.2]
abbrev plB(c:PlC)(g:Nat)(sA:Option Addr)(ns sc:Nat)(tA:Option Addr)(nt tc:Nat)(dA:Option Addr)(nd dc:Nat):HP:=blk g (.cells #[.slice c.fA c.l.length c.fc,.int .i64 c.s.len,.int .i64 c.s.off,.slice c.s.A c.s.cells.length c.s.cap,.slice c.xA c.xs.length c.xc,.slice sA ns sc,.slice tA nt tc,.slice dA nd dc] 113 (0,0))
abbrev plS(A:Option Addr)(n cap:Nat)(ss:List SM):HP:=sl 204 5 A n cap (ss.flatMap smF)
abbrev plT(A:Option Addr)(cap:Nat)(l:List AttM):HP:=sl 119 8 A l.length cap (l.flatMap attF)
abbrev plD(A:Option Addr)(cap:Nat)(l:List (Int×Int×Int)):HP:=sl 132 3 A l.length cap (l.flatMap delF)
abbrev plL(c:PlC)(g:Nat)(sA:Option Addr)(sc:Nat)(ss:List SM)(tA:Option Addr)(tc:Nat)(atts:List AttM)(dA:Option Addr)(dc:Nat)(dels:List (Int×Int×Int))(H:List HP):List HP:=plB c g sA c.l.length sc tA atts.length tc dA dels.length dc::plS sA c.l.length sc ss::plT tA tc atts::plD dA dc dels::many (ss.map smQ)::H
theorem YnI(n:Nat)(H:List HP):Perm H (many ((List.replicate n XD).map smQ)::H):=by
 induction n with
 |zero=>exact .noMany H
 |succ n ih=>
  have h2:Perm (many ((List.replicate n XD).map smQ)::H) (smQ XD::many ((List.replicate n XD).map smQ)::H):=.noMany _
  refine .trans ih (.trans h2 ?_)
  rw[show List.replicate (n+1) XD=List.replicate n XD++[XD] from List.replicate_succ']
  exact Yc2 smQ _ XD H
variable {α:Type}
theorem Yl4(f:α->HP){l:List α}{x:α}(h:l[i]? =some x)(H:List HP):Perm (many (l.map f)::H) (f x::many ((l.take i).map f++(l.drop (i+1)).map f)::H):=by
 have h1:l.map f=(l.take i).map f++f x::(l.drop (i+1)).map f:=by
  grind [List.getElem_cons_drop,RG]
 rw[h1]
 exact .pull _ _ _ _
theorem Yin(f:α->HP){l:List α}(h:i<l.length)(y:α)(H:List HP):Perm (f y::many ((l.take i).map f++(l.drop (i+1)).map f)::H) (many ((l.set i y).map f)::H):=by
 have h1:(l.set i y).map f=(l.take i).map f++f y::(l.drop (i+1)).map f:=by
  simp_all [List.set_eq_take_append_cons_drop]
 rw[h1]
 exact .push _ _ _ _
theorem Yc6(c:PlC)(hl:c.l.length<=1000){B:Nat}{w0:World}{H:List HP}{w:World}(hw:St B w0 H w):
 CX B w0 42 [.slice c.fA c.l.length c.fc,c.s.val,.slice c.xA c.xs.length c.xc] w λv K=>∃g A cap,v=.pointer (some ⟨g,0,none⟩)/\K=plL c g A cap (List.replicate c.l.length XD) none 0 [] none 0 [] H:=by
 refine Ya Tryz.func42 Tryz.ntmps42 rfl rfl hw ?_
 unfold SchM.val
 refine zX23 ?_<;>intros
 rename_i g
 refine Yh (λ(z:Nat×Option Addr×Nat)=>[(15,.int .i64 (z.1:Nat)),(14,.int .i64 c.l.length),(7,.pointer (some ⟨g,0,none⟩))])
  (λz=>plB c g z.2.1 z.1 z.2.2 none 0 0 none 0 0::sl 204 5 z.2.1 z.1 z.2.2 ((List.replicate z.1 XD).flatMap smF)::H) (λz=>z.1<=c.l.length) (λz=>c.l.length-z.1) (0,none,0) (Tm _) ?_ ?_ ?_
 ·exact zc1
 ·intro w hw
  have h5:St B w0 (plB c g none 0 0 none 0 0 none 0 0::H) w:=by
   revert w
   exact zc0
  exact(h5.nilSlice _ _).perm (.swap _ _ _)
 rintro⟨k,A,cap⟩ hk K hK
 dsimp only at hk⊢
 by_cases hlt:k<c.l.length
 rotate_left
 ·obtain rfl:k=c.l.length:=by omega
  clear hK
  refine zX0 ?_<;>intros
  apply Yg (plL c g A cap (List.replicate c.l.length XD) none 0 [] none 0 [] H)
  ·intro w hw
   have h5:St B w0 (plB c g A c.l.length cap none 0 0 none 0 0::sl 204 5 A c.l.length cap ((List.replicate c.l.length XD).flatMap smF)::H) w:=by
    revert w
    exact zc0
   have h6:St B w0 (plD none 0 []::plT none 0 []::plB c g A c.l.length cap none 0 0 none 0 0::sl 204 5 A c.l.length cap ((List.replicate c.l.length XD).flatMap smF)::many ((List.replicate c.l.length XD).map smQ)::H) w:=((h5.perm (.cons _ (.cons _ (YnI c.l.length H)))).nilSlice _ _).nilSlice _ _
   have h7:∀w,St B w0 (plD none 0 []::plT none 0 []::plB c g A c.l.length cap none 0 0 none 0 0::sl 204 5 A c.l.length cap ((List.replicate c.l.length XD).flatMap smF)::many ((List.replicate c.l.length XD).map smQ)::H) w->St B w0 (plB c g A c.l.length cap none 0 0 none 0 0::sl 204 5 A c.l.length cap ((List.replicate c.l.length XD).flatMap smF)::plT none 0 []::plD none 0 []::many ((List.replicate c.l.length XD).map smQ)::H) w:=by
    clear h5 h6
    exact zc0
   grind
  exact Ymm
 repeat'(first|refine zgd ?_|(refine zge ?_ ?_<;>intro _<;>try exact zo)|(refine zgh ?_;intro _)|(refine zgi ?_;intro _ _)|fail)
 rename_i A' cap'
 have e5:sl 204 5 A' (k+1) cap' ((List.replicate k XD).flatMap smF++#[Value.int .i64 (-1),.map none,.map none,.map none,.bool false].toList)=sl 204 5 A' (k+1) cap' ((List.replicate (k+1) XD).flatMap smF):=by
  rw[List.replicate_succ',T9];rfl
 rw[e5]
 apply hK ⟨k+1,A',cap'⟩
 ·omega
 ·omega
 ·exact zc1
 ·dsimp only
  exact zc0
def RelS(l:List Flw)(n:Int)(b:Int)(ss ss':List SM)(k:Nat):Prop:=
 ss'.length=l.length/\∀(i:Nat) f x,l[i]? =some f->ss[i]? =some x->∃x',ss'[i]? =some x'/\x'.Ok b/\if i<k then x'.st=relS f n x.st else x'=x
def SM.new(f:Flw)(n k:Int)(a b c:Nat):SM:=⟨k,some (a,b,c),[(f.2.1,n,0)],1,[],0,[],0,false⟩
theorem SM.new_st(f:Flw)(n k:Int)(a b c:Nat):(SM.new f n k a b c).st=newS f n k:=by
 unfold SM.st newS SM.new
 congr 1
 funext v
 by_cases h:v=f.2.1
 all_goals simp_all [Jo,Ne.symm]
theorem SM.new_ok(f:Flw)(n k:Int)(a b c:Nat)(m:Int):(SM.new f n k a b c).Ok m:=⟨λ_=>rfl,⟨VOk.nil,λe (h:e∈([]:YR))=>absurd h (RJ)⟩,λe (h:e∈([]:List (KL×Int×Nat)))=>absurd h (RJ)⟩
variable {B g sc nt tc nd dc:Nat}{w0 w:World}{x:SM}
theorem YnH{l:List SM}{i:Nat}{y:SM}{L:List HP}{H:List HP}(h:l[i]? =some x)(hy:smQ y=many L)(hw:St B w0 (L++many (l.map smQ)::H) w):St B w0 (many ((l.set i y).map smQ)::H) w:=by
 have h1:=hw.perm (.close L _)
 rw[<-hy]at h1
 exact((h1.perm (.cons _ (Yl4 smQ h H))).perm (.cons _ (.drop _ _))).perm (Yin smQ (Td.1 h).1 y H)
variable {sA tA dA:Option Addr}{Z:HP}
theorem Ysu{c:PlC}{sk:List SM}{k:Nat}{f:Flw}{n q:Int}{a1 a2 a3:Nat}(h:sk[k]? =some x):∀w,St B w0 (plS sA c.l.length sc (sk.set k (SM.new f n q a1 a2 a3))::blk a1 (mobj ([]++[(f.2.1,Value.int .i64 n,0)]) (0+1))::blk a2 (mobj [] 0)::blk a3 (mobj [] 0)::plB c g sA c.l.length sc tA nt tc dA nd dc::many (sk.map smQ)::[Z]) w->
 St B w0 (plB c g sA c.l.length sc tA nt tc dA nd dc::plS sA c.l.length sc (sk.set k (SM.new f n q a1 a2 a3))::many ((sk.set k (SM.new f n q a1 a2 a3)).map smQ)::[Z]) w:=by
 intro w hw
 have h1:St B w0 (blk a1 (mobj ([]++[(f.2.1,Value.int .i64 n,0)]) (0+1))::blk a2 (mobj [] 0)::blk a3 (mobj [] 0)::many (sk.map smQ)::plB c g sA c.l.length sc tA nt tc dA nd dc::plS sA c.l.length sc (sk.set k (SM.new f n q a1 a2 a3))::[Z]) w:=by
  revert w
  exact zc0
 have h2:=YnH (L:=[blk a1 (mobj ([]++[(f.2.1,Value.int .i64 n,0)]) (0+1)),blk a2 (mobj [] 0),blk a3 (mobj [] 0)]) (y:=SM.new f n q a1 a2 a3) h rfl h1
 exact(h2.perm (.swap _ _ _)).perm (.cons _ (.swap _ _ _))
theorem Yd4(c:PlC)(n b:Int)(hn:0<=n/\n<=1000000)(hl:c.l.length<=1000)(hf:∀f∈c.l,YX 32 f=0){ss:List SM}(hss:ss.length=c.l.length)(hok:∀x∈ss,x.Ok b)
 (hr:Rd B w0 [Z] c.fA (c.l.flatMap flwF)) (hw:St B w0 (plB c g sA c.l.length sc tA nt tc dA nd dc::plS sA c.l.length sc ss::many (ss.map smQ)::[Z]) w):
 CX B w0 104 [.pointer (some ⟨g,0,none⟩),.int .i64 n] w λv K=>∃ss',v=.tuple #[]/\RelS c.l n b ss ss' c.l.length/\K=plB c g sA c.l.length sc tA nt tc dA nd dc::plS sA c.l.length sc ss'::many (ss'.map smQ)::[Z]:=by
 refine Ya Tryz.func104 Tryz.ntmps104 rfl rfl hw ?_
 refine zX2 ?_
 refine Yh (λ(z:Nat×List SM)=>[(13,.int .i64 (z.1:Nat)),(12,.int .i64 c.l.length),(11,.slice c.fA c.l.length c.fc),(0,.pointer (some ⟨g,0,none⟩)),(1,.int .i64 n)])
  (λz=>plB c g sA c.l.length sc tA nt tc dA nd dc::plS sA c.l.length sc z.2::many (z.2.map smQ)::[Z]) (λz=>z.1<=c.l.length/\RelS c.l n b ss z.2 z.1) (λz=>c.l.length-z.1) (0,ss) ⟨Tm _,hss,λi f x h1 h2=>⟨x,h2,hok x (Tc h2),by rw[Tf (by omega)]⟩⟩ ?_ ?_ ?_
 ·exact zc1
 ·intro w hw;exact hw
 rintro⟨k,sk⟩ ⟨hk,hR⟩ K hK
 dsimp only at hk hR⊢
 by_cases hlt:k<c.l.length
 rotate_left
 ·obtain rfl:k=c.l.length:=by omega
  clear hK
  refine zX0 ?_<;>intros
  apply Yg (plB c g sA c.l.length sc tA nt tc dA nd dc::plS sA c.l.length sc sk::many (sk.map smQ)::[Z])
  ·exact zc0
  apply X7;exact rfl
  exact⟨sk,rfl,hR,rfl⟩
 obtain⟨f,hfk⟩:∃f,c.l[k]? =some f:=⟨_,Ta hlt⟩
 obtain⟨x,hx⟩:∃x,ss[k]? =some x:=⟨_,Ta (by omega)⟩
 have hskl:=hR.1
 obtain⟨x',hx',hxo,hxe⟩:=hR.2 k f x hfk hx
 rw[Tf (Nat.lt_irrefl _)]at hxe
 subst hxe
 have hfe:=hf f (Tc hfk)
 obtain⟨hp1,hp2,-,-⟩:=XW hfe
 have hr9:∀{X Y W:HP},Rd B w0 (X::Y::W::[Z]) c.fA (c.l.flatMap flwF):=hr.cons.cons.cons
 have hr8:=@hr9 (plB c g sA c.l.length sc tA nt tc dA nd dc) (plS sA c.l.length sc sk) (many (sk.map smQ))
 have p1:=λ{H':List HP}{w:World}(hw:St B w0 H' w)=>Yf2 f n hfe hn hw
 unfold flwV at p1
 have hstay:relS f n x'.st=x'.st->RelS c.l n b ss sk (k+1):=λh=>by
  refine⟨hskl,λi f2 y2 a1 a2=>?_⟩
  obtain⟨z,b1,b2,b3⟩:=hR.2 i f2 y2 a1 a2
  refine⟨z,b1,b2,?_⟩
  by_cases e:i=k
  ·subst e
   rw[hfk]at a1
   rw[hx]at a2
   rw[hx']at b1
   rw[Tj (by omega),<-Tz a1,<-Tz a2,<-Tz b1,h]
  ·by_cases hik:i<k
   ·rw[Tj hik]at b3
    rw[Tj (by omega)];exact b3
   ·rw[Tf hik]at b3
    rw[Tf (by omega)];exact b3
 iterate 10 (first|refine zgb ?_|(refine zge ?_ ?_<;>intro _<;>try exact zo)|fail)
 refine XE (λ(z:{z:List SM//RelS c.l n b ss z (k+1)})=>[(13,.int .i64 (k:Nat)),(12,.int .i64 c.l.length),(11,.slice c.fA c.l.length c.fc),(0,.pointer (some ⟨g,0,none⟩)),(1,.int .i64 n)]) (λz=>plB c g sA c.l.length sc tA nt tc dA nd dc::plS sA c.l.length sc z.1::many (z.1.map smQ)::[Z]) ?_ ?_
 rotate_left
 ·rintro⟨z,hz⟩
  refine zX9 ?_
  apply hK ⟨k+1,z⟩
  ·exact⟨by exact Yjp,hz⟩
  ·exact zc36
  ·exact zc1
  ·exact zc0
 intro K2 hK2
 by_cases h1:n<f.2.2.2.2.1
 ·rw[Tj h1,Tn (by omega)]at p1
  repeat'(first|((first|apply Yb YlA|apply Yc YlA);exact za;exact rfl;exactλ_ hw=>(p1 hw))|refine zgd ?_|(refine zgh ?_;intro _)|fail)
  apply hK2 ⟨sk,hstay (by unfold relS;exact Tj h1)⟩
  ·exact zc1
  ·exact zc0
 rw[Tf h1,Ti (by omega)]at p1
 obtain⟨q,hq⟩:∃q,(n-f.2.2.2.2.1)/f.2.2.2.1=q:=⟨_,rfl⟩
 rw[hq]at p1
 have hnew:q≠x'.frame->∀a1 a2 a3,RelS c.l n b ss (sk.set k (SM.new f n q a1 a2 a3)) (k+1):=λhne a1 a2 a3=>by
  refine⟨by rw[TT];exact hskl,λi f2 y2 b1 b2=>?_⟩
  obtain⟨z,c1,c2,c3⟩:=hR.2 i f2 y2 b1 b2
  by_cases e:i=k
  ·subst e
   rw[hfk]at b1
   rw[hx]at b2
   refine⟨_,Si (by omega),SM.new_ok _ _ _ _ _ _ _,?_⟩
   rw[Tj (by omega),<-Tz b1,<-Tz b2,SM.new_st]
   unfold relS phaF perF
   rw[Tf h1,Tf (by rw[hq];exact hne),hq]
  ·refine⟨z,by rw[S7 (Nk e)];exact c1,c2,?_⟩
   by_cases hik:i<k
   ·rw[Tj hik]at c3
    rw[Tj (by omega)];exact c3
   ·rw[Tf hik]at c3
    rw[Tf (by omega)];exact c3
 by_cases h2:q=x'.frame
 ·skip
  refine YtA ?_<;>intros
  apply hK2 ⟨sk,hstay (by unfold relS phaF perF;rw[Tf h1,Tj (by rw[hq,h2];rfl)])⟩
  ·exact zc1
  ·exact zc0
 ·skip
  refine YtA ?_<;>intros
  rename_i gf
  have hnew:=hnew h2
  refine YfF (e:=204) (size:=5) (A:=sA) (k:=c.l.length) (cap:=sc) (xs:=sk.flatMap smF) (by(focus exact zc2)) (by omega) ?_
  intro gA eA
  subst eA
  apply WB (.n1 0 (.n1 1 (.n1 2 (.n1 3 (.n1 4 (.n1 5 (.n1 7 (.n1 8 (.n1 9 (.n3 6 (.n3 10 (.n1 11 (.n2 12 (.n1 13 (.n1 14 (.n1 15 .done))) 13 (.n1 12 (.n1 14 (.n1 15 .done))))) 12 (.n2 10 (.n1 11 (.n1 13 (.n1 14 (.n1 15 .done)))) 13 (.n1 10 (.n1 11 (.n1 14 (.n1 15 .done))))) 13 (.n2 10 (.n1 11 (.n1 12 (.n1 14 (.n1 15 .done)))) 12 (.n1 10 (.n1 11 (.n1 14 (.n1 15 .done)))))) 12 (.n2 6 (.n2 10 (.n1 11 (.n1 13 (.n1 14 (.n1 15 .done)))) 13 (.n1 10 (.n1 11 (.n1 14 (.n1 15 .done))))) 13 (.n1 6 (.n1 10 (.n1 11 (.n1 14 (.n1 15 .done)))))) 13 (.n2 6 (.n2 10 (.n1 11 (.n1 12 (.n1 14 (.n1 15 .done)))) 12 (.n1 10 (.n1 11 (.n1 14 (.n1 15 .done))))) 12 (.n1 6 (.n1 10 (.n1 11 (.n1 14 (.n1 15 .done)))))))))))))))) [16] [true,true]
  kernel_rfl
  kernel_rfl
  exact zy
  (simp only[Yd,nthO];rfl)
  repeat'(first|(apply OB T;(iterate 4 exact rfl);omega)|(apply Xw T (f:=smF) (a:=SM.new f n q _ _ _);(iterate 3 exact rfl);exact zd;exact(λ_=>rfl);(iterate 3 exact rfl);omega)|(apply OS;exact rfl;intro gs)|(apply Yei (kt:=3) (et:=3);(iterate 3 exact rfl);kernel_rfl;exact zd;exact rfl)|(apply YoY;(simp only[nthO];rfl);(simp only[nthO];rfl);(simp only[nthO];rfl))|(apply Yhl;(simp only[nthO];rfl);(simp only[nthO];rfl))|(apply Yhk;(simp only[nthO];rfl))|(apply WE;try exact zl)|(apply Yj;try exact zl)|refine zgd ?_|fail)
  all_goals(
   rw[Rx]
   apply hK2 ⟨sk.set k (SM.new f n q _ _ _),hnew _ _ _⟩
   rotate_left
   ·intro w hw
    apply Ysu hx' w
    revert w
    exact zk
   ·exact zu)
open Go.RowKit Go.Eng Go.Nw Go.Rt Go.Sort Go.Shelf Go.Proofs
theorem YuX(x y:Int×Int×Int)(W:World):Calls Tryz.prog 108 #[.agg #[.int .i64 x.1,.int .i64 x.2.1,.int .i64 x.2.2],.agg #[.int .i64 y.1,.int .i64 y.2.1,.int .i64 y.2.2]] W λe w'=>e=.returned (.int .i64 (Lib.compareInt x.1 y.1))/\∃q os',w'=grow (W.drewN q) os':=by
 have hcon:=λW'=>Tryz.cmp_Compare_int x.1 y.1 W'
 generalize Lib.compareInt x.1 y.1=r at hcon⊢
 go_enter Tryz.func108,Tryz.ntmps108
 go_wp2_with (go_at_call 49;refine(hcon _).mono ?_;rintro e w' ⟨rfl,rfl⟩)
 go_ret
 exact⟨rfl,0,_,by rw[alloc_eq_grow,alloc_eq_grow,grow_grow];rfl⟩
theorem YpY(x y:Int×Int×Int):ltOf (λx y:Int×Int×Int=>Lib.compareInt x.1 y.1) x y=decide (x.1<y.1):=by
 unfold ltOf Lib.compareInt
 by_cases h1:x.1<y.1
 ·simp[h1]
 ·by_cases h2:y.1<x.1<;>simp[h1,h2]
theorem Yvk:SWO (ltOf λx y:Int×Int×Int=>Lib.compareInt x.1 y.1) where
 irrefl x:=by rw[YpY];simp
 trans x y z h1 h2:=by rw[YpY]at*;simp at*;omega
 ntrans x y z h1 h2:=by rw[YpY]at*;simp at*;omega
theorem O8{α:Type}[Inhabited α]{d d':Array α}(h:PermIn 0 d.size d d'):d'.toList.Perm d.toList:=by
 obtain⟨h1,_,h3⟩:=h
 have e1:d.extract 0 d.size=d:=Array.extract_size
 have e2:d'.extract 0 d.size=d':=by rw[<-h1];exact Array.extract_size
 rw[e1,e2]at h3
 exact h3
theorem YgR(l:List (Int×Int×Int))(k:Nat)(hk:k<=l.length)(hl:l.length<=100000000){A:Option Addr}{cap B:Nat}{w0:World}{H H0:List HP}{w:World}(hin:∀w,St B w0 H0 w->St B w0 (plD A cap l::H) w)(hw:St B w0 H0 w):
 CX B w0 107 [.slice (subA A k cap 3) (l.length-k:Nat) (cap-k),.func (.func 108) #[] #[]] w λv K=>v=.tuple #[]/\∃l',l'.Perm l/\K=plD A cap l'::H:=by
 have hw:=hin w hw
 by_cases h0:l.length-k=0
 ·rw[h0]
  refine(AnyF.slices_SortFunc_none Tryz.sortDels (subA A k cap 3) (cap-k) (.func (.func 108) #[] #[]) w).mono ?_
  rintro e w' ⟨rfl,rfl⟩
  exact⟨_,_,rfl,hw,rfl,l,List.Perm.refl _,rfl⟩
 have ho:=hw.sl (TB)
 obtain⟨g,rfl,hcap⟩:∃g,A=some ⟨g,0,none⟩/\l.length<=cap:=by
  rcases ho.2 with⟨h1,h2⟩|⟨g,c,cur,h1,h2,h3,h4,h5,h6,h7⟩
  ·omega
  ·injection h1 with e1 e2 e3
   exact⟨g,e1,by omega⟩
 have hsub:subA (some (⟨g,0,none⟩:Addr)) k cap 3=some ⟨g,k*3,none⟩:=by
  unfold subA
  rw[Tf (by omega)]
  simp[Addr.add]
  intro h
  omega
 rw[hsub]
 obtain⟨hH,hg,hst⟩:=Yay (enc:=delF) (λ_=>rfl) (by decide) hk hw
 have eg:∀args w,(callFunc 108 args).run Tryz.prog w=.ok (.enter 108 args) w:=YvL
 have hsz:(l.drop k).toArray.size=l.length-k:=by simp
 have hcon:=AnyQ.slices_SortFunc Tryz.sortDels 3 Tryz.isAgg132 Tryz.sizeOf132 delF (λ_=>rfl) (λx v hv=>by simp[delF]at hv;rcases hv with rfl|rfl|rfl<;>rfl) (λx y=>Lib.compareInt x.1 y.1) Yvk 108 #[] g (k*3) (cap-k) (l.drop k).toArray w eg (λ_ _ _ _ x y=>YuX x y _) hH hg (by rw[hsz];omega)
 rw[hsz]at hcon
 refine hcon.mono ?_
 rintro e w' ⟨rfl,d',n,os,hp,_,rfl⟩
 have hp:=O8 (d:=(l.drop k).toArray) (by rw[hsz];exact hp)
 have hpl:(l.take k++d'.toList).Perm l:=by
  have:=(List.Perm.refl (l.take k)).append hp
  rwa [RG]at this
 have hdl:d'.toList.length=l.length-k:=by rw[hp.length_eq];simp
 have h5:=hst d'.toList n os hdl
 rw[Array.toArray_toList]at h5
 refine⟨_,_,rfl,h5,rfl,l.take k++d'.toList,hpl,?_⟩
 unfold plD
 rw[hpl.length_eq]
end Go.Proofs.YtambgjgljcadlaaGreatDoor
namespace Go.Eng
open Go.RowKit
variable {B:Nat}{w0:World}{H:List HP}
theorem YK{P:Program}{m:Mode}{n:Shp}{d:Nat}{ops:Array Oper}{Q:Exit->Act->World->Prop}{rest:List Oper}{env:Env}{ty:TypeId}{pos:String}{after:Array Edge}{x:Operand}{a:Addr}{j:Nat}(hx:evo env x=some (sptr (some a) j))(hn:Nat.ble (d+1) n.k=true)(h:VL P m n B w0 ops Q rest ((d,sptr (some a) j)::env) H):
 VL P m n B w0 ops Q (⟨some d,.nilCheck x,ty,pos,after,none⟩::rest) env H:=YaF hx hn h
end Go.Eng
namespace Go.Proofs.YtambgjgljcadlaaGreatDoor
open Go.RowKit Go.Eng Go.Nw Go.Rt
theorem Yne(l:List Flw)(id:Int):(Zi l id= -1/\∀f∈l,f.1≠id)\/∃(i:Nat) (f:Flw),Zi l id=(i:Int)/\l[i]? =some f/\f.1=id:=by
 have key:∀(l:List Flw) (a:Int),0<=a->(Yi (λf:Flw=>decide (f.1=id)) l a= -1/\∀f∈l,f.1≠id)\/∃(i:Nat) (f:Flw),Yi (λf:Flw=>decide (f.1=id)) l a=a+(i:Int)/\l[i]? =some f/\f.1=id:=by
  intro l
  induction l with
  |nil=>exactλa _=>.inl ⟨rfl,λf h=>by cases h⟩
  |cons x l ih=>
   intro a ha
   unfold Yi
   by_cases h:x.1=id
   ·exact .inr ⟨0,x,by simp[h],rfl,h⟩
   ·rcases ih (a+1) (by omega)with⟨h1,h2⟩|⟨i,f,h1,h2,h3⟩
    ·grind
    ·exact .inr ⟨i+1,f,by grind,h2,h3⟩
 rcases key l 0 (RI _)with h|⟨i,f,h1,h2⟩
 ·exact .inl h
 ·exact .inr ⟨i,f,by unfold Zi;omega,h2⟩
variable {g ns sc nt tc nd dc B:Nat}{sA tA dA:Option Addr}{w0 w:World}{Z:HP}
theorem Ygu(c:PlC)(id k u v t:Int)(ht:0<=t)(hxl:c.xs.length<=1000000)(hx:XIn B w0 [Z] c.xA c.xs)(hw:St B w0 (plB c g sA ns sc tA nt tc dA nd dc::[Z]) w):
 CX B w0 184 [.pointer (some ⟨g,0,none⟩),.int .i64 id,.int .i64 k,.agg #[.int .i64 u,.int .i64 v],.int .i64 t] w λv K=>(∃o:Int,v=.int .i64 o)/\K=plB c g sA ns sc tA nt tc dA nd dc::[Z]:=by
 refine Ya Tryz.func184 Tryz.ntmps184 rfl rfl hw ?_
 have p1:=λ{H':List HP}{w:World}(hr:Rd B w0 H' c.xA (c.xs.flatMap ruF)) (hw:St B w0 H' w)=>YgN c.xs ⟨id,u,v,k,none,0,[]⟩ (by omega) (cap:=c.xc) hr hw
 unfold ruV at p1
 have hrx:=hx.rd
 refine zX16 ?_<;>intros
 rename_i gl
 apply YD [0,1,2,3,4,5,6,7,8,9,10,11,12,13,14,15,16] [] [true,true,true]
 kernel_rfl
 kernel_rfl
 exact zy
 (simp only[Yd,nthO];rfl)
 exact rfl
 refine zX2 ?_
 have hx1:Rd B w0 [Z] c.xA (c.xs.flatMap ruF):=hrx
 apply Ye _ Ywi
 exact za
 exact rfl
 exactλ_ hw=>(p1 (hrx.mono zc0) (hw))
 rintro _ _ ⟨⟨i,b,rfl,hb⟩,hK0⟩
 rw[hK0]
 cases b with
 |false=>
  refine zX18 ?_
  apply Yg (plB c g sA ns sc tA nt tc dA nd dc::[Z])
  ·exact zc0
  exact zc13
 |true=>
 have hi:=hb rfl
 obtain⟨r,hr⟩:∃r,c.xs[i]? =some r:=⟨_,Ta hi⟩
 have hri:=hx.x r (Tc hr)
 have hrl:=hri.ln
 have hrr:=hri.rd
 by_cases hlt:t<r.os.length
 ·obtain⟨o,ho⟩:∃o,r.os[t.toNat]? =some o:=⟨_,Ta (by omega)⟩
  repeat'(first|(apply Yj;try exact zl)|refine zgd ?_|(refine zgf ?_ ?_<;>intro _<;>try exact zo)|fail)
  apply Yg (plB c g sA ns sc tA nt tc dA nd dc::[Z])
  ·exact zc0
  exact Yul
 ·repeat'(first|(apply Yj;try exact zl)|refine zgd ?_|(refine zgf ?_ ?_<;>intro _<;>try exact zo)|fail)
  apply Yg (plB c g sA ns sc tA nt tc dA nd dc::[Z])
  ·exact zc0
  exact Yul
variable {H:List HP}
theorem Yks(c:PlC)(id k u v t:Int)(ht:0<=t)(hxl:c.xs.length<=1000000)(R:List HP)(hR:∀w,St B w0 R w->St B w0 [Z] w)
 (hin:∀w,St B w0 H w->St B w0 (plB c g sA ns sc tA nt tc dA nd dc::R) w) (hout:∀w,St B w0 (plB c g sA ns sc tA nt tc dA nd dc::R) w->St B w0 H w) (hx:XIn B w0 [Z] c.xA c.xs) (hw:St B w0 H w):
 CX B w0 184 [.pointer (some ⟨g,0,none⟩),.int .i64 id,.int .i64 k,.agg #[.int .i64 u,.int .i64 v],.int .i64 t] w λv K=>(∃o:Int,v=.int .i64 o)/\K=H:=by
 refine(Ygu (Z:=many R) c id k u v t ht hxl (hx.mono λw hw=>hR w (hw.perm (.openT R))) ((hin w hw).perm (.cons _ (.closeT R)))).mono ?_
 rintro e w' ⟨v,K,h1,hst,ho,rfl⟩
 exact⟨v,H,h1,hout _ (hst.perm (.cons _ (.openT R))),ho,rfl⟩
def AttR(l:List Flw)(n b:Int)(q:Cel)(ss:List SM)(atts:List AttM)(dels:List (Int×Int×Int))(ss':List SM)(atts':List AttM)(dels':List (Int×Int×Int)):Prop:=
 (ss'=ss/\atts'=atts/\dels'=dels/\∀(i:Nat) f x,l[i]? =some f->ss[i]? =some x->f.1=Y7 q->¬canT f x.st q n)\/
 ∃(i:Nat) (f:Flw) (x:SM) (o:Int) (x':SM),l[i]? =some f/\ss[i]? =some x/\f.1=Y7 q/\canT f x.st q n/\ss'=ss.set i x'/\x'.st=J1 f x.st q n o/\x'.Ok (b+1)/\atts'=atts++[⟨n,x.frame,q,o⟩]/\dels'=dels++delS f x.st q n o
variable {α:Type}{i g sc tc dc a1 a2 a3 B:Nat}
theorem flat_set{F:α->List Value}{l:List α}{x y:α}(h:l[i]? =some x)(e:F y=F x):(l.set i y).flatMap F=l.flatMap F:=by
 obtain⟨hi,hx⟩:=Td.1 h
 rw[List.set_eq_take_append_cons_drop,Tj hi,T9,TR,e,<-hx,<-TR,<-T9,List.getElem_cons_drop,RG]
theorem Ypg(A:Option Addr)(cap nd:Nat)(l:List (Int×Int×Int))(a b c:Int):sl 132 3 A nd cap (l.flatMap delF++#[Value.int .i64 a,.int .i64 b,.int .i64 c].toList)=sl 132 3 A nd cap ((l++[(a,b,c)]).flatMap delF):=by simp[List.flatMap_append,delF]
theorem Yo7(A:Option Addr)(cap nt:Nat)(l:List AttM)(n k:Int)(q:Cel)(o:Int):sl 119 8 A nt cap (l.flatMap attF++#[Value.int .i64 n,.int .i64 k,.int .i64 q.1,.int .i64 q.2.1,.int .i64 q.2.2.1,.int .i64 q.2.2.2.1,.int .i64 q.2.2.2.2,.int .i64 o].toList)=sl 119 8 A nt cap ((l++[(⟨n,k,q,o⟩:AttM)]).flatMap attF):=by simp[List.flatMap_append,attF]
variable {sA tA dA:Option Addr}{ss:List SM}{atts:List AttM}{dels:List (Int×Int×Int)}{w0:World}{Z:HP}
theorem Qr{c:PlC}{x x':SM}(h:ss[i]? =some x)(hx:x'.g=some (a1,a2,a3)){e:List SM}(he:e.flatMap smF=(ss.set i x').flatMap smF){nt nd:Nat}(hnt:nt=atts.length)(hnd:nd=dels.length):∀w,
 St B w0 (plB c g sA c.l.length sc tA nt tc dA nd dc::plS sA c.l.length sc e::sl 119 8 tA nt tc (atts.flatMap attF)::sl 132 3 dA nd dc (dels.flatMap delF)::blk a1 (mobj (iE x'.es) x'.ce)::blk a2 (vobj x'.ts x'.ct)::blk a3 (vobj (wE x'.ak) x'.ca)::many ((ss.take i).map smQ++(ss.drop (i+1)).map smQ)::[Z]) w->
 St B w0 (plL c g sA sc (ss.set i x') tA tc atts dA dc dels [Z]) w:=by
 intro w hw
 subst hnt hnd
 unfold plS at hw
 rw[he]at hw
 have hP:smQ x'=many [blk a1 (mobj (iE x'.es) x'.ce),blk a2 (vobj x'.ts x'.ct),blk a3 (vobj (wE x'.ak) x'.ca)]:=by
  grind [smQ,smP]
 have h1:=hw.perm (.cons _ (.cons _ (.cons _ (.cons _ (.close [_,_,_] _)))))
 rw[<-hP]at h1
 exact h1.perm (.cons _ (.cons _ (.cons _ (.cons _ (Yin smQ (Td.1 h).1 x' _)))))
theorem Ybw{l:List Flw}{n b:Int}{q:Cel}{f:Flw}{xf:Int}{xes:List (Int×Int×Nat)}{xce:Nat}{xts:YR}{xct:Nat}{xak:List (KL×Int×Nat)}{xca:Nat}{xd:Bool}{dels':List (Int×Int×Int)}{o:Int}{es:List (Int×Int×Nat)}{ce:Nat}{ts:YR}{ct:Nat}{ak:List (KL×Int×Nat)}{ca:Nat}{dn:Bool}
 (hf:l[i]? =some f) (hxs:ss[i]? =some (SM.mk xf (some (a1,a2,a3)) xes xce xts xct xak xca xd)) (hfi:f.1=Y7 q) (hc:canT f (SM.mk xf (some (a1,a2,a3)) xes xce xts xct xak xca xd).st q n) (hxa:∀e∈xak,e.1.length=2) (hts:TOk ts ct (b+1))
 (hak:ak=if o=1/\Jx xak [Yr q,toC q]=none then xak++[([Yr q,toC q],n,xca)]else xak)
 (hes:es=if o=3\/(Jo xes (toC q)).isSome=true then xes else xes++[(toC q,n+1,xce)])
 (hdn:dn=(xd||(decide (o≠3)&&decide (toC q=dstF f))))
 (hdl:dels'=dels++delS f (SM.mk xf (some (a1,a2,a3)) xes xce xts xct xak xca xd).st q n o):
 AttR l n b q ss atts dels (ss.set i (SM.mk xf (some (a1,a2,a3)) es ce ts ct ak ca dn)) (atts++[⟨n,xf,q,o⟩]) dels':=by
 refine .inr ⟨i,f,_,o,_,hf,hxs,hfi,hc,rfl,?_,⟨λ_=>rfl,hts,λe he=>?_⟩,rfl,hdl⟩
 ·unfold J1 SM.st
  congr 1
  ·rw[hes]
   by_cases h:o=3\/(Jo xes (toC q)).isSome=true
   ·simp_all
   ·rw[Tf h,Tf h]
    funext v
    have h2:Jo xes (toC q)=none:=by
     cases h3:Jo xes (toC q)with
     |none=>rfl
     |some z=>exact absurd (.inr (by rw[h3];rfl)) h
    exact Ynq h2 v
  ·rw[hak]
   by_cases h:o=1/\Jx xak [Yr q,toC q]=none
   ·rw[Tj h,Tj h]
    funext u v
    rw[Yol h.2]
    by_cases e:u=Yr q/\v=toC q
    ·rw[Tj e,Tj (by rw[e.1,e.2])]
    ·rw[Tf e,Tf (λh=>e (by injection h with h1 h2;injection h2 with h2;exact⟨h1,h2⟩))]
   ·rw[Tf h,Tf h]
 ·rw[hak]at he
  split at he
  ·rcases TF.1 he with he|he
   ·exact hxa e he
   ·rw[TO.1 he];rfl
  ·exact hxa e he
theorem Yng{F:α->List Value}{l:List α}(hi:i<l.length){y z:α}(e:F y=F z):(l.set i y).flatMap F=(l.set i z).flatMap F:=by
 rw[<-flat_set (l:=l.set i z) (y:=y) (Si hi) e,List.set_set]
theorem Oj(w:World):(zeroValue 3).run Tryz.prog w=.ok (.int .i64 0) w:=by kernel_rfl
theorem YjH(q:Cel):celV q=.agg #[.int .i64 q.1,.int .i64 q.2.1,.int .i64 q.2.2.1,.int .i64 q.2.2.2.1,.int .i64 q.2.2.2.2]:=rfl
theorem YfX(c:PlC)(q:Cel)(n b:Int)(hn:0<=n/\n<=1000000)(hb:0<=b/\b<=100000000)(hl:c.l.length<=1000)(hid:c.l.Pairwise λa b=>a.1≠b.1)(hxl:c.xs.length<=1000000)(hss:ss.length=c.l.length)(hok:∀x∈ss,x.Ok b)
 (hat:atts.length<=100000000) (hdl:dels.length<=100000000) {w:World}(hr:Rd B w0 [Z] c.fA (c.l.flatMap flwF)) (hx:XIn B w0 [Z] c.xA c.xs) (hw:St B w0 (plL c g sA sc ss tA tc atts dA dc dels [Z]) w):
 CX B w0 106 [.pointer (some ⟨g,0,none⟩),celV q,.int .i64 n] w λv K=>∃ss' tA' tc' atts' dA' dc' dels',v=.tuple #[]/\AttR c.l n b q ss atts dels ss' atts' dels'/\K=plL c g sA sc ss' tA' tc' atts' dA' dc' dels' [Z]:=by
 refine Ya Tryz.func106 Tryz.ntmps106 rfl rfl hw ?_
 rw[YjH]
 have leaf:(∀(i:Nat) f x,c.l[i]? =some f->ss[i]? =some x->f.1=Y7 q->¬canT f x.st q n)->AttR c.l n b q ss atts dels ss atts dels:=λh=>.inl ⟨rfl,rfl,rfl,h⟩
 have p1:=λ{H':List HP}{w:World}(hr:Rd B w0 H' c.fA (c.l.flatMap flwF)) (hw:St B w0 H' w)=>Ycv c.l q.2.2.2.2 (by omega) (cap:=c.fc) hr hw
 rcases Yne c.l q.2.2.2.2 with⟨h1,h2⟩|⟨i,f,h1,hf,hfi⟩
 ·rw[h1]at p1
  refine zX16 ?_<;>intros
  apply YD [0,1,2,3,4,5,6,7] [] [true,true]
  kernel_rfl
  kernel_rfl
  exact zy
  (simp only[Yd,nthO];rfl)
  exact rfl
  refine zX2 ?_
  first|apply Yb Ws|apply Yc Ws
  exact za
  exact rfl
  exactλ_ hw=>(p1 (hr.mono zc0) hw)
  refine zX94 ?_<;>intros
  apply Yg (plL c g sA sc ss tA tc atts dA dc dels [Z])
  ·exact zc0
  apply ZD;exact rfl
  exact⟨_,_,_,_,_,_,_,rfl,leaf λi f x a1 _ a3=>absurd a3 (h2 f (Tc a1)),rfl⟩
 rw[h1]at p1
 obtain⟨x,hxs⟩:∃x,ss[i]? =some x:=⟨_,Ta (by have:=(Td.1 hf).1;omega)⟩
 have hil:i<c.l.length:=(Td.1 hf).1
 have hxo:=hok x (Tc hxs)
 have honly:¬canT f x.st q n->∀(j:Nat) f' x',c.l[j]? =some f'->ss[j]? =some x'->f'.1=Y7 q->¬canT f' x'.st q n:=λh j f' x' a1 a2 a3=>by
  have:j=i:=by
   obtain⟨j1,j2⟩:=Td.1 a1
   obtain⟨i1,i2⟩:=Td.1 hf
   rcases NN j i with e|e|e
   ·have:=TY.1 hid j i j1 i1 e
    rw[j2,i2]at this
    exact absurd (a3.trans hfi.symm) this
   ·exact e
   ·have:=TY.1 hid i j i1 j1 e
    rw[j2,i2]at this
    exact absurd (hfi.trans a3.symm) this
  subst this
  rw[hf]at a1
  rw[hxs]at a2
  rw[<-Tz a1,<-Tz a2]
  exact h
 by_cases hfr:x.frame<0
 ·refine zX16 ?_<;>intros
  apply YD [0,1,2,3,4,5,6,7] [] [true,true]
  kernel_rfl
  kernel_rfl
  exact zy
  (simp only[Yd,nthO];rfl)
  exact rfl
  refine zX2 ?_
  first|apply Yb Ws|apply Yc Ws
  exact za
  exact rfl
  exactλ_ hw=>(p1 (hr.mono zc0) hw)
  refine zX94 ?_<;>intros
  apply Yg (plL c g sA sc ss tA tc atts dA dc dels [Z])
  ·exact zc0
  apply ZD;exact rfl
  exact⟨_,_,_,_,_,_,_,rfl,leaf (honly λh=>absurd h.1 (by show¬0<=x.frame;omega)),rfl⟩
 obtain⟨⟨a1,a2,a3⟩,hg⟩:=S5.1 (hxo.g (by omega))
 obtain⟨xf,xg,xes,xce,xts,xct,xak,xca,xd⟩:=x
 have hg:xg=some (a1,a2,a3):=hg
 subst hg
 have hg:(SM.mk xf (some (a1,a2,a3)) xes xce xts xct xak xca xd).g=some (a1,a2,a3):=rfl
 have hfr:¬xf<0:=hfr
 refine XM (plB c g sA c.l.length sc tA atts.length tc dA dels.length dc::plS sA c.l.length sc ss::plT tA tc atts::plD dA dc dels::blk a1 (mobj (iE xes) xce)::blk a2 (vobj xts xct)::blk a3 (vobj (wE xak) xca)::many ((ss.take i).map smQ++(ss.drop (i+1)).map smQ)::[Z]) (λw hw=>?_) ?_
 ·have h2:=hw.perm (.cons _ (.cons _ (.cons _ (.cons _ (Yl4 smQ hxs _)))))
  have hP:smQ (SM.mk xf (some (a1,a2,a3)) xes xce xts xct xak xca xd)=many [blk a1 (mobj (iE xes) xce),blk a2 (vobj xts xct),blk a3 (vobj (wE xak) xca)]:=by
   rfl
  rw[hP]at h2
  exact h2.perm (.cons _ (.cons _ (.cons _ (.cons _ (.open_ [_,_,_] _)))))
 refine YfF (e:=204) (size:=5) (A:=sA) (k:=c.l.length) (cap:=sc) (xs:=ss.flatMap smF) (by(focus exact zc2)) (by omega) ?_
 intro gA eA
 subst eA
 have hback:∀w,St B w0 (plB c g (some ⟨gA,0,none⟩) c.l.length sc tA atts.length tc dA dels.length dc::plS (some ⟨gA,0,none⟩) c.l.length sc ss::plT tA tc atts::plD dA dc dels::blk a1 (mobj (iE xes) xce)::blk a2 (vobj xts xct)::blk a3 (vobj (wE xak) xca)::many ((ss.take i).map smQ++(ss.drop (i+1)).map smQ)::[Z]) w->St B w0 (plL c g (some ⟨gA,0,none⟩) sc ss tA tc atts dA dc dels [Z]) w:=λw hw=>by
  have h3:=Qr (x':=(SM.mk xf (some (a1,a2,a3)) xes xce xts xct xak xca xd)) hxs hg (e:=ss) (by rw[flat_set hxs rfl]) rfl rfl w hw
  have h4:ss.set i (SM.mk xf (some (a1,a2,a3)) xes xce xts xct xak xca xd)=ss:=by
   obtain⟨i1,i2⟩:=Td.1 hxs
   rw[<-i2,List.set_getElem_self]
  rw[h4]at h3
  exact h3
 have hsmf:smF (SM.mk xf (some (a1,a2,a3)) xes xce xts xct xak xca xd)=[.int .i64 xf,.map (some a1),.map (some a2),.map (some a3),.bool xd]:=by rfl
 refine zX16 ?_<;>intros
 rename_i gc
 apply YD [0,1,2,3,4,5,6,7] [] [true,true]
 kernel_rfl
 kernel_rfl
 exact zy
 (simp only[Yd,nthO];rfl)
 exact rfl
 refine zX2 ?_
 first|apply Yb Ws|apply Yc Ws
 exact za
 exact rfl
 exactλ_ hw=>(p1 (hr.mono zc0) hw)
 refine zX94 ?_<;>intros
 have hrf:Rd B w0 (blk gc (.cells #[.int .i64 q.1,.int .i64 q.2.1,.int .i64 q.2.2.1,.int .i64 q.2.2.2.1,.int .i64 q.2.2.2.2] 117 (0,0))::plB c g (some ⟨gA,0,none⟩) c.l.length sc tA atts.length tc dA dels.length dc::plS (some ⟨gA,0,none⟩) c.l.length sc ss::plT tA tc atts::plD dA dc dels::blk a1 (mobj (iE xes) xce)::blk a2 (vobj xts xct)::blk a3 (vobj (wE xak) xca)::many ((ss.take i).map smQ++(ss.drop (i+1)).map smQ)::[Z]) c.fA (c.l.flatMap flwF):=hr.mono zc0
 refine XE (λ(z:Nat×Nat)=>[(0,.pointer (some ⟨g,0,none⟩)),(2,.int .i64 n),(4,.pointer (some ⟨gc,0,none⟩)),(7,.pointer (some ⟨z.1,0,none⟩)),(8,sptr (some ⟨gA,0,none⟩) (i*5)),(9,.pointer (some ⟨z.2,0,none⟩))]) (λz=>blk z.1 (.cells #[.int .i64 f.1,.int .i64 f.2.1,.int .i64 f.2.2.1,.int .i64 f.2.2.2.1,.int .i64 f.2.2.2.2.1,.int .i64 f.2.2.2.2.2] 53 (0,0))::blk z.2 (.cells #[.int .i64 q.2.2.1,.int .i64 q.2.2.2.1] 281 (0,0))::blk gc (.cells #[.int .i64 q.1,.int .i64 q.2.1,.int .i64 q.2.2.1,.int .i64 q.2.2.2.1,.int .i64 q.2.2.2.2] 117 (0,0))::plB c g (some ⟨gA,0,none⟩) c.l.length sc tA atts.length tc dA dels.length dc::plS (some ⟨gA,0,none⟩) c.l.length sc ss::plT tA tc atts::plD dA dc dels::blk a1 (mobj (iE xes) xce)::blk a2 (vobj xts xct)::blk a3 (vobj (wE xak) xca)::many ((ss.take i).map smQ++(ss.drop (i+1)).map smQ)::[Z]) ?_ ?_
 ·intro K2 hK2
  apply Je (.n1 0 (.n1 1 (.n1 2 (.n1 3 (.n1 4 (.n1 5 (.n1 6 (.n1 7 (.n1 8 (.n1 9 (.n1 10 (.n1 11 (.n1 12 (.n1 13 (.n1 14 (.n1 15 (.n1 16 (.n1 17 (.n2 18 (.n1 19 (.n1 20 (.n1 21 .done))) 19 (.n1 18 (.n1 20 (.n1 21 .done)))))))))))))))))))))) [22] [true,true,true,false,false,false,false,false,false,true]
  kernel_rfl
  kernel_rfl
  exact zy
  (simp only[Yd,nthO];rfl)
  repeat'(first|(apply Yj;try exact zl)|apply(zs91 ?_ ?_)|(apply YW;try exact zl)|refine zgd ?_|(refine zgh ?_;intro _)|fail)
  all_goals(
   apply hK2 ⟨_,_⟩
   rotate_left
   ·exact zk
   ·exact zu)
 rintro⟨gf,gl⟩
 dsimp only
 have hakL:∀e∈wE xak,e.1.length=2:=λe he=>by
  obtain⟨y,hy,rfl⟩:=TE.1 he
  exact hxo.ak y hy
 have hkA:∀t,Jx xak [Yr q,toC q]=t->vget (wE xak) [q.2.2.1,q.2.2.2.1]=t.map (Value.int .i64):=λt h=>by rw[YsI,<-h];rfl
 have hkS:∀t,Jo xes (Yr q)=t->mget (iE xes) q.2.2.1=t.map (Value.int .i64):=λt h=>by rw[Yl5,<-h];rfl
 have hdone:¬canT f (SM.mk xf (some (a1,a2,a3)) xes xce xts xct xak xca xd).st q n->AttR c.l n b q ss atts dels ss atts dels:=λh=>leaf (honly h)
 have hcan:canT f (SM.mk xf (some (a1,a2,a3)) xes xce xts xct xak xca xd).st q n↔∃a,Jo xes (Yr q)=some a/\a<=n/\Yr q≠dstF f/\∀t,Jx xak [Yr q,toC q]=some t->n<=t:=by
  unfold canT
  constructor
  ·rintro⟨-,⟨a,h1,h2⟩,h3,h4⟩
   exact⟨a,h1,h2,h3,h4⟩
  ·rintro⟨a,h1,h2,h3,h4⟩
   exact⟨by show 0<=xf;omega,⟨a,h1,h2⟩,h3,h4⟩
 by_cases hc:canT f (SM.mk xf (some (a1,a2,a3)) xes xce xts xct xak xca xd).st q n
 rotate_left
 ·have hno:=hdone hc
  rw[hcan]at hc
  have hkF:∀{a},Jo xes (Yr q)=some a->a<=n->q.2.2.1≠f.2.2.1->(∀t,Jx xak [Yr q,toC q]=some t->n<=t)->False:=λh1 h2 h3 h4=>hc ⟨_,h1,h2,h3,h4⟩
  cases hfrom:Jo xes (Yr q)with
  |none=>
   have hk1:mget (iE xes) q.2.2.1=none:=hkS _ hfrom
   cases hak:Jx xak [Yr q,toC q]with
   |none=>
    have hk2:vget (wE xak) [q.2.2.1,q.2.2.2.1]=none:=hkA _ hak
    refine YtB ?_
    apply Yg (plL c g (some ⟨gA,0,none⟩) sc ss tA tc atts dA dc dels [Z])
    ·intro w hw
     refine hback w ?_
     revert w
     exact zc0
    exact Yuf
   |some t=>
    have hk2:vget (wE xak) [q.2.2.1,q.2.2.2.1]=some (.int .i64 t):=hkA _ hak
    refine YtB ?_
    apply Yg (plL c g (some ⟨gA,0,none⟩) sc ss tA tc atts dA dc dels [Z])
    ·intro w hw
     refine hback w ?_
     revert w
     exact zc0
    exact Yuf
  |some a=>
   have hk1:mget (iE xes) q.2.2.1=some (.int .i64 a):=hkS _ hfrom
   cases hak:Jx xak [Yr q,toC q]with
   |none=>
    have hk2:vget (wE xak) [q.2.2.1,q.2.2.2.1]=none:=hkA _ hak
    by_cases hgo:a<=n/\q.2.2.1≠f.2.2.1
    ·exact absurd (hkF hfrom hgo.1 hgo.2 (λt h=>by rw[hak]at h;cases h)) id
    repeat'(first|(apply YK;exact rfl;exact rfl)|(apply Jf (kt:=3) (et:=3);exact rfl;exact rfl;exact zm;kernel_rfl;exact rfl;exact hk1)|(apply Vc (kt:=3) (et:=3);exact rfl;exact rfl;exact zm;kernel_rfl;exact rfl;exact hk1;exact Oj)|(apply JS (kt:=281) (et:=3) [q.2.2.1,q.2.2.2.1];exact rfl;exact rfl;exact zm;kernel_rfl;exact rfl;exact hakL;exact rfl;exact hk2)|(apply JR (kt:=281) (et:=3) [q.2.2.1,q.2.2.2.1];exact rfl;exact rfl;exact zm;kernel_rfl;exact rfl;exact hakL;exact rfl;exact hk2;exact Oj)|refine zgd ?_|(refine zgf ?_ ?_<;>intro _<;>try exact zo)|fail)
    all_goals(
     apply Yg (plL c g (some ⟨gA,0,none⟩) sc ss tA tc atts dA dc dels [Z])
     ·intro w hw
      refine hback w ?_
      revert w
      exact zk
     apply ZD;exact rfl
     exact⟨_,_,_,_,_,_,_,rfl,hno,rfl⟩
     skip)
   |some t=>
    have hk2:vget (wE xak) [q.2.2.1,q.2.2.2.1]=some (.int .i64 t):=hkA _ hak
    by_cases hgo:a<=n/\q.2.2.1≠f.2.2.1/\n<=t
    ·exact absurd (hkF hfrom hgo.1 hgo.2.1 (λt' h=>by rw[hak]at h;rw[<-Tz h];exact hgo.2.2)) id
    repeat'(first|(apply YK;exact rfl;exact rfl)|(apply Jf (kt:=3) (et:=3);exact rfl;exact rfl;exact zm;kernel_rfl;exact rfl;exact hk1)|(apply Vc (kt:=3) (et:=3);exact rfl;exact rfl;exact zm;kernel_rfl;exact rfl;exact hk1;exact Oj)|(apply JS (kt:=281) (et:=3) [q.2.2.1,q.2.2.2.1];exact rfl;exact rfl;exact zm;kernel_rfl;exact rfl;exact hakL;exact rfl;exact hk2)|(apply JR (kt:=281) (et:=3) [q.2.2.1,q.2.2.2.1];exact rfl;exact rfl;exact zm;kernel_rfl;exact rfl;exact hakL;exact rfl;exact hk2;exact Oj)|refine zgd ?_|(refine zgf ?_ ?_<;>intro _<;>try exact zo)|fail)
    all_goals(
     apply Yg (plL c g (some ⟨gA,0,none⟩) sc ss tA tc atts dA dc dels [Z])
     ·intro w hw
      refine hback w ?_
      revert w
      exact zk
     apply ZD;exact rfl
     exact⟨_,_,_,_,_,_,_,rfl,hno,rfl⟩
     skip)
 obtain⟨a,hfrom,hcn,hcd,hck⟩:=hcan.1 hc
 have hk1:mget (iE xes) q.2.2.1=some (.int .i64 a):=hkS _ hfrom
 have hcd:q.2.2.1≠f.2.2.1:=hcd
 obtain⟨tz,htz0,htzb,htz⟩:∃tz:Int,0<=tz/\tz<=b/\((vget xts [q.2.2.1,q.2.2.2.1]=none/\tz=0)\/vget xts [q.2.2.1,q.2.2.2.1]=some (.int .i64 tz)):=by
  cases h:vget xts [q.2.2.1,q.2.2.2.1]with
  |none=>exact⟨0,RI _,hb.1,.inl ⟨rfl,rfl⟩⟩
  |some v=>
   obtain⟨l1,bb,l2,e,-⟩:=JO h
   obtain⟨z,h1,h2,h3⟩:=hxo.ts.z ([q.2.2.1,q.2.2.2.1],v,bb) (by show _∈xts;rw[e];simp)
   exact⟨z,h2,h3,.inr (by rw[<-h1])⟩
 have htL:∀e∈xts,e.1.length=2:=hxo.ts.ok.len
 have hRZ:∀w,St B w0 (blk gf (.cells #[.int .i64 f.1,.int .i64 f.2.1,.int .i64 f.2.2.1,.int .i64 f.2.2.2.1,.int .i64 f.2.2.2.2.1,.int .i64 f.2.2.2.2.2] 53 (0,0))::blk gl (.cells #[.int .i64 q.2.2.1,.int .i64 q.2.2.2.1] 281 (0,0))::blk gc (.cells #[.int .i64 q.1,.int .i64 q.2.1,.int .i64 q.2.2.1,.int .i64 q.2.2.2.1,.int .i64 q.2.2.2.2] 117 (0,0))::plS (some ⟨gA,0,none⟩) c.l.length sc ss::plT tA tc atts::plD dA dc dels::blk a1 (mobj (iE xes) xce)::blk a2 (vobj xts xct)::blk a3 (vobj (wE xak) xca)::many ((ss.take i).map smQ++(ss.drop (i+1)).map smQ)::[Z]) w->St B w0 [Z] w:=zc0
 obtain⟨ab,hab⟩:∃ab:Bool,(Jx xak [Yr q,toC q]).isSome=ab:=⟨_,rfl⟩
 obtain⟨tv,htv⟩:∃tv:Int,(vget (wE xak) [q.2.2.1,q.2.2.2.1]=some (.int .i64 tv)/\ab=true)\/(vget (wE xak) [q.2.2.1,q.2.2.2.1]=none/\ab=false/\∀w,(zeroValue 3).run Tryz.prog w=.ok (.int .i64 tv) w):=by
  cases hopt:Jx xak [Yr q,toC q]with
  |none=>exact⟨0,.inr ⟨hkA _ hopt,by rw[<-hab,hopt];rfl,Oj⟩⟩
  |some t=>exact⟨t,.inl ⟨hkA _ hopt,by rw[<-hab,hopt];rfl⟩⟩
 have htn:ab=true->n<=tv:=λh=>by
  rcases htv with⟨h1,_⟩|⟨_,h1,_⟩
  ·cases hopt:Jx xak [Yr q,toC q]with
   |none=>rw[hkA _ hopt]at h1;cases h1
   |some t=>
    rw[hkA _ hopt]at h1
    injection h1 with h1
    injection h1 with _ h1
    rw[<-h1]
    exact hck t hopt
  ·rw[h]at h1;cases h1
 have htz2:vget xts [q.2.2.1,q.2.2.2.1]=some (.int .i64 tz)\/(vget xts [q.2.2.1,q.2.2.2.1]=none/\∀w,(zeroValue 3).run Tryz.prog w=.ok (.int .i64 tz) w):=by
  rcases htz with⟨h1,h2⟩|h1
  ·exact .inr ⟨h1,λw=>by rw[h2];exact Oj w⟩
  ·exact .inl h1
 iterate 32 (first|(apply YK;exact rfl;exact rfl)|(apply Jf (kt:=3) (et:=3);exact rfl;exact rfl;exact zm;kernel_rfl;exact rfl;exact hk1)|(apply Yhg (kt:=281) (et:=3) [q.2.2.1,q.2.2.2.1];exact rfl;exact rfl;exact zm;kernel_rfl;exact rfl;exact hakL;exact rfl;exact htv)|refine zgd ?_|fail)
 refine XE (λ_:Unit=>[(0,.pointer (some ⟨g,0,none⟩)),(2,.int .i64 n),(4,.pointer (some ⟨gc,0,none⟩)),(7,.pointer (some ⟨gf,0,none⟩)),(8,sptr (some ⟨gA,0,none⟩) (i*5)),(9,.pointer (some ⟨gl,0,none⟩)),(13,.bool ab)]) (λ_=>blk gf (.cells #[.int .i64 f.1,.int .i64 f.2.1,.int .i64 f.2.2.1,.int .i64 f.2.2.2.1,.int .i64 f.2.2.2.2.1,.int .i64 f.2.2.2.2.2] 53 (0,0))::blk gl (.cells #[.int .i64 q.2.2.1,.int .i64 q.2.2.2.1] 281 (0,0))::blk gc (.cells #[.int .i64 q.1,.int .i64 q.2.1,.int .i64 q.2.2.1,.int .i64 q.2.2.2.1,.int .i64 q.2.2.2.2] 117 (0,0))::plB c g (some ⟨gA,0,none⟩) c.l.length sc tA atts.length tc dA dels.length dc::plS (some ⟨gA,0,none⟩) c.l.length sc ss::plT tA tc atts::plD dA dc dels::blk a1 (mobj (iE xes) xce)::blk a2 (vobj xts xct)::blk a3 (vobj (wE xak) xca)::many ((ss.take i).map smQ++(ss.drop (i+1)).map smQ)::[Z]) ?_ ?_
 ·intro K2 hK2
  cases ab with
  |false=>
   refine zX13 ?_<;>intros
   apply hK2 ()
   ·exact zc1
   ·exact zc0
  |true=>
   have h9:=htn rfl
   refine zX13 ?_<;>intros
   apply hK2 ()
   ·exact zc1
   ·exact zc0
 rintro⟨⟩
 refine zX4 ?_
 apply YD [0,1,2,3,4,5,6,7,8,9,10,11,12,13,14,15] [] [true,true,true,true,true,true,true,true,true,true,true,true]
 kernel_rfl
 kernel_rfl
 exact zy
 (simp only[Yd,nthO];rfl)
 exact rfl
 repeat'(first|(apply YK;exact rfl;exact rfl)|(apply WD (kt:=281) (et:=3) [q.2.2.1,q.2.2.2.1];exact rfl;exact rfl;exact zm;kernel_rfl;exact rfl;exact htL;exact rfl;exact htz2)|refine zgd ?_|fail)
 apply Ye _ Yv2
 exact za
 exact rfl
 exactλ_ hw=>(Yks c _ _ _ _ _ htz0 hxl (blk gf (.cells #[.int .i64 f.1,.int .i64 f.2.1,.int .i64 f.2.2.1,.int .i64 f.2.2.2.1,.int .i64 f.2.2.2.2.1,.int .i64 f.2.2.2.2.2] 53 (0,0))::blk gl (.cells #[.int .i64 q.2.2.1,.int .i64 q.2.2.2.1] 281 (0,0))::blk gc (.cells #[.int .i64 q.1,.int .i64 q.2.1,.int .i64 q.2.2.1,.int .i64 q.2.2.2.1,.int .i64 q.2.2.2.2] 117 (0,0))::plS (some ⟨gA,0,none⟩) c.l.length sc ss::plT tA tc atts::plD dA dc dels::blk a1 (mobj (iE xes) xce)::blk a2 (vobj xts xct)::blk a3 (vobj (wE xak) xca)::many ((ss.take i).map smQ++(ss.drop (i+1)).map smQ)::[Z]) hRZ zc0 zc0 hx (hw))
 rintro _ _ ⟨⟨o,rfl⟩,hK0⟩
 rw[hK0]
 refine zX18 ?_
 have hts:TOk xts xct b:=hxo.ts
 refine XE (λ(_:{z:YR×Nat//TOk z.1 z.2 (b+1)})=>[(0,.pointer (some ⟨g,0,none⟩)),(2,.int .i64 n),(4,.pointer (some ⟨gc,0,none⟩)),(7,.pointer (some ⟨gf,0,none⟩)),(8,sptr (some ⟨gA,0,none⟩) (i*5)),(9,.pointer (some ⟨gl,0,none⟩)),(13,.bool ab),(14,.int .i64 o)]) (λz=>blk gf (.cells #[.int .i64 f.1,.int .i64 f.2.1,.int .i64 f.2.2.1,.int .i64 f.2.2.2.1,.int .i64 f.2.2.2.2.1,.int .i64 f.2.2.2.2.2] 53 (0,0))::blk gl (.cells #[.int .i64 q.2.2.1,.int .i64 q.2.2.2.1] 281 (0,0))::blk gc (.cells #[.int .i64 q.1,.int .i64 q.2.1,.int .i64 q.2.2.1,.int .i64 q.2.2.2.1,.int .i64 q.2.2.2.2] 117 (0,0))::plB c g (some ⟨gA,0,none⟩) c.l.length sc tA atts.length tc dA dels.length dc::plS (some ⟨gA,0,none⟩) c.l.length sc ss::plT tA tc atts::plD dA dc dels::blk a1 (mobj (iE xes) xce)::blk a2 (vobj z.1.1 z.1.2)::blk a3 (vobj (wE xak) xca)::many ((ss.take i).map smQ++(ss.drop (i+1)).map smQ)::[Z]) ?_ ?_
 ·intro K2 hK2
  rcases htz with⟨htz,rfl⟩|htz
  ·have hg2:vget (xts++[([q.2.2.1,q.2.2.2.1],Value.int .i64 0,xct)]) [q.2.2.1,q.2.2.2.1]=some (.int .i64 0):=by
    unfold vget at htz⊢
    rw[Option.map_eq_none_iff]at htz
    rw[Nr,htz]
    simp
   have hL2:∀e∈xts++[([q.2.2.1,q.2.2.2.1],Value.int .i64 0,xct)],e.1.length=2:=(hts.ok.snoc rfl _).len
   have hbir:∀e∈xts,e.2.2≠xct:=λe he=>Nat.ne_of_lt (hts.ok.lt e he)
   have hnew:TOk (xts++([q.2.2.1,q.2.2.2.1],Value.int .i64 (0+1),xct)::[]) (xct+1) (b+1):=⟨hts.ok.snoc rfl _,λe he=>by
    rcases TF.1 he with he|he
    ·obtain⟨z,h1,h2,h3⟩:=hts.z e he
     exact⟨z,h1,h2,by omega⟩
    ·rw[TO.1 he]
     exact⟨0+1,rfl,by omega,by omega⟩⟩
   apply Qi (.p1 0 (.p1 1 (.p1 2 (.p1 3 (.p1 4 (.d2 5 (.p1 6 (.d1 7 (.p1 8 .done))) 7 (.p1 8 (.d1 5 (.p1 6 .done))))))))) [9] [false,true,false,false,true]
   kernel_rfl
   kernel_rfl
   exact zy
   (simp only[Yd,nthO];rfl)
   repeat'(first|(apply YK;exact rfl;exact rfl)|(apply V5 (kt:=281) (et:=3) [q.2.2.1,q.2.2.2.1];exact rfl;exact rfl;exact zm;kernel_rfl;exact rfl;exact htL;exact rfl;exact htz;exact Oj)|(apply Z4 (kt:=281) (et:=3) [q.2.2.1,q.2.2.2.1];exact rfl;exact rfl;exact zm;kernel_rfl;exact rfl;exact hL2;exact rfl;exact hg2)|(apply YbW (kt:=281) (et:=3) [q.2.2.1,q.2.2.2.1];exact rfl;exact rfl;kernel_rfl;exact rfl;exact htL;exact rfl;exact zd;exact htz;exact Oj)|(apply Vz (l1:=xts) (l2:=[]) (k:=[q.2.2.1,q.2.2.2.1]);(iterate 3 exact rfl);exact zd;exact hbir)|(apply Ylf;(simp only[nthO];rfl))|(apply Yld;(simp only[nthO];rfl);exact zp)|(apply Yle;(simp only[nthO];rfl);(simp only[nthO];rfl);exact zp)|(apply Qm;try exact zl)|refine zgd ?_|fail)
   all_goals(
    apply hK2 ⟨(_,_),hnew⟩
    ·exact zu
    ·exact zk)
  ·obtain⟨l1,bb,l2,e,hne⟩:=JO htz
   subst e
   have hbir:=hts.ok.births
   have hL0:∀e∈l1,e.1.length=2:=λe he=>htL e (TF.2 (.inl he))
   have hnew:TOk (l1++([q.2.2.1,q.2.2.2.1],Value.int .i64 (tz+1),bb)::l2) xct (b+1):=⟨hts.ok.set _,λe he=>by
    rcases TF.1 he with he|he
    ·obtain⟨z,h1,h2,h3⟩:=hts.z e (TF.2 (.inl he))
     exact⟨z,h1,h2,by omega⟩
    ·rcases TV.1 he with rfl|he
     ·exact⟨tz+1,rfl,by omega,by omega⟩
     ·obtain⟨z,h1,h2,h3⟩:=hts.z e (TF.2 (.inr (TJ _ he)))
      exact⟨z,h1,h2,by omega⟩⟩
   apply Qi (.p1 0 (.p1 1 (.p1 2 (.p1 3 (.p1 4 (.d2 5 (.p1 6 (.d1 7 (.p1 8 .done))) 7 (.p1 8 (.d1 5 (.p1 6 .done))))))))) [9] [false,true,false,false,true]
   kernel_rfl
   kernel_rfl
   exact zy
   (simp only[Yd,nthO];rfl)
   repeat'(first|(apply YK;exact rfl;exact rfl)|(apply Z4 (kt:=281) (et:=3) [q.2.2.1,q.2.2.2.1];exact rfl;exact rfl;exact zm;kernel_rfl;exact rfl;exact htL;exact rfl;exact htz)|(apply YbX (kt:=281) (et:=3) (l1:=l1) (l2:=l2) [q.2.2.1,q.2.2.2.1];exact rfl;exact rfl;kernel_rfl;exact rfl;exact hL0;exact rfl;exact zd;exact hne)|(apply Vz (l1:=l1) (l2:=l2) (k:=[q.2.2.1,q.2.2.2.1]);(iterate 3 exact rfl);exact zd;exact hbir)|(apply Ylf;(simp only[nthO];rfl))|(apply Yld;(simp only[nthO];rfl);exact zp)|(apply Yle;(simp only[nthO];rfl);(simp only[nthO];rfl);exact zp)|(apply Qm;try exact zl)|refine zgd ?_|fail)
   all_goals(
    apply hK2 ⟨(_,_),hnew⟩
    ·exact zu
    ·exact zk)
 rintro⟨⟨ts,ct⟩,hts2⟩
 dsimp only at hts2⊢
 refine zX4 ?_
 refine XE (λ(_:Option Addr×Nat)=>[(0,.pointer (some ⟨g,0,none⟩)),(2,.int .i64 n),(4,.pointer (some ⟨gc,0,none⟩)),(7,.pointer (some ⟨gf,0,none⟩)),(8,sptr (some ⟨gA,0,none⟩) (i*5)),(9,.pointer (some ⟨gl,0,none⟩)),(13,.bool ab),(14,.int .i64 o)]) (λz=>blk gf (.cells #[.int .i64 f.1,.int .i64 f.2.1,.int .i64 f.2.2.1,.int .i64 f.2.2.2.1,.int .i64 f.2.2.2.2.1,.int .i64 f.2.2.2.2.2] 53 (0,0))::blk gl (.cells #[.int .i64 q.2.2.1,.int .i64 q.2.2.2.1] 281 (0,0))::blk gc (.cells #[.int .i64 q.1,.int .i64 q.2.1,.int .i64 q.2.2.1,.int .i64 q.2.2.2.1,.int .i64 q.2.2.2.2] 117 (0,0))::plB c g (some ⟨gA,0,none⟩) c.l.length sc z.1 (atts.length+1) z.2 dA dels.length dc::plS (some ⟨gA,0,none⟩) c.l.length sc ss::sl 119 8 z.1 (atts.length+1) z.2 ((atts++[(⟨n,xf,q,o⟩:AttM)]).flatMap attF)::plD dA dc dels::blk a1 (mobj (iE xes) xce)::blk a2 (vobj ts ct)::blk a3 (vobj (wE xak) xca)::many ((ss.take i).map smQ++(ss.drop (i+1)).map smQ)::[Z]) ?_ ?_
 ·intro K2 hK2
  apply YD [0,1,2,3,4,5,6,7,8,9,10,11,12,13,14,15,16,17,18] [19] [true,true,true,true,true]
  kernel_rfl
  kernel_rfl
  exact zy
  (simp only[Yd,nthO];rfl)
  (simp only[Yd,nthO];rfl)
  refine YtC ?_<;>intros
  rename_i tA' tc'
  have e5:=Yo7 tA' tc' (atts.length+1) atts n xf q o
  apply hK2 (tA',tc')
  ·exact zc1
  ·dsimp only
   rw[<-e5]
   exact zc0
 rintro⟨uA,uc⟩
 dsimp only
 apply Xm
 refine XE (λ(_:{z:List (KL×Int×Nat)×Nat//z.1=if o=1/\Jx xak [Yr q,toC q]=none then xak++[([Yr q,toC q],n,xca)]else xak})=>[(0,.pointer (some ⟨g,0,none⟩)),(2,.int .i64 n),(4,.pointer (some ⟨gc,0,none⟩)),(7,.pointer (some ⟨gf,0,none⟩)),(8,sptr (some ⟨gA,0,none⟩) (i*5)),(9,.pointer (some ⟨gl,0,none⟩)),(13,.bool ab),(14,.int .i64 o)]) (λz=>blk gf (.cells #[.int .i64 f.1,.int .i64 f.2.1,.int .i64 f.2.2.1,.int .i64 f.2.2.2.1,.int .i64 f.2.2.2.2.1,.int .i64 f.2.2.2.2.2] 53 (0,0))::blk gl (.cells #[.int .i64 q.2.2.1,.int .i64 q.2.2.2.1] 281 (0,0))::blk gc (.cells #[.int .i64 q.1,.int .i64 q.2.1,.int .i64 q.2.2.1,.int .i64 q.2.2.2.1,.int .i64 q.2.2.2.2] 117 (0,0))::plB c g (some ⟨gA,0,none⟩) c.l.length sc uA (atts.length+1) uc dA dels.length dc::plS (some ⟨gA,0,none⟩) c.l.length sc ss::sl 119 8 uA (atts.length+1) uc ((atts++[(⟨n,xf,q,o⟩:AttM)]).flatMap attF)::plD dA dc dels::blk a1 (mobj (iE xes) xce)::blk a2 (vobj ts ct)::blk a3 (vobj (wE z.1.1) z.1.2)::many ((ss.take i).map smQ++(ss.drop (i+1)).map smQ)::[Z]) ?_ ?_
 ·intro K2 hK2
  have e9:wE (xak++[([Yr q,toC q],n,xca)])=wE xak++[([q.2.2.1,q.2.2.2.1],Value.int .i64 n,xca)]:=by unfold wE;rw[Rb];rfl
  by_cases ho:o=1
  ·cases hopt:Jx xak [Yr q,toC q]with
   |none=>
    have hb0:ab=false:=by rw[<-hab,hopt];rfl
    have hk2:=hkA _ hopt
    subst hb0
    refine zX1 ?_<;>intros
    apply YD [0,1,2,3,4,5] [6] [false,true,false,false,true]
    kernel_rfl
    kernel_rfl
    exact zy
    (simp only[Yd,nthO];rfl)
    (simp only[Yd,nthO];rfl)
    repeat'(first|(apply YK;exact rfl;exact rfl)|(apply US (kt:=281) (et:=3) [q.2.2.1,q.2.2.2.1];(iterate 3 exact rfl);kernel_rfl;exact rfl;exact hakL;exact zd;exact hk2)|refine zgd ?_|fail)
    apply hK2 ⟨(xak++[([Yr q,toC q],n,xca)],xca+1),by rw[Tj ⟨ho,hopt⟩]⟩
    ·exact zc1
    ·dsimp only
     rw[e9]
     exact zc0
   |some t=>
    have hb0:ab=true:=by rw[<-hab,hopt];rfl
    subst hb0
    refine YqT ?_<;>intros
    apply hK2 ⟨(xak,xca),by rw[Tf (λh=>by rw[hopt]at h;cases h.2)]⟩
    ·exact zc1
    ·exact zc0
  ·skip
   refine YtD ?_<;>intros
   apply hK2 ⟨(xak,xca),by rw[Tf (λh=>ho h.1)]⟩
   ·exact zc1
   ·exact zc0
 rintro⟨⟨ak,ca⟩,hak⟩
 dsimp only at hak⊢
 by_cases ho3:o=3
 ·refine zX98 ?_<;>intros
  apply Yg (plL c g (some ⟨gA,0,none⟩) sc (ss.set i (SM.mk xf (some (a1,a2,a3)) xes xce ts ct ak ca xd)) uA uc (atts++[(⟨n,xf,q,o⟩:AttM)]) dA dc dels [Z])
  ·intro w hw
   refine Qr (x':=SM.mk xf (some (a1,a2,a3)) xes xce ts ct ak ca xd) hxs rfl (e:=ss) (nt:=atts.length+1) (nd:=dels.length) (Eq.symm (flat_set hxs rfl)) (by simp) rfl w ?_
   revert w
   exact zc0
  apply ZD;exact rfl
  exact⟨_,_,_,_,_,_,_,rfl,Ybw hf hxs hfi hc hxo.ak hts2 hak (Tj (Or.inl ho3)).symm (by rw[ho3];simp) (by unfold delS;rw[Tf (λh=>h.1 ho3),Ri]),rfl⟩
 iterate 11 (first|refine zgb ?_|(refine zge ?_ ?_<;>intro _<;>try exact zo)|fail)
 refine XE (λ(_:{z:List (Int×Int×Nat)×Nat//z.1=if o=3\/(Jo xes (toC q)).isSome=true then xes else xes++[(toC q,n+1,xce)]})=>[(0,.pointer (some ⟨g,0,none⟩)),(2,.int .i64 n),(4,.pointer (some ⟨gc,0,none⟩)),(7,.pointer (some ⟨gf,0,none⟩)),(8,sptr (some ⟨gA,0,none⟩) (i*5)),(9,.pointer (some ⟨gl,0,none⟩)),(13,.bool ab),(14,.int .i64 o)]) (λz=>blk gf (.cells #[.int .i64 f.1,.int .i64 f.2.1,.int .i64 f.2.2.1,.int .i64 f.2.2.2.1,.int .i64 f.2.2.2.2.1,.int .i64 f.2.2.2.2.2] 53 (0,0))::blk gl (.cells #[.int .i64 q.2.2.1,.int .i64 q.2.2.2.1] 281 (0,0))::blk gc (.cells #[.int .i64 q.1,.int .i64 q.2.1,.int .i64 q.2.2.1,.int .i64 q.2.2.2.1,.int .i64 q.2.2.2.2] 117 (0,0))::plB c g (some ⟨gA,0,none⟩) c.l.length sc uA (atts.length+1) uc dA dels.length dc::plS (some ⟨gA,0,none⟩) c.l.length sc ss::sl 119 8 uA (atts.length+1) uc ((atts++[(⟨n,xf,q,o⟩:AttM)]).flatMap attF)::plD dA dc dels::blk a1 (mobj (iE z.1.1) z.1.2)::blk a2 (vobj ts ct)::blk a3 (vobj (wE ak) ca)::many ((ss.take i).map smQ++(ss.drop (i+1)).map smQ)::[Z]) ?_ ?_
 ·intro K2 hK2
  have e9:iE (xes++[(toC q,n+1,xce)])=iE xes++[(q.2.2.2.1,Value.int .i64 (n+1),xce)]:=by unfold iE;rw[Rb];rfl
  have hkT:∀t,Jo xes (toC q)=t->mget (iE xes) q.2.2.2.1=t.map (Value.int .i64):=λt h=>by rw[Yl5,<-h];rfl
  cases hto:Jo xes (toC q)with
  |none=>
   have hk3:=hkT _ hto
   repeat'(first|(apply YK;exact rfl;exact rfl)|(apply Vc (kt:=3) (et:=3);exact rfl;exact rfl;exact zm;kernel_rfl;exact rfl;exact hk3;exact Oj)|refine zgd ?_|fail)
   apply YD [0,1,2,3,4,5,6,7] [8] [false,false,true,false,true]
   kernel_rfl
   kernel_rfl
   exact zy
   (simp only[Yd,nthO];rfl)
   (simp only[Yd,nthO];rfl)
   repeat'(first|(apply YK;exact rfl;exact rfl)|(apply Yej (kt:=3) (et:=3);(iterate 3 exact rfl);kernel_rfl;exact zd;exact hk3)|refine zgd ?_|fail)
   apply hK2 ⟨(xes++[(toC q,n+1,xce)],xce+1),by rw[Tf (λh=>by rw[hto]at h;rcases h with h|h;exact ho3 h;cases h)]⟩
   ·exact zc1
   ·dsimp only
    rw[e9]
    exact zc0
  |some t=>
   have hk3:=hkT _ hto
   repeat'(first|(apply YK;exact rfl;exact rfl)|(apply Jf (kt:=3) (et:=3);exact rfl;exact rfl;exact zm;kernel_rfl;exact rfl;exact hk3)|refine zgd ?_|fail)
   apply hK2 ⟨(xes,xce),by rw[Tj (.inr (by rw[hto];rfl))]⟩
   ·exact zc1
   ·exact zc0
 rintro⟨⟨es,ce⟩,hes⟩
 dsimp only at hes⊢
 have hdq:(toC q=dstF f)=(q.2.2.2.1=f.2.2.1):=rfl
 by_cases hds:q.2.2.2.1=f.2.2.1
 rotate_left
 ·skip
  refine YtD ?_<;>intros
  apply Yg (plL c g (some ⟨gA,0,none⟩) sc (ss.set i (SM.mk xf (some (a1,a2,a3)) es ce ts ct ak ca xd)) uA uc (atts++[(⟨n,xf,q,o⟩:AttM)]) dA dc dels [Z])
  ·intro w hw
   refine Qr (x':=SM.mk xf (some (a1,a2,a3)) es ce ts ct ak ca xd) hxs rfl (e:=ss) (nt:=atts.length+1) (nd:=dels.length) (Eq.symm (flat_set hxs rfl)) (by simp) (rfl) w ?_
   revert w
   exact zc0
  apply X7;exact rfl
  exact⟨_,_,_,_,_,_,_,rfl,Ybw hf hxs hfi hc hxo.ak hts2 hak hes (by rw[show decide (toC q=dstF f)=false from Tn hds,Bool.and_false,NJ]) (by unfold delS;rw[Tf (λh=>hds h.2.1),Ri]),rfl⟩
 cases xd with
 |true=>
  refine YqT ?_<;>intros
  apply Yg (plL c g (some ⟨gA,0,none⟩) sc (ss.set i (SM.mk xf (some (a1,a2,a3)) es ce ts ct ak ca true)) uA uc (atts++[(⟨n,xf,q,o⟩:AttM)]) dA dc dels [Z])
  ·intro w hw
   refine Qr (x':=SM.mk xf (some (a1,a2,a3)) es ce ts ct ak ca true) hxs rfl (e:=ss) (nt:=atts.length+1) (nd:=dels.length) (Eq.symm (flat_set hxs rfl)) (by simp) (rfl) w ?_
   revert w
   exact zc0
  apply X7;exact rfl
  exact⟨_,_,_,_,_,_,_,rfl,Ybw hf hxs hfi hc hxo.ak hts2 hak hes (by rw[Bool.true_or]) (by unfold delS;rw[Tf (λh=>by cases h.2.2),Ri]),rfl⟩
 |false=>
 refine YqT ?_<;>intros
 apply Ji T (f:=smF) (l:=ss) (i:=i) (q:=5) (o:=4) (b:=(SM.mk xf (some (a1,a2,a3)) xes xce xts xct xak xca false)) (b':=(SM.mk xf (some (a1,a2,a3)) xes xce xts xct xak xca true));(iterate 3 exact rfl);exact zd;exact hxs;(simp[smF]);exactλ_=>rfl;exact rfl;exact rfl
 have hil2:=(Td.1 hxs).1
 have hsl2:(ss.set i (SM.mk xf (some (a1,a2,a3)) xes xce xts xct xak xca true)).length=c.l.length:=by rw[TT];exact hss
 have hset:(ss.set i (SM.mk xf (some (a1,a2,a3)) xes xce xts xct xak xca true))[i]? =some (SM.mk xf (some (a1,a2,a3)) xes xce xts xct xak xca true):=Si hil2
 repeat'(first|(apply YK;exact rfl;exact rfl)|refine zga ?_|fail)
 apply YD [0,1,2,3,4,5,6,7,8,9,10,11,12,13,14,15,16,17,18] [19] [true,true,true,true,true]
 kernel_rfl
 kernel_rfl
 exact zy
 (simp only[Yd,nthO];rfl)
 (simp only[Yd,nthO];rfl)
 refine YtC ?_<;>intros
 rename_i dA' dc'
 have e6:=Ypg dA' dc' (dels.length+1) dels f.1 xf n
 apply Yg (plL c g (some ⟨gA,0,none⟩) sc (ss.set i (SM.mk xf (some (a1,a2,a3)) es ce ts ct ak ca true)) uA uc (atts++[(⟨n,xf,q,o⟩:AttM)]) dA' dc' (dels++[(f.1,xf,n)]) [Z])
 ·intro w hw
  refine Qr (x':=SM.mk xf (some (a1,a2,a3)) es ce ts ct ak ca true) hxs rfl (e:=ss.set i (SM.mk xf (some (a1,a2,a3)) xes xce xts xct xak xca true)) (nt:=atts.length+1) (nd:=dels.length+1) (Yng hil2 rfl) (by simp) (by simp) w ?_
  rw[<-e6]
  revert w
  exact zc0
 apply X7;exact rfl
 exact⟨_,_,_,_,_,_,_,rfl,Ybw hf hxs hfi hc hxo.ak hts2 hak hes (by rw[Ti ho3,Ti (by rw[hdq];exact hds)];rfl) (by unfold delS;rw[Tj ⟨ho3,hds,rfl⟩];rfl),rfl⟩
open Go.RowKit Go.Eng Go.Nw Go.Rt Go.Sort Go.Shelf Go.Proofs
theorem Ysm(a b c d:Int)(g:Nat)(W:World)(h0:W.cell? ⟨g,0,none⟩=some (.int .i64 a))(h1:W.cell? ⟨g,1,none⟩=some (.int .i64 b))(h2:W.cell? ⟨g,2,none⟩=some (.int .i64 c))(h3:W.cell? ⟨g,3,none⟩=some (.int .i64 d)):
 Calls Tryz.prog 48 #[.slice (some ⟨g,0,none⟩) 4 4] W λe w'=>e=.returned (.int .i64 (YJ [a,b,c,d]))/\w'=W:=by
 go_enter Tryz.func48,Tryz.ntmps48
 go_wp2
 refine wp_loop_rounds 5 ?_
 rw[rounds_succ]
 go_wp2
 ·rename_i hx
  have hx:a≠0:=by simpa using hx
  go_ret
  exact⟨by simp only[YJ];rw[Tj hx];rfl,rfl⟩
 rename_i ha
 have ha:a=0:=by simpa using ha
 rw[rounds_succ]
 go_wp2
 ·rename_i hx
  have hx:b≠0:=by simpa using hx
  go_ret
  exact⟨by simp only[YJ];rw[Tf (by omega)];rw[Tj hx];rfl,rfl⟩
 rename_i hb
 have hb:b=0:=by simpa using hb
 rw[rounds_succ]
 go_wp2
 ·rename_i hx
  have hx:c≠0:=by simpa using hx
  go_ret
  exact⟨by simp only[YJ];rw[Tf (by omega)];rw[Tf (by omega)];rw[Tj hx];rfl,rfl⟩
 rename_i hc
 have hc:c=0:=by simpa using hc
 rw[rounds_succ]
 go_wp2
 ·rename_i hx
  have hx:d≠0:=by simpa using hx
  go_ret
  exact⟨by simp only[YJ];rw[Tf (by omega)];rw[Tf (by omega)];rw[Tf (by omega)];rw[Tj hx];rfl,rfl⟩
 rename_i hd
 have hd:d=0:=by simpa using hd
 rw[rounds_succ]
 go_wp2
 go_ret
 exact⟨by simp only[YJ];rw[Tf (by omega),Tf (by omega),Tf (by omega),Tf (by omega)];rfl,rfl⟩
structure BrM where
 f:Int
 k:Int
 u:Int
 v:Int
 A:Option Addr
 n:Nat
 cap:Nat
deriving Inhabited
def brF(x:BrM):List Value:=[.int .i64 x.f,.int .i64 x.k,.int .i64 x.u,.int .i64 x.v,.slice x.A x.n x.cap]
def cfBr(x y:BrM):Int:=YJ [Lib.compareInt x.f y.f,Lib.compareInt x.k y.k,Lib.compareInt x.u y.u,Lib.compareInt x.v y.v]
theorem YvD(x y:BrM)(W:World):Calls Tryz.prog 47 #[.agg #[.int .i64 x.f,.int .i64 x.k,.int .i64 x.u,.int .i64 x.v,.slice x.A x.n x.cap],.agg #[.int .i64 y.f,.int .i64 y.k,.int .i64 y.u,.int .i64 y.v,.slice y.A y.n y.cap]] W λe w'=>e=.returned (.int .i64 (cfBr x y))/\∃q os',w'=grow (W.drewN q) os':=by
 have c1:=λW'=>Tryz.cmp_Compare_int x.f y.f W'
 have c2:=λW'=>Tryz.cmp_Compare_int x.k y.k W'
 have c3:=λW'=>Tryz.cmp_Compare_int x.u y.u W'
 have c4:=λW'=>Tryz.cmp_Compare_int x.v y.v W'
 unfold cfBr
 generalize Lib.compareInt x.f y.f=r1 at c1⊢
 generalize Lib.compareInt x.k y.k=r2 at c2⊢
 generalize Lib.compareInt x.u y.u=r3 at c3⊢
 generalize Lib.compareInt x.v y.v=r4 at c4⊢
 go_enter Tryz.func47,Tryz.ntmps47
 go_wp2
 generalize hw1:(W.alloc (.cells #[.int .i64 x.f,.int .i64 x.k,.int .i64 x.u,.int .i64 x.v,.slice x.A x.n x.cap] 67)).alloc (.cells #[.int .i64 y.f,.int .i64 y.k,.int .i64 y.u,.int .i64 y.v,.slice y.A y.n y.cap] 67)=w1
 have hg:grow W #[.cells #[.int .i64 x.f,.int .i64 x.k,.int .i64 x.u,.int .i64 x.v,.slice x.A x.n x.cap] 67 (0,0),.cells #[.int .i64 y.f,.int .i64 y.k,.int .i64 y.u,.int .i64 y.v,.slice y.A y.n y.cap] 67 (0,0)]=w1:=by
  rw[<-hw1,alloc_eq_grow,alloc_eq_grow,grow_grow];rfl
 have x0:w1.drew.cell? ⟨W.heap.size,0,none⟩=some (.int .i64 x.f):=by rw[<-hw1];simp
 have x1:w1.drew.cell? ⟨W.heap.size,1,none⟩=some (.int .i64 x.k):=by rw[<-hw1];simp
 have x2:w1.drew.cell? ⟨W.heap.size,2,none⟩=some (.int .i64 x.u):=by rw[<-hw1];simp
 have x3:w1.drew.cell? ⟨W.heap.size,3,none⟩=some (.int .i64 x.v):=by rw[<-hw1];simp
 have y0:w1.drew.cell? ⟨W.heap.size+1,0,none⟩=some (.int .i64 y.f):=by rw[<-hw1];simp
 have y1:w1.drew.cell? ⟨W.heap.size+1,1,none⟩=some (.int .i64 y.k):=by rw[<-hw1];simp
 have y2:w1.drew.cell? ⟨W.heap.size+1,2,none⟩=some (.int .i64 y.u):=by rw[<-hw1];simp
 have y3:w1.drew.cell? ⟨W.heap.size+1,3,none⟩=some (.int .i64 y.v):=by rw[<-hw1];simp
 refine wp_region_still_tail 20 (by kernel_rfl) (by kernel_rfl) ?_
 have e9:({w1 with drawn:=w1.drawn+1}:World)=w1.drew:=rfl
 rw[e9]
 clear e9
 generalize hw2:w1.drew=w2 at x0 x1 x2 x3 y0 y1 y2 y3⊢
 simp only[List.take_succ_cons,Sr,List.drop_succ_cons,N6]
 repeat still_step
 still_call (c1 _)
 repeat still_step
 still_call (c2 _)
 repeat still_step
 still_call (c3 _)
 repeat still_step
 still_call (c4 _)
 refine wpStill_nil ?_
 clear c1 c2 c3 c4
 have hor:Calls Tryz.prog 48 #[.slice (some ⟨w2.heap.size,0,none⟩) 4 4] (w2.alloc (.cells #[.int .i64 r1,.int .i64 r2,.int .i64 r3,.int .i64 r4] 3)) λe w'=>e=.returned (.int .i64 (YJ [r1,r2,r3,r4]))/\w'=w2.alloc (.cells #[.int .i64 r1,.int .i64 r2,.int .i64 r3,.int .i64 r4] 3):=
  Ysm r1 r2 r3 r4 w2.heap.size _ (by simp) (by simp) (by simp) (by simp)
 generalize YJ [r1,r2,r3,r4]=r at hor⊢
 clear x0 x1 x2 x3 y0 y1 y2 y3
 go_wp2_with (go_at_call 48;refine hor.mono ?_;rintro e w' ⟨rfl,rfl⟩)
 go_ret
 refine⟨by first|rfl|kernel_rfl|simp,1,#[.cells #[.int .i64 x.f,.int .i64 x.k,.int .i64 x.u,.int .i64 x.v,.slice x.A x.n x.cap] 67 (0,0),.cells #[.int .i64 y.f,.int .i64 y.k,.int .i64 y.u,.int .i64 y.v,.slice y.A y.n y.cap] 67 (0,0),.cells #[.int .i64 r1,.int .i64 r2,.int .i64 r3,.int .i64 r4] 3 (0,0)],?_⟩
 rw[<-hw2,<-hw1,alloc_eq_grow]
 rfl
def YcX(x y:BrM):Prop:=x.f<y.f\/x.f=y.f/\(x.k<y.k\/x.k=y.k/\(x.u<y.u\/x.u=y.u/\x.v<y.v))
instance(x y:BrM):Decidable (YcX x y):=by unfold YcX;exact inferInstance
theorem Yl6(a b:Int)(l:List Int):YJ (Lib.compareInt a b::l)<0↔a<b\/(a=b/\YJ l<0):=by
 rw[YJ]
 unfold Lib.compareInt
 by_cases h1:a<b
 ·simp[h1]
 ·by_cases h2:a>b
  ·simp[h1,h2];omega
  ·have:a=b:=by omega
   simp[this]
theorem ltBr(x y:BrM):ltOf cfBr x y=decide (YcX x y):=by
 rw[SV]
 unfold ltOf
 rw[Tt,Tt]
 unfold cfBr YcX
 rw[Yl6,Yl6,Yl6,Yl6]
 have:¬YJ []<0:=by decide
 constructor
 ·rintro(h|⟨h1,h|⟨h2,h|⟨h3,h|⟨h4,h5⟩⟩⟩⟩)
  ·exact .inl h
  ·exact .inr ⟨h1,.inl h⟩
  ·exact .inr ⟨h1,.inr ⟨h2,.inl h⟩⟩
  ·exact .inr ⟨h1,.inr ⟨h2,.inr ⟨h3,h⟩⟩⟩
  ·exact absurd h5 this
 ·rintro(h|⟨h1,h|⟨h2,h|⟨h3,h4⟩⟩⟩)
  ·exact .inl h
  ·exact .inr ⟨h1,.inl h⟩
  ·exact .inr ⟨h1,.inr ⟨h2,.inl h⟩⟩
  ·exact .inr ⟨h1,.inr ⟨h2,.inr ⟨h3,.inl h4⟩⟩⟩
theorem YwL:SWO (ltOf cfBr) where
 irrefl x:=by rw[ltBr,T8];unfold YcX;omega
 trans x y z h1 h2:=by rw[ltBr,Tt]at*;unfold YcX at*;omega
 ntrans x y z h1 h2:=by rw[ltBr,T8]at*;unfold YcX at*;omega
abbrev brP(A:Option Addr)(cap:Nat)(l:List BrM):HP:=sl 67 5 A l.length cap (l.flatMap brF)
theorem YiZ(l:List BrM)(hl:l.length<=100000000){A:Option Addr}{cap B:Nat}{w0:World}{H H0:List HP}{w:World}(hin:∀w,St B w0 H0 w->St B w0 (brP A cap l::H) w)(hw:St B w0 H0 w):
 CX B w0 46 [.slice A l.length cap,.func (.func 47) #[] #[]] w λv K=>v=.tuple #[]/\∃l',l'.Perm l/\K=brP A cap l'::H:=by
 have hw:=hin w hw
 by_cases h0:l.length=0
 ·rw[h0]
  refine(AnyF.slices_SortFunc_none Tryz.sortBrs A cap (.func (.func 47) #[] #[]) w).mono ?_
  rintro e w' ⟨rfl,rfl⟩
  exact⟨_,_,rfl,hw,rfl,l,List.Perm.refl _,rfl⟩
 have ho:=hw.sl (TB)
 obtain⟨g,rfl⟩:∃g,A=some ⟨g,0,none⟩:=by
  rcases ho.2 with⟨h1,h2⟩|⟨g,c,cur,h1,h2,h3,h4,h5,h6,h7⟩
  ·omega
  ·injection h1 with e1 e2 e3
   exact⟨g,e1⟩
 obtain⟨hH,hg,hst⟩:=Yay (enc:=brF) (λ_=>rfl) (by decide) (Tm _) hw
 have eg:∀args w,(callFunc 47 args).run Tryz.prog w=.ok (.enter 47 args) w:=en47
 rw[N6,NS]at hH
 have hsz:l.toArray.size=l.length:=by simp
 have hcon:=AnyQ.slices_SortFunc Tryz.sortBrs 5 Tryz.isAgg67 Tryz.sizeOf67 brF (λ_=>rfl) (λx v hv=>by simp[brF]at hv;rcases hv with rfl|rfl|rfl|rfl|rfl<;>rfl) cfBr YwL 47 #[] g 0 cap l.toArray w eg (λ_ _ _ _ x y=>YvD x y _) hH hg (by rw[hsz];omega)
 rw[hsz]at hcon
 refine hcon.mono ?_
 rintro e w' ⟨rfl,d',n,os,hp,_,rfl⟩
 have hp:d'.toList.Perm l:=O8 (d:=l.toArray) (by rw[hsz];exact hp)
 have h5:=hst d'.toList n os (by rw[hp.length_eq];rfl)
 rw[Array.toArray_toList,NS,Sr,TD]at h5
 refine⟨_,_,rfl,h5,rfl,d'.toList,hp,?_⟩
 unfold brP
 rw[hp.length_eq]
structure PInvY(c:PlC)(n:Int)(J:Nat)(ss:List SM)(atts:List AttM)(dels:List (Int×Int×Int)):Prop where
 pl:Pl c.l c.s.sch n J ⟨ss.map SM.st,atts,dels⟩
 len:ss.length=c.l.length
 ok:∀x∈ss,x.Ok (atts.length:Nat)
 dl:dels.length<=atts.length
theorem YuQ(s:Sch)(n:Int):(atE s n).length<=s.cells.length:=by
 unfold atE
 split
 ·exact Tm _
 ·exact RB _ _
theorem PInvY.start(c:PlC):PInvY c 0 0 (List.replicate c.l.length XD) [] []:=by
 refine⟨?_,Rm,λx hx=>?_,TI _⟩
 ·have h:(List.replicate c.l.length XD).map SM.st=c.l.map λ_=>Yk0:=by
   rw[List.map_replicate,List.map_const']
   rfl
  rw[h]
  exact .start
 ·rw[List.eq_of_mem_replicate hx]
  exact⟨λh=>absurd h (by decide),⟨VOk.nil,λe (h:e∈([]:YR))=>absurd h (RJ)⟩,λe (h:e∈([]:List (KL×Int×Nat)))=>absurd h (RJ)⟩
variable {c:PlC}{n:Int}{ss ss':List SM}{atts:List AttM}{dels:List (Int×Int×Int)}
theorem PInvY.rel(h:PInvY c n 0 ss atts dels)(hr:RelS c.l n (atts.length:Nat) ss ss' c.l.length):PInvY c n 1 ss' atts dels:=by
 obtain⟨h1,h2⟩:=hr
 refine⟨.rel (ss'.map SM.st) h.pl (by rw[Tv];exact h1) λi f x a1 a2=>?_,h1,λy hy=>?_,h.dl⟩
 ·rw[TM]at a2
  cases hx:ss[i]? with
  |none=>rw[hx]at a2;cases a2
  |some z=>
   rw[hx]at a2
   obtain⟨x',b1,_,b3⟩:=h2 i f z a1 hx
   rw[Tj (Td.1 a1).1]at b3
   rw[TM,b1,<-Tz a2]
   exact TC some b3
 ·obtain⟨i,hi⟩:=TQ.1 hy
  have hil:=(Td.1 hi).1
  obtain⟨f,hf⟩:∃f,c.l[i]? =some f:=⟨_,Ta (by omega)⟩
  obtain⟨z,hz⟩:∃z,ss[i]? =some z:=⟨_,Ta (by rw[h.len];omega)⟩
  obtain⟨x',b1,b2,_⟩:=h2 i f z hf hz
  rw[hi]at b1
  rw[Tz b1]
  exact b2
theorem PInvY.att{j:Nat}{q:Cel}{atts':List AttM}{dels':List (Int×Int×Int)}(h:PInvY c n (j+1) ss atts dels)(hq:(atE c.s.sch n)[j]? =some q)(ha:AttR c.l n (atts.length:Nat) q ss atts dels ss' atts' dels'):
 PInvY c n (j+2) ss' atts' dels'/\atts'.length<=atts.length+1/\dels.length<=dels'.length:=by
 rcases ha with⟨rfl,rfl,rfl,hn⟩|⟨i,f,x,o,x',hf,hx,hfi,hc,rfl,hst,hxo,rfl,rfl⟩
 ·refine⟨⟨.skip h.pl hq λi f x a1 a2 a3=>?_,h.len,h.ok,h.dl⟩,Nat.le_succ _,TI _⟩
  have a2:(ss'.map SM.st)[i]? =some x:=a2
  rw[TM]at a2
  cases hx:ss'[i]? with
  |none=>rw[hx]at a2;cases a2
  |some z=>
   rw[hx]at a2
   rw[<-Tz a2]
   exact hn i f z a1 hx a3
 ·have hm:(ss.set i x').map SM.st=(ss.map SM.st).set i (J1 f x.st q n o):=by rw[List.map_set,hst]
  have hd:(delS f x.st q n o).length<=1:=by unfold delS;split<;>simp
  refine⟨⟨?_,by rw[TT];exact h.len,λy hy=>?_,?_⟩,by simp,by simp⟩
  ·rw[hm]
   exact .att o h.pl hq hf (by show(ss.map SM.st)[i]? =_;rw[TM,hx];rfl) hfi hc
  ·rw[To,TL]
   rcases Ni hy with hy|rfl
   ·exact(h.ok y hy).mono (by omega)
   ·exact hxo.mono (by omega)
  ·rw[To,To,TL]
   have:=h.dl
   omega
theorem PInvY.next{ds:List (Int×Int×Int)}(h:PInvY c n ((atE c.s.sch n).length+1) ss atts dels)(hp:ds.Perm dels):PInvY c (n+1) 0 ss atts ds:=
 ⟨.next ds h.pl hp,h.len,h.ok,by rw[hp.length_eq];exact h.dl⟩
variable {g sc tc dc B:Nat}{sA tA dA:Option Addr}{w0 w:World}{Z:HP}
theorem YiL(c:PlC)(n b:Int)(hn:0<=n/\n<=1000000)(hl:c.l.length<=1000)(hf:∀f∈c.l,YX 32 f=0)(hss:ss.length=c.l.length)(hok:∀x∈ss,x.Ok b)
 (hr:Rd B w0 [Z] c.fA (c.l.flatMap flwF)) (hw:St B w0 (plL c g sA sc ss tA tc atts dA dc dels [Z]) w):
 CX B w0 104 [.pointer (some ⟨g,0,none⟩),.int .i64 n] w λv K=>∃ss',v=.tuple #[]/\RelS c.l n b ss ss' c.l.length/\K=plL c g sA sc ss' tA tc atts dA dc dels [Z]:=by
 have hZ:∀w,St B w0 [many (plT tA tc atts::plD dA dc dels::[Z])] w->St B w0 [Z] w:=λw h=>((h.perm (.openT _)).tail).tail
 have h0:∀w,St B w0 (plL c g sA sc ss tA tc atts dA dc dels [Z]) w->St B w0 (plB c g sA c.l.length sc tA atts.length tc dA dels.length dc::plS sA c.l.length sc ss::many (ss.map smQ)::plT tA tc atts::plD dA dc dels::[Z]) w:=by
  exact zk
 have h1:=h0 w hw
 refine(Yd4 (Z:=many (plT tA tc atts::plD dA dc dels::[Z])) c n b hn hl hf hss hok (hr.mono hZ) (h1.perm (.cons _ (.cons _ (.cons _ (.closeT _)))))).mono ?_
 rintro e w' ⟨v,K,h1,hst,ss',h2,h3,rfl⟩
 refine⟨v,_,h1,?_,ss',h2,h3,rfl⟩
 have h4:St B w0 (plB c g sA c.l.length sc tA atts.length tc dA dels.length dc::plS sA c.l.length sc ss'::many (ss'.map smQ)::plT tA tc atts::plD dA dc dels::[Z]) w':=hst.perm (.cons _ (.cons _ (.cons _ (.openT _))))
 clear hst h1
 revert w'
 exact zk
theorem YjE(c:PlC)(q:Cel)(n b:Int)(hn:0<=n/\n<=1000000)(hb:0<=b/\b<=100000000)(hl:c.l.length<=1000)(hid:c.l.Pairwise λa b=>a.1≠b.1)(hxl:c.xs.length<=1000000)(hss:ss.length=c.l.length)(hok:∀x∈ss,x.Ok b)
 (hat:atts.length<=100000000) (hdl:dels.length<=100000000) (hr:Rd B w0 [Z] c.fA (c.l.flatMap flwF)) (hx:XIn B w0 [Z] c.xA c.xs) {H:List HP}(R:List HP) (hR:∀w,St B w0 R w->St B w0 [Z] w) (hin:∀w,St B w0 H w->St B w0 (plL c g sA sc ss tA tc atts dA dc dels R) w) (hw:St B w0 H w):
 CX B w0 106 [.pointer (some ⟨g,0,none⟩),celV q,.int .i64 n] w λv K=>∃ss' tA' tc' atts' dA' dc' dels',v=.tuple #[]/\AttR c.l n b q ss atts dels ss' atts' dels'/\K=plL c g sA sc ss' tA' tc' atts' dA' dc' dels' R:=by
 have hZ:∀w,St B w0 [many R] w->St B w0 [Z] w:=λw h=>hR w (h.perm (.openT R))
 refine(YfX (Z:=many R) c q n b hn hb hl hid hxl hss hok hat hdl (hr.mono hZ) (hx.mono hZ) ((hin w hw).perm (.cons _ (.cons _ (.cons _ (.cons _ (.cons _ (.closeT R)))))))).mono ?_
 rintro e w' ⟨v,K,h1,hst,ss',tA',tc',atts',dA',dc',dels',h2,h3,rfl⟩
 exact⟨v,_,h1,hst.perm (.cons _ (.cons _ (.cons _ (.cons _ (.cons _ (.openT R)))))),ss',tA',tc',atts',dA',dc',dels',h2,h3,rfl⟩
def Qx(id k:Int)(d:Int×Int×Int):Bool:=decide (d.1=id/\d.2.1=k)
def delT(dels:List (Int×Int×Int))(id k:Int):Option Int:=(dels.find? (Qx id k)).map (·.2.2)
variable {B:Nat}{w0 w:World}{H:List HP}
theorem Yck(dels:List (Int×Int×Int))(id k:Int)(hlen:dels.length<=1000000000)(tA:Option Addr)(nt tc:Nat){dA:Option Addr}{dc:Nat}(hr:Rd B w0 H dA (dels.flatMap delF))(hw:St B w0 H w):
 CX B w0 15 [.agg #[.slice tA nt tc,.slice dA dels.length dc],.int .i64 id,.int .i64 k] w λv K=>v=.tuple #[.int .i64 ((delT dels id k).getD 0),.bool (delT dels id k).isSome]/\K=H:=by
 refine Ya Tryz.func15 Tryz.ntmps15 rfl rfl hw ?_
 obtain⟨r,hr0⟩:∃r,delT dels id k=r:=⟨_,rfl⟩
 rw[hr0]
 unfold delT at hr0
 refine zX64 ?_<;>intros
 refine Yh (λj:Nat=>[(13,.int .i64 (j:Nat)),(12,.int .i64 dels.length),(11,.slice dA dels.length dc),(1,.int .i64 id),(2,.int .i64 k)]) (λ_=>H) (λj=>j<=dels.length/\dels.find? (Qx id k)=(dels.drop j).find? (Qx id k)) (λj=>dels.length-j) 0 ⟨Tm _,by simp_all⟩ ?_ ?_ ?_
 ·exact zc1
 ·exact zc0
 rintro j ⟨hj,hf⟩ K hK
 by_cases hlt:j<dels.length
 rotate_left
 ·rw[Rk (by omega)]at hf
  rw[hf]at hr0
  subst hr0
  clear hK
  refine zX0 ?_<;>intros
  exact zc62
 obtain⟨d,hd⟩:∃d,dels[j]? =some d:=⟨_,Ta hlt⟩
 have hdr:dels.drop j=d::dels.drop (j+1):=Yq3
 rw[hdr,S8]at hf
 by_cases h1:d.1=id
 ·by_cases h2:d.2.1=k
  ·have hy:Qx id k d=true:=Ti ⟨h1,h2⟩
   rw[hy]at hf
   rw[hf]at hr0
   subst hr0
   clear hK
   refine zX44 ?_<;>intros
   apply Yg H
   ·exact zc0
   exact zc11
  ·have hy:Qx id k d=false:=Tn λh=>h2 h.2
   rw[hy]at hf
   refine zX44 ?_<;>intros
   apply hK (j+1)
   ·exact⟨by omega,hf⟩
   ·omega
   ·exact zc1
   ·exact zc0
 ·have hy:Qx id k d=false:=Tn λh=>h1 h.1
  rw[hy]at hf
  refine zX44 ?_<;>intros
  apply hK (j+1)
  ·exact⟨by omega,hf⟩
  ·omega
  ·exact zc1
  ·exact zc0
def frIx(f:Flw)(t:Int):Int:=(max (t-phaF f) 0+perF f-1)/perF f
theorem Ygc(f:Flw)(t:Int)(g:Nat)(hf:YX 32 f=0)(ht:0<=t/\t<=1000000)(hm:blk g (.cells #[.int .i64 f.1,.int .i64 f.2.1,.int .i64 f.2.2.1,.int .i64 f.2.2.2.1,.int .i64 f.2.2.2.2.1,.int .i64 f.2.2.2.2.2] 53 (0,0))∈H)(hw:St B w0 H w):
 CX B w0 51 [.int .i64 t,.pointer (some ⟨g,0,none⟩)] w λv K=>v=.int .i64 (frIx f t)/\K=H:=by
 refine Ya Tryz.func51 Tryz.ntmps51 rfl rfl hw ?_
 obtain⟨h1,h2,-,-⟩:=XW hf
 unfold frIx phaF perF
 by_cases hlt:t-f.2.2.2.2.1<=0
 ·rw[show max (t-f.2.2.2.2.1) 0=0 by omega]
  repeat'(first|refine zgd ?_|(refine zgf ?_ ?_<;>intro _<;>try exact zo)|fail)
  all_goals(
   apply Yf;exact rfl;exact rfl;refine⟨TC (Value.int .i64) ?_,rfl⟩
   first
    |rfl
    |(congr 1;omega))
 ·rw[show max (t-f.2.2.2.2.1) 0=t-f.2.2.2.2.1 by omega]
  refine zX13 ?_<;>intros
  all_goals(exact zc13)
def frsL(f:Flw)(a b:Int):List Int:=(List.range (frIx f b-frIx f a).toNat).map λi:Nat=>frIx f a+i
variable {f:Flw}
theorem U6(hf:YX 32 f=0){t:Int}(ht:0<=t):0<=frIx f t/\frIx f t<=t:=by
 obtain⟨h1,h2,-,-⟩:=XW hf
 unfold frIx phaF perF
 generalize f.2.2.2.2.1=a at*
 have h3:0<=max (t-a) 0/\max (t-a) 0<=t:=by omega
 refine⟨Int.ediv_nonneg (by omega) (by omega),Int.le_trans ?_ h3.2⟩
 apply Int.le_of_lt_add_one
 apply Int.ediv_lt_of_lt_mul (by omega)
 have:=Ry h1.1 h3.1
 grind
theorem YlW(hf:YX 32 f=0){b k:Int}(_hb:0<=b)(hk:k∈frsL f 0 b):0<=k/\YC f k<b:=by
 obtain⟨h1,h2,-,-⟩:=XW hf
 obtain⟨i,hi,rfl⟩:=TE.1 hk
 have hi:=TN.1 hi
 have h0:=U6 hf (t:=0) (RI _)
 have h00:frIx f 0=0:=by omega
 rw[h00]at hi⊢
 have hlt:(i:Int)+1<=frIx f b:=by omega
 unfold frIx phaF perF at hlt
 unfold YC phaF perF
 generalize f.2.2.2.1=p at*
 have h5:=Int.mul_le_of_le_ediv (show 0<p by omega) hlt
 rw[Mc]at h5
 rw[show(0:Int)+i=i by omega]
 have h6:(0:Int)<=(i:Int)*p:=SJ (by omega) (by omega)
 omega
theorem Yh2(f:Flw)(a b:Int)(hf:YX 32 f=0)(ha:0<=a/\a<=b)(hb:b<=1000)(hab:frIx f a<=frIx f b)(hw:St B w0 H w):
 CX B w0 13 [flwV f,.int .i64 a,.int .i64 b] w λv K=>∃A cap,v=.tuple #[.slice A (frsL f a b).length cap,.int .i64 0]/\K=nrs A cap (frsL f a b)::H:=by
 refine Ya Tryz.func13 Tryz.ntmps13 rfl rfl hw ?_
 have p1:=λ{H':List HP}{w:World}(hw:St B w0 H' w)=>WQ f hf hw
 have h1:=U6 hf (t:=a) (by omega)
 have h2:=U6 hf (t:=b) (by omega)
 unfold flwV at p1⊢
 have p2:=λ(t:Int) (ht:0<=t/\t<=1000000) (g:Nat) {H':List HP}{w:World}(hm:blk g (.cells #[.int .i64 f.1,.int .i64 f.2.1,.int .i64 f.2.2.1,.int .i64 f.2.2.2.1,.int .i64 f.2.2.2.2.1,.int .i64 f.2.2.2.2.2] 53 (0,0))∈H') (hw:St B w0 H' w)=>Ygc f t g hf ht hm hw
 repeat'(first|((first|apply Yb en50|apply Yc en50);exact za;exact rfl;exactλ_ hw=>(p1 hw))|(apply zg29;(apply Yo;exact za;exact rfl))|refine zgc ?_|(refine zgf ?_ ?_<;>intro _<;>try exact zo)|(refine zgh ?_;intro _)|fail)
 rename Nat=>gf
 repeat'(first|((first|apply YU (cs:=[.pointer (some ⟨gf,0,none⟩)])|apply Xa (cs:=[.pointer (some ⟨gf,0,none⟩)]));exact rfl;exact en51;exact za;exact rfl;exactλ_ hw=>(p2 _ (by omega) gf zm hw))|refine zgd ?_|(refine zgf ?_ ?_<;>intro _<;>try exact zo)|fail)
 have hm:frIx f b-frIx f a<=1000:=by omega
 obtain⟨u,hu⟩:∃u,frIx f a=u:=⟨_,rfl⟩
 obtain⟨v,hv⟩:∃v,frIx f b=v:=⟨_,rfl⟩
 rw[hu]at h1 hab hm⊢
 rw[hv]at h2 hab hm⊢
 refine Yh (λ(z:Nat×Option Addr×Nat)=>[(39,.int .i64 (z.1:Nat)),(38,.int .i64 (v-u)),(11,.slice z.2.1 z.1 z.2.2),(9,.int .i64 u)]) (λz=>sl 3 1 z.2.1 z.1 z.2.2 (((List.range z.1).map λi:Nat=>u+i).flatMap numF)::H) (λz=>z.1<=(v-u).toNat) (λz=>(v-u).toNat-z.1) (0,none,0) (Tm _) ?_ ?_ ?_
 ·exact zc1
 ·intro w hw
  have h5:St B w0 H w:=by
   revert w
   exact zc0
  exact Yfz
 rintro⟨k,A,cap⟩ hk K hK
 dsimp only at hk⊢
 by_cases hlt:(k:Int)<v-u
 rotate_left
 ·obtain rfl:k=(v-u).toNat:=by omega
  clear hK
  have hL:frsL f a b=(List.range (v-u).toNat).map λi:Nat=>u+i:=by unfold frsL;rw[hu,hv]
  have hl:(frsL f a b).length=(v-u).toNat:=by rw[hL];simp
  refine zX0 ?_<;>intros
  apply Yg (nrs A cap (frsL f a b)::H)
  ·unfold nrs
   rw[hl,hL]
   exact zc0
  apply YL;(iterate 3 exact rfl)
  exact⟨A,cap,by rw[hl],rfl⟩
 refine Ymk ?_<;>intros
 rename_i A' cap'
 have e5:sl 3 1 A' (k+1) cap' (((List.range k).map λi:Nat=>u+i).flatMap numF++#[Value.int .i64 (u+k)].toList)=sl 3 1 A' (k+1) cap' (((List.range (k+1)).map λi:Nat=>u+i).flatMap numF):=by
  rw[RD,Rb,T9];rfl
 rw[e5]
 apply hK (k+1,A',cap')
 ·exact Yjp
 ·exact zc36
 ·exact zc1
 ·exact zc0
end Go.Proofs.YtambgjgljcadlaaGreatDoor
