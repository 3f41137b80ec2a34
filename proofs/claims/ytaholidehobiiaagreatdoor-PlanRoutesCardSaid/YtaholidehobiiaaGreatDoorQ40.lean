/- Lemmas for the claim, part 40. -/
import Derived.Test.YtaholidehobiiaaGreatDoorQ33
import Derived.Test.YtaholidehobiiaaGreatDoorQ38
import Derived.Test.YtaholidehobiiaaGreatDoorQ39
set_option maxRecDepth 100000
set_option maxHeartbeats 8000000
set_option linter.all false
namespace Go.Proofs.YtaholidehobiiaaGreatDoor
open Go.RowKit Go.Eng Go.Nw Go.Rt
variable {n:Net}{s t:Int}
theorem YcV(hst:s≠t){q:List Int}(h:q∈allW n s t):∃mp,q=rt s t mp/\IsRt n s t mp:=by
 obtain⟨p,rfl,hp⟩:=VE _ _ _ h
 have hnd:=Ux _ _ _ (by simp) h
 obtain⟨mp,rfl⟩:=YbA hp hst
 exact⟨mp,rfl,hp,hnd⟩
theorem Yay(n:Net)(u:Int)(r:List Int):∀k,Zc n (u::r) (k+1)=(Jq n u (r.getD 0 0)+1)+Zc n r k
 |0=>by simp[Zc]
 |k+1=>by
  have:=Yay n u r k
  grind [Zc]
theorem QU(n:Net):∀r:List Int,JQ n r=keyG (XF n) r
 |[]=>rfl
 |[_]=>rfl
 |u::v::r=>by
  have h1:=QU n (v::r)
  have h2:=Yay n u (v::r) r.length
  unfold JQ at h1⊢
  simp only[TM,SK]at h1⊢
  rw[h2,keyG,<-h1]
  rfl
structure PFin(len:Nat)(D:Nat->Nat->Bool)(S:Nat->Nat->Int)(i0 k0:Nat)(T:Int):Prop where
 lt:i0<k0
 klen:k0<len
 dis:D i0 k0=true
 sum:S i0 k0=T
 min:∀i k,i<k->k<len->D i k=true->T<=S i k/\((i<i0\/(i=i0/\k<k0))->T<S i k)
def PRes(len:Nat)(D:Nat->Nat->Bool)(S:Nat->Nat->Int):Option (Nat×Nat×Int)->Prop
 |none=>∀i k,i<k->k<len->D i k=false
 |some z=>PFin len D S z.1 z.2.1 z.2.2
def YgM(D:Nat->Nat->Bool)(S:Nat->Nat->Int)(i k:Nat)(st:Int×Int×Int):Int×Int×Int:=if D i k=true/\(st.1<0\/S i k<st.2.2)then((i:Int),(k:Int),S i k)else st
def PInv(i k:Nat)(st:Int×Int×Int):Option (Nat×Nat×Int)->Prop
 |none=>st=(-1,-1,0)
 |some z=>((i<z.1\/(i=z.1/\k<=z.2.1))->st.1<0\/(0<=st.1/\z.2.2<st.2.2))/\(¬(i<z.1\/(i=z.1/\k<=z.2.1))->st=((z.1:Int),(z.2.1:Int),z.2.2))
variable {D:Nat->Nat->Bool}{S:Nat->Nat->Int}{o:Option (Nat×Nat×Int)}{i:Nat}
theorem Yrq{len:Nat}(h:PRes len D S o){k:Nat}(hik:i<k)(hk:k<len){st:Int×Int×Int}(hi:PInv i k st o):PInv i (k+1) (YgM D S i k st) o:=by
 unfold YgM
 cases o with
 |none=>
  rw[Tf (by rw[h i k hik hk];simp_all)]
  exact hi
 |some z=>
  obtain⟨i0,k0,T⟩:=z
  obtain⟨h1,h2,h3,h4,h5⟩:PFin len D S i0 k0 T:=h
  obtain⟨a1,a2⟩:=hi
  simp only at a1 a2
  have h6:=h5 i k hik hk
  by_cases hbef:i<i0\/(i=i0/\k<k0)
  ·have h7:=a1 (by omega)
   refine⟨λ_=>?_,λh=>absurd (show i<i0\/(i=i0/\k+1<=k0) by omega) h⟩
   grind
  ·by_cases he:i=i0/\k=k0
   ·obtain⟨rfl,rfl⟩:=he
    have h7:=a1 (by omega)
    refine⟨λh=>absurd h (by grind),λ_=>?_⟩
    grind
   ·have h7:=a2 (by omega)
    refine⟨λh=>absurd h (by grind),λ_=>?_⟩
    grind
theorem YtI{len:Nat}(h:PRes len D S o){st:Int×Int×Int}(hi:PInv i len st o):PInv (i+1) (i+1+1) st o:=by
 cases o with
 |none=>exact hi
 |some z=>
  obtain⟨i0,k0,T⟩:=z
  obtain⟨h1,h2,h3,h4,h5⟩:PFin len D S i0 k0 T:=h
  obtain⟨a1,a2⟩:=hi
  exact⟨λh=>a1 (by omega),λh=>a2 (by grind)⟩
theorem YxW{len:Nat}(h:PRes len D S o):PInv 0 (0+1) (-1,-1,0) o:=by
 cases o with
 |none=>rfl
 |some z=>
  obtain⟨i0,k0,T⟩:=z
  obtain⟨h1,h2,h3,h4,h5⟩:PFin len D S i0 k0 T:=h
  exact⟨λ_=>.inl (by decide),λh=>absurd (show 0<i0\/(0=i0/\0+1<=k0) by omega) h⟩
theorem YtH{len:Nat}(h:PRes len D S o){st:Int×Int×Int}(hi:PInv len (len+1) st o):match o with
 |none=>st=(-1,-1,0)
 |some z=>st=((z.1:Int),(z.2.1:Int),z.2.2):=by
 cases o with
 |none=>exact hi
 |some z=>
  obtain⟨i0,k0,T⟩:=z
  obtain⟨h1,h2,h3,h4,h5⟩:PFin len D S i0 k0 T:=h
  exact hi.2 (by simp only;omega)
def dAt(l:List (List Int))(i k:Nat):Bool:=JR (l.getD i []) (l.getD k [])
def sAt(n:Net)(l:List (List Int))(i k:Nat):Int:=JQ n (l.getD i [])+JQ n (l.getD k [])
theorem Qu{l:List (List Int)}(h:i<l.length):l[i]? =some (l.getD i []):=by
 rw[Tu,Ta h];rfl
theorem YlV(hok:Ok n)(hs:0<=s/\s<n.nodes)(hst:s≠t){total:Int}{mp mq:List Int}(hb:Best n s t total mp mq):∃i0 k0,(allW n s t)[i0]? =some (rt s t mp)/\(allW n s t)[k0]? =some (rt s t mq)/\PRes (allW n s t).length (dAt (allW n s t)) (sAt n (allW n s t)) (some (i0,k0,total)):=by
 have hsrt:(allW n s t).Pairwise λa b=>Y2 a b=true:=O6 _ _
 have hlt:∀{i k:Nat}{x y:List Int},(allW n s t)[i]? =some x->(allW n s t)[k]? =some y->i<k->Y2 x y=true:=λhx hy hik=>by
  obtain⟨h1,rfl⟩:=Tj.1 hx
  obtain⟨h2,rfl⟩:=Tj.1 hy
  exact Rm.1 hsrt _ _ h1 h2 hik
 have hgt:∀{i k:Nat}{x y:List Int},(allW n s t)[i]? =some x->(allW n s t)[k]? =some y->Y2 x y=true->i<k:=λ{i k x y} hx hy hl=>by
  rcases Nr i k with h|h|h
  ·exact h
  ·subst h
   rw[hx]at hy
   obtain rfl:=Tv hy
   rw[Uo]at hl;cases hl
  ·have:=hlt hy hx h
   rw[Qn hl]at this;cases this
 obtain⟨i0,hi0⟩:=TS.1 (YhZ hok hs hb.two.p)
 obtain⟨k0,hk0⟩:=TS.1 (YhZ hok hs hb.two.q)
 have hik:i0<k0:=by
  rcases hb.fst mq mp hb.two.symm (by have:=hb.cost;omega)with h|h
  ·exact absurd (YbF h).symm hb.two.ne
  ·exact hgt hi0 hk0 h
 have hkc:∀x,JQ n (rt s t x)=key n s t x:=λx=>QU n _
 refine⟨i0,k0,hi0,hk0,hik,(Tj.1 hk0).1,?_,?_,λi k hlk hk hd=>?_⟩
 ·unfold dAt
  rw[getD_some hi0,getD_some hk0,Ydw hb.two.p.nd hb.two.q.nd]
  exact⟨hb.two.ne,hb.two.dis⟩
 ·unfold sAt
  rw[getD_some hi0,getD_some hk0,hkc,hkc]
  exact hb.cost
 ·have hx:=Qu (l:=allW n s t) (i:=i) (by omega)
  have hy:=Qu (l:=allW n s t) hk
  unfold dAt at hd
  unfold sAt
  obtain⟨a,ea,ha⟩:=YcV hst (Tc hx)
  obtain⟨b,eb,hb2⟩:=YcV hst (Tc hy)
  rw[ea]at hx hd⊢
  rw[eb]at hy hd⊢
  obtain⟨d1,d2⟩:=(Ydw ha.nd hb2.nd).1 hd
  have h2:Two n s t a b:=⟨ha,hb2,d1,d2⟩
  have hle:=hb.least a b h2
  rw[hkc,hkc]
  refine⟨hle,λhbef=>?_⟩
  rcases Int.lt_or_eq_of_le hle with h|h
  ·exact h
  ·exfalso
   rcases hbef with hbef|⟨hbef,hbk⟩
   ·have h3:=hlt hx hi0 hbef
    rcases hb.fst a b h2 h.symm with h4|h4
    ·rw[h4,Uo]at h3;cases h3
    ·rw[Qn h4]at h3;cases h3
   ·subst hbef
    rw[hi0]at hx
    obtain rfl:mp=a:=YbF (Tv hx)
    have h3:=hlt hy hk0 hbk
    rcases hb.snd b h2 h.symm with h4|h4
    ·rw[h4,Uo]at h3;cases h3
    ·rw[Qn h4]at h3;cases h3
theorem YlW(hst:s≠t)(hno:∀mp mq,¬Two n s t mp mq):PRes (allW n s t).length (dAt (allW n s t)) (sAt n (allW n s t)) none:=by
 intro i k hlk hk
 have hx:=Qu (l:=allW n s t) (i:=i) (by omega)
 have hy:=Qu (l:=allW n s t) hk
 obtain⟨a,ea,ha⟩:=YcV hst (Tc hx)
 obtain⟨b,eb,hb2⟩:=YcV hst (Tc hy)
 unfold dAt
 rw[ea,eb]
 cases hd:JR (rt s t a) (rt s t b)with
 |false=>rfl
 |true=>
  obtain⟨d1,d2⟩:=(Ydw ha.nd hb2.nd).1 hd
  exact absurd ⟨ha,hb2,d1,d2⟩ (hno a b)
structure Az where
 i:Nat
 st:Int×Int×Int
structure StB(len:Nat)(st:Int×Int×Int):Prop where
 a: -1<=st.1/\st.1<len
 b: -1<=st.2.1/\st.2.1<len
 c:0<=st.2.2/\st.2.2<=100000
theorem Yi4{n:Net}(hok:Ok n):∀q:List Int,0<=JQ n q/\JQ n q<=1000*(q.length:Int):=by
 intro q
 rw[QU]
 induction q with
 |nil=>simp[keyG]
 |cons u r ih=>
  cases r with
  |nil=>simp[keyG]
  |cons v r=>
   have:=US hok u v
   grind [keyG,XF]
variable {D:Nat->Nat->Bool}{S:Nat->Nat->Int}{i k:Nat}
theorem YpP{st:Int×Int×Int}(h:D i k=true/\(st.1<0\/S i k<st.2.2)):YgM D S i k st=((i:Int),(k:Int),S i k):=by simp_all [YgM]
theorem Ykz{st:Int×Int×Int}(h:¬(D i k=true/\(st.1<0\/S i k<st.2.2))):YgM D S i k st=st:=by simp_all [YgM,if_neg]
theorem Ymb(n:NetM)(s t:Int)(res:Option (List Int×List Int)×Int)(hres:Vu 100000 n.net s t=some res)(h80:XW n.net s t=0->n.net.nodes<=8){B:Nat}{w0:World}{H:List HP}{w:World}(hin:n.In B w0 H)(hw:St B w0 H w):
 CX B w0 155 [n.val,.int .i64 s,.int .i64 t] w λv K=>match res.1 with
  |none=>v=.tuple #[.slice none 0 0,.int .i64 res.2]/\∀w,St B w0 K w->St B w0 H w
  |some pq=>∃g A1 c1 A2 c2 L,v=.tuple #[.slice (some ⟨g,0,none⟩) 2 2,.int .i64 res.2]/\ints A1 c1 pq.1∈L/\ints A2 c2 pq.2∈L/\K=sl 93 1 (some ⟨g,0,none⟩) 2 2 ([⟨A1,c1,pq.1⟩,⟨A2,c2,pq.2⟩].flatMap rowF)::many L::H:=by
 refine Yc Tryz.func155 Tryz.ntmps155 rfl rfl hw ?_
 (apply YY;apply Yx;apply Yr;exact rfl;exact rfl;intro g)
 unfold Vu at hres
 by_cases he:XW n.net s t=0
 rotate_left
 ·rw[Tn he]at hres
  obtain rfl:=Tv hres
  refine Yvt ?_<;>intros
  exact YvC
 rw[Tf (λh=>h he)]at hres
 obtain⟨hck,⟨s0,s1⟩,⟨t0,t1⟩,hst⟩:=UJ he
 have hen:=λ{H:List HP}{w:World}(hin:n.In B w0 H) (hw:St B w0 H w)=>Yab n s t hin hw
 rw[he]at hen
 have hok:=YC hck
 have hn1:=hok.n1
 have h8:=h80 he
 have hcnt:=Ybb h8 s t
 refine Yvu ?_<;>intros
 apply Ye _ YuJ
 exact za
 exact rfl
 exactλ_ hw=>(YfA n s t hck h8 ⟨s0,s1⟩ hin.cons (hw))
 rintro _ _ ⟨A,cap,rs,rfl,hrs,rfl⟩
 have hall:allE n.net s t=allW n.net s t:=rfl
 have hlen:rs.length=(allW n.net s t).length:=by have:=TE List.length hrs;exact Yn5
 rw[hall]at hrs hcnt
 obtain⟨r,hr,hsem⟩:=Ygz hok ⟨s0,s1⟩ ⟨t0,t1⟩ hst
 obtain⟨o,hpr,hfin⟩:∃o,PRes (allW n.net s t).length (dAt (allW n.net s t)) (sAt n.net (allW n.net s t)) o/\match o with
  |none=>res=(none,17)
  |some z=>∃p q,(allW n.net s t)[z.1]? =some p/\(allW n.net s t)[z.2.1]? =some q/\res=if 9<p.length\/9<q.length then(none,21)else(some (p,q),0):=by
  rcases hsem with⟨_,_,mp,mq,h2,hb⟩|⟨_,h2,hno⟩
  ·obtain⟨i0,k0,h3,h4,h5⟩:=YlV hok ⟨s0,s1⟩ hst hb
   rw[h2]at hres
   dsimp only at hres
   refine⟨some (i0,k0,r.1),h5,_,_,h3,h4,?_⟩
   split at hres
   ·rename_i h6
    rw[Tn h6];exact(Tv hres).symm
   ·rename_i h6
    rw[Tf h6];exact(Tv hres).symm
  ·rw[h2]at hres
   exact⟨none,YlW hst hno,(Tv hres).symm⟩
 have hrow:∀r∈rs,Jd n.net r.xs=false/\1<=r.xs.length/\r.xs.length<=8:=λr hr=>by
  have hm:r.xs∈allE n.net s t:=by rw[hall,<-hrs];exact Yn0
  exact YvD
 have hgx:∀{j:Nat}{x:RowM},rs[j]? =some x->(allW n.net s t)[j]? =some x.xs:=λh=>by rw[<-hrs,TR,h];rfl
 generalize allW n.net s t=all at hpr hfin hgx hrs hlen hcnt
 clear hall hres hsem hr r
 unfold rtes
 refine zX8 ?_
 refine Yg (λ(z:Az)=>[(13,.int .i64 z.i),(12,.int .i64 z.st.2.2),(11,.int .i64 z.st.2.1),(10,.int .i64 z.st.1),(9,.slice A rs.length cap),(3,.pointer (some ⟨g,0,none⟩))]) (λ_=>sl 93 1 A rs.length cap (rs.flatMap rowF)::many (rs.map rowQ)::netB g n::H) (λz=>z.i<=rs.length/\PInv z.i (z.i+1) z.st o/\StB rs.length z.st) (λz=>rs.length-z.i) ⟨0,(-1,-1,0)⟩ ⟨Tm _,YxW hpr,⟨by exact zc28,by exact zc28,by exact zc28⟩⟩ ?_ (λw hw=>hw) ?_
 ·exact zc1
 rintro⟨i,⟨a,b,le⟩⟩ ⟨hi,hinv,hsb⟩ K hK
 simp only at hi hinv hsb⊢
 by_cases hlt:i<rs.length
 ·obtain⟨x,hx⟩:∃x,rs[i]? =some x:=⟨_,Ta hlt⟩
  have hxm:=Tc hx
  obtain⟨x1,x2,x3⟩:=hrow x hxm
  have hrx:∀{X1 X2:HP},Rd B w0 (X1::many (rs.map rowQ)::X2::H) x.A (x.xs.flatMap numF):=Rd.manyT (H:=rs.map rowQ) (.sl (e:=3) (size:=1) (k:=x.xs.length) (cap:=x.cap) (TC.2 ⟨x,hxm,rfl⟩)) (by(focus exact zc2))
  have hsx:=λ{X1 X2:HP}{w:World}(hin:n.In B w0 (X1::many (rs.map rowQ)::X2::H)) (hw:St B w0 (X1::many (rs.map rowQ)::X2::H) w)=>Ya4 n x.xs (cap:=x.cap) hin hck x1 hrx ⟨x2,by omega⟩ hw
  have hcx:=Yi4 hok x.xs
  obtain⟨cx,hcxe⟩:∃z,JQ n.net x.xs=z:=⟨_,rfl⟩
  rw[hcxe]at hsx hcx
  refine zX1 ?_<;>intros
  refine Yg (λ(z:Az)=>[(14,.int .i64 z.i),(13,.int .i64 i),(12,.int .i64 z.st.2.2),(11,.int .i64 z.st.2.1),(10,.int .i64 z.st.1),(9,.slice A rs.length cap),(3,.pointer (some ⟨g,0,none⟩))]) (λ_=>sl 93 1 A rs.length cap (rs.flatMap rowF)::many (rs.map rowQ)::netB g n::H) (λz=>i+1<=z.i/\z.i<=rs.length/\PInv i z.i z.st o/\StB rs.length z.st) (λz=>rs.length-z.i) ⟨i+1,(a,b,le)⟩ ⟨TJ _,hlt,hinv,hsb⟩ ?_ (λw hw=>hw) ?_
  ·exact zc1
  clear hinv hsb
  rintro⟨k,⟨a,b,le⟩⟩ ⟨hik,hk,hinv,hsb⟩ K2 hK2
  simp only at hik hk hinv hsb⊢
  obtain⟨⟨sa1,sa2⟩,⟨sb1,sb2⟩,⟨sc1,sc2⟩⟩:=id hsb
  simp only at sa1 sa2 sb1 sb2 sc1 sc2
  by_cases hlt2:k<rs.length
  ·obtain⟨y,hy⟩:∃y,rs[k]? =some y:=⟨_,Ta hlt2⟩
   have hym:=Tc hy
   obtain⟨y1,y2,y3⟩:=hrow y hym
   have hry:∀{X1 X2:HP},Rd B w0 (X1::many (rs.map rowQ)::X2::H) y.A (y.xs.flatMap numF):=Rd.manyT (H:=rs.map rowQ) (.sl (e:=3) (size:=1) (k:=y.xs.length) (cap:=y.cap) (TC.2 ⟨y,hym,rfl⟩)) (by(focus exact zc2))
   have hsy:=λ{X1 X2:HP}{w:World}(hin:n.In B w0 (X1::many (rs.map rowQ)::X2::H)) (hw:St B w0 (X1::many (rs.map rowQ)::X2::H) w)=>Ya4 n y.xs (cap:=y.cap) hin hck y1 hry ⟨y2,by omega⟩ hw
   have hcy:=Yi4 hok y.xs
   obtain⟨cy,hcye⟩:∃z,JQ n.net y.xs=z:=⟨_,rfl⟩
   rw[hcye]at hsy hcy
   have hdj:=λ{X1 X2:HP}{w:World}(hw:St B w0 (X1::many (rs.map rowQ)::X2::H) w)=>Yem x.xs y.xs (by omega) (by omega) (c1:=x.cap) (c2:=y.cap) hrx hry hw
   have hstp:=Yrq hpr (i:=i) (k:=k) (by omega) (by rw[<-hlen];exact hlt2) hinv
   have hdd:dAt all i k=JR x.xs y.xs:=by unfold dAt;rw[getD_some (hgx hx),getD_some (hgx hy)]
   have hss:sAt n.net all i k=cx+cy:=by unfold sAt;rw[getD_some (hgx hx),getD_some (hgx hy),hcxe,hcye]
   cases hd:JR x.xs y.xs with
   |false=>
    rw[hd]at hdj
    rw[Ykz (by rw[hdd,hd];intro h;cases h.1)]at hstp
    refine zX19 ?_<;>intros
    first|apply Ya Yb3|apply Yb Yb3
    exact za
    exact rfl
    exactλ_ hw=>(hdj hw)
    refine zX2 ?_
    apply hK2 ⟨k+1,(a,b,le)⟩
    ·exact⟨by exact zc28,by exact zc28,hstp,hsb⟩
    ·exact zc28
    ·exact zc1
    exact zc17
   |true=>
    rw[hd]at hdj
    by_cases hbet:a<0\/cx+cy<le
    ·rw[YpP (by rw[hdd,hd,hss];exact⟨rfl,hbet⟩),hss]at hstp
     have hsb2:StB rs.length ((i:Int),(k:Int),cx+cy):=⟨by exact zc28,by exact zc28,by exact zc28⟩
     by_cases ha:a<0
     ·refine zX19 ?_<;>intros
      first|apply Ya Yb3|apply Yb Yb3
      exact za
      exact rfl
      exactλ_ hw=>(hdj hw)
      refine zX19 ?_<;>intros
      first|apply Ya ZP|apply Yb ZP
      exact za
      exact rfl
      exactλ_ hw=>(hsx hin.cons.cons.cons hw)
      refine zX2 ?_
      first|apply Ya ZP|apply Yb ZP
      exact za
      exact rfl
      exactλ_ hw=>(hsy hin.cons.cons.cons hw)
      refine zX2 ?_
      apply hK2 ⟨k+1,((i:Int),(k:Int),cx+cy)⟩
      ·exact⟨by exact zc28,by exact zc28,hstp,hsb2⟩
      ·exact zc28
      ·exact zc1
      exact zc17
     ·refine zX19 ?_<;>intros
      first|apply Ya Yb3|apply Yb Yb3
      exact za
      exact rfl
      exactλ_ hw=>(hdj hw)
      refine zX0 ?_<;>intros
      first|apply Ya ZP|apply Yb ZP
      exact za
      exact rfl
      exactλ_ hw=>(hsx hin.cons.cons.cons hw)
      refine zX2 ?_
      first|apply Ya ZP|apply Yb ZP
      exact za
      exact rfl
      exactλ_ hw=>(hsy hin.cons.cons.cons hw)
      refine zX19 ?_<;>intros
      first|apply Ya ZP|apply Yb ZP
      exact za
      exact rfl
      exactλ_ hw=>(hsx hin.cons.cons.cons hw)
      refine zX2 ?_
      first|apply Ya ZP|apply Yb ZP
      exact za
      exact rfl
      exactλ_ hw=>(hsy hin.cons.cons.cons hw)
      refine zX2 ?_
      apply hK2 ⟨k+1,((i:Int),(k:Int),cx+cy)⟩
      ·exact⟨by exact zc28,by exact zc28,hstp,hsb2⟩
      ·exact zc28
      ·exact zc1
      exact zc17
    ·rw[Ykz (by rw[hss];exactλh=>hbet h.2)]at hstp
     refine zX19 ?_<;>intros
     first|apply Ya Yb3|apply Yb Yb3
     exact za
     exact rfl
     exactλ_ hw=>(hdj hw)
     refine zX0 ?_<;>intros
     first|apply Ya ZP|apply Yb ZP
     exact za
     exact rfl
     exactλ_ hw=>(hsx hin.cons.cons.cons hw)
     refine zX2 ?_
     first|apply Ya ZP|apply Yb ZP
     exact za
     exact rfl
     exactλ_ hw=>(hsy hin.cons.cons.cons hw)
     refine zX0 ?_<;>intros
     apply hK2 ⟨k+1,(a,b,le)⟩
     ·exact⟨by exact zc28,by exact zc28,hstp,hsb⟩
     ·exact zc28
     ·exact zc1
     exact zc17
  ·obtain rfl:k=rs.length:=by omega
   clear hK2
   refine zX1 ?_<;>intros
   apply hK ⟨i+1,(a,b,le)⟩
   ·exact⟨by exact zc28,by rw[hlen]at hinv;exact YtI hpr hinv,hsb⟩
   ·exact zc28
   ·exact zc1
   exact zc17
 ·obtain rfl:i=rs.length:=by omega
  clear hK
  have hend:=YtH (st:=(a,b,le)) hpr (by rw[<-hlen];exact hinv)
  cases o with
  |none=>
   obtain⟨rfl,hbe⟩:=N7 (show(a,b,le)=(-1,-1,0) from hend)
   obtain rfl:res=(none,17):=hfin
   refine zX1 ?_<;>intros
   exact YvC
  |some z=>
   obtain⟨i0,k0,T⟩:=z
   obtain⟨p,q,hp,hq,hfin⟩:=hfin
   simp only at hp hq hend
   obtain⟨rfl,hbe⟩:=N7 hend
   obtain⟨rfl,rfl⟩:=N7 hbe
   rw[<-hrs,TR]at hp hq
   obtain⟨x,hx,rfl⟩:=Nx.1 hp
   obtain⟨y,hy,rfl⟩:=Nx.1 hq
   have hxm:=Tc hx
   have hym:=Tc hy
   obtain⟨x1,x2,x3⟩:=hrow x hxm
   obtain⟨y1,y2,y3⟩:=hrow y hym
   rw[Tf (by omega)]at hfin
   subst hfin
   have hi0:=(Tj.1 hx).1
   have hk0:=(Tj.1 hy).1
   refine zX25 ?_<;>intros
   apply ZN (.n1 0 (.n1 1 (.n1 2 (.n1 3 (.n1 4 (.n1 5 (.n1 6 (.n1 7 (.n1 8 (.n1 9 (.n1 10 .done))))))))))) [] [true]
   kernel_rfl
   kernel_rfl
   exact zy
   exact rfl
   repeat'(first|(apply Yl;try exact zl)|(apply YG;try exact zl)|refine zgd ?_|(refine zgh ?_;intro _)|fail)
   rename_i gL
   apply Yi (sl 93 1 (some ⟨gL,0,none⟩) 2 2 ([(⟨x.A,x.cap,x.xs⟩:RowM),⟨y.A,y.cap,y.xs⟩].flatMap rowF)::many (rs.map rowQ)::H)
   ·intro w hw
    have h5:St B w0 (blk gL (.cells #[.slice x.A x.xs.length x.cap,.slice y.A y.xs.length y.cap] 93 (0,0))::many (rs.map rowQ)::H) w:=by
     revert w
     exact zc0
    exact h5.blk_sl (cs:=[Value.slice x.A x.xs.length x.cap,.slice y.A y.xs.length y.cap]) (len:=2) (size:=1) rfl (by omega)
   apply YM;(iterate 3 exact rfl)
   exact⟨gL,x.A,x.cap,y.A,y.cap,rs.map rowQ,rfl,TC.2 ⟨x,hxm,rfl⟩,TC.2 ⟨y,hym,rfl⟩,rfl⟩
open Go.RowKit Go.Eng Go.Nw
variable {B:Nat}{w0 w:World}{H:List HP}
theorem WZ(a lo hi:Int)(hw:St B w0 H w):
 CX B w0 152 [.int .i64 a,.int .i64 lo,.int .i64 hi] w λv K=>v=.bool (decide (lo<=a/\a<=hi))/\K=H:=by
 refine Yc Tryz.func152 Tryz.ntmps152 rfl rfl hw ?_
 repeat'(first|refine zgd ?_|(refine zgf ?_ ?_<;>intro _<;>try exact zo)|fail)
 all_goals(
  apply Yd;exact rfl;exact rfl
  first
   |exact⟨by rw[Td (by omega)],rfl⟩
   |exact⟨by rw[Ti (by omega)],rfl⟩)
theorem YaY(nodes:Int)(f:Flw)(hn:2<=nodes/\nodes<=32)(hw:St B w0 H w):
 CX B w0 153 [.int .i64 nodes,flwV f] w λv K=>v=.int .i64 (Xx nodes f)/\K=H:=by
 refine Yc Tryz.func153 Tryz.ntmps153 rfl rfl hw ?_
 have hi:∀x:Int,insE x nodes=false↔¬(0<=x/\x<nodes):=λx=>by grind [insE]
 have hE:Xx nodes f=if f.1<0\/255<f.1\/¬(0<=f.2.1/\f.2.1<nodes)\/¬(0<=f.2.2.1/\f.2.2.1<nodes)then 2
  else if f.2.2.2.1<1\/512<f.2.2.2.1\/f.2.2.2.2.1<0\/f.2.2.2.1<=f.2.2.2.2.1\/f.2.2.2.2.2<1\/f.2.2.2.1<f.2.2.2.2.2 then 2
  else if f.2.1=f.2.2.1 then 1 else 0:=by grind [Xx]
 rw[hE]
 repeat'(first|((first|apply Y9 YbZ|apply Y8 YbZ);exact za;exact rfl;exactλ_ hw=>(WZ _ _ _ hw);all_goals(intro hB;(try simp only[Tt,TP]at hB);try exact zo))|refine zgd ?_|(refine zge ?_ ?_<;>intro _<;>try exact zo)|(refine zgh ?_;intro _)|fail)
 all_goals(
  apply Yi H
  ·exact zk
  apply Yd;exact rfl;exact rfl
  refine⟨TE _ ?_,rfl⟩
  first
   |(rw[Tn (by omega)];done)
   |(rw[Tf (by omega),Tn (by omega)];done)
   |(rw[Tf (by omega),Tf (by omega),Tn (by omega)];done)
   |(rw[Tf (by omega),Tf (by omega),Tf (by omega)];done))
theorem YhW(nodes:Int)(l:List Flw)(hl:l.length<=9223372036854775807){A:Option Addr}{cap:Nat}(hr:Rd B w0 H A (l.flatMap flwF))(hw:St B w0 H w):
 CX B w0 62 [.int .i64 nodes,.slice A l.length cap] w λv K=>v=.tuple #[.int .i64 (Yu nodes l).1,.int .i64 (Yu nodes l).2]/\K=H:=by
 refine Yc Tryz.func62 Tryz.ntmps62 rfl rfl hw ?_
 by_cases hn:nodes<2\/32<nodes
 ·have hE:Yu nodes l=(-1,2):=by simp_all [Yu]
  rw[hE]
  repeat'(first|((first|apply Y9 YbZ|apply Y8 YbZ);exact za;exact rfl;exactλ_ hw=>(WZ _ _ _ hw);all_goals(intro hB;(try simp only[Tt,TP]at hB);try exact zo))|refine zgd ?_|fail)
  all_goals(exact zc40)
 by_cases h16:16<l.length
 ·have hE:Yu nodes l=(-1,8):=by simp_all [Yu]
  rw[hE]
  repeat'(first|((first|apply Y9 YbZ|apply Y8 YbZ);exact za;exact rfl;exactλ_ hw=>(WZ _ _ _ hw);all_goals(intro hB;(try simp only[Tt,TP]at hB);try exact zo))|refine zgd ?_|(refine zgf ?_ ?_<;>intro _<;>try exact zo)|fail)
  exact zc40
 have hE:Yu nodes l=YZ (YT nodes l) l.length 0:=by simp_all [Yu,if_neg]
 rw[hE]
 repeat'(first|((first|apply Y9 YbZ|apply Y8 YbZ);exact za;exact rfl;exactλ_ hw=>(WZ _ _ _ hw);all_goals(intro hB;(try simp only[Tt,TP]at hB);try exact zo))|refine zgd ?_|(refine zgf ?_ ?_<;>intro _<;>try exact zo)|fail)
 refine Yg (λ(i:Nat)=>[(6,.int .i64 i),(0,.int .i64 nodes),(1,.slice A l.length cap)]) (λ_=>H) (λi=>i<=l.length/\∀k,k<i->YT nodes l k=0) (λi=>l.length-i) 0 ⟨Tm _,λk hk=>absurd hk (RL _)⟩ ?_ (λw hw=>hw) ?_
 ·exact zc1
 rintro i ⟨hi,hall⟩ K hK
 by_cases hlt:i<l.length
 ·have hget:l[i]? =some (Xj l i):=QY hlt
  have hbad:YT nodes l i≠0->YZ (YT nodes l) l.length 0=((i:Int),YT nodes l i):=λh=>Zl (λk _ hk=>hall k hk) (Tm _) (by omega) h
  have hstep:YT nodes l i=0->∀k,k<i+1->YT nodes l k=0:=λh k hk=>by
   exact YsF
  by_cases he:Xx nodes (Xj l i)≠0
  ·have hf:YT nodes l i=Xx nodes (Xj l i):=by unfold YT;exact Tn he
   rw[hbad (by rw[hf];exact he),hf]
   repeat'(first|((first|apply Ya Ym4|apply Yb Ym4);exact za;exact rfl;exactλ_ hw=>(YaY nodes (Xj l i) (by omega) hw))|refine zgd ?_|(refine zge ?_ ?_<;>intro _<;>try exact zo)|fail)
   exact zc8
  have he0:=Rn.1 he
  have hck:=λ{H':List HP}{w:World}(hw:St B w0 H' w)=>YaY nodes (Xj l i) (by omega) hw
  rw[he0]at hck
  rcases Nj i with h0|h0
  ·subst h0
   have hf:YT nodes l 0=0:=by unfold YT;rw[Tf he,Tf (by omega)]
   refine YsD ?_<;>intros
   apply hK (0+1)
   ·exact Yn3
   ·omega
   ·exact zc1
   ·exact zc0
  have hget2:l[((i:Int)-1).toNat]? =some (Xj l (i-1)):=YvO
  by_cases hle:(Xj l i).1<=(Xj l (i-1)).1
  ·have hf:YT nodes l i=5:=by unfold YT;rw[Tf he,Tn ⟨h0,hle⟩]
   rw[hbad (by rw[hf];decide),hf]
   refine YsD ?_<;>intros
   exact zc8
  ·have hf:YT nodes l i=0:=Yv1
   refine YsD ?_<;>intros
   apply hK (i+1)
   ·exact Yn3
   ·omega
   ·exact zc1
   ·exact zc0
 ·refine zX1 ?_<;>intros
  rw[show i=l.length by omega]at hall
  rw[Zm λk _ hk=>hall k (by omega)]
  exact zc8
theorem VOk.snoc{N ct:Nat}{es:Zh}(h:VOk N es ct){k:KL}(hk:k.length=N)(v:Value):VOk N (es++[(k,v,ct)]) (ct+1):=by
 refine⟨λe he=>?_,λe he=>?_,?_⟩
 ·rcases TI.1 he with he|he
  ·exact h.len e he
  simp_all
 ·rcases TI.1 he with he|he
  ·exact Nat.lt_succ_of_lt (h.lt e he)
  simp_all
 ·refine NI.2 ⟨h.ne,List.pairwise_singleton _ _,λa ha b hb=>?_⟩
  rw[TG.1 hb]
  exact Nat.ne_of_lt (h.lt a ha)
def Yia(n:Net)(l:List Flw):Bool:=fewE n&&decide (n.power.length<=6)&&decide (l.length<=3)
theorem Yh9(n:NetM)(l:List Flw)(hl:l.length<=9223372036854775807){A:Option Addr}{cap B:Nat}{w0:World}{H:List HP}{w:World}(hin:n.In B w0 H)(hw:St B w0 H w):
 CX B w0 12 [n.val,.slice A l.length cap] w λv K=>v=.bool (Yia n.net l)/\K=H:=by
 refine Yc Tryz.func12 Tryz.ntmps12 rfl rfl hw ?_
 unfold Yia
 have e2:n.net.power.length=n.rows.length:=by simp[NetM.net]
 have hs1:=hin.s1
 rw[e2]
 (apply YY;apply Yx;apply Yr;exact rfl;exact rfl;intro g)
 cases h1:fewE n.net
 all_goals(
  repeat'(first|((first|apply Ya en57|apply Yb en57);exact za;exact rfl;exactλ_ hw=>(YfM (TE Value.bool h1) (λ_ hw=>YdH n hin.cons hw) hw))|refine zgd ?_|(refine zgf ?_ ?_<;>intro _<;>try exact zo)|fail)
  all_goals(apply Yj;apply Yd;exact rfl;exact rfl;exact⟨TE Value.bool (by first|rfl|simp<;>omega),rfl⟩))
variable {n:Net}
theorem YoP{s t:Int}(he:XW n s t=0):Dist n.nodes.toNat ((YI n).map dear) t (Ze n.nodes.toNat ((YI n).map dear) t):=by
 obtain⟨hck,-,ht,-⟩:=UJ he
 have hok:=YC hck
 have hn0:=hok.n0
 exact YoJ (Yho hok) ⟨ht.1,by omega⟩
def Yun(B:Nat)(w0:World)(H:List HP)(R:Rqs×Int)(v:Value)(K:List HP):Prop:=∃(x:RqM) (L:List HP),v=.tuple #[rqV x,.int .i64 R.2]/\x.rq=R.1/\x.In B w0 L/\K=many L::H
variable {B cap:Nat}{w0 w:World}{L H:List HP}
theorem YsQ:zeroX.In B w0 L:=⟨.nil,(λr hr=>by cases hr),Tm _,(λr hr=>by cases hr)⟩
theorem OZ(n:NetM)(f:Flw)(h8:n.rows.length<=6)(hin:n.In B w0 H)(hw:St B w0 H w):
 CX B w0 63 [n.val,flwV f] w (Yun B w0 H (Zo n.net f)):=by
 refine Yc Tryz.func63 Tryz.ntmps63 rfl rfl hw ?_
 have h80:XW n.net f.2.1 f.2.2.1=0->n.net.nodes<=8:=λhe=>by
  have h1:=(YC (UJ he).1).p0
  have h2:n.net.power.length=n.rows.length:=by simp[NetM.net]
  omega
 have p1:=λ{H':List HP}{w:World}(hin:n.In B w0 H') (hw:St B w0 H' w)=>Yex n f.2.1 f.2.2.1 h80 YoP hin hw
 have hl9:=Ysh n.net f.2.1 f.2.2.1
 have hsing:Zo n.net f=if(XS n.net f.2.1 f.2.2.1).2≠0 then(YkP,(XS n.net f.2.1 f.2.2.1).2)else((f,[(XS n.net f.2.1 f.2.2.1).1]),0):=rfl
 rw[hsing]
 clear hsing
 generalize XS n.net f.2.1 f.2.2.1=R at*
 unfold NetM.val at p1⊢
 unfold flwV
 refine zX70 ?_<;>intros
 apply Ye _ Yw7
 exact za
 exact rfl
 exactλ_ hw=>(p1 hin.cons.cons.cons (hw))
 rintro _ _ ⟨A,cap,rfl,rfl⟩
 apply UB (e:=3) (size:=1) (k:=R.1.length) (cap:=cap) (A:=A) (xs:=R.1.flatMap numF) (by(focus exact zc2))
 intro hcap
 obtain⟨r,e⟩:=R
 dsimp only at hl9 hcap⊢
 by_cases he:e=0
 ·rw[Tf (λh=>h he)]
  refine zX48 ?_<;>intros
  rename_i gL
  apply Yq T (H2:=many [sl 93 1 (some ⟨gL,0,none⟩) 1 1 ([(⟨A,cap,r⟩:RowM)].flatMap rowF),ints A cap r]::H);(iterate 3 exact rfl);(focus exact zc2);exact rfl;exact rfl
  ·intro w hw
   have h5:St B w0 (blk gL (.cells #[.slice A r.length cap] 93 (0,0))::ints A cap r::H) w:=by
    revert w
    exact zc0
   have h6:=h5.blk_sl (cs:=[Value.slice A r.length cap]) (len:=1) (size:=1) rfl (by omega)
   exact h6.perm (.close [_,_] H)
  refine⟨⟨f,some ⟨gL,0,none⟩,1,[⟨A,cap,r⟩]⟩,_,rfl,rfl,⟨.sl (by(focus exact zc2)),λx hx=>?_,TX rfl,λx hx=>?_⟩,rfl⟩
  ·rw[TG.1 hx]
   exact .sl (by(focus exact zc2))
  ·exact YvP
 ·rw[Tn he]
  refine zX0 ?_<;>intros
  apply Yq T (H2:=many []::H);(iterate 3 exact rfl);(focus exact zc2);exact rfl;exact rfl
  ·intro w hw
   have h5:St B w0 H w:=by
    revert w
    exact zc0
   exact h5.perm (.noMany H)
  exact⟨zeroX,[],rfl,rfl,YsQ,rfl⟩
variable {P:Program}
theorem Yk3{f:Nat}{xs:Array Value}{x:Value}(h:Calls P f xs w (Post B w0 λv K=>v=x/\∀w,St B w0 K w->St B w0 H w)):Calls P f xs w (Post B w0 λv K=>v=x/\K=H):=
 h.mono (by rintro r w' ⟨v,K,rfl,hs,h1,h2⟩;exact⟨v,H,rfl,h2 _ hs,h1,rfl⟩)
variable {A:Option Addr}
theorem YmA{n:Shp}{ops:Array Oper}{Q:Exit->Act->World->Prop}{env:Env}{l:List Oper}{e size k:Nat}{xs:List Value}(hL:many L∈H)(hm:sl e size A k cap xs∈L)(h:k<=cap->VL P none n B w0 ops Q l env H):VL P none n B w0 ops Q l env H:=by
 refine⟨λa ha w hw=>?_⟩
 have hkc:k<=cap:=by
  rcases((hw.inM hL).sl hm).2 with⟨e1,e2⟩|⟨g,c,cur,e1,_,_,e4,_⟩
  all_goals simp_all
 exact(h hkc).run a ha w hw
theorem Ypt{f:Flw}{p q:List Int}(h:Jr n f=(some (p,q),0)):p.length<=9/\q.length<=9:=by
 have hr:=Wy n f
 unfold Vu at hr
 grind
theorem YcC(n:NetM)(f:Flw)(h8:n.rows.length<=6)(hin:n.In B w0 H)(hw:St B w0 H w):
 CX B w0 64 [n.val,flwV f] w (Yun B w0 H (reqE n.net f)):=by
 refine Yc Tryz.func64 Tryz.ntmps64 rfl rfl hw ?_
 have h80:XW n.net f.2.1 f.2.2.1=0->n.net.nodes<=8:=λhe=>by
  have h1:=(YC (UJ he).1).p0
  have h2:n.net.power.length=n.rows.length:=by simp[NetM.net]
  omega
 have p1:=λ{H':List HP}{w:World}(hin:n.In B w0 H') (hw:St B w0 H' w)=>Ymb n f.2.1 f.2.2.1 (Jr n.net f) (Wy n.net f) h80 hin hw
 have p2:=λ{H':List HP}{w:World}(hin:n.In B w0 H') (hw:St B w0 H' w)=>OZ n f h8 hin hw
 have hreq:reqE n.net f=match(Jr n.net f).1 with|some pq=>((f,[pq.1,pq.2]),0)|none=>Zo n.net f:=rfl
 rw[hreq]
 clear hreq
 unfold NetM.val flwV at p2
 unfold NetM.val at p1⊢
 unfold flwV
 rcases YgA (Wy n.net f)with⟨h1,h2⟩|⟨a,b,h1⟩
 ·generalize Jr n.net f=R at*
  obtain⟨o,e⟩:=R
  dsimp only at h1 h2
  subst h1
  dsimp only at p1⊢
  repeat'(first|refine zgb ?_|(refine zgh ?_;intro _)|fail)
  first|apply Ya Yq1|apply Yb Yq1
  exact za
  exact rfl
  exactλ_ hw=>(Yk3<|p1 hin.cons.cons.cons hw)
  repeat'(first|refine zgc ?_|(refine zge ?_ ?_<;>intro _<;>try exact zo)|fail)
  apply Ye _ en63
  exact za
  exact rfl
  exactλ_ hw=>(p2 hin.cons.cons.cons (hw))
  rintro _ _ ⟨x,L,rfl,hx,hxi,rfl⟩
  unfold rqV
  repeat'(first|refine zgc ?_|fail)
  apply Yq T (H2:=many L::H);(iterate 3 exact rfl);exact zm;exact rfl;exact rfl
  ·exact zk
  exact⟨x,L,rfl,hx,hxi,rfl⟩
 ·rw[h1]at p1⊢
  dsimp only at p1⊢
  repeat'(first|refine zgb ?_|(refine zgh ?_;intro _)|fail)
  apply Ye _ Yq1
  exact za
  exact rfl
  exactλ_ hw=>(p1 hin.cons.cons.cons (hw))
  rintro _ _ ⟨g,A1,c1,A2,c2,L,rfl,hm1,hm2,rfl⟩
  apply YmA (L:=L) zm hm1
  intro hc1
  apply YmA (L:=L) zm hm2
  intro hc2
  obtain⟨l1,l2⟩:=Ypt h1
  repeat'(first|refine zgd ?_|(refine zge ?_ ?_<;>intro _<;>try exact zo)|fail)
  apply Yq T (H2:=many [sl 93 1 (some ⟨g,0,none⟩) 2 2 ([⟨A1,c1,a⟩,⟨A2,c2,b⟩].flatMap rowF),many L]::H);(iterate 3 exact rfl);exact zm;exact rfl;exact rfl
  ·intro w hw
   have h5:St B w0 (sl 93 1 (some ⟨g,0,none⟩) 2 2 ([⟨A1,c1,a⟩,⟨A2,c2,b⟩].flatMap rowF)::many L::H) w:=by
    revert w
    exact zk
   exact h5.perm (.close [_,_] H)
  refine⟨⟨f,some ⟨g,0,none⟩,2,[⟨A1,c1,a⟩,⟨A2,c2,b⟩]⟩,_,rfl,rfl,⟨.sl zm,λx hx=>?_,TX rfl,λx hx=>?_⟩,rfl⟩
  ·simp only[TL,RV,N3]at hx
   rcases hx with rfl|rfl
   ·exact Rd.many (L:=L) zm hm1
   ·exact Rd.many (L:=L) zm hm2
  ·simp only[TL,RV,N3]at hx
   rcases hx with rfl|rfl
   ·exact⟨by show a.length<=_;omega,hc1⟩
   ·exact⟨by show b.length<=_;omega,hc2⟩
theorem Yt8{n:Net}{f:Flw}(h:(reqE n f).2≠0):reqE n f=Zo n f:=by
 grind [reqE]
def Yuo(B:Nat)(w0:World)(H:List HP)(R:List Rqs×(Int×Int))(v:Value)(K:List HP):Prop:=∃(A:Option Addr) (cap:Nat) (q:List RqM) (L:List HP),v=.tuple #[.slice A q.length cap,.int .i64 R.2.1,.int .i64 R.2.2]/\q.map RqM.rq=R.1/\(∀x∈q,x.In B w0 L)/\K=rqs A cap q::many L::H
theorem YrG(h:St B w0 H w):St B w0 (rqs none 0 []::many []::H) w:=(h.perm (.noMany H)).nilSlice 86 7
theorem YrT{R:List Rqs×(Int×Int)}{v:Value}(i e:Int)(hR:R=([],(i,e)))(hv:v=.tuple #[.slice none 0 0,.int .i64 i,.int .i64 e]):Yuo B w0 H R v (rqs none 0 []::many []::H):=
 ⟨none,0,[],[],by simp_all,by simp_all,(λx hx=>by cases hx),rfl⟩
structure RsN where
 i:Nat
 A:Option Addr
 cap:Nat
 q:List RqM
 L:List HP
theorem Yev(n:NetM)(l:List Flw)(h8:n.rows.length<=6)(hll:l.length<=1000000000000)(hin:n.In B w0 H)(hr:Rd B w0 H A (l.flatMap flwF))(hw:St B w0 H w):
 CX B w0 14 [n.val,.slice A l.length cap] w (Yuo B w0 H (Zd n.net l)):=by
 refine Yc Tryz.func14 Tryz.ntmps14 rfl rfl hw ?_
 have p1:=λ{H':List HP}{w:World}(hin:n.In B w0 H') (hw:St B w0 H' w)=>OS n hin hw
 have p2:=λ{H':List HP}{w:World}(hr:Rd B w0 H' A (l.flatMap flwF)) (hw:St B w0 H' w)=>YhW n.nodes l (T9 hll (by decide)) (cap:=cap) hr hw
 have p3:=λ(f:Flw) {H':List HP}{w:World}(hin:n.In B w0 H') (hw:St B w0 H' w)=>YcC n f h8 hin hw
 have p5:=λ(f:Flw) {H':List HP}{w:World}(hin:n.In B w0 H') (hw:St B w0 H' w)=>OZ n f h8 hin hw
 have hop:∀w,St B w0 [many H] w->St B w0 H w:=λw hw=>hw.perm (.openT H)
 have hin:=hin.mono hop
 have hr:=hr.mono hop
 unfold NetM.val flwV at p3 p5
 unfold NetM.val at p1⊢
 refine ZW [many H] (λw hw=>hw.perm (.closeT H)) ?_
 unfold Zd
 by_cases hck:Yo n.net=0
 rotate_left
 ·rw[Tn hck]
  refine zX70 ?_<;>intros
  first|apply Ya en61|apply Yb en61
  exact za
  exact rfl
  exactλ_ hw=>(p1 hin.cons hw)
  refine zX3 ?_<;>intros
  apply Yi (rqs none 0 []::many []::H)
  ·intro w hw
   have h5:St B w0 [many H] w:=by
    revert w
    exact zc0
   exact YrG (hop w h5)
  exact zc69
 rw[Tf (λe=>e hck)]
 have hnd:n.net.nodes=n.nodes:=rfl
 rw[hnd]
 obtain⟨⟨fi,fe⟩,hF⟩:∃R,Yu n.nodes l=R:=⟨_,rfl⟩
 rw[hF]at p2⊢
 dsimp only at p2⊢
 rw[hck]at p1
 refine zX70 ?_<;>intros
 first|apply Ya en61|apply Yb en61
 exact za
 exact rfl
 exactλ_ hw=>(p1 hin.cons hw)
 refine zX3 ?_<;>intros
 first|apply Ya en62|apply Yb en62
 exact za
 exact rfl
 exactλ_ hw=>(p2 hr.cons hw)
 by_cases hfe:fe=0
 rotate_left
 ·rw[Tn hfe]
  refine zX1 ?_<;>intros
  apply Yi (rqs none 0 []::many []::H)
  ·intro w hw
   have h5:St B w0 [many H] w:=by
    revert w
    exact zc0
   exact YrG (hop w h5)
  exact zc69
 subst hfe
 rw[Tf (λe=>e rfl)]
 have hl16:l.length<=16:=zc79
 obtain⟨F,hFd⟩:∃F,(λi=>(reqE n.net (Xj l i)).2)=F:=⟨_,rfl⟩
 have hFv:∀{i:Nat}{f:Flw},l[i]? =some f->F i=(reqE n.net f).2:=λ{i f} h=>by
  exact YvB
 unfold Ycl
 rw[hFd]
 repeat'(first|(apply Y1 T;exact rfl;exact rfl;intro _)|refine zgc ?_|(refine zge ?_ ?_<;>intro _<;>try exact zo)|fail)
 rename_i g2 _ _ gA
 refine Yg (λz:RsN=>[(10,.int .i64 (z.i:Nat)),(9,.slice z.A z.q.length z.cap),(1,.slice A l.length cap),(2,.pointer (some ⟨g2,0,none⟩))]) (λz=>rqs z.A z.cap z.q::many z.L::netA g2 n::[many H])
  (λz=>z.i<=l.length/\z.q.map RqM.rq=(l.take z.i).map (λf=>(reqE n.net f).1)/\(∀x∈z.q,x.In B w0 z.L)/\∀j,0<=j->j<z.i->F j=0) (λz=>l.length-z.i) ⟨0,some ⟨gA,0,none⟩,0,[],[]⟩ ⟨Tm _,rfl,(λx hx=>by cases hx),λj _ h=>absurd h (RL _)⟩ ?_ ?_ ?_
 ·exact zc1
 ·intro w hw
  have h5:St B w0 (sl 86 7 (some ⟨gA,0,none⟩) 0 0 []::netA g2 n::[many H]) w:=by
   revert w
   exact zc0
  exact h5.perm (.cons _ (.noMany _))
 rintro⟨i,A1,c1,q,L⟩ ⟨hi,hq,hqx,hz⟩ K hK
 dsimp only at hi hq hqx hz⊢
 have hqn:q.length=i:=by
  have:=TE List.length hq
  exact zc92
 by_cases hlt:i<l.length
 rotate_left
 ·obtain rfl:i=l.length:=by omega
  have hfe:=Zm (f:=F) (r:=l.length) (i0:=0) λj h1 h2=>hz j h1 (by omega)
  rw[hfe,Tf (λe=>e rfl)]
  rw[TV]at hq
  clear hK
  refine zX1 ?_<;>intros
  apply Yi (rqs A1 c1 q::many L::H)
  ·intro w hw
   have h5:St B w0 (rqs A1 c1 q::many L::[many H]) w:=by
    revert w
    exact zc0
   exact zc76
  apply VW;(iterate 4 exact rfl)
  exact⟨A1,c1,q,L,rfl,hq,hqx,rfl⟩
 obtain⟨f,hf⟩:∃f,l[i]? =some f:=⟨_,Ta hlt⟩
 have hr2:Rd B w0 (rqs A1 c1 q::many L::netA g2 n::[many H]) A (l.flatMap flwF):=hr.cons.cons.cons
 have hFi:=hFv hf
 have hst:(l.take (i+1)).map (λf=>(reqE n.net f).1)=(l.take i).map (λf=>(reqE n.net f).1)++[(reqE n.net f).1]:=by
  rw[TN,hf,Rb];rfl
 have hre:=@Yt8 n.net f
 have p4:=λ{H':List HP}{w:World}(hin:n.In B w0 H') (hw:St B w0 H' w)=>p3 f (H':=H') (w:=w) hin hw
 have p6:=λ{H':List HP}{w:World}(hin:n.In B w0 H') (hw:St B w0 H' w)=>p5 f (H':=H') (w:=w) hin hw
 clear p3 p5
 generalize Zo n.net f=SQ at p6 hre
 generalize reqE n.net f=RQ at p4 hFi hst hre
 obtain⟨sq,se⟩:=SQ
 obtain⟨rq,re⟩:=RQ
 dsimp only at hFi hst hre
 unfold flwV at*
 refine zX3 ?_<;>intros
 apply YX [0,1,2,3,4,5,6,7,8,9] [] [false,false,true,true]
 kernel_rfl
 kernel_rfl
 exact zy
 (simp only[Yh,nthO];rfl)
 exact rfl
 refine zX2 ?_
 apply Ye _ en63
 exact za
 exact rfl
 exactλ_ hw=>(p6 (hin.mono zc0) (hw))
 rintro _ _ ⟨x1,L1,rfl,-,-,rfl⟩
 dsimp only
 refine zX18 ?_
 refine Zf (λ(z:{z:RqM×List HP×Nat//z.1.rq=rq/\z.1.In B w0 z.2.1})=>[(12,.int .i64 re),(11,.pointer (some ⟨z.1.2.2,0,none⟩)),(10,.int .i64 (i:Nat)),(9,.slice A1 q.length c1),(8,.int .i64 se),(1,.slice A l.length cap),(2,.pointer (some ⟨g2,0,none⟩))]) (λz=>rqA z.1.2.2 z.1.1::many z.1.2.1::rqs A1 c1 q::many L::netA g2 n::[many H]) ?_ ?_
 ·intro K2 hK2
  have hr3:Rd B w0 [netA g2 n,many H,many L1,rqs A1 c1 q,many L] A (l.flatMap flwF):=hr.mono zc0
  apply ZN (.n1 0 (.n1 1 (.n1 2 (.n1 3 (.n1 4 (.n2 5 (.n1 6 (.n1 7 (.n1 8 (.n1 9 (.n1 10 (.n1 11 .done)))))) 9 (.n1 5 (.n1 6 (.n1 7 (.n1 8 (.n1 10 (.n1 11 .done)))))))))))) [] [true,true,true,true,true]
  kernel_rfl
  kernel_rfl
  exact zy
  exact rfl
  repeat'(first|(apply Yl;try exact zl)|apply(zs91 ?_ ?_)|(apply YG;try exact zl)|refine zgd ?_|(refine zgh ?_;intro _)|fail)
  ·skip
   apply Ye _ en64
   exact za
   exact rfl
   exactλ_ hw=>(p4 (hin.mono zc0) (hw))
   rintro _ _ ⟨x,L2,rfl,hx,hxi,rfl⟩
   unfold rqV
   repeat'(first|(apply Yl;try exact zl)|(apply YG;try exact zl)|refine zgd ?_|(refine zgh ?_;intro _)|fail)
   rename_i gx
   apply hK2 ⟨(x,L2,gx),hx,hxi⟩
   ·exact zc1
   ·exact zc0
  ·rename_i gx
   apply Ye _ en64
   exact za
   exact rfl
   exactλ_ hw=>(p4 (hin.mono zc0) (hw))
   rintro _ _ ⟨x,L2,rfl,hx,hxi,rfl⟩
   unfold rqV
   repeat'(first|(apply Yl;try exact zl)|(apply YG;try exact zl)|refine zgd ?_|fail)
   apply hK2 ⟨(x,L2,gx),hx,hxi⟩
   ·exact zc1
   ·exact zc0
 rintro⟨⟨x,L2,gx⟩,hx,hxi⟩
 dsimp only at hx hxi⊢
 by_cases he:re=0
 rotate_left
 ·have hfe:=Zl (f:=F) (r:=l.length) (i0:=0) (i:=i) (λj h1 h2=>hz j h1 h2) (Tm _) (by omega) (by rw[hFi];exact he)
  rw[hfe,Tn (by rw[hFi];exact he),hFi]
  obtain⟨-,rfl⟩:=N7 (hre he)
  clear hK
  refine zX0 ?_<;>intros
  apply Yi (rqs none 0 []::many []::H)
  ·intro w hw
   have h5:St B w0 [many H] w:=by
    revert w
    exact zc0
   exact YrG (hop w h5)
  exact zc69
 subst he
 unfold rqs
 refine YnW ?_<;>intros
 rename_i A2 c2
 apply hK ⟨i+1,A2,c2,q++[x],[many L2,many L]⟩
 ·refine⟨by exact zc71,?_,λy hy=>?_,λj h1 h2=>?_⟩
  ·exact Yvz
  ·rcases TI.1 hy with hy|hy
   ·exact(hqx y hy).mono λw hw=>hw.inM (by(focus exact zc2))
   ·rw[TG.1 hy];exact hxi.mono λw hw=>hw.inM (by(focus exact zc2))
  exact YvJ
 ·exact zc39
 ·rw[To]
  exact zc1
 ·intro w hw
  have h5:St B w0 (many L2::many L::rqs A2 c2 (q++[x])::netA g2 n::[many H]) w:=by
   rw[<-Qs]
   revert w
   exact zc0
  exact(h5.perm (.close [_,_] _)).perm (.swap _ _ _)
theorem YtK(n:NetM)(l:List Flw)(hl:l.length<=9223372036854775807)(ht:TabsB B w0)(hin:n.In B w0 H)(hr:Rd B w0 H A (l.flatMap flwF))(hw:St B w0 H w):
 CX B w0 3 [n.val,.slice A l.length cap] w λv K=>v=.bool true/\K=H:=by
 refine Yc Tryz.func3 Tryz.ntmps3 rfl rfl hw ?_
 have p0:=λ{H':List HP}{w:World}(hin:n.In B w0 H') (hw:St B w0 H' w)=>Yh9 n l hl (A:=A) (cap:=cap) hin hw
 unfold NetM.val
 unfold NetM.val at p0
 obtain⟨b,hb⟩:∃b,Yia n.net l=b:=⟨_,rfl⟩
 rw[hb]at p0
 (apply YY;apply Yx;apply Yr;exact rfl;exact rfl;intro g)
 repeat'(first|refine zga ?_|fail)
 first|apply Ya en11|apply Yb en11
 exact za
 exact rfl
 exactλ_ hw=>(Yct ht hw)
 cases b with
 |false=>
  repeat'(first|((first|apply Ya en12|apply Yb en12);exact za;exact rfl;exactλ_ hw=>(p0 hin.cons hw))|refine zgd ?_|fail)
  apply Yj
  apply Yd;exact rfl;exact rfl;simp_all
 |true=>
 have hl3:l.length<=3/\n.rows.length<=6:=by
  have e2:n.net.power.length=n.rows.length:=by simp[NetM.net]
  unfold Yia at hb
  simp only[Tq,Tt]at hb
  exact⟨hb.2,e2▸hb.1.2⟩
 have p1:=λ{H':List HP}{w:World}(hin:n.In B w0 H') (hr:Rd B w0 H' A (l.flatMap flwF)) (hw:St B w0 H' w)=>U6 n l (by omega) (λf _=>Wy n.net f) (cap:=cap) hin hr hw
 have p2:=λ{H':List HP}{w:World}(hin:n.In B w0 H') (hr:Rd B w0 H' A (l.flatMap flwF)) (hw:St B w0 H' w)=>Yev n l hl3.2 (by omega) (cap:=cap) hin hr hw
 obtain⟨⟨R,i,e⟩,hR⟩:∃R,Zd n.net l=R:=⟨_,rfl⟩
 have hRl:R.length<=3:=by
  unfold Zd at hR
  repeat' split at hR
  all_goals(have h:=TE (λz=>z.1.length) hR;simp at h;omega)
 rw[hR]at p1 p2
 unfold NetM.val at p1 p2
 repeat'(first|((first|apply Ya en12|apply Yb en12);exact za;exact rfl;exactλ_ hw=>(p0 hin.cons hw))|refine zgd ?_|fail)
 apply Ye _ en13
 exact za
 exact rfl
 exactλ_ hw=>(p1 (hin.mono zk) (hr.mono zk) (hw))
 rintro _ _ ⟨A1,c1,q1,rfl,hq1,hx1,rfl⟩
 repeat'(first|refine zgc ?_|fail)
 apply Ye _ en14
 exact za
 exact rfl
 exactλ_ hw=>(p2 (hin.mono zk) (hr.mono zk) (hw))
 rintro _ _ ⟨A2,c2,q2,L,rfl,hq2,hx2,rfl⟩
 unfold rqs
 have hlen1:q1.length=R.length:=by simpa using TE List.length hq1
 have hlen2:q2.length=R.length:=by simpa using TE List.length hq2
 have p3:=λ{H':List HP}{w:World}(h1:QIn B w0 H' A1 q1) (h2:QIn B w0 H' A2 q2) (hw:St B w0 H' w)=>Ya1 q1 q2 (hq1.trans hq2.symm) (cap:=c1) (cap2:=c2) h1 h2 hw
 dsimp only
 repeat'(first|refine zgc ?_|fail)
 first|apply Ya en15|apply Yb en15
 exact za
 exact rfl
 exactλ_ hw=>(p3 ⟨.sl (e:=86) (size:=7) (k:=q1.length) (cap:=c1) zm,λx hx=>YcQ zm hx (hx1 x hx),by omega⟩ ⟨.sl (e:=86) (size:=7) (k:=q2.length) (cap:=c2) zm,λx hx=>(hx2 x hx).mono λw hw=>hw.inM zm,by omega⟩ hw)
 repeat'(first|refine zgc ?_|(refine zge ?_ ?_<;>intro _<;>try exact zo)|fail)
 all_goals(apply Yi H
           ·exact zk
           apply Yd;exact rfl;exact rfl;exact⟨rfl,rfl⟩)
end Go.Proofs.YtaholidehobiiaaGreatDoor
