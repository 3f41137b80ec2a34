/- Lemmas. -/
import Derived.Shelf.Strings.Builder1
import Derived.Shelf.Small.Bits
import Derived.Shelf.Small.Wraps
import Derived.Shelf.Strings.BuilderF
import Derived.Shelf.Strings.BuilderK
import Derived.Shelf.Strconv.Itoa0
import Derived.Shelf.Strconv.Itoa1
import Derived.Shelf.LaysM
import Derived.Shelf.Strconv.Itoa2
import Derived.Shelf.Strconv.Itoa3
import Derived.Shelf.Bits.Mul64
import Derived.Shelf.Strings.BuilderCap
import Derived.Shelf.Slices.Turned
import Derived.Shelf.Slices.Equal
import Derived.Ground.Names2Prog
import Derived.Shelf.Slices.Clone
import Derived.Shelf.Slices.SearchI
import Derived.Shelf.Slices.Empties2
import Derived.Test.YtambgjgljcadlaaGreatDoorProg
import Derived.Lib.Split
import Derived.Lib.ItoaNum
import Derived.Lib.AtoiAll
import Derived.Lib.AtoiTie
import Derived.ProofKit
import Derived.Below
import Derived.ChangeSame
import Derived.Carry
import Derived.Test.YtambgjgljcadlaaGreatDoorQ1
set_option maxRecDepth 100000
set_option maxHeartbeats 8000000
set_option linter.all false
namespace Go.Nw
abbrev Lk:=Int×Int×Int
structure Net where
 nodes:Int
 power:List (List Int)
 noise:Int
 thr:Int
 links:List Lk
 margin:List Int
def cmpI(x y:Int):Int:=if x<y then -1 else if y<x then 1 else 0
def cmpL(a b:Lk):Int:=if cmpI a.1 b.1=0 then cmpI a.2.1 b.2.1 else cmpI a.1 b.1
def JH(p:Int):Bool:=decide (p<0\/68719476736<p)
def wide(k:Int)(r:List Int):Bool:=decide ((r.length:Int)≠k)
def WK(n:Net):Int:=
 if(n.power.length:Int)≠n.nodes then 1 else if n.power.any (wide n.nodes)=true then 1 else if n.power.any (λr=>r.any JH)=true then 2 else 0
def lnk(n:Net)(i:Nat):Lk:=n.links.getD i (0,0,0)
def mar(n:Net)(i:Nat):Int:=n.margin.getD i 0
def powr(n:Net)(a b:Int):Int:=(n.power.getD a.toNat []).getD b.toNat 0
def Qr(n:Net)(i:Nat):Int:=
 if¬(0<=(lnk n i).1/\(lnk n i).1<n.nodes)\/¬(0<=(lnk n i).2.1/\(lnk n i).2.1<n.nodes)\/(lnk n i).1=(lnk n i).2.1\/(lnk n i).2.2<0\/7<(lnk n i).2.2 then 2
 else if 0<i/\0<=cmpL (lnk n (i-1)) (lnk n i)then 5
 else if mar n i<0\/powr n (lnk n i).1 (lnk n i).2.1<mar n i then 2 else 0
def Ug(n:Net):Nat->Nat->Int
 |0,_=>0
 |r+1,i=>if Qr n i=0 then Ug n r (i+1)else Qr n i
def Yo(n:Net):Int:=
 if n.nodes<2\/32<n.nodes then 2 else if WK n≠0 then WK n
 else if n.noise<0\/68719476736<n.noise\/n.thr<1000\/100000<n.thr then 2
 else if 128<n.links.length then 8 else if n.margin.length≠n.links.length then 11 else Ug n n.links.length 0
def Ym{α:Type}(p:α->Bool):List α->Int->Int
 |[],_=> -1
 |a::l,k=>if p a then k else Ym p l (k+1)
theorem VO{α:Type}(p:α->Bool):∀(l:List α) (k:Int),0<=k->(0<=Ym p l k↔l.any p=true)
 |[],k,_=>by simp[Ym]
 |a::l,k,h=>by
  unfold Ym
  by_cases hp:p a=true
  ·simp_all
  ·rw[Td hp,VO p l (k+1) (by omega)]
   simp[hp]
theorem Vn{α:Type}(p:α->Bool)(l:List α){k:Nat}{a:α}(h:l[k]? =some a):Ym p (l.drop k) k=if p a then(k:Int)else Ym p (l.drop (k+1)) (k+1):=by
 grind [Rm,Ym]
variable {i:Nat}
theorem YiL(n:Net)(h:i<n.links.length)(h0:Qr n i=0):Ug n (n.links.length-i) i=Ug n (n.links.length-(i+1)) (i+1):=by
 rw[show n.links.length-i=n.links.length-(i+1)+1 by omega,Ug,Tm h0]
theorem YiM(n:Net)(h:i<n.links.length)(h0:Qr n i≠0):Ug n (n.links.length-i) i=Qr n i:=by
 rw[show n.links.length-i=n.links.length-(i+1)+1 by omega,Ug,Td h0]
theorem Yjr{n:Net}(h:WK n=0):(n.power.length:Int)=n.nodes/\(∀r∈n.power,(r.length:Int)=n.nodes)/\∀r∈n.power,∀p∈r,0<=p/\p<=68719476736:=by
 unfold WK at h
 by_cases h1:(n.power.length:Int)≠n.nodes
 ·omega
 by_cases h2:n.power.any (wide n.nodes)=true
 ·simp_all
 by_cases h3:n.power.any (λr=>r.any JH)=true
 ·simp_all
 refine⟨by omega,λr hr=>?_,λr hr p hp=>?_⟩
 ·by_cases hw:(r.length:Int)=n.nodes
  ·exact hw
  ·exact absurd (TR.2 ⟨r,hr,by simp[wide,hw]⟩) h2
 ·by_cases ho:JH p=true
  ·grind
  grind [JH]
variable {x y a b:Int}
theorem Ypq:cmpI x y<0↔x<y:=by grind [cmpI]
theorem cmpI_zero:cmpI x y=0↔x=y:=by grind [cmpI]
theorem UX{a b:Lk}:cmpL a b<0↔a.1<b.1\/(a.1=b.1/\a.2.1<b.2.1):=by
 grind [Ypq,cmpI_zero,cmpL]
theorem UY{a b:Lk}:cmpL a b=0↔a.1=b.1/\a.2.1=b.2.1:=by
 grind [cmpI_zero,cmpL]
structure OkL(n:Net)(i:Nat):Prop where
 f0:0<=(lnk n i).1
 f1:(lnk n i).1<n.nodes
 t0:0<=(lnk n i).2.1
 t1:(lnk n i).2.1<n.nodes
 ne:(lnk n i).1≠(lnk n i).2.1
 l0:0<=(lnk n i).2.2
 l1:(lnk n i).2.2<=7
 ord:0<i->cmpL (lnk n (i-1)) (lnk n i)<0
 m0:0<=mar n i
 m1:mar n i<=powr n (lnk n i).1 (lnk n i).2.1
variable {n:Net}{i:Nat}
theorem Yst(h:Qr n i=0):OkL n i:=by
 unfold Qr at h
 by_cases h1:¬(0<=(lnk n i).1/\(lnk n i).1<n.nodes)\/¬(0<=(lnk n i).2.1/\(lnk n i).2.1<n.nodes)\/(lnk n i).1=(lnk n i).2.1\/(lnk n i).2.2<0\/7<(lnk n i).2.2
 ·omega
 by_cases h2:0<i/\0<=cmpL (lnk n (i-1)) (lnk n i)
 ·omega
 by_cases h3:mar n i<0\/powr n (lnk n i).1 (lnk n i).2.1<mar n i
 ·omega
 constructor<;>omega
structure Ok(n:Net):Prop where
 n0:2<=n.nodes
 n1:n.nodes<=32
 p0:(n.power.length:Int)=n.nodes
 p1:∀r∈n.power,(r.length:Int)=n.nodes
 p2:∀r∈n.power,∀p∈r,0<=p/\p<=68719476736
 z0:0<=n.noise
 z1:n.noise<=68719476736
 t0:1000<=n.thr
 t1:n.thr<=100000
 k0:n.links.length<=128
 k1:n.margin.length=n.links.length
 lk:∀i,i<n.links.length->OkL n i
theorem YiN{n:Net}:∀(r i:Nat),Ug n r i=0->∀j,i<=j->j<i+r->OkL n j
 |0,_,_,j,h1,h2=>by omega
 |r+1,i,h,j,h1,h2=>by
  unfold Ug at h
  by_cases h0:Qr n i=0
  ·rw[Tm h0]at h
   by_cases e:i=j
   ·grind [Yst]
   ·exact YiN r (i+1) h j (by omega) (by omega)
  omega
theorem YN(h:Yo n=0):Ok n:=by
 unfold Yo at h
 by_cases h1:n.nodes<2\/32<n.nodes
 ·omega
 rw[Td h1]at h
 by_cases h2:WK n≠0
 ·omega
 rw[Td h2]at h
 by_cases h3:n.noise<0\/68719476736<n.noise\/n.thr<1000\/100000<n.thr
 ·omega
 rw[Td h3]at h
 by_cases h4:128<n.links.length
 ·omega
 rw[Td h4]at h
 by_cases h5:n.margin.length≠n.links.length
 ·omega
 rw[Td h5]at h
 obtain⟨t1,t2,t3⟩:=Yjr (Classical.not_not.1 h2)
 exact⟨by omega,by omega,t1,t2,t3,by omega,by omega,by omega,by omega,by omega,Classical.not_not.1 h5,λi hi=>YiN _ _ h i (Tj _) (by omega)⟩
theorem Yeb(h:Ok n):∀(i j:Nat),i<j->j<n.links.length->cmpL (lnk n i) (lnk n j)<0:=by
 intro i j
 induction j with
 |zero=>omega
 |succ j ih=>
  intro h1 h2
  have h3:=(h.lk (j+1) h2).ord (by omega)
  rw[Nl]at h3
  by_cases e:i=j
  ·simp_all
  ·rw[UX]at*
   omega
def YbD(a b:Int)(l:Lk):Bool:=decide (l.1=a)&&decide (l.2.1=b)
def YA(n:Net)(a b:Int):Int:=Ym (YbD a b) n.links 0
theorem Yae{α:Type}{p:α->Bool}:∀{l:List α}{k:Int},(∀a∈l,p a=false)->Ym p l k= -1
 |[],_,_=>rfl
 |a::l,k,h=>by
  rw[Ym,h a TB,Td (by simp)]
  exact Yae λb hb=>h b (Tz _ hb)
theorem Ydq{α:Type}{p:α->Bool}:∀{l:List α}{k:Int}{i:Nat}{a:α},l[i]? =some a->p a=true->(∀j b,j<i->l[j]? =some b->p b=false)->Ym p l k=k+i
 |[],_,_,_,h,_,_=>by simp at h
 |b::l,k,0,a,h,hp,_=>by
  simp_all [Ym]
 |b::l,k,i+1,a,h,hp,hn=>by
  have hb:=hn 0 b (by omega) (by simp)
  rw[Ym,Td (by simp_all),Ydq (i:=i) (a:=a) (by simp_all) hp λj c hj hc=>hn (j+1) c (by omega) (by simp_all)]
  omega
theorem QJ{α:Type}{p:α->Bool}:∀{l:List α}{k:Int},0<=k->Ym p l k= -1\/(k<=Ym p l k/\Ym p l k<k+l.length)
 |[],_,_=>.inl rfl
 |a::l,k,h=>by
  unfold Ym
  by_cases hp:p a=true
  ·grind
  ·rcases @QJ _ p l (k+1) (by omega)with h1|h1
   all_goals grind
theorem Yaf{α:Type}{p:α->Bool}:∀{l:List α}{k:Int}{i:Nat},0<=k->Ym p l k=k+i->∃a,l[i]? =some a/\p a=true
 |[],k,i,h0,h=>by grind [Ym]
 |a::l,k,i,h0,h=>by
  unfold Ym at h
  by_cases hp:p a=true
  ·grind
  ·cases i with
   |zero=>
    grind [QJ]
   |succ i=>
    obtain⟨b,h1,h2⟩:=Yaf (p:=p) (i:=i) (l:=l) (k:=k+1) (by omega) (by omega)
    simp_all
theorem VP{l:Lk}(h:n.links[i]? =some l):lnk n i=l:=by grind [lnk]
theorem YgF{z:Int}(h:n.margin[i]? =some z):mar n i=z:=by grind [mar]
theorem Yal(n:Net)(h:i<n.links.length):n.links[i]? =some (lnk n i):=by grind [lnk]
theorem Yii(h:Ok n){c:Int}{k:Nat}(hk:k<=n.links.length)(h1:∀j,j<k->cmpL (lnk n j) (a,b,c)<0)(h2:∀j,k<=j->j<n.links.length->0<=cmpL (lnk n j) (a,b,c)):
 YA n a b=if k<n.links.length/\cmpL (lnk n k) (a,b,c)=0 then(k:Int)else -1:=by
 unfold YA
 have hlow:∀j l,j<k->n.links[j]? =some l->YbD a b l=false:=by grind [VP,UX,YbD]
 by_cases hc:k<n.links.length/\cmpL (lnk n k) (a,b,c)=0
 ·rw[Tm hc,Ydq (Yal n hc.1) (by grind [UY,YbD]) hlow]
  omega
 ·rw[Td hc]
  refine Yae λl hl=>?_
  obtain⟨j,hj,rfl⟩:=List.mem_iff_getElem.1 hl
  by_cases hjk:j<k
  ·exact hlow j _ hjk (Ta hj)
  ·have e:lnk n j=n.links[j]:=VP (Ta hj)
   have h3:cmpL (lnk n j) (a,b,c)≠0:=by
    by_cases ejk:j=k
    ·grind
    ·intro e0
     have h4:=Yeb h k j (by omega) hj
     have h5:=h2 k (TK _) (by omega)
     rw[UY]at e0
     have h6:¬cmpL (lnk n k) (a,b,c)<0:=by omega
     simp_all [UX]
   simp_all [UY,YbD]
def Z9(n:Net)(s d:Int):Bool:=decide (n.thr*(n.noise+d)<=s*1000)
def ZJ(n:Net)(i:Nat):Bool:=decide (0<=YA n (lnk n i).2.1 (lnk n i).1)&&(Z9 n (mar n i) 0&&Z9 n (mar n (YA n (lnk n i).2.1 (lnk n i).1).toNat) 0)
theorem Ysf(h:Ok n){d:Int}(h0:0<=d)(h1:d<=8796093022208): -9223372036854775808<=n.thr*(n.noise+d)/\n.thr*(n.noise+d)<=9223372036854775807:=by
 have h2:=h.t0;have h3:=h.t1;have h4:=h.z0;have h5:=h.z1
 have h6:0<=n.thr*(n.noise+d):=Int.mul_nonneg (by omega) (by omega)
 have h7:n.thr*(n.noise+d)<=100000*(n.noise+d):=S7 h3 (by omega)
 omega
theorem YkB(h:Ok n)(hi:i<n.links.length):0<=mar n i/\mar n i<=68719476736:=by
 have hl:=h.lk i hi
 refine⟨hl.m0,N7 hl.m1 ?_⟩
 unfold powr
 have e1:(lnk n i).1.toNat<n.power.length:=by have:=h.p0;have:=hl.f1;have:=hl.f0;omega
 rw[show n.power.getD (lnk n i).1.toNat []=n.power[(lnk n i).1.toNat] by simp_all]
 have hm:=NS e1
 have e2:(lnk n i).2.1.toNat<(n.power[(lnk n i).1.toNat]).length:=by have:=h.p1 _ hm;have:=hl.t1;have:=hl.t0;omega
 rw[show(n.power[(lnk n i).1.toNat]).getD (lnk n i).2.1.toNat 0=(n.power[(lnk n i).1.toNat])[(lnk n i).2.1.toNat] by simp_all]
 exact(h.p2 _ hm _ (NS e2)).2
theorem ZG(h:0<=YA n a b):(YA n a b).toNat<n.links.length:=by
 rcases @QJ _ (YbD a b) n.links 0 (by omega)with h1|h1<;>unfold YA at h⊢<;>omega
theorem U4(h:0<=YA n a b):(lnk n (YA n a b).toNat).1=a/\(lnk n (YA n a b).toNat).2.1=b:=by
 obtain⟨l,h1,h2⟩:=@Yaf _ (YbD a b) n.links 0 (YA n a b).toNat (by omega) (by grind [YA])
 grind [VP,YbD]
end Go.Nw
namespace Go.Proofs.YtambgjgljcadlaaGreatDoor
def Xo:List Int->List Int->Bool
 |[],b=>!b.isEmpty
 |_::_,[]=>false
 |a::l,b::m=>if a≠b then decide (a<b)else Xo l m
theorem YiJ{a b:List Int}{i:Nat}{x y:Int}(hx:a[i]? =some x)(hy:b[i]? =some y):Xo (a.drop i) (b.drop i)=if x≠y then decide (x<y)else Xo (a.drop (i+1)) (b.drop (i+1)):=by
 obtain⟨h1,rfl⟩:=Tc.1 hx
 obtain⟨h2,rfl⟩:=Tc.1 hy
 rw[Rm h1,Rm h2]
 rfl
theorem Yp9:∀{a b:List Int},Xo a b=false->Xo b a=false->a=b
 |[],[],_,_=>rfl
 |[],b::m,h,_=>by simp[Xo]at h
 |a::l,[],_,h=>by simp[Xo]at h
 |a::l,b::m,h1,h2=>by
  unfold Xo at h1 h2
  by_cases e:a=b
  ·subst e
   rw[Td (λh=>h rfl)]at h1 h2
   rw[Yp9 h1 h2]
  grind
theorem YdB:∀a:List Int,Xo a a=false
 |[]=>rfl
 |a::l=>by unfold Xo;rw[Td (λh=>h rfl)];exact YdB l
open Go.Nw
abbrev Cel:=Int×Int×Int×Int×Int
def nums(c:Cel):List Int:=[c.1,c.2.1,c.2.2.1,c.2.2.2.1,c.2.2.2.2]
def Xq(a b:Cel):Bool:=Xo (nums a) (nums b)
variable {a b c:Cel}
theorem Yqm(h:nums a=nums b):a=b:=by
 grind [nums]
theorem Yft:∀{a b c:List Int},Xo a b=true->Xo b c=true->Xo a c=true
 |_,_,[],_,h=>by cases‹List Int›<;>cases h
 |[],_,_::_,_,_=>rfl
 |_::_,[],_::_,h,_=>by cases h
 |x::a,y::b,z::c,h1,h2=>by
  unfold Xo at h1 h2⊢
  by_cases e1:x=y
  ·subst e1
   rw[Td (λh=>h rfl)]at h1
   by_cases e2:x=z
   ·subst e2
    rw[Td (λh=>h rfl)]at h2⊢
    exact Yft h1 h2
   simp_all
  grind
theorem UW(h1:Xq a b=true)(h2:Xq b c=true):Xq a c=true:=Yft h1 h2
theorem YcK(a:Cel):Xq a a=false:=YdB _
theorem YlD(h1:Xq a b=false)(h2:Xq b a=false):a=b:=Yqm (Yp9 h1 h2)
def insE(x n:Int):Bool:=decide (0<=x/\x<n)
structure Sch where
 len:Int
 off:Int
 cells:List Cel
def ZI(s:Sch)(c:Cel):Bool:=insE c.1 s.len&&insE c.2.1 s.off
def Z1(s:Sch)(c:Cel):Bool:=ZI s c&&insE c.2.2.1 32&&insE c.2.2.2.1 32&&insE c.2.2.2.2 256
def ZD(s:Sch):Bool:=decide (1<=s.len/\s.len<=512/\1<=s.off/\s.off<=16)
def Yn(s:Sch)(i:Nat):Cel:=s.cells.getD i (0,0,0,0,0)
def VA(s:Sch)(i:Nat):Bool:=Z1 s (Yn s i)&&(decide (i=0)||Xq (Yn s (i-1)) (Yn s i))
def Xm(s:Sch):Bool:=ZD s&&decide (s.cells.length<=512)&&(List.range s.cells.length).all (VA s)
variable {p:Nat->Bool}{k i:Nat}
theorem YcD:(List.range (k+1)).all p=((List.range k).all p&&p k):=by
 grind
theorem Ygh(h:(List.range k).all p=true)(hi:i<k):p i=true:=by simp_all
variable {s:Sch}
theorem XG(h:s.cells[i]? =some c):Yn s i=c:=by
 grind [Yn]
theorem Xc(h:i<s.cells.length):s.cells[i]? =some (Yn s i):=by
 grind [Yn]
theorem J0(h:i<s.cells.length):Yn s i∈s.cells:=Tf (Xc h)
structure Frm(s:Sch):Prop where
 sized:ZD s=true
 few:s.cells.length<=512
 formed:∀c∈s.cells,Z1 s c=true
 ord:s.cells.Pairwise λa b=>Xq a b=true
theorem Yat{α:Type}{lt:α->α->Bool}(htr:∀{a b c},lt a b=true->lt b c=true->lt a c=true){l:List α}(h:∀i,∀a b,l[i]? =some a->l[i+1]? =some b->lt a b=true):l.Pairwise λa b=>lt a b=true:=by
 induction l with
 |nil=>simp_all
 |cons x l ih=>
  have h1:=ih λi a b ha hb=>h (i+1) a b (by simp_all) (by simp_all)
  refine .cons (λy hy=>?_) h1
  cases l with
  |nil=>cases hy
  |cons z l=>
   have hz:=h 0 x z rfl rfl
   grind [Si]
theorem XV:Xm s=true↔Frm s:=by
 unfold Xm
 simp only[To,Tt]
 constructor
 ·rintro⟨⟨h1,h2⟩,h3⟩
  have hc:∀i,i<s.cells.length->VA s i=true:=by simp_all
  refine⟨h1,h2,λc hc2=>?_,?_⟩
  ·obtain⟨i,hi⟩:=TO.1 hc2
   have:=hc i (Tc.1 hi).1
   simp_all [VA,XG]
  ·refine Yat (lt:=Xq) (λh1 h2=>UW h1 h2) λi a b ha hb=>?_
   have:=hc (i+1) (Tc.1 hb).1
   simp_all [VA,XG]
 ·intro h
  refine⟨⟨h.sized,h.few⟩,T8.2 λi hi=>?_⟩
  have hi:=Rf.1 hi
  unfold VA
  rw[h.formed _ (J0 hi),Sj,Su,Tt]
  rcases S5 i with h0|h0
  ·omega
  ·obtain⟨h1,h2⟩:=Tc.1 (Xc (s:=s) (i:=i-1) (by omega))
   obtain⟨h3,h4⟩:=Tc.1 (Xc (s:=s) hi)
   grind [Re,Go.Proofs.YtambgjgljcadlaaGreatDoor.Frm.ord]
abbrev Flw:=Int×Int×Int×Int×Int×Int
def XD(nodes:Int)(f:Flw):Int:=
 if f.1<0\/255<f.1\/insE f.2.1 nodes=false\/insE f.2.2.1 nodes=false then 2
 else if f.2.2.2.1<1\/512<f.2.2.2.1\/f.2.2.2.2.1<0\/f.2.2.2.1<=f.2.2.2.2.1\/f.2.2.2.2.2<1\/f.2.2.2.1<f.2.2.2.2.2 then 2
 else if f.2.1=f.2.2.1 then 1 else 0
def Xg(l:List Flw)(i:Nat):Flw:=l.getD i (0,0,0,0,0,0)
def YD(f:Nat->Int):Nat->Nat->Int×Int
 |0,_=>(-1,0)
 |r+1,i=>if f i=0 then YD f r (i+1)else((i:Int),f i)
theorem YI{f:Nat->Int}:∀{r i:Nat},(YD f r i).2=0↔∀k,i<=k->k<i+r->f k=0
 |0,i=>by grind [YD]
 |r+1,i=>by
  unfold YD
  split
  ·rw[YI]
   grind
  grind
theorem Ydc{f:Nat->Int}:∀{r i:Nat},(YD f r i).2=0->(YD f r i).1= -1
 |0,i,_=>rfl
 |r+1,i,h=>by
  unfold YD at h⊢
  split at h
  ·rw[Tm ‹_›];exact Ydc h
  omega
def Xt(nodes:Int)(l:List Flw)(i:Nat):Int:=if XD nodes (Xg l i)≠0 then XD nodes (Xg l i)else if 0<i/\(Xg l i).1<=(Xg l (i-1)).1 then 5 else 0
def Yy(nodes:Int)(l:List Flw):Int×Int:=
 if nodes<2\/32<nodes then(-1,2)else if 16<l.length then(-1,8)else YD (Xt nodes l) l.length 0
def Jd(l:List Flw)(id:Int):Int:=Ym (λf=>decide (f.1=id)) l 0
end Go.Proofs.YtambgjgljcadlaaGreatDoor
namespace Go.Nw
theorem nodup_len:∀(N:Nat) (l:List Int),l.Nodup->(∀x∈l,0<=x/\x<N)->l.length<=N
 |0,l,_,h=>by
  cases l with
  |nil=>simp
  |cons a l=>grind [TB]
 |N+1,l,hn,h=>by
  have h1:=nodup_len N (l.erase (N:Int)) (hn.erase _) (λx hx=>by
   grind)
  grind
end Go.Nw
namespace Go.Proofs
open Go.Shelf
def Tryz.lays169_ren:Go.Shelf.Ren:=⟨λ|169=>87|n=>n,λ|70=>172|9=>9|0=>0|72=>175|37=>173|127=>256|3=>3|5=>5|n=>n,λ|n=>n⟩
theorem Tryz.lays169:Go.Proofs.Lays.n169 Tryz.prog Tryz.lays169_ren:={
 mixed:=by kernel_rfl
 f169:=Tryz.func87.trans (TE some (by kernel_rfl))
 t0:=Tryz.underlying0
 a0:=Tryz.isAgg0
 z0:=Tryz.sizeOf0
 v0:=Tryz.zeroValue0
 t3:=Tryz.underlying3
 a3:=Tryz.isAgg3
 z3:=Tryz.sizeOf3
 v3:=Tryz.zeroValue3
 t9:=Tryz.underlying9
 a9:=Tryz.isAgg9
 z9:=Tryz.sizeOf9
 v9:=Tryz.zeroValue9
 t37:=Tryz.underlying173
 a37:=Tryz.isAgg173
 z37:=Tryz.sizeOf173
 v37:=Tryz.zeroValue173
 t70:=Tryz.underlying172
 a70:=Tryz.isAgg172
 z70:=Tryz.sizeOf172
 v70:=Tryz.zeroValue172
 t72:=Tryz.underlying175
 a72:=Tryz.isAgg175
 z72:=Tryz.sizeOf175
 v72:=Tryz.zeroValue175
 t127:=Tryz.underlying256
 a127:=Tryz.isAgg256
 z127:=Tryz.sizeOf256
 v127:=Tryz.zeroValue256}
theorem Tryz.Builder_Extra_169:Builder.Extra Tryz.prog Tryz.lays169_ren:={
 sizeBuilder:=by kernel_rfl
 liesBuilder:=by kernel_rfl
 t5:=Tryz.underlying5
 a5:=Tryz.isAgg5
 z5:=Tryz.sizeOf5
 v5:=Tryz.zeroValue5
 infoByte:=by kernel_rfl
 cellsByte:=by kernel_rfl
 sizeByte:=by kernel_rfl
 neB5:=by decide}
open Go.RowKit in
theorem Tryz.Builder_String_any(B b:Nat)(l:List UInt8)(w:World)(h:Lib.IsBuilder 175 5 B b (Lib.byteCells l) w)(hBw:B<=w.heap.size):
 Calls Tryz.prog 87 #[.pointer (some ⟨b,0,none⟩)] w λe w'=>e=.returned (.string ⟨l.toArray⟩)/\Below B w w':=Any.Builder_String_any Tryz.lays169 Tryz.Builder_Extra_169 B b l w h hBw
def Tryz.laysM171_ren:Go.Shelf.Ren:=⟨λ|171=>155|243=>229|246=>285|283=>316|284=>317|285=>318|286=>319|129=>203|317=>339|318=>340|319=>341|320=>342|337=>355|338=>356|n=>n,λ|3=>3|9=>9|2=>2|4=>4|171=>397|0=>0|53=>234|37=>173|5=>5|173=>399|212=>423|51=>232|20=>20|213=>424|46=>153|232=>450|233=>451|n=>n,λ|17=>0|18=>1|19=>2|n=>n⟩
theorem Tryz.laysM171:Go.Proofs.LaysM.n171 Tryz.prog Tryz.laysM171_ren:={
 mixed:=by kernel_rfl
 f129:=Tryz.func203.trans (TE some (by kernel_rfl))
 f171:=Tryz.func155.trans (TE some (by kernel_rfl))
 f243:=Tryz.func229.trans (TE some (by kernel_rfl))
 f246:=Tryz.func285.trans (TE some (by kernel_rfl))
 f283:=Tryz.func316.trans (TE some (by kernel_rfl))
 f284:=Tryz.func317.trans (TE some (by kernel_rfl))
 f285:=Tryz.func318.trans (TE some (by kernel_rfl))
 f286:=Tryz.func319.trans (TE some (by kernel_rfl))
 f317:=Tryz.func339.trans (TE some (by kernel_rfl))
 f318:=Tryz.func340.trans (TE some (by kernel_rfl))
 f319:=Tryz.func341.trans (TE some (by kernel_rfl))
 f320:=Tryz.func342.trans (TE some (by kernel_rfl))
 f337:=Tryz.func355.trans (TE some (by kernel_rfl))
 f338:=Tryz.func356.trans (TE some (by kernel_rfl))
 t0:=Tryz.underlying0
 a0:=Tryz.isAgg0
 z0:=Tryz.sizeOf0
 v0:=Tryz.zeroValue0
 t2:=Tryz.underlying2
 a2:=Tryz.isAgg2
 z2:=Tryz.sizeOf2
 v2:=Tryz.zeroValue2
 t3:=Tryz.underlying3
 a3:=Tryz.isAgg3
 z3:=Tryz.sizeOf3
 v3:=Tryz.zeroValue3
 t4:=Tryz.underlying4
 a4:=Tryz.isAgg4
 z4:=Tryz.sizeOf4
 v4:=Tryz.zeroValue4
 t5:=Tryz.underlying5
 a5:=Tryz.isAgg5
 z5:=Tryz.sizeOf5
 v5:=Tryz.zeroValue5
 t9:=Tryz.underlying9
 a9:=Tryz.isAgg9
 z9:=Tryz.sizeOf9
 v9:=Tryz.zeroValue9
 t20:=Tryz.underlying20
 a20:=Tryz.isAgg20
 z20:=Tryz.sizeOf20
 v20:=Tryz.zeroValue20
 t37:=Tryz.underlying173
 a37:=Tryz.isAgg173
 z37:=Tryz.sizeOf173
 v37:=Tryz.zeroValue173
 t46:=Tryz.underlying153
 a46:=Tryz.isAgg153
 z46:=Tryz.sizeOf153
 v46:=Tryz.zeroValue153
 t51:=Tryz.underlying232
 a51:=Tryz.isAgg232
 z51:=Tryz.sizeOf232
 v51:=Tryz.zeroValue232
 t53:=Tryz.underlying234
 a53:=Tryz.isAgg234
 z53:=Tryz.sizeOf234
 v53:=Tryz.zeroValue234
 t171:=Tryz.underlying397
 a171:=Tryz.isAgg397
 z171:=Tryz.sizeOf397
 v171:=Tryz.zeroValue397
 t173:=Tryz.underlying399
 a173:=Tryz.isAgg399
 z173:=Tryz.sizeOf399
 v173:=Tryz.zeroValue399
 t212:=Tryz.underlying423
 a212:=Tryz.isAgg423
 z212:=Tryz.sizeOf423
 v212:=Tryz.zeroValue423
 t213:=Tryz.underlying424
 a213:=Tryz.isAgg424
 z213:=Tryz.sizeOf424
 t232:=Tryz.underlying450
 a232:=Tryz.isAgg450
 z232:=Tryz.sizeOf450
 v232:=Tryz.zeroValue450
 t233:=Tryz.underlying451
 a233:=Tryz.isAgg451
 z233:=Tryz.sizeOf451
 v233:=Tryz.zeroValue451
 g17:=by kernel_rfl
 g18:=by kernel_rfl
 g19:=by kernel_rfl
 i0:=by kernel_rfl
 i2:=by kernel_rfl
 i3:=by kernel_rfl
 i4:=by kernel_rfl
 i5:=by kernel_rfl
 i9:=by kernel_rfl
 i20:=by kernel_rfl
 i37:=by kernel_rfl
 i46:=by kernel_rfl
 i51:=by kernel_rfl
 i53:=by kernel_rfl
 i171:=by kernel_rfl
 i173:=by kernel_rfl
 i212:=by kernel_rfl
 i232:=by kernel_rfl
 i233:=by kernel_rfl
 m17:=by kernel_rfl
 m18:=by kernel_rfl
 m19:=by kernel_rfl}
open Go.RowKit Go.Sort Go.Lib in
theorem Tryz.strconv_Itoa(n:Int)(h0: -9223372036854775808<=n)(h1:n<=9223372036854775807)(w:World)(htab:Lib.TabIs Tryz.prog w "internal/strconv.uint64pow10" .u64 Lib.pow10Tab):
 Calls Tryz.prog 155 #[.int .i64 n] w λe w'=>e=.returned (.string ⟨(Lib.itoa n).toArray⟩)/\∃k os,w'=grow (w.drewN k) os:=Any.strconv_Itoa Tryz.laysM171 n h0 h1 w htab
def Tryz.lays212_ren:Go.Shelf.Ren:=⟨λ|212=>350|263=>359|264=>360|n=>n,λ|46=>153|51=>232|146=>446|53=>234|148=>448|n=>n,λ|n=>n⟩
theorem Tryz.lays212:Go.Proofs.Lays.n212 Tryz.prog Tryz.lays212_ren:={
 mixed:=by kernel_rfl
 f212:=Tryz.func350.trans (TE some (by kernel_rfl))
 f263:=Tryz.func359.trans (TE some (by kernel_rfl))
 f264:=Tryz.func360.trans (TE some (by kernel_rfl))
 t46:=Tryz.underlying153
 a46:=Tryz.isAgg153
 z46:=Tryz.sizeOf153
 v46:=Tryz.zeroValue153
 t51:=Tryz.underlying232
 a51:=Tryz.isAgg232
 z51:=Tryz.sizeOf232
 v51:=Tryz.zeroValue232
 t53:=Tryz.underlying234
 a53:=Tryz.isAgg234
 z53:=Tryz.sizeOf234
 v53:=Tryz.zeroValue234
 t146:=Tryz.underlying446
 a146:=Tryz.isAgg446
 z146:=Tryz.sizeOf446
 v146:=Tryz.zeroValue446
 t148:=Tryz.underlying448
 a148:=Tryz.isAgg448
 z148:=Tryz.sizeOf448
 v148:=Tryz.zeroValue448}
open Go.RowKit Go.Lib in
theorem Tryz.bits_Mul(x y:Nat)(hx:x<18446744073709551616)(hy:y<18446744073709551616)(w:World):
 Calls Tryz.prog 350 #[.int .u64 x,.int .u64 y] w λe w'=>e=.returned (.tuple #[.int .u64 ((x*y/18446744073709551616:Nat):Int),.int .u64 ((x*y%18446744073709551616:Nat):Int)])/\w'=w:=Any.bits_Mul Tryz.lays212 x y hx hy w
end Go.Proofs
namespace Go.Rt
open Go.Nw
def YR:Int:=1073741824
def Yh(far:List Int)(v:Int):Int:=far.getD v.toNat 0
def ArcsOk(nodes:Nat)(l:List Lk):Prop:=∀a∈l,(0<=a.1/\a.1<nodes)/\(0<=a.2.1/\a.2.1<nodes)/\(1<=a.2.2/\a.2.2<=1000000)
structure Dist(nodes:Nat)(l:List Lk)(to:Int)(far:List Int):Prop where
 len:far.length=nodes
 to0:Yh far to=0
 range:∀v:Int,0<=v->v<nodes->0<=Yh far v/\Yh far v<=YR
 tight:∀v:Int,0<=v->v<nodes->v≠to->Yh far v<YR->∃a∈l,a.1=v/\Yh far a.2.1+a.2.2<=Yh far v
 least:∀a∈l,Yh far a.2.1<YR->Yh far a.1<=Yh far a.2.1+a.2.2
structure DInv(nodes:Nat)(l:List Lk)(to:Int)(far:List Int)(q:List (Int×Int))(v:Int)(rest:List Lk):Prop where
 len:far.length=nodes
 to0:Yh far to=0
 range:∀v:Int,0<=v->v<nodes->0<=Yh far v/\Yh far v<=YR
 tight:∀v:Int,0<=v->v<nodes->v≠to->Yh far v<YR->∃a∈l,a.1=v/\Yh far a.2.1+a.2.2<=Yh far v
 pend:∀a∈l,Yh far a.2.1<YR->Yh far a.1<=Yh far a.2.1+a.2.2\/(a.2.1,Yh far a.2.1)∈q\/(a.2.1=v/\a∈rest)
 items:∀x∈q,(0<=x.1/\x.1<nodes)/\Yh far x.1<=x.2/\x.2<YR
def JR(far:List Int)(q:List (Int×Int)):Nat:=2*(far.map Int.toNat).sum+q.length
variable {far:List Int}{i x to v:Int}
theorem Zj(h:i.toNat<far.length):Yh (far.set i.toNat x) i=x:=by
 grind [Yh]
theorem Xz{j:Int}(h:i.toNat≠j.toNat):Yh (far.set i.toNat x) j=Yh far j:=by
 grind [Yh]
theorem XP(h:i.toNat<far.length):far[i.toNat]? =some (Yh far i):=by
 grind [Yh]
theorem Ys0{i:Nat}(h:i<far.length)(h0:0<=x)(hx:x<far.getD i 0):((far.set i x).map Int.toNat).sum+1<=(far.map Int.toNat).sum:=by
 induction far generalizing i with
 |nil=>simp at h
 |cons a l ih=>
  cases i with
  |zero=>
   grind
  |succ i=>
   grind
variable {l rest:List Lk}
theorem Yj2{nodes:Nat}(hl:ArcsOk nodes l)(h0:0<=to)(h1:to<nodes):DInv nodes l to ((List.replicate nodes YR).set to.toNat 0) [(to,0)] 0 []:=by
 have hlen:to.toNat<(List.replicate nodes YR).length:=by simp_all
 have hself:=Zj (far:=List.replicate nodes YR) (i:=to) (x:=0) hlen
 have hrep:∀v:Int,0<=v->v<nodes->Yh (List.replicate nodes YR) v=YR:=by
  simp_all [Yh]
 have hoth:∀v:Int,0<=v->v<nodes->v≠to->Yh ((List.replicate nodes YR).set to.toNat 0) v=YR:=by
  grind [Xz]
 refine⟨by simp,hself,?_,?_,?_,?_⟩
 ·intro v hv hv2
  by_cases e:v=to
  ·subst e;rw[hself];exact⟨Ry _,by decide⟩
  ·rw[hoth v hv hv2 e];exact⟨by decide,Ry _⟩
 ·simp_all
 ·intro a ha hlt
  obtain⟨_,⟨h3,h4⟩,_⟩:=hl a ha
  grind
 ·intro x hx
  obtain rfl:x=(to,0):=by simp_all
  exact⟨⟨h0,h1⟩,by simp_all,show(0:Int)<1073741824 by decide⟩
variable {q q':List (Int×Int)}
theorem Ynm{nodes:Nat}{x:Int×Int}(h:DInv nodes l to far q 0 [])(hp:(x::q').Perm q)(hx:Yh far x.1<x.2):DInv nodes l to far q' 0 []:=by
 refine⟨h.len,h.to0,h.range,h.tight,?_,λy hy=>h.items y (hp.mem_iff.1 (Tz _ hy))⟩
 intro a ha hlt
 rcases h.pend a ha hlt with h1|h1|⟨_,h1⟩
 all_goals grind
theorem Ynl{nodes:Nat}{x:Int×Int}(h:DInv nodes l to far q 0 [])(hp:(x::q').Perm q):DInv nodes l to far q' x.1 l:=by
 refine⟨h.len,h.to0,h.range,h.tight,?_,λy hy=>h.items y (hp.mem_iff.1 (Tz _ hy))⟩
 intro a ha hlt
 rcases h.pend a ha hlt with h1|h1|⟨_,h1⟩
 all_goals grind
theorem Ypx{nodes:Nat}(h:DInv nodes l to far q v []):DInv nodes l to far q 0 []:=by
 refine⟨h.len,h.to0,h.range,h.tight,λa ha hlt=>?_,h.items⟩
 rcases h.pend a ha hlt with h1|h1|⟨_,h1⟩
 all_goals simp_all
theorem Ynk{nodes:Nat}(h:DInv nodes l to far [] 0 []):Dist nodes l to far:=by
 refine⟨h.len,h.to0,h.range,h.tight,λa ha hlt=>?_⟩
 rcases h.pend a ha hlt with h1|h1|⟨_,h1⟩
 all_goals simp_all
variable {a:Lk}
theorem Yr5{nodes:Nat}(h:DInv nodes l to far q v (a::rest))(hn:¬(a.2.1=v/\Yh far v+a.2.2<Yh far a.1)):DInv nodes l to far q v rest:=by
 refine⟨h.len,h.to0,h.range,h.tight,?_,h.items⟩
 intro b hb hlt
 rcases h.pend b hb hlt with h1|h1|⟨h1,h2⟩
 all_goals grind
theorem Ypy{nodes:Nat}{d:Int}(hl:ArcsOk nodes l)(hv:0<=v/\v<nodes)(hd:Yh far v=d)(hal:a∈l)(h:DInv nodes l to far q v (a::rest))(h1:a.2.1=v)(h2:d+a.2.2<Yh far a.1)(hp:q'.Perm ((a.1,d+a.2.2)::q)):
 DInv nodes l to (far.set a.1.toNat (d+a.2.2)) q' v rest/\Yh (far.set a.1.toNat (d+a.2.2)) v=d/\JR (far.set a.1.toNat (d+a.2.2)) q'+1<=JR far q:=by
 obtain⟨⟨a1,a2⟩,_,⟨a5,a6⟩⟩:=hl a hal
 have hlen:=h.len
 have hlt:a.1.toNat<far.length:=by omega
 have hself:=Zj (far:=far) (i:=a.1) (x:=d+a.2.2) hlt
 obtain⟨r1,r2⟩:=h.range v hv.1 hv.2
 obtain⟨r3,r4⟩:=h.range a.1 a1 a2
 have hoth:∀u:Int,0<=u->u≠a.1->Yh (far.set a.1.toNat (d+a.2.2)) u=Yh far u:=by grind [Xz]
 have hle:∀u:Int,0<=u->Yh (far.set a.1.toNat (d+a.2.2)) u<=Yh far u:=by
  grind
 have hto:Yh (far.set a.1.toNat (d+a.2.2)) to=0:=by
  by_cases e:to.toNat=a.1.toNat
  ·have:Yh far a.1=0:=by
    have h5:=h.to0
    grind [Yh]
   omega
  ·rw[Xz (λh=>e h.symm)];exact h.to0
 refine⟨⟨by simp_all,hto,?_,?_,?_,?_⟩,by grind,?_⟩
 ·intro u hu hu2
  by_cases e:u=a.1
  ·grind
  ·rw[hoth u hu e];exact h.range u hu hu2
 ·intro u hu hu2 hut hul
  by_cases e:u=a.1
  ·grind
  ·rw[hoth u hu e]at hul⊢
   obtain⟨b,hb,hb1,hb2⟩:=h.tight u hu hu2 hut hul
   have:=hle b.2.1 (hl b hb).2.1.1
   grind
 ·intro b hb hbl
  obtain⟨⟨b1,b2⟩,⟨b3,b4⟩,_⟩:=hl b hb
  by_cases e:b.2.1=a.1
  ·grind
  ·rw[hoth _ b3 e]at hbl⊢
   rcases h.pend b hb hbl with h3|h3|⟨h3,h4⟩
   all_goals grind
 ·intro x hx
  rcases TI.1 (hp.mem_iff.1 hx)with rfl|hx
  ·grind
  ·obtain⟨h3,h4,h5⟩:=h.items x hx
   grind
 ·have h3:=Ys0 (x:=d+a.2.2) hlt (by omega) (by grind [Yh])
  grind [List.Perm.length_eq,JR,TG]
end Go.Rt
namespace Go.Proofs.YtambgjgljcadlaaGreatDoor
theorem Yr4{u:Nat}(h:u<10000):(Lib.decDigits u).length<=4:=by
 rw[Lib.decDigits_length]
 by_cases h1:u<10
 ·rw[Lib.nDigits_small h1];omega
 ·rw[Lib.nDigits_big h1]
  by_cases h2:u/10<10
  ·rw[Lib.nDigits_small h2];omega
  ·all_goals grind [Go.Lib.nDigits_small,Go.Lib.nDigits_big]
open Go.ChangeShapes Go.WideShapes Go.ChangeAt Go.RowKit
section
variable {H:Type}{enc:TypeId×Value->H}{P:Program}
theorem YaG(hl:laidOutB P=true){W W':World}{sp:Nat->Bool}:∀{ts:List TypeId}{vs:List Value}{ds:List (DataW H)}{ps:List MemPlace},(ts.all λt=>P.readableRec t&&decide (t<P.types.size))=true->
 DataW.TrodAll enc P W 0 (λ_=>true) true ts vs ds ps->(∀p∈ps,W.sameAt W' p)->(∀p∈ps,sp p.block=true)->DataW.TrodAll enc P W' 0 sp true ts vs ds ps
 |[],[],[],_,_,h,_,_=>h
 |[],[],_::_,_,_,h,_,_=>h.elim
 |[],_::_,_,_,_,h,_,_=>h.elim
 |_::_,[],_,_,_,h,_,_=>h.elim
 |_::_,_::_,[],_,_,h,_,_=>h.elim
 |t::ts,v::vs,d::ds,ps,hr,h,hs,hp=>by
  obtain⟨p,q,h1,h2,rfl⟩:=h
  simp only[NW,To,Tt]at hr
  exact⟨p,q,WideElems.Trod_stays hl hr.1.1 hr.1.2 h1 (λx hx=>hs x (by simp[hx])) (λx hx=>hp x (by simp[hx])),YaG hl hr.2 h2 (λx hx=>hs x (by simp[hx])) (λx hx=>hp x (by simp[hx])),rfl⟩
theorem YvQ{f:Func}{s:ChangeSpec}{apart fresh handsOn again:Bool}{W W':World}{args:Array Value}{ds gs:List (DataW H)}{before:List MemPlace}{tb:TypeId}(hl:laidOutB P=true)
 (hrd:(f.params.toList.all λt=>P.readableRec t&&decide (t<P.types.size))=true) (hv:s.vars=[]) (hrt:f.resultTypes=#[tb]) (htb:P.underlying tb=some .bool)
 (hW:DataW.Whole enc P f.params.toList s.vars apart W args.toList ds gs before) (hb:Below W.heap.size W W')
 (hres:(s.fn H (ds++gs)).results=[.lit (.bool true)]) (hargs:(s.fn H (ds++gs)).args=ds) (hvars:(s.fn H (ds++gs)).vars=[]):
 s.post enc P f apart fresh handsOn again W args (.bool true) W':=by
 have hlt:∀p∈before,p.block<W.heap.size:=λp hp=>hW.lt p hp
 have hW0:=hW
 obtain⟨p,q,hA,hV,rfl,hz,hn⟩:=hW
 rw[hv]at hV
 have hq:gs=[]/\q=[]:=by
  cases gs with
  |nil=>exact⟨rfl,hV⟩
  |cons _ _=>exact hV.elim
 obtain⟨rfl,rfl⟩:=hq
 have hkeep:∀sp:Nat->Bool,(∀x∈p++[],sp x.block=true)->DataW.TrodAll enc P W' 0 sp true f.params.toList args.toList ds p:=λsp hsp=>
  YaG hl hrd hA (λx hx=>hb.same (hlt x (by simpa using hx))) (λx hx=>hsp x (by simpa using hx))
 have hR:∀(b:Nat) (sp:Nat->Bool) (hd:Bool),DataW.TrodAll enc P W' b sp hd f.resultTypes.toList ((Value.bool true).resultList f.resultTypes.size) (s.fn H (ds++[])).results []:=by
  intro b sp hd
  rw[hres,hrt]
  exact trodAll_mk1 (shut_bool htb true)
 have hok:=ok_one (P:=P) (W':=W') (f:=f) (v:=.bool true) hrt rfl (okWide_bool_mk htb true)
 have hold:∀x∈p++[],(λb=>decide (b<W.heap.size)) x.block=true:=λx hx=>by simpa using hlt x hx
 refine⟨ds,[],p++[],[],p,[],hW0,hR _ _ _,by rw[hargs];exact hkeep _ hold,by rw[hvars,hv];rfl,World.keptBut_mono (λx hx=>⟨hx,Or.inr (by simpa using hx)⟩) (hb.frame (·∈p++[])),λ_=>?_⟩
 refine⟨hok,_,_,([]++p)++[],⟨[]++p,[],trodAll_append (hkeep _ (λ_ _=>rfl)) (hR _ _ _),(show DataW.TrodVars enc P W' (λ_=>true) s.vars [] [] by rw[hv];rfl),rfl,?_,?_⟩,?_⟩
 ·intro b off hp
  have hin:MemPlace.cell b off∈p++[]:=by simpa using hp
  rw[hb.frozen (hlt _ hin)]
  exact hz b off hin
 ·intro ha
  simpa using hn ha
 ·intro x hx _
  simpa using hx
end
end Go.Proofs.YtambgjgljcadlaaGreatDoor
namespace Go.Rt
open Go.Nw
def Xd(far:List Int)(at_:Int)(best:Int)(a:Lk):Int:=if a.1=at_/\a.2.2+Yh far a.2.1=Yh far at_/\(best<0\/a.2.1<best)then a.2.1 else best
def Xp(l:List Lk)(far:List Int)(at_:Int):Int:=l.foldl (Xd far at_) (-1)
def Y5(l:List Lk)(far:List Int)(to:Int):Nat->Int->List Int
 |0,_=>[]
 |k+1,at_=>if at_=to then []else Xp l far at_::Y5 l far to k (Xp l far at_)
def wayF(l:List Lk)(far:List Int)(s to:Int):List Int:=if YR<=Yh far s then []else s::Y5 l far to (Yh far s).toNat s
theorem Ydh(l:List Lk)(far:List Int)(to:Int):∀(k:Nat) (v:Int),(Y5 l far to k v).length<=k
 |0,_=>TK _
 |k+1,v=>by
  have:=Ydh l far to k (Xp l far v)
  unfold Y5
  grind
theorem Yhg(l:List Lk)(far:List Int)(s to:Int):(wayF l far s to).length<=1073741824:=by
 unfold wayF
 split
 ·simp_all
 grind [Ydh,YR]
theorem Ym7(l:List Lk)(far:List Int)(at_:Int)(a:Lk):Xp (l++[a]) far at_=Xd far at_ (Xp l far at_) a:=by
 grind [Xp]
theorem YrZ(l:List Lk)(far:List Int)(at_:Int)(b0:Int):l.foldl (Xd far at_) b0=b0\/∃a∈l,a.1=at_/\a.2.2+Yh far a.2.1=Yh far at_/\l.foldl (Xd far at_) b0=a.2.1:=by
 induction l generalizing b0 with
 |nil=>simp_all
 |cons a l ih=>
  rw[R7]
  rcases ih (Xd far at_ b0 a)with h|⟨c,hc,h⟩
  ·rw[h]
   unfold Xd
   grind
  grind
variable {l:List Lk}{far far':List Int}
theorem YrY{at_:Int}(hl:∀a∈l,0<=a.2.1)(b0:Int)(h:0<=b0\/∃a∈l,a.1=at_/\a.2.2+Yh far a.2.1=Yh far at_):0<=l.foldl (Xd far at_) b0:=by
 induction l generalizing b0 with
 |nil=>
  simp_all
 |cons a l ih=>
  refine ih (λc hc=>hl c (Tz _ hc)) _ ?_
  unfold Xd
  grind
variable {to v:Int}
theorem Yej{nodes:Nat}(_hl:ArcsOk nodes l)(h:Dist nodes l to far)(h0:0<=v)(h1:v<nodes)(hne:v≠to)(hlt:Yh far v<YR):∃a∈l,a.1=v/\a.2.2+Yh far a.2.1=Yh far v:=by
 obtain⟨a,ha,ha1,ha2⟩:=h.tight v h0 h1 hne hlt
 obtain⟨_,_,⟨h5,_⟩⟩:=_hl a ha
 have:=h.least a ha (by omega)
 grind
theorem UV{nodes:Nat}(hl:ArcsOk nodes l)(h:Dist nodes l to far)(h0:0<=v)(h1:v<nodes)(hne:v≠to)(hlt:Yh far v<YR):
 (0<=Xp l far v/\Xp l far v<nodes)/\Yh far (Xp l far v)<Yh far v/\0<=Yh far (Xp l far v)/\∃a∈l,a.1=v/\a.2.1=Xp l far v/\a.2.2+Yh far (Xp l far v)=Yh far v:=by
 have hge:0<=Xp l far v:=YrY (λa ha=>(hl a ha).2.1.1) (-1) (.inr (Yej hl h h0 h1 hne hlt))
 rcases YrZ l far v (-1)with h2|⟨a,ha,h3,h4,h5⟩
 ·grind [Xp]
 ·obtain⟨_,⟨h6,h7⟩,⟨h8,_⟩⟩:=hl a ha
  have h9:Xp l far v=a.2.1:=h5
  have:=(h.range a.2.1 h6 h7).1
  grind
theorem Ygs{nodes:Nat}(hl:ArcsOk nodes l)(h:Dist nodes l to far)(h':Dist nodes l to far'):∀(k:Nat) (v:Int),0<=v->v<nodes->Yh far v<YR->(Yh far v).toNat<=k->Yh far' v<=Yh far v:=by
 intro k
 induction k with
 |zero=>
  intro v h0 h1 hlt hk
  by_cases hv:v=to
  ·rw[hv,h.to0,h'.to0];omega
  ·obtain⟨a,ha,ha1,ha2⟩:=Yej hl h h0 h1 hv hlt
   obtain⟨_,⟨h3,h4⟩,⟨h5,_⟩⟩:=hl a ha
   have:=(h.range a.2.1 h3 h4).1
   omega
 |succ k ih=>
  intro v h0 h1 hlt hk
  by_cases hv:v=to
  ·rw[hv,h.to0,h'.to0];omega
  ·obtain⟨a,ha,ha1,ha2⟩:=Yej hl h h0 h1 hv hlt
   obtain⟨_,⟨h3,h4⟩,⟨h5,_⟩⟩:=hl a ha
   have h7:=ih a.2.1 h3 h4 (by omega) (by omega)
   have h8:=h'.least a ha (by omega)
   grind
theorem Yh8{nodes:Nat}(hl:ArcsOk nodes l)(h:Dist nodes l to far)(h':Dist nodes l to far'):far=far':=by
 have key:∀v:Int,0<=v->v<nodes->Yh far v=Yh far' v:=by
  intro v h0 h1
  have r1:=h.range v h0 h1
  have r2:=h'.range v h0 h1
  rcases N9 (Yh far v) YR with h2|h2
  ·have h3:=Ygs hl h h' _ v h0 h1 h2 (TK _)
   have h4:=Ygs hl h' h _ v h0 h1 (by omega) (TK _)
   omega
  ·rcases N9 (Yh far' v) YR with h3|h3
   ·have h4:=Ygs hl h' h _ v h0 h1 h3 (TK _)
    omega
   ·omega
 apply Na
 all_goals grind [XP,Go.Rt.Dist.len,RS]
open Classical in
noncomputable def Z7(nodes:Nat)(l:List Lk)(to:Int):List Int:=if h:∃far,Dist nodes l to far then h.choose else []
theorem On{nodes:Nat}(hl:ArcsOk nodes l)(h:Dist nodes l to far):Z7 nodes l to=far:=by
 unfold Z7
 rw[dif_pos ⟨far,h⟩]
 exact Yh8 hl (Exists.choose_spec (⟨far,h⟩:∃far,Dist nodes l to far)) h
structure Ed where
 f:Int
 t:Int
 c:Int
 r:Int
def VE(f t c:Int):List Ed:=[⟨f,t,c,1⟩,⟨t,f,-c,0⟩]
def ZQ(closed:Int->Bool)(k:Nat):List Ed:=(List.range k).flatMap λv:Nat=>if closed (v:Int)=true then []else VE (2*(v:Int)) (2*(v:Int)+1) 0
def Us(l:List Lk):List Ed:=l.flatMap λa=>VE (2*a.1+1) (2*a.2.1) a.2.2
def WJ(nodes:Nat)(l:List Lk)(closed:Int->Bool):List Ed:=ZQ closed nodes++Us l
abbrev UQ:=List Int×List Int×Bool
def Xx(i:Nat)(e:Ed)(st:UQ):UQ:=
 if 0<e.r/\Yh st.1 e.f<YR/\Yh st.1 e.f+e.c<Yh st.1 e.t then(st.1.set e.t.toNat (Yh st.1 e.f+e.c),st.2.1.set e.t.toNat (i:Int),true)else st
def YW:Nat->List Ed->UQ->UQ
 |_,[],st=>st
 |i,e::es,st=>YW (i+1) es (Xx i e st)
def OL:Nat->List Ed->List Int->List Int->Option (List Int×List Int)
 |0,_,_,_=>none
 |k+1,es,far,by_=>if(YW 0 es (far,by_,false)).2.2=true then OL k es (YW 0 es (far,by_,false)).1 (YW 0 es (far,by_,false)).2.1 else some ((YW 0 es (far,by_,false)).1,(YW 0 es (far,by_,false)).2.1)
def twin(i:Nat):Nat:=if i%2=0 then i+1 else i-1
def VD(es:List Ed)(i:Nat)(d:Int):List Ed:=match es[i]? with|some e=>es.set i {e with r:=e.r+d}|none=>es
def Ybn:Nat->List Ed->List Int->Int->Int->Option (List Ed)
 |0,_,_,_,_=>none
 |k+1,es,by_,s,at_=>
  if at_=s then some es else
   if Yh by_ at_<0 then none else
    match es[(Yh by_ at_).toNat]? with
    |none=>none
    |some e=>if es.length<=twin (Yh by_ at_).toNat then none else Ybn k (VD (VD es (Yh by_ at_).toNat (-1)) (twin (Yh by_ at_).toNat) 1) by_ s e.f
def Zm(sides:Nat)(s:Int):List Int:=(List.replicate sides YR).set s.toNat 0
def YbM(fuel sides:Nat)(es:List Ed)(s t:Int):Option (Int×Bool×List Ed):=
 match OL fuel es (Zm sides s) (List.replicate sides (-1))with
 |none=>none
 |some (far,by_)=>if YR<=Yh far t then some (0,false,es)else
  match Ybn fuel es by_ s t with
  |none=>none
  |some es'=>some (Yh far t,true,es')
def Y2(a b to:Int)(closed:Int->Bool)(v:Int):Bool:=decide (v=a\/v=b\/v=to)||closed v
def V9(fuel nodes:Nat)(l:List Lk)(a b to:Int)(closed:Int->Bool):Option (Int×Bool×List Ed):=
 match YbM fuel (2*nodes) (WJ nodes l (Y2 a b to closed)) (2*a+1) (2*to)with
 |none=>none
 |some (x,ok,es)=>
  match YbM fuel (2*nodes) es (2*b+1) (2*to)with
  |none=>none
  |some (y,is,es2)=>some (x+y,ok&&is,es2)
theorem Yaw:∀(l:List Ed) (i:Nat) (e:Ed) (st:UQ),YW i (l++[e]) st=Xx (i+l.length) e (YW i l st)
 |[],_,_,_=>rfl
 |x::l,i,e,st=>by
  show YW (i+1) (l++[e]) (Xx i x st)=_
  rw[Yaw l (i+1) e,TG,show i+1+l.length=i+(l.length+1) by omega];rfl
def Yll(sides:Nat)(es:List Ed):Prop:=∀e∈es,(0<=e.f/\e.f<sides)/\(0<=e.t/\e.t<sides)/\(-1000000<=e.c/\e.c<=1000000)/\(-1000000000<=e.r/\e.r<=1000000000)
structure RelOk(sides:Nat)(low:Int)(st:UQ):Prop where
 l1:st.1.length=sides
 l2:st.2.1.length=sides
 low:∀v:Int,0<=v->v<sides->low<=Yh st.1 v/\Yh st.1 v<=YR
variable {sides:Nat}{es:List Ed}
theorem YkT{low:Int}{st:UQ}{e:Ed}{i:Nat}(hes:Yll sides es)(he:e∈es)(h:RelOk sides low st):RelOk sides (low-1000000) (Xx i e st):=by
 obtain⟨⟨e1,e2⟩,⟨e3,e4⟩,⟨e5,e6⟩,_⟩:=hes e he
 unfold Xx
 split
 ·have hlt:e.t.toNat<st.1.length:=by rw[h.l1];omega
  refine⟨by grind [Go.Rt.RelOk.l1],by grind [Go.Rt.RelOk.l2],λv h0 h1=>?_⟩
  have h2:=h.low v h0 h1
  have h3:=h.low e.f e1 e2
  all_goals grind [Zj,Xz]
 ·exact⟨h.l1,h.l2,λv h0 h1=>by have:=h.low v h0 h1;omega⟩
theorem QP{sides:Nat}{es:List Ed}(hes:Yll sides es):∀(l:List Ed) (i:Nat) (st:UQ) (low:Int),(∀e∈l,e∈es)->RelOk sides low st->RelOk sides (low-1000000*l.length) (YW i l st)
 |[],_,_,_,_,h=>by grind [YW]
 |e::l,i,st,low,hl,h=>by
  have h1:=QP hes l (i+1) (Xx i e st) (low-1000000) (λx hx=>hl x (Tz _ hx)) (YkT hes (hl e TB) h)
  rw[TG]
  have e1:low-1000000*((l.length+1:Nat):Int)=low-1000000-1000000*(l.length:Int):=by omega
  rw[e1];exact h1
def EdsIn(sides:Nat)(b:Int)(es:List Ed):Prop:=∀e∈es,(0<=e.f/\e.f<sides)/\(0<=e.t/\e.t<sides)/\(-1000000<=e.c/\e.c<=1000000)/\(-b<=e.r/\e.r<=b)
variable {b:Int}
theorem EdsIn.ok(h:EdsIn sides b es)(hb:b<=1000000000):Yll sides es:=λe he=>by
 obtain⟨h1,h2,h3,h4⟩:=h e he
 omega
theorem EdsIn.mono{b':Int}(h:EdsIn sides b es)(hb:b<=b'):EdsIn sides b' es:=λe he=>by
 obtain⟨h1,h2,h3,h4⟩:=h e he
 omega
theorem YiP(h:EdsIn sides b es)(i:Nat){d:Int}(hd: -1<=d/\d<=1):EdsIn sides (b+1) (VD es i d):=by
 unfold VD
 cases hi:es[i]? with
 |none=>exact h.mono (by omega)
 |some e=>
  intro x hx
  rcases List.mem_or_eq_of_mem_set hx with hx|rfl
  ·obtain⟨h1,h2,h3,h4⟩:=h x hx
   omega
  ·obtain⟨h1,h2,h3,h4⟩:=h e (Tf hi)
   grind
theorem Ys1(i:Nat):twin i≠i:=by grind [twin]
theorem Yor{s:Int}(hs:0<=s/\s<sides)(b:List Int)(hb:b.length=sides)(ag:Bool):RelOk sides (-2000000000) (Zm sides s,b,ag):=by
 refine⟨by grind [Zm],hb,λv h0 h1=>?_⟩
 have hn:YR=1073741824:=rfl
 unfold Zm
 by_cases hv:v=s
 ·grind [Zj]
 ·rw[Xz (by omega)]
  simp_all [Yh]
def sumW(w:Int->Nat)(far:List Int):Nat:=(far.map w).sum
theorem Yeg{w:Int->Nat}{x:Int}:∀{far:List Int}{i:Nat},i<far.length->sumW w (far.set i x)+w (far.getD i 0)=sumW w far+w x
 |[],_,h=>by simp at h
 |a::l,0,_=>by
  grind [sumW]
 |a::l,i+1,h=>by
  have:=Yeg (w:=w) (x:=x) (far:=l) (i:=i) (by simp_all)
  grind [sumW]
theorem Yhc{w:Int->Nat}{K:Nat}(h:∀x,w x<=K):∀far:List Int,sumW w far<=far.length*K
 |[]=>by simp[sumW]
 |a::l=>by
  have h1:=Yhc h l
  have e:(a::l).length*K=l.length*K+K:=by grind
  grind [sumW]
def fin1(x:Int):Nat:=if x<YR then 1 else 0
def cnt(far:List Int):Nat:=sumW fin1 far
theorem Yj1(far:List Int):cnt far<=far.length:=by
 have:=Yhc (w:=fin1) (K:=1) (λx=>by grind [fin1]) far
 grind [cnt]
theorem Yap:YR=1073741824:=rfl
def Ed8(sides:Nat)(es:List Ed):Prop:=∀e∈es,(0<=e.f/\e.f<sides)/\(0<=e.t/\e.t<sides)/\(-8<=e.c/\e.c<=8)
def PotE(es:List Ed)(π:Int->Int):Prop:=∀e∈es,0<e.r->π e.t<=π e.f+e.c
def Imp(e:Ed)(far:List Int):Prop:=0<e.r/\Yh far e.f<YR/\Yh far e.f+e.c<Yh far e.t
structure RelG(sides:Nat)(lo:Int->Int)(st:UQ):Prop where
 l1:st.1.length=sides
 l2:st.2.1.length=sides
 lo_:∀v:Int,0<=v->v<sides->lo v<=Yh st.1 v
 hi:∀v:Int,0<=v->v<sides->Yh st.1 v<YR->Yh st.1 v<=8*(cnt st.1:Int)
 top:∀v:Int,0<=v->v<sides->Yh st.1 v<=YR
def YcQ(sides:Nat)(L x:Int):Nat:=(min x (8*(sides:Int)+1)-L).toNat
def mes(sides:Nat)(L:Int)(far:List Int):Nat:=sumW (YcQ sides L) far
variable {sides n:Nat}{es:List Ed}{lo:Int->Int}{L s v x i w:Int}
theorem YfJ{st:UQ}{e:Ed}(i:Nat)(hs:sides<=1000)(hes:Ed8 sides es)(hp:PotE es lo)(hL:∀v:Int,0<=v->v<sides->L<=lo v)(he:e∈es)(h:RelG sides lo st):
 RelG sides lo (Xx i e st)/\((Xx i e st=st/\¬Imp e st.1)\/((Xx i e st).2.2=true/\mes sides L (Xx i e st).1+1<=mes sides L st.1)):=by
 obtain⟨⟨e1,e2⟩,⟨e3,e4⟩,⟨e5,e6⟩⟩:=hes e he
 have hn:=Yap
 unfold Xx
 split
 ·rename_i hc
  obtain⟨c1,c2,c3⟩:=hc
  obtain⟨far,by_,ag⟩:=st
  obtain⟨l1,l2,hlo,hhi,htop⟩:=h
  simp only at*
  have hlt:e.t.toNat<far.length:=by omega
  have hself:=Zj (far:=far) (i:=e.t) (x:=Yh far e.f+e.c) hlt
  have hoth:∀v:Int,0<=v->v≠e.t->Yh (far.set e.t.toNat (Yh far e.f+e.c)) v=Yh far v:=by grind [Xz]
  have hf1:=hlo e.f e1 e2
  have hf2:=hhi e.f e1 e2 c2
  have ht1:=htop e.t e3 e4
  have hpe:=hp e he c1
  have hLt:=hL e.t e3 e4
  have hcs:=Yeg (w:=fin1) (x:=Yh far e.f+e.c) hlt
  have hms:=Yeg (w:=YcQ sides L) (x:=Yh far e.f+e.c) hlt
  have hgd:far.getD e.t.toNat 0=Yh far e.t:=rfl
  rw[hgd]at hcs hms
  have hcl:=Yj1 far
  have hcl2:=Yj1 (far.set e.t.toNat (Yh far e.f+e.c))
  rw[Rj]at hcl2
  have hx:fin1 (Yh far e.f+e.c)=1:=by unfold fin1;grind
  rw[hx]at hcs
  have hcs':cnt (far.set e.t.toNat (Yh far e.f+e.c))+fin1 (Yh far e.t)=cnt far+1:=hcs
  have hnew:Yh far e.f+e.c<=8*(cnt (far.set e.t.toNat (Yh far e.f+e.c)):Int)/\cnt far<=cnt (far.set e.t.toNat (Yh far e.f+e.c)):=by
   by_cases hfin:Yh far e.t<YR
   ·have:=hhi e.t e3 e4 hfin
    have h1:fin1 (Yh far e.t)=1:=by simp_all [fin1]
    omega
   ·have h1:fin1 (Yh far e.t)=0:=by simp_all [fin1]
    omega
  have hdown:YcQ sides L (Yh far e.f+e.c)+1<=YcQ sides L (Yh far e.t):=by
   unfold YcQ
   omega
  refine⟨⟨by simp_all,by simp_all,?_,?_,?_⟩,.inr ⟨trivial,by grind [mes]⟩⟩
  all_goals grind
 ·rename_i hc
  exact⟨h,.inl ⟨rfl,λhi=>hc hi⟩⟩
theorem Yav{sides:Nat}{es:List Ed}{lo:Int->Int}{L:Int}(hs:sides<=1000)(hes:Ed8 sides es)(hp:PotE es lo)(hL:∀v:Int,0<=v->v<sides->L<=lo v):∀(l:List Ed) (i:Nat) (st:UQ),(∀e∈l,e∈es)->RelG sides lo st->
 RelG sides lo (YW i l st)/\mes sides L (YW i l st).1<=mes sides L st.1/\((YW i l st).2.2=false->YW i l st=st/\∀e∈l,¬Imp e st.1)/\(st.2.2=false->(YW i l st).2.2=true->mes sides L (YW i l st).1+1<=mes sides L st.1)
 |[],_,st,_,h=>⟨h,TK _,λ_=>⟨rfl,λe he=>by cases he⟩,λh1 h2=>by grind [YW]⟩
 |e::l,i,st,hl,h=>by
  obtain⟨h1,h2⟩:=YfJ i hs hes hp hL (hl e TB) h
  obtain⟨g1,g2,g3,g4⟩:=Yav hs hes hp hL l (i+1) (Xx i e st) (λx hx=>hl x (Tz _ hx)) h1
  refine⟨g1,?_,?_,?_⟩
  ·grind [YW]
  ·intro hf
   have hf':(YW (i+1) l (Xx i e st)).2.2=false:=hf
   rcases h2 with⟨h2,h3⟩|⟨h2,_⟩
   ·all_goals grind [YW]
   simp_all
  grind [YW]
theorem Ya7{sides:Nat}{es:List Ed}{lo:Int->Int}{L:Int}(hs:sides<=1000)(hes:Ed8 sides es)(hp:PotE es lo)(hL:∀v:Int,0<=v->v<sides->L<=lo v)
 (I:List Int->List Int->Prop) (hI:∀i e st,es[i]? =some e->RelG sides lo st->I st.1 st.2.1->I (Xx i e st).1 (Xx i e st).2.1):∀(k:Nat) (far by_:List Int),RelG sides lo (far,by_,false)->I far by_->mes sides L far<k->
 ∃r,OL k es far by_=some r/\RelG sides lo (r.1,r.2,false)/\I r.1 r.2/\∀e∈es,¬Imp e r.1
 |0,_,_,_,_,h=>by omega
 |k+1,far,by_,hG,hi,hk=>by
  have hpI:∀(l:List Ed) (i:Nat) (st:UQ),(∀j e,l[j]? =some e->es[i+j]? =some e)->RelG sides lo st->I st.1 st.2.1->I (YW i l st).1 (YW i l st).2.1:=by
   intro l
   induction l with
   |nil=>exactλ_ _ _ _ h=>h
   |cons e l ih=>
    intro i st hj hG hi
    have h0:es[i]? =some e:=hj 0 e rfl
    refine ih (i+1) _ (λj x hx=>?_) (YfJ i hs hes hp hL (Tf h0) hG).1 (hI i e st h0 hG hi)
    have:=hj (j+1) x hx
    grind
  obtain⟨g1,g2,g3,g4⟩:=Yav hs hes hp hL es 0 (far,by_,false) (λ_ h=>h) hG
  have g5:=hpI es 0 (far,by_,false) (λj e h=>by simp_all) hG hi
  unfold OL
  obtain⟨⟨f2,b2,ag⟩,hst⟩:∃st,YW 0 es (far,by_,false)=st:=⟨_,rfl⟩
  rw[hst]at g1 g2 g3 g4 g5⊢
  simp only at g1 g2 g3 g4 g5⊢
  cases ag with
  |true=>
   have:=g4 trivial rfl
   exact Ya7 hs hes hp hL I hI k f2 b2 ⟨g1.l1,g1.l2,g1.lo_,g1.hi,g1.top⟩ g5 (by omega)
  |false=>
   simp_all
variable {far by_:List Int}
theorem Yvq(hl:far.length=sides)(hL:L<=0):mes sides L far<=sides*(8*sides+1+L.natAbs):=by
 have:=Yhc (w:=YcQ sides L) (K:=8*sides+1+L.natAbs) (λx=>by grind [YcQ]) far
 rw[hl]at this
 exact this
inductive Chain (es:List Ed) (by_:List Int) (s:Int) (T:Ed->Prop):Int->Nat->Prop
 |here:Chain es by_ s T s 0
 |step {v:Int}{n:Nat}{e:Ed}(hne:v≠s) (h0:0<=Yh by_ v) (hi:es[(Yh by_ v).toNat]? =some e) (ht:e.t=v) (hr:0<e.r) (hT:T e) (h:Chain es by_ s T e.f n):Chain es by_ s T v (n+1)
theorem Chain.imp{T T':Ed->Prop}(hT:∀e∈es,0<e.r->T e->T' e)(h:Chain es by_ s T v n):Chain es by_ s T' v n:=by
 induction h with
 |here=>exact .here
 |step hne h0 hi ht hr hTe _ ih=>exact .step hne h0 hi ht hr (hT _ (Tf hi) hr hTe) ih
theorem Chain.uniq{T:Ed->Prop}{m:Nat}(h:Chain es by_ s T v n)(h':Chain es by_ s T v m):n=m:=by
 induction h generalizing m with
 |here=>
  cases h' with
  |here=>rfl
  |step hne=>omega
 |step hne h0 hi ht hr hT _ ih=>
  cases h' with
  |here=>omega
  |step hne' h0' hi' ht' hr' hT' h'=>
   grind
theorem Chain.nodes{T:Ed->Prop}(h:Chain es by_ s T v n):∃L:List Int,L.length=n/\L.Nodup/\∀x∈L,(∃e∈es,e.t=x)/\∃m,m<=n/\Chain es by_ s T x m:=by
 induction h with
 |here=>simp_all
 |@step v n e hne h0 hi ht hr hT h ih=>
  obtain⟨L,h1,h2,h3⟩:=ih
  refine⟨v::L,by simp[h1],SZ.2 ⟨λhv=>?_,h2⟩,λx hx=>?_⟩
  ·obtain⟨_,m,hm,hc⟩:=h3 v hv
   have:=Chain.uniq hc (.step hne h0 hi ht hr hT h)
   omega
  ·rcases TI.1 hx with rfl|hx
   ·exact⟨⟨e,Tf hi,ht⟩,n+1,TK _,.step hne h0 hi ht hr hT h⟩
   grind
theorem nodup_len:∀(k:Nat) (L:List Int),L.Nodup->(∀x∈L,0<=x/\x<k)->L.length<=k
 |0,L,_,h=>by
  cases L with
  |nil=>simp_all
  |cons a l=>grind [TB]
 |k+1,L,hn,h=>by
  have h1:=nodup_len k (L.erase (k:Int)) (hn.erase _) λx hx=>by
   grind
  grind
theorem Chain.len(hes:Ed8 sides es){T:Ed->Prop}(h:Chain es by_ s T v n):n<=sides:=by
 obtain⟨L,h1,h2,h3⟩:=h.nodes
 rw[<-h1]
 refine nodup_len sides L h2 λx hx=>?_
 obtain⟨⟨e,he,rfl⟩,_⟩:=h3 x hx
 exact(hes e he).2.1
def Tle(far:List Int)(e:Ed):Prop:=Yh far e.f<YR/\Yh far e.f+e.c<=Yh far e.t
structure RelC(sides:Nat)(es:List Ed)(s:Int)(far by_:List Int):Prop where
 s0:Yh far s=0
 ch:∀v:Int,0<=v->v<sides->Yh far v<YR->∃n,Chain es by_ s (Tle far) v n
theorem YjZ(hes:Ed8 sides es)(hp:PotE es lo)(hv0:0<=v)(_hlt:v.toNat<far.length)(_hx:x<=Yh far v)(h:Chain es by_ s (Tle far) w n)(hd:Yh far w-lo w<Yh far v-lo v):Chain es (by_.set v.toNat i) s (Tle (far.set v.toNat x)) w n:=by
 induction h with
 |here=>exact .here
 |@step w n e hne h0 hi ht hr hT h ih=>
  obtain⟨⟨e1,e2⟩,⟨e3,e4⟩,_⟩:=hes e (Tf hi)
  have hwv:w≠v:=by grind
  have hpe:=hp e (Tf hi) hr
  obtain⟨t1,t2⟩:=hT
  have hby:Yh (by_.set v.toNat i) e.t=Yh by_ e.t:=Xz (by omega)
  have hft:Yh (far.set v.toNat x) e.t=Yh far e.t:=Xz (by omega)
  have hff:Yh (far.set v.toNat x) e.f<=Yh far e.f:=by
   by_cases hfv:e.f=v
   ·grind
   ·rw[Xz (by omega)];omega
  subst ht
  exact .step hne (by omega) (by simp_all) rfl hr ⟨by omega,by omega⟩ (ih (by omega))
theorem Ynf(hes:Ed8 sides es)(hv0:0<=v)(hlt:v.toNat<far.length)(hx:x<=Yh far v)(hnew:∃k,Chain es (by_.set v.toNat i) s (Tle (far.set v.toNat x)) v k)(h:Chain es by_ s (Tle far) w n):∃k,Chain es (by_.set v.toNat i) s (Tle (far.set v.toNat x)) w k:=by
 induction h with
 |here=>exact⟨0,.here⟩
 |@step w n e hne h0 hi ht hr hT h ih=>
  by_cases hwv:w=v
  ·simp_all
  obtain⟨⟨e1,e2⟩,⟨e3,e4⟩,_⟩:=hes e (Tf hi)
  obtain⟨k,hk⟩:=ih
  obtain⟨t1,t2⟩:=hT
  have hby:Yh (by_.set v.toNat i) e.t=Yh by_ e.t:=Xz (by omega)
  have hft:Yh (far.set v.toNat x) e.t=Yh far e.t:=Xz (by omega)
  have hff:Yh (far.set v.toNat x) e.f<=Yh far e.f:=by
   by_cases hfv:e.f=v
   ·grind [Zj]
   ·rw[Xz (by omega)];omega
  subst ht
  exact⟨k+1,.step hne (by omega) (by simp_all) rfl hr ⟨by omega,by omega⟩ hk⟩
theorem YfI(hes:Ed8 sides es)(hp:PotE es lo)(hs:0<=s/\s<sides)(hlo:lo s=0)(i:Nat)(e:Ed)(st:UQ)(hi:es[i]? =some e)(hG:RelG sides lo st)(h:RelC sides es s st.1 st.2.1):RelC sides es s (Xx i e st).1 (Xx i e st).2.1:=by
 have he:=Tf hi
 obtain⟨⟨e1,e2⟩,⟨e3,e4⟩,⟨e5,e6⟩⟩:=hes e he
 unfold Xx
 split
 ·rename_i hc
  obtain⟨c1,c2,c3⟩:=hc
  obtain⟨far,by_,ag⟩:=st
  simp only at*
  have hl1:far.length=sides:=hG.l1
  have hl2:by_.length=sides:=hG.l2
  have hlt:e.t.toNat<far.length:=by omega
  have hlt2:e.t.toNat<by_.length:=by omega
  have hpe:=hp e he c1
  have hff:=hG.lo_ e.f e1 e2
  have hts:e.t≠s:=by grind [Go.Rt.RelC.s0]
  have hself:=Zj (far:=far) (i:=e.t) (x:=Yh far e.f+e.c) hlt
  have hef:e.f≠e.t:=by grind
  have hfo:Yh (far.set e.t.toNat (Yh far e.f+e.c)) e.f=Yh far e.f:=Xz (by omega)
  obtain⟨n,hn⟩:=h.ch e.f e1 e2 c2
  have hk:=YjZ (i:=(i:Int)) hes hp e3 hlt (x:=Yh far e.f+e.c) (by omega) hn (by omega)
  have hbs:Yh (by_.set e.t.toNat (i:Int)) e.t=i:=Zj hlt2
  have hnew:Chain es (by_.set e.t.toNat (i:Int)) s (Tle (far.set e.t.toNat (Yh far e.f+e.c))) e.t (n+1):=
   .step hts (by omega) (by simp_all) rfl c1 ⟨by omega,by omega⟩ hk
  refine⟨?_,λv h0 h1 h2=>?_⟩
  ·rw[Xz (by omega)];exact h.s0
  ·by_cases hv:v=e.t
   ·grind
   ·rw[Xz (by omega)]at h2
    obtain⟨m,hm⟩:=h.ch v h0 h1 h2
    exact Ynf hes e3 hlt (by omega) ⟨n+1,hnew⟩ hm
 omega
structure FA where
 f:Int
 t:Int
 c:Int
 u:Bool
def fwd(x:FA):Ed:=⟨x.f,x.t,x.c,if x.u=true then 0 else 1⟩
def rev(x:FA):Ed:=⟨x.t,x.f,-x.c,if x.u=true then 1 else 0⟩
def YP:List FA->List Ed
 |[]=>[]
 |x::l=>fwd x::rev x::YP l
def Vl(x:FA):FA:=⟨x.f,x.t,x.c,!x.u⟩
theorem J4:∀(l:List FA) (j:Nat),(YP l)[2*j]? =(l[j]?).map fwd
 |[],_=>rfl
 |x::l,0=>rfl
 |x::l,j+1=>by
  rw[show 2*(j+1)=2*j+1+1 by omega]
  simp only[YP,SV,J4 l j]
theorem J5:∀(l:List FA) (j:Nat),(YP l)[2*j+1]? =(l[j]?).map rev
 |[],_=>rfl
 |x::l,0=>rfl
 |x::l,j+1=>by
  rw[show 2*(j+1)+1=2*j+1+1+1 by omega]
  simp only[YP,SV,J5 l j]
theorem YaU:∀(l:List FA) (j:Nat) (y:FA),((YP l).set (2*j) (fwd y)).set (2*j+1) (rev y)=YP (l.set j y)
 |[],_,_=>rfl
 |x::l,0,y=>rfl
 |x::l,j+1,y=>by
  rw[show 2*(j+1)+1=2*j+1+1+1 by omega,show 2*(j+1)=2*j+1+1 by omega]
  simp only[YP,N1,YaU l j y]
theorem O8{e:Ed}:∀{l:List FA},e∈YP l->∃x∈l,e=fwd x\/e=rev x
 |x::l,h=>by
  simp only[YP,TI]at h
  rcases h with h|h|h
  ·simp_all
  ·simp_all
  ·obtain⟨y,hy,h⟩:=O8 h
   grind
theorem VZ{x:FA}:∀{l:List FA},x∈l->fwd x∈YP l/\rev x∈YP l
 |y::l,h=>by
  simp only[YP,TI]
  rcases TI.1 h with rfl|h
  ·simp_all
  ·obtain⟨h1,h2⟩:=VZ h
   simp_all
def sumI{α:Type}(g:α->Int)(l:List α):Int:=(l.map g).sum
variable {α:Type}
theorem YX(g:α->Int)(a:α)(l:List α):sumI g (a::l)=g a+sumI g l:=by simp[sumI]
theorem YqZ(g:α->Int):sumI g []=0:=rfl
theorem Jt(g:α->Int)(l m:List α):sumI g (l++m)=sumI g l+sumI g m:=by
 grind [sumI]
theorem V5(g:α->Int){l m:List α}(h:l.Perm m):sumI g l=sumI g m:=by
 induction h with
 |nil=>rfl
 |cons a _ ih=>grind [YX]
 |swap a b l=>rw[YX,YX,YX,YX];omega
 |trans _ _ h1 h2=>omega
theorem Yef{α:Type}(g:α->Int){x y:α}:∀{l:List α}{j:Nat},l[j]? =some x->sumI g (l.set j y)=sumI g l-g x+g y
 |[],_,h=>by simp at h
 |a::l,0,h=>by
  obtain rfl:a=x:=by simp_all
  rw[NJ,YX,YX];omega
 |a::l,j+1,h=>by
  have:=Yef g (y:=y) (l:=l) (j:=j) (by simpa using h)
  grind [YX]
theorem UG{α:Type}{g:α->Int}:∀{l:List α},(∀x∈l,0<=g x)->0<=sumI g l
 |[],_=>Ry _
 |a::l,h=>by
  have h2:=UG (l:=l) λx hx=>h x (Tz _ hx)
  grind [YX]
theorem Yee{β:Type}(g:β->Int)(f:α->β)(l:List α):sumI g (l.map f)=sumI (λx=>g (f x)) l:=by
 grind [sumI,Function.comp_def]
abbrev E3:=Int×Int×Int
def Zb(L:List FA):List E3:=L.map λx=>(x.f,x.t,x.c)
def balG(p:Int->Int)(x:FA):Int:=if x.u=true then p x.t-p x.f else 0
def bal(L:List FA)(p:Int->Int):Int:=sumI (balG p) L
def Yh4(x:FA):Int:=if x.u=true then x.c else 0
def Uv(L:List FA):Int:=sumI Yh4 L
variable {L:List FA}{e:Ed}
theorem Ysy{i:Nat}(hi:(YP L)[i]? =some e)(hr:0<e.r):∃j x,L[j]? =some x/\i/2=j/\twin i<(YP L).length/\VD (VD (YP L) i (-1)) (twin i) 1=YP (L.set j (Vl x))/\((i=2*j/\x.u=false/\e=fwd x)\/(i=2*j+1/\x.u=true/\e=rev x)):=by
 have hlt:=(Tc.1 hi).1
 rcases Nat.mod_two_eq_zero_or_one i with h|h
 ·obtain⟨j,rfl⟩:∃j,i=2*j:=⟨i/2,by omega⟩
  have ht:twin (2*j)=2*j+1:=by simp_all [twin]
  rw[J4]at hi
  cases hx:L[j]? with
  |none=>simp_all
  |some x=>
   have hu:x.u=false:=by
    cases hu:x.u with
    |false=>rfl
    |true=>grind [fwd]
   have h1:VD (YP L) (2*j) (-1)=(YP L).set (2*j) (fwd (Vl x)):=by
    grind [VD,J4,fwd,Vl]
   grind [Vl,rev,J5,VD,YaU]
 ·obtain⟨j,rfl⟩:∃j,i=2*j+1:=⟨i/2,by omega⟩
  have ht:twin (2*j+1)=2*j:=by simp_all [twin]
  rw[J5]at hi
  cases hx:L[j]? with
  |none=>simp_all
  |some x=>
   rw[hx]at hi
   obtain rfl:rev x=e:=Tv hi
   have hu:x.u=true:=by
    cases hu:x.u with
    |true=>rfl
    |false=>grind [rev]
   refine⟨j,x,hx,by omega,by omega,?_,.inr ⟨rfl,hu,rfl⟩⟩
   have h1:VD (YP L) (2*j+1) (-1)=(YP L).set (2*j+1) (rev (Vl x)):=by
    grind [VD,J5,rev,Vl]
   have h2:((YP L).set (2*j+1) (rev (Vl x)))[2*j]? =some (fwd x):=by
    grind [J4]
   rw[h1]
   unfold VD
   rw[<-YaU,List.set_comm _ _ (by omega)]
   grind [fwd,Vl]
variable {j m n sides:Nat}{x:FA}
theorem Ynr(hx:L[j]? =some x):Zb (L.set j (Vl x))=Zb L:=by
 unfold Zb
 rw[List.map_set]
 apply Na
 intro i
 by_cases h:j=i
 ·subst h
  have hj:=(Tc.1 hx).1
  rw[NE (by simp_all),TX,hx];rfl
 simp_all
variable {π:Int->Int}
theorem YqC(_hx:L[j]? =some x)(he:(x.u=false/\e=fwd x)\/(x.u=true/\e=rev x))(hp:PotE (YP L) π)(ht:π e.f+e.c=π e.t):PotE (YP (L.set j (Vl x))) π:=by
 intro e' he' hr'
 obtain⟨y,hy,h⟩:=O8 he'
 rcases List.mem_or_eq_of_mem_set hy with hy|rfl
 ·obtain⟨h1,h2⟩:=VZ hy
  rcases h with rfl|rfl
  ·exact hp _ h1 hr'
  ·exact hp _ h2 hr'
 grind [fwd,Vl,rev]
theorem YeF{y:FA}(h:m/2≠j):(YP (L.set j y))[m]? =(YP L)[m]? :=by
 rcases Nat.mod_two_eq_zero_or_one m with hm|hm
 ·obtain⟨k,rfl⟩:∃k,m=2*k:=⟨m/2,by omega⟩
  grind [J4]
 ·obtain⟨k,rfl⟩:∃k,m=2*k+1:=⟨m/2,by omega⟩
  grind [J5]
variable {by_:List Int}{s v w:Int}
theorem Chain.other{T:Ed->Prop}(hv:Chain (YP L) by_ s T v (n+1))(hi:(YP L)[(Yh by_ v).toNat]? =some e)(het:e.t=v)(hx:L[j]? =some x)(_hj:(Yh by_ v).toNat/2=j)(hex:((Yh by_ v).toNat=2*j/\e=fwd x)\/((Yh by_ v).toNat=2*j+1/\e=rev x))(h:Chain (YP L) by_ s T w m)(hm:m<=n):Chain (YP (L.set j (Vl x))) by_ s T w m:=by
 induction h with
 |here=>exact .here
 |@step w m e' hne h0 hi' ht hr hT h ih=>
  refine .step hne h0 ?_ ht hr hT (ih (by omega))
  rw[YeF];exact hi'
  intro hjj
  have hfull:Chain (YP L) by_ s T w (m+1):=.step hne h0 hi' ht hr hT h
  have hwv:w≠v:=by grind [Go.Rt.Chain.uniq]
  by_cases hsame:(Yh by_ w).toNat=(Yh by_ v).toNat
  ·simp_all
  ·rcases hex with⟨h1,rfl⟩|⟨h1,rfl⟩
   ·have h2:(Yh by_ w).toNat=2*j+1:=by omega
    rw[h2,J5,hx]at hi'
    have:(rev x).f=v:=het
    grind [Go.Rt.Chain.uniq]
   ·have h2:(Yh by_ w).toNat=2*j:=by omega
    rw[h2,J4,hx]at hi'
    have:(fwd x).f=v:=het
    grind [Go.Rt.Chain.uniq]
theorem YlA{by_ far:List Int}{s:Int}{T:Ed->Prop}{π:Int->Int}(hT:∀e,T e->π e.f+e.c=π e.t/\Yh far e.f+e.c=Yh far e.t):∀(n k:Nat) (v:Int) (L:List FA),Chain (YP L) by_ s T v n->n<k->PotE (YP L) π->
 ∃L',Ybn k (YP L) by_ s v=some (YP L')/\Zb L'=Zb L/\(∀p,bal L' p=bal L p+(p v-p s))/\Uv L'=Uv L+(Yh far v-Yh far s)/\PotE (YP L') π
 |_,0,_,_,_,h,_=>by omega
 |0,k+1,v,L,h,_,hp=>by
  cases h
  refine⟨L,by simp_all [Ybn],rfl,λp=>by omega,by omega,hp⟩
 |n+1,k+1,v,L,h,hk,hp=>by
  cases id h with
  |@step _ _ e hne h0 hi ht hr hTe h'=>
   obtain⟨j,x,hx,hj,htw,hmv,hcase⟩:=Ysy hi hr
   obtain⟨t1,t2⟩:=hT e hTe
   have hcase2:(x.u=false/\e=fwd x)\/(x.u=true/\e=rev x):=by
    grind
   have hex:((Yh by_ v).toNat=2*j/\e=fwd x)\/((Yh by_ v).toNat=2*j+1/\e=rev x):=by
    grind
   obtain⟨L',b1,b2,b3,b4,b5⟩:=YlA hT n k e.f (L.set j (Vl x)) (Chain.other h hi ht hx hj hex h' (TK _)) (by omega) (YqC hx hcase2 hp t1)
   refine⟨L',?_,by rw[b2,Ynr hx],λp=>?_,?_,b5⟩
   ·simp_all [Ybn]
   ·have:bal (L.set j (Vl x)) p=bal L p+(p e.t-p e.f):=by
     grind [bal,Yef,balG,Vl,fwd,rev]
    grind
   ·have:Uv (L.set j (Vl x))=Uv L+e.c:=by
     grind [Uv,Yef,Yh4,Vl,fwd,rev]
    grind
theorem Yne{es:List Ed}(hp:PotE es π){far:List Int}{D:Int}(_hs:sides<=1000)(h:Chain es by_ s (Tle far) w n)(hd:Yh far w-π w<=D):Chain es by_ s (λe=>Tle far e/\Yh far e.t-π e.t<=D/\Yh far e.f-π e.f<=D) w n:=by
 induction h with
 |here=>exact .here
 |@step w n e hne h0 hi ht hr hT h ih=>
  have hpe:=hp e (Tf hi) hr
  obtain⟨t1,t2⟩:=id hT
  subst ht
  exact .step hne h0 hi rfl hr ⟨hT,hd,by omega⟩ (ih (by omega))
theorem QS:(Zm sides s).length=sides:=by grind [Zm]
theorem Zx(hs:0<=s/\s<sides)(hv:0<=v/\v<sides):Yh (Zm sides s) v=if v=s then 0 else YR:=by
 unfold Zm
 split
 ·grind [Zj]
 ·rw[Xz (by omega)]
  simp_all [Yh]
structure YrA(sides:Nat)(L:List FA)(s t x W:Int)(es':List Ed)(L':List FA)(π':Int->Int):Prop where
 es:es'=YP L'
 ends:Zb L'=Zb L
 bal_:∀p,bal L' p=bal L p+(p t-p s)
 cost:Uv L'=Uv L+x
 pot:PotE (YP L') π'
 bd:∀v:Int,0<=v->v<sides-> -W<=π' v/\π' v<=3*W+8*sides
structure YoM(L:List FA)(s t x:Int)(es':List Ed)(R:Int->Bool):Prop where
 es:es'=YP L
 x0:x=0
 rs:R s=true
 rt:R t=false
 cl:∀e∈YP L,0<e.r->R e.f=true->R e.t=true
theorem YgU{fuel:Nat}{t W:Int}(hs:sides<=100)(hes:Ed8 sides (YP L))(hp:PotE (YP L) π)(hW:0<=W/\W<=100000)(hb:∀v:Int,0<=v->v<sides-> -W<=π v/\π v<=W)(hs0:0<=s/\s<sides)(ht0:0<=t/\t<sides)(hf:sides*(8*sides+1+(2*W).natAbs)<fuel)(hf2:sides<fuel):
 ∃r,YbM fuel sides (YP L) s t=some r/\((r.2.1=false/\∃R,YoM L s t r.1 r.2.2 R)\/(r.2.1=true/\∃L' π',YrA sides L s t r.1 W r.2.2 L' π')):=by
 have hn:=Yap
 have hps:=hb s hs0.1 hs0.2
 have hplo:PotE (YP L) (λv=>π v-π s):=λe he hr=>by have:=hp e he hr;grind
 have hL:∀v:Int,0<=v->v<sides-> -(2*W)<=(λv=>π v-π s) v:=by grind
 have hG:RelG sides (λv=>π v-π s) (Zm sides s,List.replicate sides (-1),false):=by
  refine⟨QS,Rb,λv h0 h1=>?_,λv h0 h1=>?_,λv h0 h1=>?_⟩
  ·simp only
   rw[Zx hs0 ⟨h0,h1⟩]
   grind
  ·simp only
   rw[Zx hs0 ⟨h0,h1⟩]
   omega
  ·simp only
   rw[Zx hs0 ⟨h0,h1⟩]
   omega
 have hC:RelC sides (YP L) s (Zm sides s) (List.replicate sides (-1)):=by
  refine⟨by simp_all [Zx],λv h0 h1 h2=>?_⟩
  rw[Zx hs0 ⟨h0,h1⟩]at h2
  by_cases h:v=s
  ·rw[h];exact⟨0,.here⟩
  omega
 have hm:=Yvq (sides:=sides) (L:= -(2*W)) (far:=Zm sides s) QS (by omega)
 rw[Int.natAbs_neg]at hm
 obtain⟨⟨far,by_⟩,hr,hG2,hC2,hcl⟩:=Ya7 (by omega) hes hplo hL (RelC sides (YP L) s) (λi e st hi hG h=>YfI hes hplo hs0 (Int.sub_self _) i e st hi hG h) fuel _ _ hG hC (by omega)
 simp only at hG2 hC2 hcl
 unfold YbM
 rw[hr]
 simp only
 obtain⟨l1,l2,hlo,hhi,htop⟩:=hG2
 simp only at l1 l2 hlo hhi htop
 have hcn:=Yj1 far
 have hfin:∀v:Int,0<=v->v<sides->Yh far v<YR->Yh far v<=8*sides:=by grind
 have hclosed:∀e∈YP L,0<e.r->Yh far e.f<YR->Yh far e.t<=Yh far e.f+e.c/\Yh far e.t<YR:=by
  intro e he hr hf
  obtain⟨⟨e1,e2⟩,⟨e3,e4⟩,⟨e5,e6⟩⟩:=hes e he
  have h1:=hfin e.f e1 e2 hf
  have h2:Yh far e.t<=Yh far e.f+e.c:=by
   rcases N9 (Yh far e.f+e.c) (Yh far e.t)with h|h
   ·exact absurd ⟨hr,hf,h⟩ (hcl e he)
   omega
  omega
 by_cases hno:YR<=Yh far t
 ·rw[Tm hno]
  refine⟨_,rfl,.inl ⟨rfl,λv=>decide (Yh far v<YR),rfl,rfl,?_,?_,?_⟩⟩
  ·grind [Go.Rt.RelC.s0]
  all_goals simp_all
 ·rw[Td hno]
  have hto:Yh far t<YR:=by omega
  obtain⟨n,hn'⟩:=hC2.ch t ht0.1 ht0.2 hto
  have hlt:=hlo t ht0.1 ht0.2
  have hft:=hfin t ht0.1 ht0.2 hto
  have hpt:=hb t ht0.1 ht0.2
  obtain⟨D,hD⟩:∃D,Yh far t-π t=D:=⟨_,rfl⟩
  have hlow:=Yne (sides:=sides) hp (by omega) hn' (Int.le_of_eq hD)
  --the new numbers
  let π':Int->Int:=λv=>if Yh far v<YR/\Yh far v-π v<=D then Yh far v+π s else π v+D+π s
  have hlowv:∀v,Yh far v<YR->Yh far v-π v<=D->π' v=Yh far v+π s:=by grind
  have hhiv:∀v,¬(Yh far v<YR/\Yh far v-π v<=D)->π' v=π v+D+π s:=λv h=>Td h
  have hpot:PotE (YP L) π':=by
   intro e he hr
   have hpe:=hp e he hr
   grind
  have hch:Chain (YP L) by_ s (λe=>π' e.f+e.c=π' e.t/\Yh far e.f+e.c=Yh far e.t) t n:=by
   refine hlow.imp λe he hr ⟨⟨h1,h2⟩,h3,h4⟩=>?_
   grind
  have hnl:=hn'.len hes
  obtain⟨L',b1,b2,b3,b4,b5⟩:=YlA (λ_ h=>h) n fuel t L hch (by omega) hpot
  rw[b1]
  refine⟨_,rfl,.inr ⟨rfl,L',π',rfl,b2,b3,?_,b5,?_⟩⟩
  ·rw[b4,hC2.s0];omega
  grind
def balE(E:List E3)(p:Int->Int):Int:=sumI (λe=>p e.2.1-p e.1) E
def Z8(E:List E3):Int:=sumI (λe:E3=>e.2.2) E
variable {L:List FA}{E R:List E3}
theorem dual{q:Int->Int}{κ:E3->Int}(h1:∀x∈L,x.u=true->0<=q x.t-q x.f-κ (x.f,x.t,x.c))(h0:∀x∈L,x.u=false->q x.t-q x.f-κ (x.f,x.t,x.c)<=0)(hE:(Zb L).Perm (E++R)):balE E q-sumI κ E<=bal L q-sumI (λx:FA=>if x.u=true then κ (x.f,x.t,x.c)else 0) L:=by
 have e1:sumI (λe:E3=>max 0 (q e.2.1-q e.1-κ e)) (Zb L)=bal L q-sumI (λx:FA=>if x.u=true then κ (x.f,x.t,x.c)else 0) L:=by
  unfold Zb bal
  rw[Yee]
  clear hE
  induction L with
  |nil=>rfl
  |cons x L ih=>
   rw[YX,YX,YX,ih (λy hy=>h1 y (Tz _ hy)) (λy hy=>h0 y (Tz _ hy))]
   unfold balG
   grind
 rw[V5 _ hE,Jt]at e1
 have h2:0<=sumI (λe:E3=>max 0 (q e.2.1-q e.1-κ e)) R:=UG λe _=>by omega
 have h3:balE E q-sumI κ E<=sumI (λe:E3=>max 0 (q e.2.1-q e.1-κ e)) E:=by
  clear hE e1 h2
  unfold balE
  induction E with
  |nil=>exact Ry _
  |cons e E ih=>grind [YX]
 omega
theorem Ynq{π:Int->Int}(hp:PotE (YP L) π)(hE:(Zb L).Perm (E++R))(hb:balE E π=bal L π):Uv L<=Z8 E:=by
 have h:=dual (q:=π) (κ:=λe=>e.2.2) (L:=L) (λx hx hu=>?_) (λx hx hu=>?_) hE
 ·unfold Uv Z8
  have e:sumI Yh4 L=sumI (λx:FA=>if x.u=true then(x.f,x.t,x.c).snd.snd else 0) L:=rfl
  omega
 ·have:=hp _ (VZ hx).2 (by grind [rev])
  grind [rev]
 ·have:=hp _ (VZ hx).1 (by grind [fwd])
  grind [fwd]
theorem cut{s t x:Int}{es':List Ed}{R:Int->Bool}(h:YoM L s t x es' R){R':List E3}(hE:(Zb L).Perm (E++R')):balE E (λv=>if R v=true then 0 else 1)<=bal L (λv=>if R v=true then 0 else 1):=by
 have hd:=dual (q:=λv=>if R v=true then 0 else 1) (κ:=λ_=>0) (L:=L) (λx hx hu=>?_) (λx hx hu=>?_) hE
 ·have e1:sumI (λ_:E3=>(0:Int)) E=0:=by
   clear hd hE
   induction E with
   |nil=>rfl
   |cons a E ih=>grind [YX]
  have e2:sumI (λx:FA=>if x.u=true then(0:Int)else 0) L=0:=by
   clear hd hE h
   induction L with
   |nil=>rfl
   |cons a E ih=>grind [YX]
  omega
 ·have:=h.cl _ (VZ hx).2 (by grind [rev])
  simp only[rev]at this
  grind
 ·have:=h.cl _ (VZ hx).1 (by grind [fwd])
  simp only[fwd]at this
  grind
def QN(closed:Int->Bool)(k:Nat):List FA:=(List.range k).flatMap λv:Nat=>if closed (v:Int)=true then []else [⟨2*(v:Int),2*(v:Int)+1,0,false⟩]
def Ylw(l:List Lk):List FA:=l.map λa=>⟨2*a.1+1,2*a.2.1,a.2.2,false⟩
def Z6(nodes:Nat)(l:List Lk)(closed:Int->Bool):List FA:=QN closed nodes++Ylw l
theorem Ww:∀(l m:List FA),YP (l++m)=YP l++YP m
 |[],_=>rfl
 |x::l,m=>by simp only[TF,YP,Ww l m]
theorem Yom(nodes:Nat)(l:List Lk)(closed:Int->Bool):WJ nodes l closed=YP (Z6 nodes l closed):=by
 unfold WJ Z6
 rw[Ww]
 congr 1
 ·unfold ZQ QN
  generalize List.range nodes=r
  induction r with
  |nil=>rfl
  |cons v r ih=>
   rw[TT,TT,ih,Ww]
   split
   ·rfl
   ·rfl
 ·unfold Us Ylw
  induction l with
  |nil=>rfl
  |cons a l ih=>
   rw[TT,Ru,ih]
   rfl
def Arcs8(nodes:Nat)(l:List Lk):Prop:=∀a∈l,(0<=a.1/\a.1<nodes)/\(0<=a.2.1/\a.2.1<nodes)/\(1<=a.2.2/\a.2.2<=8)
def arc3(a:Lk):E3:=(2*a.1+1,2*a.2.1,a.2.2)
def JF(v:Int):E3:=(2*v,2*v+1,0)
variable {l:List Lk}{closed:Int->Bool}
theorem OH{nodes:Nat}{e:E3}:e∈Zb (Z6 nodes l closed)↔(∃v:Int,(0<=v/\v<nodes)/\closed v=false/\e=JF v)\/∃a∈l,e=arc3 a:=by
 unfold Zb Z6
 rw[Rl,TJ]
 constructor
 ·rintro(h|h)
  ·obtain⟨x,hx,rfl⟩:=TD.1 h
   obtain⟨v,hv,h⟩:=RP.1 hx
   have hv:=Rf.1 hv
   cases hc:closed (v:Int)with
   |true=>simp_all
   |false=>
    rw[hc,Td (by decide)]at h
    obtain rfl:=TU.1 h
    exact .inl ⟨(v:Int),by omega,hc,rfl⟩
  ·obtain⟨x,hx,rfl⟩:=TD.1 h
   obtain⟨a,ha,rfl⟩:=TD.1 hx
   exact .inr ⟨a,ha,rfl⟩
 ·rintro(⟨v,⟨h0,h1⟩,hc,rfl⟩|⟨a,ha,rfl⟩)
  ·left
   refine TD.2 ⟨⟨2*v,2*v+1,0,false⟩,RP.2 ⟨v.toNat,Rf.2 (by omega),?_⟩,rfl⟩
   grind
  ·right
   exact TD.2 ⟨⟨2*a.1+1,2*a.2.1,a.2.2,false⟩,TD.2 ⟨a,ha,rfl⟩,rfl⟩
variable {α β:Type}
theorem UM{f:α->β}(hf:∀a b,f a=f b->a=b){l:List α}(h:l.Nodup):(l.map f).Nodup:=
 by grind
theorem JG{f:α->β}{l:List α}(h:(l.map f).Nodup):l.Nodup:=
 List.Pairwise.imp (λhne e=>hne (TE f e)) (Nb.1 h)
theorem YhM(a b:Lk)(h:arc3 a=arc3 b):a=b:=by
 grind [arc3]
theorem Yn0(a b:Int)(h:JF a=JF b):a=b:=by
 grind [JF]
theorem YhN(a:Lk)(v:Int):arc3 a≠JF v:=by
 grind [arc3,JF]
theorem Yao(closed:Int->Bool):∀k,((QN closed k).map λx:FA=>(x.f,x.t,x.c)).Nodup/\∀e∈(QN closed k).map λx:FA=>(x.f,x.t,x.c),∃v:Int,v<k/\e=JF v
 |0=>⟨List.nodup_nil,λe he=>by cases he⟩
 |k+1=>by
  obtain⟨h1,h2⟩:=Yao closed k
  have e:QN closed (k+1)=QN closed k++(if closed (k:Int)=true then []else [⟨2*(k:Int),2*(k:Int)+1,0,false⟩]):=by
   grind [QN,RV]
  rw[e,Rl]
  by_cases hc:closed (k:Int)=true
  ·grind
  ·rw[Td hc]
   refine⟨Rn.2 ⟨h1,by simp,λa ha b hb=>?_⟩,λe he=>?_⟩
   ·grind [JF]
   ·rcases TJ.1 he with he|he
    ·grind
    ·exact⟨(k:Int),by omega,by grind [JF]⟩
theorem Yj9{nodes:Nat}(hl:l.Nodup):(Zb (Z6 nodes l closed)).Nodup:=by
 unfold Zb Z6
 rw[Rl]
 obtain⟨h1,h2⟩:=Yao closed nodes
 have h3:(Ylw l).map (λx:FA=>(x.f,x.t,x.c))=l.map arc3:=by
  unfold Ylw;rw[NI];rfl
 rw[h3]
 refine Rn.2 ⟨h1,UM YhM hl,λa ha b hb=>?_⟩
 grind [YhN]
theorem Yvh{sides:Nat}(h:∀e∈Zb L,(0<=e.1/\e.1<sides)/\(0<=e.2.1/\e.2.1<sides)/\(-8<=e.2.2/\e.2.2<=8)):Ed8 sides (YP L):=by
 intro e he
 obtain⟨x,hx,h2⟩:=O8 he
 have h3:=h (x.f,x.t,x.c) (TD.2 ⟨x,hx,rfl⟩)
 rcases h2 with rfl|rfl
 ·exact h3
 grind [rev]
theorem YbS{nodes:Nat}(hl:Arcs8 nodes l):∀e∈Zb (Z6 nodes l closed),(0<=e.1/\e.1<(2*nodes:Nat))/\(0<=e.2.1/\e.2.1<(2*nodes:Nat))/\(0<=e.2.2/\e.2.2<=8):=by
 intro e he
 rcases OH.1 he with⟨v,hv,_,rfl⟩|⟨a,ha,rfl⟩
 ·grind [JF]
 ·obtain⟨h1,h2,h3⟩:=hl a ha
  grind [arc3]
theorem Yha{nodes:Nat}:∀x∈Z6 nodes l closed,x.u=false:=by
 intro x hx
 rcases TJ.1 hx with h|h
 ·obtain⟨v,_,h⟩:=RP.1 h
  simp_all
 ·obtain⟨a,_,rfl⟩:=TD.1 h;rfl
def want(a b to:Int)(p:Int->Int):Int:=(p (2*to)-p (2*a+1))+(p (2*to)-p (2*b+1))
theorem YcG(h:∀x∈L,x.u=false)(p:Int->Int):bal L p=0:=by
 unfold bal
 induction L with
 |nil=>rfl
 |cons x L ih=>
  grind [YX,balG]
theorem Ynj(h:∀x∈L,x.u=false):Uv L=0:=by
 unfold Uv
 induction L with
 |nil=>rfl
 |cons x L ih=>
  grind [YX,Yh4]
structure Yb6(nodes:Nat)(l:List Lk)(a b to x:Int)(sh:Int->Bool)(es:List Ed)(L:List FA)(π:Int->Int):Prop where
 es:es=YP L
 ends:Zb L=Zb (Z6 nodes l sh)
 bal_:∀p,bal L p=want a b to p
 cost:Uv L=x
 pot:PotE (YP L) π
 bd:∀v:Int,0<=v->v<(2*nodes:Nat)-> -(16*(nodes:Int))<=π v/\π v<=64*(nodes:Int)
def YuT(nodes:Nat)(l:List Lk)(a b to:Int)(sh:Int->Bool):Prop:=∀E R:List E3,(Zb (Z6 nodes l sh)).Perm (E++R)->(∀p,balE E p=want a b to p)->False
theorem Yr0{fuel nodes:Nat}{a b to:Int}(hn:1<=nodes/\nodes<=50)(hl:Arcs8 nodes l)(ha:0<=a/\a<nodes)(hb:0<=b/\b<nodes)(ht:0<=to/\to<nodes)(hf:2*nodes*(48*nodes+1)<fuel):
 ∃r,V9 fuel nodes l a b to closed=some r/\((r.2.1=true/\∃L π,Yb6 nodes l a b to r.1 (Y2 a b to closed) r.2.2 L π)\/(r.2.1=false/\YuT nodes l a b to (Y2 a b to closed))):=by
 have hs:2*nodes<=100:=by omega
 have hen:=YbS (closed:=Y2 a b to closed) hl
 have hun:=Yha (nodes:=nodes) (l:=l) (closed:=Y2 a b to closed)
 have h8:∀{L:List FA},Zb L=Zb (Z6 nodes l (Y2 a b to closed))->Ed8 (2*nodes) (YP L):=by grind [Yvh]
 have hp0:PotE (YP (Z6 nodes l (Y2 a b to closed))) (λ_=>0):=by
  intro e he hr
  obtain⟨x,hx,h⟩:=O8 he
  have hc:=hen (x.f,x.t,x.c) (TD.2 ⟨x,hx,rfl⟩)
  grind [fwd,rev]
 have m1:(2*nodes)*(8*(2*nodes)+1+(2*(0:Int)).natAbs)<=2*nodes*(48*nodes+1):=by grind
 have m2:2*nodes<=2*nodes*(48*nodes+1):=by grind
 have m3:(2*nodes)*(8*(2*nodes)+1+(2*(16*(nodes:Int))).natAbs)<=2*nodes*(48*nodes+1):=by grind
 unfold V9
 rw[Yom]
 obtain⟨⟨x,ok,es⟩,h1,h2⟩:=YgU (fuel:=fuel) (s:=2*a+1) (t:=2*to) (W:=0) hs (h8 rfl) hp0 (by omega) (λv _ _=>by omega) (by omega) (by omega) (by omega) (by omega)
 rw[h1]
 simp only at h2⊢
 rcases h2 with⟨rfl,R,hR⟩|⟨rfl,L1,π1,hY⟩
 ·obtain⟨⟨y,is,es2⟩,h3,_⟩:=YgU (fuel:=fuel) (s:=2*b+1) (t:=2*to) (W:=0) hs (h8 rfl) hp0 (by omega) (λv _ _=>by omega) (by omega) (by omega) (by omega) (by omega)
  rw[hR.es,h3]
  refine⟨_,rfl,.inr ⟨rfl,λE R' hE hb2=>?_⟩⟩
  have h4:=cut hR hE
  rw[hb2,YcG hun]at h4
  unfold want at h4
  dsimp only at h4
  rw[hR.rs,hR.rt,Tm rfl,Td (by decide)]at h4
  omega
 ·obtain⟨⟨y,is,es2⟩,h3,h4⟩:=YgU (fuel:=fuel) (s:=2*b+1) (t:=2*to) (W:=16*nodes) hs (h8 hY.ends) hY.pot (by omega) (λv h0 h1=>by have:=hY.bd v h0 h1;omega) (by omega) (by omega) (by omega) (by omega)
  rw[hY.es,h3]
  rcases h4 with⟨rfl,R,hR⟩|⟨rfl,L2,π2,hZ⟩
  ·refine⟨_,rfl,.inr ⟨rfl,λE R' hE hb2=>?_⟩⟩
   have h4:=cut hR (by rw[hY.ends];exact hE)
   rw[hb2,hY.bal_,YcG hun]at h4
   unfold want at h4
   dsimp only at h4
   rw[hR.rs,hR.rt,Tm rfl,Td (by decide)]at h4
   omega
  ·refine⟨_,rfl,.inl ⟨rfl,L2,π2,hZ.es,hZ.ends.trans hY.ends,λp=>?_,?_,hZ.pot,λv h0 h1=>?_⟩⟩
   ·rw[hZ.bal_,hY.bal_,YcG hun]
    grind [want]
   ·rw[hZ.cost,hY.cost,Ynj hun]
    omega
   ·have:=hZ.bd v h0 h1
    omega
def FirstMin{α:Type}(key:α->Int)(l:List α)(x:α):Prop:=∃l1 l2,l=l1++x::l2/\(∀y∈l1,key x<key y)/\∀y∈l2,key x<=key y
variable {α:Type}
theorem FirstMin.mem{key:α->Int}{l:List α}{x:α}(h:FirstMin key l x):x∈l:=by
 obtain⟨l1,l2,rfl,_⟩:=h
 simp_all
theorem FirstMin.le{key:α->Int}{l:List α}{x y:α}(h:FirstMin key l x)(hy:y∈l):key x<=key y:=by
 obtain⟨l1,l2,rfl,h1,h2⟩:=h
 grind
theorem FirstMin.uniq{key:α->Int}:∀{l:List α}{x y:α},FirstMin key l x->FirstMin key l y->x=y:=by
 intro l x y hx hy
 obtain⟨a1,a2,e1,p1,p2⟩:=hx
 obtain⟨b1,b2,e2,q1,q2⟩:=hy
 rw[e1]at e2
 rcases List.append_eq_append_iff.1 e2 with⟨c,h3,h4⟩|⟨c,h3,h4⟩
 ·cases c with
  |nil=>simp_all
  |cons z c=>
   grind
 ·cases c with
  |nil=>simp_all
  |cons z c=>
   grind
theorem FirstMin.one(key:α->Int)(x:α):FirstMin key [x] x:=⟨[],[],rfl,(λ_ hy=>absurd hy (RG)),(λ_ hy=>absurd hy (RG))⟩
theorem FirstMin.mid{key:α->Int}{l a b:List α}{x:α}(h:FirstMin key l x)(h1:∀y∈a,key x<key y)(h2:∀y∈b,key x<=key y):FirstMin key (a++l++b) x:=by
 obtain⟨l1,l2,rfl,p1,p2⟩:=h
 refine⟨a++l1,l2++b,by simp,λy hy=>?_,λy hy=>?_⟩
 all_goals grind
def Vw(r:List Int):Int:=r.getD (r.length-1) 0
theorem Jp(r:List Int)(b:Int):Vw (r++[b])=b:=by
 simp_all [Vw]
section
variable (st:Int->Int->Bool) (w:Int->Int->Int) (nodes:Nat) (to:Int)
def Zs:Nat->List Int->List (List Int)
 |0,r=>if Vw r=to then [r]else []
 |f+1,r=>if Vw r=to then [r]else(List.range nodes).flatMap λb:Nat=>if st (Vw r) b=true/\(b:Int)∉r then Zs f (r++[(b:Int)])else []
def keyG:List Int->Int
 |[]=>0
 |[_]=>0
 |u::v::r=>w u v+keyG (v::r)
inductive PathG:Int->List Int->Prop
 |done:PathG to []
 |step {u v:Int}{r:List Int}(hu:u≠to) (hs:st u v=true) (hv:0<=v/\v<nodes) (h:PathG v r):PathG u (v::r)
end
theorem Ov{w:Int->Int->Int}:∀(r:List Int) (v:Int) (q:List Int),keyG w (r++v::q)=keyG w (r++[v])+keyG w (v::q)
 |[],v,q=>by simp[keyG]
 |[u],v,q=>by simp[keyG]
 |u::x::r,v,q=>by
  have:=Ov (w:=w) (x::r) v q
  grind [keyG]
theorem Ya1{w:Int->Int->Int}{r q:List Int}(hr:r≠[]):keyG w (r++q)=keyG w r+keyG w (Vw r::q):=by
 rcases List.eq_nil_or_concat r with rfl|⟨r',v,rfl⟩
 all_goals grind [Jp,Ov]
section
variable {st:Int->Int->Bool}{w:Int->Int->Int}{nodes:Nat}{to:Int}
theorem OQ:∀(f:Nat) (r q:List Int),q∈Zs st nodes to f r->∃p,q=r++p/\PathG st nodes to (Vw r) p
 |0,r,q,h=>by
  unfold Zs at h
  split at h
  ·rename_i he
   obtain rfl:=TU.1 h
   exact⟨[],by simp,he▸.done⟩
  simp_all
 |f+1,r,q,h=>by
  unfold Zs at h
  split at h
  ·rename_i he
   obtain rfl:=TU.1 h
   exact⟨[],by simp,he▸.done⟩
  ·rename_i he
   obtain⟨b,hb,h⟩:=RP.1 h
   split at h
   ·rename_i hc
    obtain⟨p,rfl,hp⟩:=OQ f _ q h
    rw[Jp]at hp
    exact⟨(b:Int)::p,by simp,.step he hc.1 ⟨by omega,by simp_all⟩ hp⟩
   simp_all
theorem QT:∀(f:Nat) (r q:List Int),r.Nodup->q∈Zs st nodes to f r->q.Nodup
 |0,r,q,hn,h=>by
  grind [Zs]
 |f+1,r,q,hn,h=>by
  unfold Zs at h
  split at h
  ·simp_all
  ·obtain⟨b,hb,h⟩:=RP.1 h
   split at h
   ·refine QT f _ q ?_ h
    grind
   simp_all
theorem Yen:∀(f:Nat) (r p:List Int),PathG st nodes to (Vw r) p->(r++p).Nodup->p.length<=f->r++p∈Zs st nodes to f r
 |f,r,[],h,_,_=>by
  generalize hl:Vw r=u at h
  cases h
  cases f<;>(unfold Zs;rw[Tm hl];simp)
 |0,r,v::p,_,_,h=>by simp at h
 |f+1,r,v::p,h,hn,hf=>by
  generalize hl:Vw r=u at h
  cases h with
  |step hu hs hv h=>
   unfold Zs
   rw[hl,Td hu]
   refine RP.2 ⟨v.toNat,Rf.2 (by omega),?_⟩
   have hvv:((v.toNat:Nat):Int)=v:=by omega
   have hnr:v∉r:=λhm=>by
    have:=(Rn.1 hn).2.2 v hm v TB
    exact this rfl
   rw[hvv,Tm ⟨hs,hnr⟩]
   have:=Yen f (r++[v]) p (by rw[Jp];exact h) (by rw[T0];exact hn) (by simp only[TG]at hf;omega)
   rw[T0]at this
   exact this
variable {u:Int}{p far:List Int}
theorem Yi0(h:PathG st nodes to u p):∀x∈p,0<=x/\x<nodes:=by
 induction h with
 |done=>exactλx hx=>absurd hx RG
 |step _ _ hv _ ih=>
  intro x hx
  rcases TI.1 hx with rfl|hx
  ·exact hv
  ·exact ih x hx
structure Net3(st:Int->Int->Bool)(w:Int->Int->Int)(l:List Lk):Prop where
 iff:∀u v c:Int,(u,v,c)∈l↔st u v=true/\c=w u v
 pos:∀u v:Int,st u v=true->1<=w u v/\w u v<=1000
theorem Yqx(hw:∀u v:Int,st u v=true->1<=w u v/\w u v<=1000)(h:PathG st nodes to u p):0<=keyG w (u::p)/\keyG w (u::p)<=1000*(p.length:Int):=by
 induction h with
 |done=>simp[keyG]
 |step hu hs hv h ih=>
  have:=hw _ _ hs
  simp only[keyG,TG]
  omega
variable {l:List Lk}
theorem YdO(hnet:Net3 st w l)(hd:Dist nodes l to far)(h:PathG st nodes to u p)(hp:p.length<=100000):Yh far u<=keyG w (u::p)/\Yh far u<YR:=by
 induction h with
 |done=>rw[hd.to0];exact⟨Ry _,by decide⟩
 |@step u v r hu hs hv h ih=>
  have hn:=Yap
  obtain⟨h1,h2⟩:=ih (by simp only[TG]at hp;omega)
  have h3:=hd.least (u,v,w u v) ((hnet.iff _ _ _).2 ⟨hs,rfl⟩) h2
  have h4:=hnet.pos _ _ hs
  obtain⟨h5,h6⟩:=Yqx hnet.pos h
  simp only[TG]at hp
  simp only[keyG]at h3⊢
  omega
theorem YhS{far:List Int}{at_:Int}:∀(l:List Lk) (b0:Int),(∀a∈l,0<=a.2.1)->(0<=b0->l.foldl (Xd far at_) b0<=b0)/\∀a∈l,a.1=at_->a.2.2+Yh far a.2.1=Yh far at_->l.foldl (Xd far at_) b0<=a.2.1
 |[],b0,_=>⟨λ_=>Ry _,λa ha=>by cases ha⟩
 |a::m,b0,hp=>by
  obtain⟨h1,h2⟩:=YhS (far:=far) (at_:=at_) m (Xd far at_ b0 a) λc hc=>hp c (Tz _ hc)
  rw[R7]
  have ha0:=hp a TB
  refine⟨λhb=>?_,λc hc he ht=>?_⟩
  ·have h5:0<=Xd far at_ b0 a/\Xd far at_ b0 a<=b0:=by
    unfold Xd
    split
    ·rename_i h;omega
    ·omega
   have:=h1 h5.1
   omega
  ·rcases TI.1 hc with rfl|hc
   ·have h5:0<=Xd far at_ b0 c/\Xd far at_ b0 c<=c.2.1:=by
     unfold Xd
     by_cases h6:b0<0\/c.2.1<b0
     ·rw[Tm ⟨he,ht,h6⟩];omega
     ·rw[Td (λh=>h6 h.2.2)];omega
    have:=h1 h5.1
    omega
   ·exact h2 c hc he ht
theorem Yi8{nodes b:Nat}(h:b<nodes):∃l2,List.range nodes=List.range b++b::l2:=by
 refine⟨(List.range nodes).drop (b+1),?_⟩
 apply Na
 intro i
 rcases SI i b with hi|hi|hi
 ·rw[Sr (by simpa using hi),List.getElem?_range (by omega),List.getElem?_range hi]
 ·subst hi
  rw[RB (by simp),NN,Ni,List.getElem?_range (by omega)];rfl
 ·rw[RB (by simp;omega),NN]
  obtain⟨j,hj⟩:∃j,i-b=j+1:=⟨i-b-1,by omega⟩
  rw[hj,SV,RX]
  congr 1
  omega
theorem YoF(hnet:Net3 st w l)(hok:ArcsOk nodes l)(hd:Dist nodes l to far)(hto:0<=to/\to<nodes)(_hst:∀u v,st u v=true->0<=v/\v<nodes)(hnn:nodes<=40):∀(k f:Nat) (r:List Int) (v:Int),r≠[]->r.Nodup->Vw r=v->0<=v->v<nodes->Yh far v<YR->(Yh far v).toNat<=k->(∀x∈r,(0<=x/\x<nodes)/\Yh far v<=Yh far x)->nodes<=r.length+f->
 FirstMin (keyG w) (Zs st nodes to f r) (r++Y5 l far to k v)/\keyG w (r++Y5 l far to k v)=keyG w r+Yh far v:=by
 intro k
 induction k with
 |zero=>
  intro f r v hr hn hl h0 h1 hlt hk hx hf
  have hvt:v=to:=Nq λh=>by
   have:=UV hok hd h0 h1 h hlt
   omega
  have hfo:Y5 l far to 0 v=[]:=rfl
  rw[hfo,Rx]
  subst hvt
  refine⟨?_,by rw[hd.to0];omega⟩
  cases f<;>(unfold Zs;rw[Tm hl];exact .one _ _)
 |succ k ih=>
  intro f r v hr hn hl h0 h1 hlt hk hx hf
  by_cases hvt:v=to
  ·have hfo:Y5 l far to (k+1) v=[]:=by unfold Y5;rw[Tm hvt]
   rw[hfo,Rx]
   subst hvt
   refine⟨?_,by rw[hd.to0];omega⟩
   cases f<;>(unfold Zs;rw[Tm hl];exact .one _ _)
  ·obtain⟨b1,b2,b3,a,ha,ha1,ha2,ha3⟩:=UV hok hd h0 h1 hvt hlt
   have hbm:=(YhS (far:=far) (at_:=v) l (-1) λa ha=>(hok a ha).2.1.1).2
   obtain⟨b,hb⟩:∃b,Xp l far v=b:=⟨_,rfl⟩
   have hfo:Y5 l far to (k+1) v=b::Y5 l far to k b:=by
    rw[show Y5 l far to (k+1) v=if v=to then []else Xp l far v::Y5 l far to k (Xp l far v) from rfl,Td hvt,hb]
   rw[show l.foldl (Xd far v) (-1)=Xp l far v from rfl,hb]at hbm
   rw[hb]at b1 b2 b3 ha2 ha3
   obtain⟨a1,a2,a3⟩:=a
   simp only at ha1 ha2 ha3
   subst ha1 ha2
   obtain⟨hs,hc⟩:=(hnet.iff _ _ _).1 ha
   have hbr:a2∉r:=λhm=>by have:=(hx a2 hm).2;omega
   have hnb:(r++[a2]).Nodup:=Rn.2 ⟨hn,by simp,λx hx2 y hy=>by
    obtain rfl:=TU.1 hy
    exactλe=>hbr (e▸hx2)⟩
   have hlen:(r++[a2]).length<=nodes:=nodup_len nodes _ hnb λx hx2=>by
    rcases TJ.1 hx2 with h|h
    ·exact(hx x h).1
    ·obtain rfl:=TU.1 h;exact b1
   rw[Tq,TV]at hlen
   cases f with
   |zero=>omega
   |succ f=>
    obtain⟨i1,i2⟩:=ih f (r++[a2]) a2 (by simp) hnb (Jp _ _) b1.1 b1.2 (by omega) (by omega) (λx hx2=>by
     rcases TJ.1 hx2 with h|h
     ·have:=hx x h;exact⟨this.1,by omega⟩
     ·obtain rfl:=TU.1 h;exact⟨b1,Ry _⟩) (by rw[Tq,TV];omega)
    have hkr:∀x:Int,keyG w (r++[x])=keyG w r+w a1 x:=λx=>by
     rw[Ya1 hr,hl];simp[keyG]
    rw[hfo]
    have e0:r++a2::Y5 l far to k a2=r++[a2]++Y5 l far to k a2:=by simp
    rw[e0]
    have hkey:keyG w (r++[a2]++Y5 l far to k a2)=keyG w r+Yh far a1:=by rw[i2,hkr];omega
    refine⟨?_,hkey⟩
    --what other nodes give
    have hoth:∀(c:Nat) (q:List Int),c<nodes->q∈(if st a1 c=true/\(c:Int)∉r then Zs st nodes to f (r++[(c:Int)])else [])->keyG w r+Yh far a1<=keyG w q/\((c:Int)<a2->keyG w r+Yh far a1<keyG w q):=by
     intro c q hc hq
     split at hq
     ·rename_i hsc
      obtain⟨p,rfl,hp⟩:=OQ f _ q hq
      have hnq:=QT f _ _ (by
       refine Rn.2 ⟨hn,by simp,λx hx2 y hy=>?_⟩
       obtain rfl:=TU.1 hy
       exactλe=>hsc.2 (e▸hx2)) hq
      rw[Jp]at hp
      have hpl:p.length<=100000:=by
       have hm:∀x∈r++[(c:Int)]++p,0<=x/\x<nodes:=λx hx2=>by
        rcases TJ.1 hx2 with h|h
        ·rcases TJ.1 h with h|h
         ·exact(hx x h).1
         ·obtain rfl:=TU.1 h;omega
        ·exact Yi0 hp x h
       have:=nodup_len nodes _ hnq hm
       rw[Tq]at this
       omega
      obtain⟨f1,f2⟩:=YdO hnet hd hp hpl
      have hlst:=hd.least (a1,(c:Int),w a1 c) ((hnet.iff _ _ _).2 ⟨hsc.1,rfl⟩) f2
      simp only at hlst
      have e1:keyG w (r++[(c:Int)]++p)=keyG w r+w a1 c+keyG w ((c:Int)::p):=by
       rw[Ya1 (by simp),Jp,hkr]
      rw[e1]
      refine⟨by omega,λhlt2=>?_⟩
      by_cases htt:w a1 c+Yh far c=Yh far a1
      ·have:=hbm (a1,(c:Int),w a1 c) ((hnet.iff _ _ _).2 ⟨hsc.1,rfl⟩) rfl htt
       simp only at this
       omega
      ·omega
     ·cases hq
    unfold Zs
    rw[hl,Td hvt]
    obtain⟨l2,hsp⟩:=Yi8 (nodes:=nodes) (b:=a2.toNat) (by omega)
    have hbb:((a2.toNat:Nat):Int)=a2:=by omega
    have hmem:∀c∈l2,c<nodes:=λc hc=>Rf.1 (by rw[hsp];exact TS _ (Tz _ hc))
    rw[hsp,Rw,TT,hbb,Tm ⟨hs,hbr⟩,<-T0]
    refine i1.mid (λq hq=>?_) (λq hq=>?_)
    ·obtain⟨c,hc,hq⟩:=RP.1 hq
     have hc:=Rf.1 hc
     rw[hkey]
     exact(hoth c q (by omega) hq).2 (by omega)
    ·obtain⟨c,hc,hq⟩:=RP.1 hq
     rw[hkey]
     exact(hoth c q (hmem c hc) hq).1
end
end Go.Rt
