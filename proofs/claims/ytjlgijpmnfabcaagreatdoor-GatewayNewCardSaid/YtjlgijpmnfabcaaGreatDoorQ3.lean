/- Lemmas. -/
import Derived.Shelf.Strings.Builder1
import Derived.Shelf.Small.Bits
import Derived.Shelf.Small.Wraps
import Derived.Shelf.Strings.BuilderF
import Derived.Shelf.Strings.BuilderK
import Derived.Shelf.Strconv.Itoa0
import Derived.Shelf.Strconv.Itoa1
import Derived.Shelf.LaysM
import Derived.Shelf.Strconv.Itoa2
import Derived.Shelf.Strconv.Itoa3
import Derived.Shelf.Strings.Prefix
import Derived.Shelf.Bits.Mul64
import Derived.Shelf.Strings.BuilderCap
import Derived.Shelf.Slices.Turned
import Derived.Shelf.Slices.Equal
import Derived.Ground.Names2Prog
import Derived.Shelf.Slices.Clone
import Derived.Shelf.Slices.SearchI
import Derived.Shelf.Slices.Empties2
import Derived.Test.YtjlgijpmnfabcaaGreatDoorProg
import Derived.Lib.Split
import Derived.Lib.ItoaNum
import Derived.Lib.AtoiAll
import Derived.Lib.AtoiTie
import Derived.ProofKit
import Derived.Below
import Derived.ChangeSame
import Derived.Carry
import Derived.Shelf.SlGeneric
import Derived.Shelf.SlSortCmp.WholeK
import Derived.Ground.SlsfProg
import Derived.Test.YtjlgijpmnfabcaaGreatDoorQ1
set_option maxRecDepth 100000
set_option maxHeartbeats 8000000
set_option linter.all false
namespace Go.Nw
abbrev Lk:=Int×Int×Int
structure Net where
 nodes:Int
 power:List (List Int)
 noise:Int
 thr:Int
 links:List Lk
 margin:List Int
def cmpI(x y:Int):Int:=if x<y then -1 else if y<x then 1 else 0
def cmpL(a b:Lk):Int:=if cmpI a.1 b.1=0 then cmpI a.2.1 b.2.1 else cmpI a.1 b.1
def Zx(p:Int):Bool:=decide (p<0\/68719476736<p)
def wide(k:Int)(r:List Int):Bool:=decide ((r.length:Int)≠k)
def JP(n:Net):Int:=
 if(n.power.length:Int)≠n.nodes then 1 else if n.power.any (wide n.nodes)=true then 1 else if n.power.any (λr=>r.any Zx)=true then 2 else 0
def lnk(n:Net)(i:Nat):Lk:=n.links.getD i (0,0,0)
def mar(n:Net)(i:Nat):Int:=n.margin.getD i 0
def powr(n:Net)(a b:Int):Int:=(n.power.getD a.toNat []).getD b.toNat 0
def Wp(n:Net)(i:Nat):Int:=
 if¬(0<=(lnk n i).1/\(lnk n i).1<n.nodes)\/¬(0<=(lnk n i).2.1/\(lnk n i).2.1<n.nodes)\/(lnk n i).1=(lnk n i).2.1\/(lnk n i).2.2<0\/7<(lnk n i).2.2 then 2
 else if 0<i/\0<=cmpL (lnk n (i-1)) (lnk n i)then 5
 else if mar n i<0\/powr n (lnk n i).1 (lnk n i).2.1<mar n i then 2 else 0
def JI(n:Net):Nat->Nat->Int
 |0,_=>0
 |r+1,i=>if Wp n i=0 then JI n r (i+1)else Wp n i
def Ym(n:Net):Int:=
 if n.nodes<2\/32<n.nodes then 2 else if JP n≠0 then JP n
 else if n.noise<0\/68719476736<n.noise\/n.thr<1000\/100000<n.thr then 2
 else if 128<n.links.length then 8 else if n.margin.length≠n.links.length then 11 else JI n n.links.length 0
def Yq{α:Type}(p:α->Bool):List α->Int->Int
 |[],_=> -1
 |a::l,k=>if p a then k else Yq p l (k+1)
theorem VY{α:Type}(p:α->Bool):∀(l:List α) (k:Int),0<=k->(0<=Yq p l k↔l.any p=true)
 |[],k,_=>by simp[Yq]
 |a::l,k,h=>by
  unfold Yq
  by_cases hp:p a=true
  ·simp_all
  ·rw[Tf hp,VY p l (k+1) (by omega)]
   simp[hp]
theorem ZX{α:Type}(p:α->Bool)(l:List α){k:Nat}{a:α}(h:l[k]? =some a):Yq p (l.drop k) k=if p a then(k:Int)else Yq p (l.drop (k+1)) (k+1):=by
 grind [T8,Yq]
variable {i:Nat}
theorem YhT(n:Net)(h:i<n.links.length)(h0:Wp n i=0):JI n (n.links.length-i) i=JI n (n.links.length-(i+1)) (i+1):=by
 rw[show n.links.length-i=n.links.length-(i+1)+1 by omega,JI,Tm h0]
theorem YhU(n:Net)(h:i<n.links.length)(h0:Wp n i≠0):JI n (n.links.length-i) i=Wp n i:=by
 rw[show n.links.length-i=n.links.length-(i+1)+1 by omega,JI,Tf h0]
theorem Ydm{n:Net}(h:JP n=0):(n.power.length:Int)=n.nodes/\(∀r∈n.power,(r.length:Int)=n.nodes)/\∀r∈n.power,∀p∈r,0<=p/\p<=68719476736:=by
 unfold JP at h
 by_cases h1:(n.power.length:Int)≠n.nodes
 ·omega
 by_cases h2:n.power.any (wide n.nodes)=true
 ·simp_all
 by_cases h3:n.power.any (λr=>r.any Zx)=true
 ·simp_all
 refine⟨by omega,λr hr=>?_,λr hr p hp=>?_⟩
 ·by_cases hw:(r.length:Int)=n.nodes
  ·exact hw
  ·exact absurd (TZ.2 ⟨r,hr,by simp[wide,hw]⟩) h2
 ·by_cases ho:Zx p=true
  ·grind
  grind [Zx]
variable {x y a b:Int}
theorem Yn6:cmpI x y<0↔x<y:=by grind [cmpI]
theorem cmpI_zero:cmpI x y=0↔x=y:=by grind [cmpI]
theorem Vu{a b:Lk}:cmpL a b<0↔a.1<b.1\/(a.1=b.1/\a.2.1<b.2.1):=by
 grind [Yn6,cmpI_zero,cmpL]
theorem Uj{a b:Lk}:cmpL a b=0↔a.1=b.1/\a.2.1=b.2.1:=by
 grind [cmpI_zero,cmpL]
structure OkL(n:Net)(i:Nat):Prop where
 f0:0<=(lnk n i).1
 f1:(lnk n i).1<n.nodes
 t0:0<=(lnk n i).2.1
 t1:(lnk n i).2.1<n.nodes
 ne:(lnk n i).1≠(lnk n i).2.1
 l0:0<=(lnk n i).2.2
 l1:(lnk n i).2.2<=7
 ord:0<i->cmpL (lnk n (i-1)) (lnk n i)<0
 m0:0<=mar n i
 m1:mar n i<=powr n (lnk n i).1 (lnk n i).2.1
variable {n:Net}{i:Nat}
theorem YqY(h:Wp n i=0):OkL n i:=by
 unfold Wp at h
 by_cases h1:¬(0<=(lnk n i).1/\(lnk n i).1<n.nodes)\/¬(0<=(lnk n i).2.1/\(lnk n i).2.1<n.nodes)\/(lnk n i).1=(lnk n i).2.1\/(lnk n i).2.2<0\/7<(lnk n i).2.2
 ·omega
 by_cases h2:0<i/\0<=cmpL (lnk n (i-1)) (lnk n i)
 ·omega
 by_cases h3:mar n i<0\/powr n (lnk n i).1 (lnk n i).2.1<mar n i
 ·omega
 constructor<;>omega
structure Ok(n:Net):Prop where
 n0:2<=n.nodes
 n1:n.nodes<=32
 p0:(n.power.length:Int)=n.nodes
 p1:∀r∈n.power,(r.length:Int)=n.nodes
 p2:∀r∈n.power,∀p∈r,0<=p/\p<=68719476736
 z0:0<=n.noise
 z1:n.noise<=68719476736
 t0:1000<=n.thr
 t1:n.thr<=100000
 k0:n.links.length<=128
 k1:n.margin.length=n.links.length
 lk:∀i,i<n.links.length->OkL n i
theorem YhW{n:Net}:∀(r i:Nat),JI n r i=0->∀j,i<=j->j<i+r->OkL n j
 |0,_,_,j,h1,h2=>by omega
 |r+1,i,h,j,h1,h2=>by
  unfold JI at h
  by_cases h0:Wp n i=0
  ·rw[Tm h0]at h
   by_cases e:i=j
   ·grind [YqY]
   ·exact YhW r (i+1) h j (by omega) (by omega)
  omega
theorem YN(h:Ym n=0):Ok n:=by
 unfold Ym at h
 by_cases h1:n.nodes<2\/32<n.nodes
 ·omega
 rw[Tf h1]at h
 by_cases h2:JP n≠0
 ·omega
 rw[Tf h2]at h
 by_cases h3:n.noise<0\/68719476736<n.noise\/n.thr<1000\/100000<n.thr
 ·omega
 rw[Tf h3]at h
 by_cases h4:128<n.links.length
 ·omega
 rw[Tf h4]at h
 by_cases h5:n.margin.length≠n.links.length
 ·omega
 rw[Tf h5]at h
 obtain⟨t1,t2,t3⟩:=Ydm (Classical.not_not.1 h2)
 exact⟨by omega,by omega,t1,t2,t3,by omega,by omega,by omega,by omega,by omega,Classical.not_not.1 h5,λi hi=>YhW _ _ h i (Tc _) (by omega)⟩
theorem Ydk(h:Ok n):∀(i j:Nat),i<j->j<n.links.length->cmpL (lnk n i) (lnk n j)<0:=by
 intro i j
 induction j with
 |zero=>omega
 |succ j ih=>
  intro h1 h2
  have h3:=(h.lk (j+1) h2).ord (by omega)
  rw[SR]at h3
  by_cases e:i=j
  ·simp_all
  ·rw[Vu]at*
   omega
def Ur(a b:Int)(l:Lk):Bool:=decide (l.1=a)&&decide (l.2.1=b)
def Yu(n:Net)(a b:Int):Int:=Yq (Ur a b) n.links 0
theorem QA{α:Type}{p:α->Bool}:∀{l:List α}{k:Int},(∀a∈l,p a=false)->Yq p l k= -1
 |[],_,_=>rfl
 |a::l,k,h=>by
  rw[Yq,h a TM,Tf (by simp)]
  exact QA λb hb=>h b (TP _ hb)
theorem YcH{α:Type}{p:α->Bool}:∀{l:List α}{k:Int}{i:Nat}{a:α},l[i]? =some a->p a=true->(∀j b,j<i->l[j]? =some b->p b=false)->Yq p l k=k+i
 |[],_,_,_,h,_,_=>by simp at h
 |b::l,k,0,a,h,hp,_=>by
  simp_all [Yq]
 |b::l,k,i+1,a,h,hp,hn=>by
  have hb:=hn 0 b (by omega) (by simp)
  rw[Yq,Tf (by simp_all),YcH (i:=i) (a:=a) (by simp_all) hp λj c hj hc=>hn (j+1) c (by omega) (by simp_all)]
  omega
theorem O5{α:Type}{p:α->Bool}:∀{l:List α}{k:Int},0<=k->Yq p l k= -1\/(k<=Yq p l k/\Yq p l k<k+l.length)
 |[],_,_=>.inl rfl
 |a::l,k,h=>by
  unfold Yq
  by_cases hp:p a=true
  ·grind
  ·rcases @O5 _ p l (k+1) (by omega)with h1|h1
   all_goals grind
theorem QB{α:Type}{p:α->Bool}:∀{l:List α}{k:Int}{i:Nat},0<=k->Yq p l k=k+i->∃a,l[i]? =some a/\p a=true
 |[],k,i,h0,h=>by grind [Yq]
 |a::l,k,i,h0,h=>by
  unfold Yq at h
  by_cases hp:p a=true
  ·grind
  ·cases i with
   |zero=>
    grind [O5]
   |succ i=>
    obtain⟨b,h1,h2⟩:=QB (p:=p) (i:=i) (l:=l) (k:=k+1) (by omega) (by omega)
    simp_all
theorem Jn{l:Lk}(h:n.links[i]? =some l):lnk n i=l:=by grind [lnk]
theorem Om{z:Int}(h:n.margin[i]? =some z):mar n i=z:=by grind [mar]
theorem WP(n:Net)(h:i<n.links.length):n.links[i]? =some (lnk n i):=by grind [lnk]
theorem Yhq(h:Ok n){c:Int}{k:Nat}(hk:k<=n.links.length)(h1:∀j,j<k->cmpL (lnk n j) (a,b,c)<0)(h2:∀j,k<=j->j<n.links.length->0<=cmpL (lnk n j) (a,b,c)):
 Yu n a b=if k<n.links.length/\cmpL (lnk n k) (a,b,c)=0 then(k:Int)else -1:=by
 unfold Yu
 have hlow:∀j l,j<k->n.links[j]? =some l->Ur a b l=false:=by grind [Jn,Vu,Ur]
 by_cases hc:k<n.links.length/\cmpL (lnk n k) (a,b,c)=0
 ·rw[Tm hc,YcH (WP n hc.1) (by grind [Uj,Ur]) hlow]
  omega
 ·rw[Tf hc]
  refine QA λl hl=>?_
  obtain⟨j,hj,rfl⟩:=List.mem_iff_getElem.1 hl
  by_cases hjk:j<k
  ·exact hlow j _ hjk (Ta hj)
  ·have e:lnk n j=n.links[j]:=Jn (Ta hj)
   have h3:cmpL (lnk n j) (a,b,c)≠0:=by
    by_cases ejk:j=k
    ·grind
    ·intro e0
     have h4:=Ydk h k j (by omega) hj
     have h5:=h2 k (TQ _) (by omega)
     rw[Uj]at e0
     have h6:¬cmpL (lnk n k) (a,b,c)<0:=by omega
     simp_all [Vu]
   simp_all [Uj,Ur]
def XJ(n:Net)(s d:Int):Bool:=decide (n.thr*(n.noise+d)<=s*1000)
def Z3(n:Net)(i:Nat):Bool:=decide (0<=Yu n (lnk n i).2.1 (lnk n i).1)&&(XJ n (mar n i) 0&&XJ n (mar n (Yu n (lnk n i).2.1 (lnk n i).1).toNat) 0)
theorem YqJ(h:Ok n){d:Int}(h0:0<=d)(h1:d<=8796093022208): -9223372036854775808<=n.thr*(n.noise+d)/\n.thr*(n.noise+d)<=9223372036854775807:=by
 have h2:=h.t0;have h3:=h.t1;have h4:=h.z0;have h5:=h.z1
 have h6:0<=n.thr*(n.noise+d):=Int.mul_nonneg (by omega) (by omega)
 have h7:n.thr*(n.noise+d)<=100000*(n.noise+d):=Sv h3 (by omega)
 omega
theorem O6(h:Ok n)(hi:i<n.links.length):0<=mar n i/\mar n i<=68719476736:=by
 have hl:=h.lk i hi
 refine⟨hl.m0,Int.le_trans hl.m1 ?_⟩
 unfold powr
 have e1:(lnk n i).1.toNat<n.power.length:=by have:=h.p0;have:=hl.f1;have:=hl.f0;omega
 rw[show n.power.getD (lnk n i).1.toNat []=n.power[(lnk n i).1.toNat] by simp_all]
 have hm:=Na e1
 have e2:(lnk n i).2.1.toNat<(n.power[(lnk n i).1.toNat]).length:=by have:=h.p1 _ hm;have:=hl.t1;have:=hl.t0;omega
 rw[show(n.power[(lnk n i).1.toNat]).getD (lnk n i).2.1.toNat 0=(n.power[(lnk n i).1.toNat])[(lnk n i).2.1.toNat] by simp_all]
 exact(h.p2 _ hm _ (Na e2)).2
theorem XM(h:0<=Yu n a b):(Yu n a b).toNat<n.links.length:=by
 rcases @O5 _ (Ur a b) n.links 0 (by omega)with h1|h1<;>unfold Yu at h⊢<;>omega
theorem WJ(h:0<=Yu n a b):(lnk n (Yu n a b).toNat).1=a/\(lnk n (Yu n a b).toNat).2.1=b:=by
 obtain⟨l,h1,h2⟩:=@QB _ (Ur a b) n.links 0 (Yu n a b).toNat (by omega) (by grind [Yu])
 grind [Jn,Ur]
end Go.Nw
namespace Go.Proofs.YtjlgijpmnfabcaaGreatDoor
def XR:List Int->List Int->Bool
 |[],b=>!b.isEmpty
 |_::_,[]=>false
 |a::l,b::m=>if a≠b then decide (a<b)else XR l m
theorem YcN{a b:List Int}{i:Nat}{x y:Int}(hx:a[i]? =some x)(hy:b[i]? =some y):XR (a.drop i) (b.drop i)=if x≠y then decide (x<y)else XR (a.drop (i+1)) (b.drop (i+1)):=by
 obtain⟨h1,rfl⟩:=Tn.1 hx
 obtain⟨h2,rfl⟩:=Tn.1 hy
 rw[T8 h1,T8 h2]
 rfl
theorem YoQ:∀{a b:List Int},XR a b=false->XR b a=false->a=b
 |[],[],_,_=>rfl
 |[],b::m,h,_=>by simp[XR]at h
 |a::l,[],_,h=>by simp[XR]at h
 |a::l,b::m,h1,h2=>by
  unfold XR at h1 h2
  by_cases e:a=b
  ·subst e
   rw[Tf (λh=>h rfl)]at h1 h2
   rw[YoQ h1 h2]
  grind
theorem YcO:∀a:List Int,XR a a=false
 |[]=>rfl
 |a::l=>by unfold XR;rw[Tf (λh=>h rfl)];exact YcO l
open Go.Nw
abbrev Cel:=Int×Int×Int×Int×Int
def nums(c:Cel):List Int:=[c.1,c.2.1,c.2.2.1,c.2.2.2.1,c.2.2.2.2]
def Xn(a b:Cel):Bool:=XR (nums a) (nums b)
variable {a b c:Cel}
theorem Yo1(h:nums a=nums b):a=b:=by
 grind [nums]
theorem YeZ:∀{a b c:List Int},XR a b=true->XR b c=true->XR a c=true
 |_,_,[],_,h=>by cases‹List Int›<;>cases h
 |[],_,_::_,_,_=>rfl
 |_::_,[],_::_,h,_=>by cases h
 |x::a,y::b,z::c,h1,h2=>by
  unfold XR at h1 h2⊢
  by_cases e1:x=y
  ·subst e1
   rw[Tf (λh=>h rfl)]at h1
   by_cases e2:x=z
   ·subst e2
    rw[Tf (λh=>h rfl)]at h2⊢
    exact YeZ h1 h2
   simp_all
  grind
theorem Ui(h1:Xn a b=true)(h2:Xn b c=true):Xn a c=true:=YeZ h1 h2
theorem Yb4(a:Cel):Xn a a=false:=YcO _
theorem YkF(h1:Xn a b=false)(h2:Xn b a=false):a=b:=Yo1 (YoQ h1 h2)
def insE(x n:Int):Bool:=decide (0<=x/\x<n)
structure Sch where
 len:Int
 off:Int
 cells:List Cel
def XE(s:Sch)(c:Cel):Bool:=insE c.1 s.len&&insE c.2.1 s.off
def XC(s:Sch)(c:Cel):Bool:=XE s c&&insE c.2.2.1 32&&insE c.2.2.2.1 32&&insE c.2.2.2.2 256
def XU(s:Sch):Bool:=decide (1<=s.len/\s.len<=512/\1<=s.off/\s.off<=16)
def Yn(s:Sch)(i:Nat):Cel:=s.cells.getD i (0,0,0,0,0)
def Zg(s:Sch)(i:Nat):Bool:=XC s (Yn s i)&&(decide (i=0)||Xn (Yn s (i-1)) (Yn s i))
def Xw(s:Sch):Bool:=XU s&&decide (s.cells.length<=512)&&(List.range s.cells.length).all (Zg s)
variable {p:Nat->Bool}{k i:Nat}
theorem Wx:(List.range (k+1)).all p=((List.range k).all p&&p k):=by
 grind
theorem YfK(hi:i<k)(h:p i=false):(List.range k).all p=false:=by
 grind
theorem YfJ(h:(List.range k).all p=true)(hi:i<k):p i=true:=by simp_all
variable {s:Sch}
theorem X7(h:s.cells[i]? =some c):Yn s i=c:=by
 grind [Yn]
theorem YS(h:i<s.cells.length):s.cells[i]? =some (Yn s i):=by
 grind [Yn]
theorem Jb(h:i<s.cells.length):Yn s i∈s.cells:=Td (YS h)
structure Frm(s:Sch):Prop where
 sized:XU s=true
 few:s.cells.length<=512
 formed:∀c∈s.cells,XC s c=true
 ord:s.cells.Pairwise λa b=>Xn a b=true
theorem QP{α:Type}{lt:α->α->Bool}(htr:∀{a b c},lt a b=true->lt b c=true->lt a c=true){l:List α}(h:∀i,∀a b,l[i]? =some a->l[i+1]? =some b->lt a b=true):l.Pairwise λa b=>lt a b=true:=by
 induction l with
 |nil=>simp_all
 |cons x l ih=>
  have h1:=ih λi a b ha hb=>h (i+1) a b (by simp_all) (by simp_all)
  refine .cons (λy hy=>?_) h1
  cases l with
  |nil=>cases hy
  |cons z l=>
   have hz:=h 0 x z rfl rfl
   grind [List.pairwise_cons]
theorem Za:Xw s=true↔Frm s:=by
 unfold Xw
 simp only[Tt,To]
 constructor
 ·rintro⟨⟨h1,h2⟩,h3⟩
  have hc:∀i,i<s.cells.length->Zg s i=true:=by simp_all
  refine⟨h1,h2,λc hc2=>?_,?_⟩
  ·obtain⟨i,hi⟩:=TO.1 hc2
   have:=hc i (Tn.1 hi).1
   simp_all [Zg,X7]
  ·refine QP (lt:=Xn) (λh1 h2=>Ui h1 h2) λi a b ha hb=>?_
   have:=hc (i+1) (Tn.1 hb).1
   simp_all [Zg,X7]
 ·intro h
  refine⟨⟨h.sized,h.few⟩,Rf.2 λi hi=>?_⟩
  have hi:=Ro.1 hi
  unfold Zg
  rw[h.formed _ (Jb hi),RX,RU,To]
  rcases RE i with h0|h0
  ·omega
  ·obtain⟨h1,h2⟩:=Tn.1 (YS (s:=s) (i:=i-1) (by omega))
   obtain⟨h3,h4⟩:=Tn.1 (YS (s:=s) hi)
   grind [TT,Go.Proofs.YtjlgijpmnfabcaaGreatDoor.Frm.ord]
abbrev Flw:=Int×Int×Int×Int×Int×Int
def Xl(nodes:Int)(f:Flw):Int:=
 if f.1<0\/255<f.1\/insE f.2.1 nodes=false\/insE f.2.2.1 nodes=false then 2
 else if f.2.2.2.1<1\/512<f.2.2.2.1\/f.2.2.2.2.1<0\/f.2.2.2.1<=f.2.2.2.2.1\/f.2.2.2.2.2<1\/f.2.2.2.1<f.2.2.2.2.2 then 2
 else if f.2.1=f.2.2.1 then 1 else 0
def Y3(l:List Flw)(i:Nat):Flw:=l.getD i (0,0,0,0,0,0)
def YC(f:Nat->Int):Nat->Nat->Int×Int
 |0,_=>(-1,0)
 |r+1,i=>if f i=0 then YC f r (i+1)else((i:Int),f i)
theorem YF{f:Nat->Int}:∀{r i:Nat},(YC f r i).2=0↔∀k,i<=k->k<i+r->f k=0
 |0,i=>by grind [YC]
 |r+1,i=>by
  unfold YC
  split
  ·rw[YF]
   grind
  grind
theorem Ycv{f:Nat->Int}:∀{r i:Nat},(YC f r i).2=0->(YC f r i).1= -1
 |0,i,_=>rfl
 |r+1,i,h=>by
  unfold YC at h⊢
  split at h
  ·rw[Tm ‹_›];exact Ycv h
  omega
theorem Qx{f g:Nat->Int}:∀{r i:Nat},(∀k,i<=k->k<i+r->(∀j,i<=j->j<k->f j=0)->f k=g k)->YC f r i=YC g r i
 |0,i,_=>rfl
 |r+1,i,h=>by
  unfold YC
  have h0:=h i (TQ _) (by omega) (λj h1 h2=>by omega)
  rw[<-h0]
  by_cases hz:f i=0
  ·rw[Tm hz,Tm hz]
   refine Qx λk h1 h2 h3=>h k (by omega) (by omega) λj h4 h5=>?_
   grind
  simp_all
def YT(nodes:Int)(l:List Flw)(i:Nat):Int:=if Xl nodes (Y3 l i)≠0 then Xl nodes (Y3 l i)else if 0<i/\(Y3 l i).1<=(Y3 l (i-1)).1 then 5 else 0
def YA(nodes:Int)(l:List Flw):Int×Int:=
 if nodes<2\/32<nodes then(-1,2)else if 16<l.length then(-1,8)else YC (YT nodes l) l.length 0
def Zv(l:List Flw)(id:Int):Int:=Yq (λf=>decide (f.1=id)) l 0
end Go.Proofs.YtjlgijpmnfabcaaGreatDoor
namespace Go.Nw
theorem nodup_len:∀(N:Nat) (l:List Int),l.Nodup->(∀x∈l,0<=x/\x<N)->l.length<=N
 |0,l,_,h=>by
  cases l with
  |nil=>simp
  |cons a l=>grind [TM]
 |N+1,l,hn,h=>by
  have h1:=nodup_len N (l.erase (N:Int)) (hn.erase _) (λx hx=>by
   grind)
  grind
end Go.Nw
namespace Go.Proofs
open Go.Shelf
def Tryz.lays169_ren:Go.Shelf.Ren:=⟨λ|169=>37|n=>n,λ|70=>95|9=>9|0=>0|72=>98|37=>96|127=>179|3=>3|5=>5|n=>n,λ|n=>n⟩
theorem Tryz.lays169:Go.Proofs.Lays.n169 Tryz.prog Tryz.lays169_ren:={
 mixed:=by kernel_rfl
 f169:=Tryz.func37.trans (TD some (by kernel_rfl))
 t0:=Tryz.underlying0
 a0:=Tryz.isAgg0
 z0:=Tryz.sizeOf0
 v0:=Tryz.zeroValue0
 t3:=Tryz.underlying3
 a3:=Tryz.isAgg3
 z3:=Tryz.sizeOf3
 v3:=Tryz.zeroValue3
 t9:=Tryz.underlying9
 a9:=Tryz.isAgg9
 z9:=Tryz.sizeOf9
 v9:=Tryz.zeroValue9
 t37:=Tryz.underlying96
 a37:=Tryz.isAgg96
 z37:=Tryz.sizeOf96
 v37:=Tryz.zeroValue96
 t70:=Tryz.underlying95
 a70:=Tryz.isAgg95
 z70:=Tryz.sizeOf95
 v70:=Tryz.zeroValue95
 t72:=Tryz.underlying98
 a72:=Tryz.isAgg98
 z72:=Tryz.sizeOf98
 v72:=Tryz.zeroValue98
 t127:=Tryz.underlying179
 a127:=Tryz.isAgg179
 z127:=Tryz.sizeOf179
 v127:=Tryz.zeroValue179}
theorem Tryz.Builder_Extra_169:Builder.Extra Tryz.prog Tryz.lays169_ren:={
 sizeBuilder:=by kernel_rfl
 liesBuilder:=by kernel_rfl
 t5:=Tryz.underlying5
 a5:=Tryz.isAgg5
 z5:=Tryz.sizeOf5
 v5:=Tryz.zeroValue5
 infoByte:=by kernel_rfl
 cellsByte:=by kernel_rfl
 sizeByte:=by kernel_rfl
 neB5:=by decide}
open Go.RowKit in
theorem Tryz.Builder_String_any(B b:Nat)(l:List UInt8)(w:World)(h:Lib.IsBuilder 98 5 B b (Lib.byteCells l) w)(hBw:B<=w.heap.size):
 Calls Tryz.prog 37 #[.pointer (some ⟨b,0,none⟩)] w λe w'=>e=.returned (.string ⟨l.toArray⟩)/\Below B w w':=Any.Builder_String_any Tryz.lays169 Tryz.Builder_Extra_169 B b l w h hBw
def Tryz.laysM171_ren:Go.Shelf.Ren:=⟨λ|171=>94|243=>180|246=>272|283=>355|284=>356|285=>357|286=>358|129=>259|317=>403|318=>404|319=>405|320=>406|337=>431|338=>432|n=>n,λ|3=>3|9=>9|2=>2|4=>4|171=>395|0=>0|53=>182|37=>96|5=>5|173=>397|212=>442|51=>180|20=>20|213=>443|46=>205|232=>488|233=>489|n=>n,λ|17=>0|18=>1|19=>2|n=>n⟩
theorem Tryz.laysM171:Go.Proofs.LaysM.n171 Tryz.prog Tryz.laysM171_ren:={
 mixed:=by kernel_rfl
 f129:=Tryz.func259.trans (TD some (by kernel_rfl))
 f171:=Tryz.func94.trans (TD some (by kernel_rfl))
 f243:=Tryz.func180.trans (TD some (by kernel_rfl))
 f246:=Tryz.func272.trans (TD some (by kernel_rfl))
 f283:=Tryz.func355.trans (TD some (by kernel_rfl))
 f284:=Tryz.func356.trans (TD some (by kernel_rfl))
 f285:=Tryz.func357.trans (TD some (by kernel_rfl))
 f286:=Tryz.func358.trans (TD some (by kernel_rfl))
 f317:=Tryz.func403.trans (TD some (by kernel_rfl))
 f318:=Tryz.func404.trans (TD some (by kernel_rfl))
 f319:=Tryz.func405.trans (TD some (by kernel_rfl))
 f320:=Tryz.func406.trans (TD some (by kernel_rfl))
 f337:=Tryz.func431.trans (TD some (by kernel_rfl))
 f338:=Tryz.func432.trans (TD some (by kernel_rfl))
 t0:=Tryz.underlying0
 a0:=Tryz.isAgg0
 z0:=Tryz.sizeOf0
 v0:=Tryz.zeroValue0
 t2:=Tryz.underlying2
 a2:=Tryz.isAgg2
 z2:=Tryz.sizeOf2
 v2:=Tryz.zeroValue2
 t3:=Tryz.underlying3
 a3:=Tryz.isAgg3
 z3:=Tryz.sizeOf3
 v3:=Tryz.zeroValue3
 t4:=Tryz.underlying4
 a4:=Tryz.isAgg4
 z4:=Tryz.sizeOf4
 v4:=Tryz.zeroValue4
 t5:=Tryz.underlying5
 a5:=Tryz.isAgg5
 z5:=Tryz.sizeOf5
 v5:=Tryz.zeroValue5
 t9:=Tryz.underlying9
 a9:=Tryz.isAgg9
 z9:=Tryz.sizeOf9
 v9:=Tryz.zeroValue9
 t20:=Tryz.underlying20
 a20:=Tryz.isAgg20
 z20:=Tryz.sizeOf20
 v20:=Tryz.zeroValue20
 t37:=Tryz.underlying96
 a37:=Tryz.isAgg96
 z37:=Tryz.sizeOf96
 v37:=Tryz.zeroValue96
 t46:=Tryz.underlying205
 a46:=Tryz.isAgg205
 z46:=Tryz.sizeOf205
 v46:=Tryz.zeroValue205
 t51:=Tryz.underlying180
 a51:=Tryz.isAgg180
 z51:=Tryz.sizeOf180
 v51:=Tryz.zeroValue180
 t53:=Tryz.underlying182
 a53:=Tryz.isAgg182
 z53:=Tryz.sizeOf182
 v53:=Tryz.zeroValue182
 t171:=Tryz.underlying395
 a171:=Tryz.isAgg395
 z171:=Tryz.sizeOf395
 v171:=Tryz.zeroValue395
 t173:=Tryz.underlying397
 a173:=Tryz.isAgg397
 z173:=Tryz.sizeOf397
 v173:=Tryz.zeroValue397
 t212:=Tryz.underlying442
 a212:=Tryz.isAgg442
 z212:=Tryz.sizeOf442
 v212:=Tryz.zeroValue442
 t213:=Tryz.underlying443
 a213:=Tryz.isAgg443
 z213:=Tryz.sizeOf443
 t232:=Tryz.underlying488
 a232:=Tryz.isAgg488
 z232:=Tryz.sizeOf488
 v232:=Tryz.zeroValue488
 t233:=Tryz.underlying489
 a233:=Tryz.isAgg489
 z233:=Tryz.sizeOf489
 v233:=Tryz.zeroValue489
 g17:=by kernel_rfl
 g18:=by kernel_rfl
 g19:=by kernel_rfl
 i0:=by kernel_rfl
 i2:=by kernel_rfl
 i3:=by kernel_rfl
 i4:=by kernel_rfl
 i5:=by kernel_rfl
 i9:=by kernel_rfl
 i20:=by kernel_rfl
 i37:=by kernel_rfl
 i46:=by kernel_rfl
 i51:=by kernel_rfl
 i53:=by kernel_rfl
 i171:=by kernel_rfl
 i173:=by kernel_rfl
 i212:=by kernel_rfl
 i232:=by kernel_rfl
 i233:=by kernel_rfl
 m17:=by kernel_rfl
 m18:=by kernel_rfl
 m19:=by kernel_rfl}
open Go.RowKit Go.Sort Go.Lib in
theorem Tryz.strconv_Itoa(n:Int)(h0: -9223372036854775808<=n)(h1:n<=9223372036854775807)(w:World)(htab:Lib.TabIs Tryz.prog w "internal/strconv.uint64pow10" .u64 Lib.pow10Tab):
 Calls Tryz.prog 94 #[.int .i64 n] w λe w'=>e=.returned (.string ⟨(Lib.itoa n).toArray⟩)/\∃k os,w'=grow (w.drewN k) os:=Any.strconv_Itoa Tryz.laysM171 n h0 h1 w htab
def Tryz.lays212_ren:Go.Shelf.Ren:=⟨λ|212=>442|263=>453|264=>454|n=>n,λ|46=>205|51=>180|146=>493|53=>182|148=>495|n=>n,λ|n=>n⟩
theorem Tryz.lays212:Go.Proofs.Lays.n212 Tryz.prog Tryz.lays212_ren:={
 mixed:=by kernel_rfl
 f212:=Tryz.func442.trans (TD some (by kernel_rfl))
 f263:=Tryz.func453.trans (TD some (by kernel_rfl))
 f264:=Tryz.func454.trans (TD some (by kernel_rfl))
 t46:=Tryz.underlying205
 a46:=Tryz.isAgg205
 z46:=Tryz.sizeOf205
 v46:=Tryz.zeroValue205
 t51:=Tryz.underlying180
 a51:=Tryz.isAgg180
 z51:=Tryz.sizeOf180
 v51:=Tryz.zeroValue180
 t53:=Tryz.underlying182
 a53:=Tryz.isAgg182
 z53:=Tryz.sizeOf182
 v53:=Tryz.zeroValue182
 t146:=Tryz.underlying493
 a146:=Tryz.isAgg493
 z146:=Tryz.sizeOf493
 v146:=Tryz.zeroValue493
 t148:=Tryz.underlying495
 a148:=Tryz.isAgg495
 z148:=Tryz.sizeOf495
 v148:=Tryz.zeroValue495}
open Go.RowKit Go.Lib in
theorem Tryz.bits_Mul(x y:Nat)(hx:x<18446744073709551616)(hy:y<18446744073709551616)(w:World):
 Calls Tryz.prog 442 #[.int .u64 x,.int .u64 y] w λe w'=>e=.returned (.tuple #[.int .u64 ((x*y/18446744073709551616:Nat):Int),.int .u64 ((x*y%18446744073709551616:Nat):Int)])/\w'=w:=Any.bits_Mul Tryz.lays212 x y hx hy w
end Go.Proofs
namespace Go.Rt
open Go.Nw
def Xo:Int:=1073741824
def Yl(far:List Int)(v:Int):Int:=far.getD v.toNat 0
def ArcsOk(nodes:Nat)(l:List Lk):Prop:=∀a∈l,(0<=a.1/\a.1<nodes)/\(0<=a.2.1/\a.2.1<nodes)/\(1<=a.2.2/\a.2.2<=1000000)
structure Dist(nodes:Nat)(l:List Lk)(to:Int)(far:List Int):Prop where
 len:far.length=nodes
 to0:Yl far to=0
 range:∀v:Int,0<=v->v<nodes->0<=Yl far v/\Yl far v<=Xo
 tight:∀v:Int,0<=v->v<nodes->v≠to->Yl far v<Xo->∃a∈l,a.1=v/\Yl far a.2.1+a.2.2<=Yl far v
 least:∀a∈l,Yl far a.2.1<Xo->Yl far a.1<=Yl far a.2.1+a.2.2
structure DInv(nodes:Nat)(l:List Lk)(to:Int)(far:List Int)(q:List (Int×Int))(v:Int)(rest:List Lk):Prop where
 len:far.length=nodes
 to0:Yl far to=0
 range:∀v:Int,0<=v->v<nodes->0<=Yl far v/\Yl far v<=Xo
 tight:∀v:Int,0<=v->v<nodes->v≠to->Yl far v<Xo->∃a∈l,a.1=v/\Yl far a.2.1+a.2.2<=Yl far v
 pend:∀a∈l,Yl far a.2.1<Xo->Yl far a.1<=Yl far a.2.1+a.2.2\/(a.2.1,Yl far a.2.1)∈q\/(a.2.1=v/\a∈rest)
 items:∀x∈q,(0<=x.1/\x.1<nodes)/\Yl far x.1<=x.2/\x.2<Xo
def Jv(far:List Int)(q:List (Int×Int)):Nat:=2*(far.map Int.toNat).sum+q.length
variable {far:List Int}{i x to v:Int}
theorem UP(h:i.toNat<far.length):Yl (far.set i.toNat x) i=x:=by
 grind [Yl]
theorem WH{j:Int}(h:i.toNat≠j.toNat):Yl (far.set i.toNat x) j=Yl far j:=by
 grind [Yl]
theorem XN(h:i.toNat<far.length):far[i.toNat]? =some (Yl far i):=by
 grind [Yl]
theorem Yrr{i:Nat}(h:i<far.length)(h0:0<=x)(hx:x<far.getD i 0):((far.set i x).map Int.toNat).sum+1<=(far.map Int.toNat).sum:=by
 induction far generalizing i with
 |nil=>simp at h
 |cons a l ih=>
  cases i with
  |zero=>
   grind
  |succ i=>
   grind
variable {l rest:List Lk}
theorem Yjm{nodes:Nat}(hl:ArcsOk nodes l)(h0:0<=to)(h1:to<nodes):DInv nodes l to ((List.replicate nodes Xo).set to.toNat 0) [(to,0)] 0 []:=by
 have hlen:to.toNat<(List.replicate nodes Xo).length:=by simp_all
 have hself:=UP (far:=List.replicate nodes Xo) (i:=to) (x:=0) hlen
 have hrep:∀v:Int,0<=v->v<nodes->Yl (List.replicate nodes Xo) v=Xo:=by
  simp_all [Yl]
 have hoth:∀v:Int,0<=v->v<nodes->v≠to->Yl ((List.replicate nodes Xo).set to.toNat 0) v=Xo:=by
  grind [WH]
 refine⟨by simp,hself,?_,?_,?_,?_⟩
 ·intro v hv hv2
  by_cases e:v=to
  ·subst e;rw[hself];exact⟨RS _,by decide⟩
  ·rw[hoth v hv hv2 e];exact⟨by decide,RS _⟩
 ·simp_all
 ·intro a ha hlt
  obtain⟨_,⟨h3,h4⟩,_⟩:=hl a ha
  grind
 ·intro x hx
  obtain rfl:x=(to,0):=by simp_all
  exact⟨⟨h0,h1⟩,by simp_all,show(0:Int)<1073741824 by decide⟩
variable {q q':List (Int×Int)}
theorem Ymk{nodes:Nat}{x:Int×Int}(h:DInv nodes l to far q 0 [])(hp:(x::q').Perm q)(hx:Yl far x.1<x.2):DInv nodes l to far q' 0 []:=by
 refine⟨h.len,h.to0,h.range,h.tight,?_,λy hy=>h.items y (hp.mem_iff.1 (TP _ hy))⟩
 intro a ha hlt
 rcases h.pend a ha hlt with h1|h1|⟨_,h1⟩
 all_goals grind
theorem Ymj{nodes:Nat}{x:Int×Int}(h:DInv nodes l to far q 0 [])(hp:(x::q').Perm q):DInv nodes l to far q' x.1 l:=by
 refine⟨h.len,h.to0,h.range,h.tight,?_,λy hy=>h.items y (hp.mem_iff.1 (TP _ hy))⟩
 intro a ha hlt
 rcases h.pend a ha hlt with h1|h1|⟨_,h1⟩
 all_goals grind
theorem Yoc{nodes:Nat}(h:DInv nodes l to far q v []):DInv nodes l to far q 0 []:=by
 refine⟨h.len,h.to0,h.range,h.tight,λa ha hlt=>?_,h.items⟩
 rcases h.pend a ha hlt with h1|h1|⟨_,h1⟩
 all_goals simp_all
theorem Ymi{nodes:Nat}(h:DInv nodes l to far [] 0 []):Dist nodes l to far:=by
 refine⟨h.len,h.to0,h.range,h.tight,λa ha hlt=>?_⟩
 rcases h.pend a ha hlt with h1|h1|⟨_,h1⟩
 all_goals simp_all
variable {a:Lk}
theorem YqE{nodes:Nat}(h:DInv nodes l to far q v (a::rest))(hn:¬(a.2.1=v/\Yl far v+a.2.2<Yl far a.1)):DInv nodes l to far q v rest:=by
 refine⟨h.len,h.to0,h.range,h.tight,?_,h.items⟩
 intro b hb hlt
 rcases h.pend b hb hlt with h1|h1|⟨h1,h2⟩
 all_goals grind
theorem Yod{nodes:Nat}{d:Int}(hl:ArcsOk nodes l)(hv:0<=v/\v<nodes)(hd:Yl far v=d)(hal:a∈l)(h:DInv nodes l to far q v (a::rest))(h1:a.2.1=v)(h2:d+a.2.2<Yl far a.1)(hp:q'.Perm ((a.1,d+a.2.2)::q)):
 DInv nodes l to (far.set a.1.toNat (d+a.2.2)) q' v rest/\Yl (far.set a.1.toNat (d+a.2.2)) v=d/\Jv (far.set a.1.toNat (d+a.2.2)) q'+1<=Jv far q:=by
 obtain⟨⟨a1,a2⟩,_,⟨a5,a6⟩⟩:=hl a hal
 have hlen:=h.len
 have hlt:a.1.toNat<far.length:=by omega
 have hself:=UP (far:=far) (i:=a.1) (x:=d+a.2.2) hlt
 obtain⟨r1,r2⟩:=h.range v hv.1 hv.2
 obtain⟨r3,r4⟩:=h.range a.1 a1 a2
 have hoth:∀u:Int,0<=u->u≠a.1->Yl (far.set a.1.toNat (d+a.2.2)) u=Yl far u:=by grind [WH]
 have hle:∀u:Int,0<=u->Yl (far.set a.1.toNat (d+a.2.2)) u<=Yl far u:=by
  grind
 have hto:Yl (far.set a.1.toNat (d+a.2.2)) to=0:=by
  by_cases e:to.toNat=a.1.toNat
  ·have:Yl far a.1=0:=by
    have h5:=h.to0
    grind [Yl]
   omega
  ·rw[WH (λh=>e h.symm)];exact h.to0
 refine⟨⟨by simp_all,hto,?_,?_,?_,?_⟩,by grind,?_⟩
 ·intro u hu hu2
  by_cases e:u=a.1
  ·grind
  ·rw[hoth u hu e];exact h.range u hu hu2
 ·intro u hu hu2 hut hul
  by_cases e:u=a.1
  ·grind
  ·rw[hoth u hu e]at hul⊢
   obtain⟨b,hb,hb1,hb2⟩:=h.tight u hu hu2 hut hul
   have:=hle b.2.1 (hl b hb).2.1.1
   grind
 ·intro b hb hbl
  obtain⟨⟨b1,b2⟩,⟨b3,b4⟩,_⟩:=hl b hb
  by_cases e:b.2.1=a.1
  ·grind
  ·rw[hoth _ b3 e]at hbl⊢
   rcases h.pend b hb hbl with h3|h3|⟨h3,h4⟩
   all_goals grind
 ·intro x hx
  rcases RA.1 (hp.mem_iff.1 hx)with rfl|hx
  ·grind
  ·obtain⟨h3,h4,h5⟩:=h.items x hx
   grind
 ·have h3:=Yrr (x:=d+a.2.2) hlt (by omega) (by grind [Yl])
  grind [List.Perm.length_eq,Jv,TS]
end Go.Rt
namespace Go.Proofs.YtjlgijpmnfabcaaGreatDoor
theorem YqD{u:Nat}(h:u<10000):(Lib.decDigits u).length<=4:=by
 rw[Lib.decDigits_length]
 by_cases h1:u<10
 ·rw[Lib.nDigits_small h1];omega
 ·rw[Lib.nDigits_big h1]
  by_cases h2:u/10<10
  ·rw[Lib.nDigits_small h2];omega
  ·all_goals grind [Go.Lib.nDigits_small,Go.Lib.nDigits_big]
open Go.ChangeShapes Go.WideShapes Go.ChangeAt Go.RowKit
section
variable {H:Type}{enc:TypeId×Value->H}{P:Program}
theorem Q5(hl:laidOutB P=true){W W':World}{sp:Nat->Bool}:∀{ts:List TypeId}{vs:List Value}{ds:List (DataW H)}{ps:List MemPlace},(ts.all λt=>P.readableRec t&&decide (t<P.types.size))=true->
 DataW.TrodAll enc P W 0 (λ_=>true) true ts vs ds ps->(∀p∈ps,W.sameAt W' p)->(∀p∈ps,sp p.block=true)->DataW.TrodAll enc P W' 0 sp true ts vs ds ps
 |[],[],[],_,_,h,_,_=>h
 |[],[],_::_,_,_,h,_,_=>h.elim
 |[],_::_,_,_,_,h,_,_=>h.elim
 |_::_,[],_,_,_,h,_,_=>h.elim
 |_::_,_::_,[],_,_,h,_,_=>h.elim
 |t::ts,v::vs,d::ds,ps,hr,h,hs,hp=>by
  obtain⟨p,q,h1,h2,rfl⟩:=h
  simp only[Ni,Tt,To]at hr
  exact⟨p,q,WideElems.Trod_stays hl hr.1.1 hr.1.2 h1 (λx hx=>hs x (by simp[hx])) (λx hx=>hp x (by simp[hx])),Q5 hl hr.2 h2 (λx hx=>hs x (by simp[hx])) (λx hx=>hp x (by simp[hx])),rfl⟩
theorem YuB{f:Func}{s:ChangeSpec}{apart fresh handsOn again:Bool}{W W':World}{args:Array Value}{ds gs:List (DataW H)}{before:List MemPlace}{tb:TypeId}(hl:laidOutB P=true)
 (hrd:(f.params.toList.all λt=>P.readableRec t&&decide (t<P.types.size))=true) (hv:s.vars=[]) (hrt:f.resultTypes=#[tb]) (htb:P.underlying tb=some .bool)
 (hW:DataW.Whole enc P f.params.toList s.vars apart W args.toList ds gs before) (hb:Below W.heap.size W W')
 (hres:(s.fn H (ds++gs)).results=[.lit (.bool true)]) (hargs:(s.fn H (ds++gs)).args=ds) (hvars:(s.fn H (ds++gs)).vars=[]):
 s.post enc P f apart fresh handsOn again W args (.bool true) W':=by
 have hlt:∀p∈before,p.block<W.heap.size:=λp hp=>hW.lt p hp
 have hW0:=hW
 obtain⟨p,q,hA,hV,rfl,hz,hn⟩:=hW
 rw[hv]at hV
 have hq:gs=[]/\q=[]:=by
  cases gs with
  |nil=>exact⟨rfl,hV⟩
  |cons _ _=>exact hV.elim
 obtain⟨rfl,rfl⟩:=hq
 have hkeep:∀sp:Nat->Bool,(∀x∈p++[],sp x.block=true)->DataW.TrodAll enc P W' 0 sp true f.params.toList args.toList ds p:=λsp hsp=>
  Q5 hl hrd hA (λx hx=>hb.same (hlt x (by simp_all))) (λx hx=>hsp x (by simp_all))
 have hR:∀(b:Nat) (sp:Nat->Bool) (hd:Bool),DataW.TrodAll enc P W' b sp hd f.resultTypes.toList ((Value.bool true).resultList f.resultTypes.size) (s.fn H (ds++[])).results []:=by
  intro b sp hd
  rw[hres,hrt]
  exact trodAll_mk1 (shut_bool htb true)
 have hok:=ok_one (P:=P) (W':=W') (f:=f) (v:=.bool true) hrt rfl (okWide_bool_mk htb true)
 have hold:∀x∈p++[],(λb=>decide (b<W.heap.size)) x.block=true:=by simp_all
 refine⟨ds,[],p++[],[],p,[],hW0,hR _ _ _,by simp_all,by rw[hvars,hv];rfl,World.keptBut_mono (λx hx=>⟨hx,Or.inr (by simp_all)⟩) (hb.frame (·∈p++[])),λ_=>?_⟩
 refine⟨hok,_,_,([]++p)++[],⟨[]++p,[],trodAll_append (hkeep _ (λ_ _=>rfl)) (hR _ _ _),(show DataW.TrodVars enc P W' (λ_=>true) s.vars [] [] by rw[hv];rfl),rfl,?_,?_⟩,?_⟩
 ·intro b off hp
  have hin:MemPlace.cell b off∈p++[]:=by simp_all
  rw[hb.frozen (hlt _ hin)]
  exact hz b off hin
 all_goals simp_all
end
end Go.Proofs.YtjlgijpmnfabcaaGreatDoor
namespace Go.Rt
open Go.Nw
def ZU(far:List Int)(at_:Int)(best:Int)(a:Lk):Int:=if a.1=at_/\a.2.2+Yl far a.2.1=Yl far at_/\(best<0\/a.2.1<best)then a.2.1 else best
def XI(l:List Lk)(far:List Int)(at_:Int):Int:=l.foldl (ZU far at_) (-1)
def XZ(l:List Lk)(far:List Int)(to:Int):Nat->Int->List Int
 |0,_=>[]
 |k+1,at_=>if at_=to then []else XI l far at_::XZ l far to k (XI l far at_)
def wayF(l:List Lk)(far:List Int)(s to:Int):List Int:=if Xo<=Yl far s then []else s::XZ l far to (Yl far s).toNat s
theorem Ycz(l:List Lk)(far:List Int)(to:Int):∀(k:Nat) (v:Int),(XZ l far to k v).length<=k
 |0,_=>TQ _
 |k+1,v=>by
  have:=Ycz l far to k (XI l far v)
  unfold XZ
  grind
theorem Ygz(l:List Lk)(far:List Int)(s to:Int):(wayF l far s to).length<=1073741824:=by
 unfold wayF
 split
 ·simp_all
 grind [Ycz,Xo]
theorem Ymc(l:List Lk)(far:List Int)(at_:Int)(a:Lk):XI (l++[a]) far at_=ZU far at_ (XI l far at_) a:=by
 grind [XI]
theorem Yqy(l:List Lk)(far:List Int)(at_:Int)(b0:Int):l.foldl (ZU far at_) b0=b0\/∃a∈l,a.1=at_/\a.2.2+Yl far a.2.1=Yl far at_/\l.foldl (ZU far at_) b0=a.2.1:=by
 induction l generalizing b0 with
 |nil=>simp_all
 |cons a l ih=>
  rw[List.foldl_cons]
  rcases ih (ZU far at_ b0 a)with h|⟨c,hc,h⟩
  ·rw[h]
   unfold ZU
   grind
  grind
variable {l:List Lk}{far far':List Int}
theorem Yqx{at_:Int}(hl:∀a∈l,0<=a.2.1)(b0:Int)(h:0<=b0\/∃a∈l,a.1=at_/\a.2.2+Yl far a.2.1=Yl far at_):0<=l.foldl (ZU far at_) b0:=by
 induction l generalizing b0 with
 |nil=>
  simp_all
 |cons a l ih=>
  refine ih (λc hc=>hl c (TP _ hc)) _ ?_
  unfold ZU
  grind
variable {to v:Int}
theorem Ydp{nodes:Nat}(_hl:ArcsOk nodes l)(h:Dist nodes l to far)(h0:0<=v)(h1:v<nodes)(hne:v≠to)(hlt:Yl far v<Xo):∃a∈l,a.1=v/\a.2.2+Yl far a.2.1=Yl far v:=by
 obtain⟨a,ha,ha1,ha2⟩:=h.tight v h0 h1 hne hlt
 obtain⟨_,_,⟨h5,_⟩⟩:=_hl a ha
 have:=h.least a ha (by omega)
 grind
theorem Yaa{nodes:Nat}(hl:ArcsOk nodes l)(h:Dist nodes l to far)(h0:0<=v)(h1:v<nodes)(hne:v≠to)(hlt:Yl far v<Xo):
 (0<=XI l far v/\XI l far v<nodes)/\Yl far (XI l far v)<Yl far v/\0<=Yl far (XI l far v)/\∃a∈l,a.1=v/\a.2.1=XI l far v/\a.2.2+Yl far (XI l far v)=Yl far v:=by
 have hge:0<=XI l far v:=Yqx (λa ha=>(hl a ha).2.1.1) (-1) (.inr (Ydp hl h h0 h1 hne hlt))
 rcases Yqy l far v (-1)with h2|⟨a,ha,h3,h4,h5⟩
 ·grind [XI]
 ·obtain⟨_,⟨h6,h7⟩,⟨h8,_⟩⟩:=hl a ha
  have h9:XI l far v=a.2.1:=h5
  have:=(h.range a.2.1 h6 h7).1
  grind
theorem YfR{nodes:Nat}(hl:ArcsOk nodes l)(h:Dist nodes l to far)(h':Dist nodes l to far'):∀(k:Nat) (v:Int),0<=v->v<nodes->Yl far v<Xo->(Yl far v).toNat<=k->Yl far' v<=Yl far v:=by
 intro k
 induction k with
 |zero=>
  intro v h0 h1 hlt hk
  by_cases hv:v=to
  ·rw[hv,h.to0,h'.to0];omega
  ·obtain⟨a,ha,ha1,ha2⟩:=Ydp hl h h0 h1 hv hlt
   obtain⟨_,⟨h3,h4⟩,⟨h5,_⟩⟩:=hl a ha
   have:=(h.range a.2.1 h3 h4).1
   omega
 |succ k ih=>
  intro v h0 h1 hlt hk
  by_cases hv:v=to
  ·rw[hv,h.to0,h'.to0];omega
  ·obtain⟨a,ha,ha1,ha2⟩:=Ydp hl h h0 h1 hv hlt
   obtain⟨_,⟨h3,h4⟩,⟨h5,_⟩⟩:=hl a ha
   have h7:=ih a.2.1 h3 h4 (by omega) (by omega)
   have h8:=h'.least a ha (by omega)
   grind
theorem Yhh{nodes:Nat}(hl:ArcsOk nodes l)(h:Dist nodes l to far)(h':Dist nodes l to far'):far=far':=by
 have key:∀v:Int,0<=v->v<nodes->Yl far v=Yl far' v:=by
  intro v h0 h1
  have r1:=h.range v h0 h1
  have r2:=h'.range v h0 h1
  rcases Int.lt_or_le (Yl far v) Xo with h2|h2
  ·have h3:=YfR hl h h' _ v h0 h1 h2 (TQ _)
   have h4:=YfR hl h' h _ v h0 h1 (by omega) (TQ _)
   omega
  ·rcases Int.lt_or_le (Yl far' v) Xo with h3|h3
   ·have h4:=YfR hl h' h _ v h0 h1 h3 (TQ _)
    omega
   ·omega
 apply S0
 all_goals grind [XN,Go.Rt.Dist.len,RD]
open Classical in
noncomputable def J8(nodes:Nat)(l:List Lk)(to:Int):List Int:=if h:∃far,Dist nodes l to far then h.choose else []
theorem Qs{nodes:Nat}(hl:ArcsOk nodes l)(h:Dist nodes l to far):J8 nodes l to=far:=by
 unfold J8
 rw[dif_pos ⟨far,h⟩]
 exact Yhh hl (Exists.choose_spec (⟨far,h⟩:∃far,Dist nodes l to far)) h
structure Ed where
 f:Int
 t:Int
 c:Int
 r:Int
def Vb(f t c:Int):List Ed:=[⟨f,t,c,1⟩,⟨t,f,-c,0⟩]
def ZS(closed:Int->Bool)(k:Nat):List Ed:=(List.range k).flatMap λv:Nat=>if closed (v:Int)=true then []else Vb (2*(v:Int)) (2*(v:Int)+1) 0
def Ug(l:List Lk):List Ed:=l.flatMap λa=>Vb (2*a.1+1) (2*a.2.1) a.2.2
def Qb(nodes:Nat)(l:List Lk)(closed:Int->Bool):List Ed:=ZS closed nodes++Ug l
abbrev Yay:=List Int×List Int×Bool
def V2(i:Nat)(e:Ed)(st:Yay):Yay:=
 if 0<e.r/\Yl st.1 e.f<Xo/\Yl st.1 e.f+e.c<Yl st.1 e.t then(st.1.set e.t.toNat (Yl st.1 e.f+e.c),st.2.1.set e.t.toNat (i:Int),true)else st
def Xz:Nat->List Ed->Yay->Yay
 |_,[],st=>st
 |i,e::es,st=>Xz (i+1) es (V2 i e st)
def Yau:Nat->List Ed->List Int->List Int->Option (List Int×List Int)
 |0,_,_,_=>none
 |k+1,es,far,by_=>if(Xz 0 es (far,by_,false)).2.2=true then Yau k es (Xz 0 es (far,by_,false)).1 (Xz 0 es (far,by_,false)).2.1 else some ((Xz 0 es (far,by_,false)).1,(Xz 0 es (far,by_,false)).2.1)
def twin(i:Nat):Nat:=if i%2=0 then i+1 else i-1
def Ya1(es:List Ed)(i:Nat)(d:Int):List Ed:=match es[i]? with|some e=>es.set i {e with r:=e.r+d}|none=>es
def Yg4:Nat->List Ed->List Int->Int->Int->Option (List Ed)
 |0,_,_,_,_=>none
 |k+1,es,by_,s,at_=>
  if at_=s then some es else
   if Yl by_ at_<0 then none else
    match es[(Yl by_ at_).toNat]? with
    |none=>none
    |some e=>if es.length<=twin (Yl by_ at_).toNat then none else Yg4 k (Ya1 (Ya1 es (Yl by_ at_).toNat (-1)) (twin (Yl by_ at_).toNat) 1) by_ s e.f
def Wa(sides:Nat)(s:Int):List Int:=(List.replicate sides Xo).set s.toNat 0
def Yfb(fuel sides:Nat)(es:List Ed)(s t:Int):Option (Int×Bool×List Ed):=
 match Yau fuel es (Wa sides s) (List.replicate sides (-1))with
 |none=>none
 |some (far,by_)=>if Xo<=Yl far t then some (0,false,es)else
  match Yg4 fuel es by_ s t with
  |none=>none
  |some es'=>some (Yl far t,true,es')
def UC(a b to:Int)(closed:Int->Bool)(v:Int):Bool:=decide (v=a\/v=b\/v=to)||closed v
def Oy(fuel nodes:Nat)(l:List Lk)(a b to:Int)(closed:Int->Bool):Option (Int×Bool×List Ed):=
 match Yfb fuel (2*nodes) (Qb nodes l (UC a b to closed)) (2*a+1) (2*to)with
 |none=>none
 |some (x,ok,es)=>
  match Yfb fuel (2*nodes) es (2*b+1) (2*to)with
  |none=>none
  |some (y,is,es2)=>some (x+y,ok&&is,es2)
theorem QR:∀(l:List Ed) (i:Nat) (e:Ed) (st:Yay),Xz i (l++[e]) st=V2 (i+l.length) e (Xz i l st)
 |[],_,_,_=>rfl
 |x::l,i,e,st=>by
  show Xz (i+1) (l++[e]) (V2 i x st)=_
  rw[QR l (i+1) e,TS,show i+1+l.length=i+(l.length+1) by omega];rfl
def Yku(sides:Nat)(es:List Ed):Prop:=∀e∈es,(0<=e.f/\e.f<sides)/\(0<=e.t/\e.t<sides)/\(-1000000<=e.c/\e.c<=1000000)/\(-1000000000<=e.r/\e.r<=1000000000)
structure RelOk(sides:Nat)(low:Int)(st:Yay):Prop where
 l1:st.1.length=sides
 l2:st.2.1.length=sides
 low:∀v:Int,0<=v->v<sides->low<=Yl st.1 v/\Yl st.1 v<=Xo
variable {sides:Nat}{es:List Ed}
theorem Yj3{low:Int}{st:Yay}{e:Ed}{i:Nat}(hes:Yku sides es)(he:e∈es)(h:RelOk sides low st):RelOk sides (low-1000000) (V2 i e st):=by
 obtain⟨⟨e1,e2⟩,⟨e3,e4⟩,⟨e5,e6⟩,_⟩:=hes e he
 unfold V2
 split
 ·have hlt:e.t.toNat<st.1.length:=by rw[h.l1];omega
  refine⟨by grind [Go.Rt.RelOk.l1],by grind [Go.Rt.RelOk.l2],λv h0 h1=>?_⟩
  have h2:=h.low v h0 h1
  have h3:=h.low e.f e1 e2
  all_goals grind [UP,WH]
 ·exact⟨h.l1,h.l2,λv h0 h1=>by have:=h.low v h0 h1;omega⟩
theorem O8{sides:Nat}{es:List Ed}(hes:Yku sides es):∀(l:List Ed) (i:Nat) (st:Yay) (low:Int),(∀e∈l,e∈es)->RelOk sides low st->RelOk sides (low-1000000*l.length) (Xz i l st)
 |[],_,_,_,_,h=>by grind [Xz]
 |e::l,i,st,low,hl,h=>by
  have h1:=O8 hes l (i+1) (V2 i e st) (low-1000000) (λx hx=>hl x (TP _ hx)) (Yj3 hes (hl e TM) h)
  rw[TS]
  have e1:low-1000000*((l.length+1:Nat):Int)=low-1000000-1000000*(l.length:Int):=by omega
  rw[e1];exact h1
def EdsIn(sides:Nat)(b:Int)(es:List Ed):Prop:=∀e∈es,(0<=e.f/\e.f<sides)/\(0<=e.t/\e.t<sides)/\(-1000000<=e.c/\e.c<=1000000)/\(-b<=e.r/\e.r<=b)
variable {b:Int}
theorem EdsIn.ok(h:EdsIn sides b es)(hb:b<=1000000000):Yku sides es:=λe he=>by
 obtain⟨h1,h2,h3,h4⟩:=h e he
 omega
theorem EdsIn.mono{b':Int}(h:EdsIn sides b es)(hb:b<=b'):EdsIn sides b' es:=λe he=>by
 obtain⟨h1,h2,h3,h4⟩:=h e he
 omega
theorem Yh2(h:EdsIn sides b es)(i:Nat){d:Int}(hd: -1<=d/\d<=1):EdsIn sides (b+1) (Ya1 es i d):=by
 unfold Ya1
 cases hi:es[i]? with
 |none=>exact h.mono (by omega)
 |some e=>
  intro x hx
  rcases List.mem_or_eq_of_mem_set hx with hx|rfl
  ·obtain⟨h1,h2,h3,h4⟩:=h x hx
   omega
  ·obtain⟨h1,h2,h3,h4⟩:=h e (Td hi)
   grind
theorem Yrs(i:Nat):twin i≠i:=by grind [twin]
theorem Yne{s:Int}(hs:0<=s/\s<sides)(b:List Int)(hb:b.length=sides)(ag:Bool):RelOk sides (-2000000000) (Wa sides s,b,ag):=by
 refine⟨by grind [Wa],hb,λv h0 h1=>?_⟩
 have hn:Xo=1073741824:=rfl
 unfold Wa
 by_cases hv:v=s
 ·grind [UP]
 ·rw[WH (by omega)]
  simp_all [Yl]
def Ed8(sides:Nat)(es:List Ed):Prop:=∀e∈es,(0<=e.f/\e.f<sides)/\(0<=e.t/\e.t<sides)/\(-8<=e.c/\e.c<=8)
inductive Chain (es:List Ed) (by_:List Int) (s:Int) (T:Ed->Prop):Int->Nat->Prop
 |here:Chain es by_ s T s 0
 |step {v:Int}{n:Nat}{e:Ed}(hne:v≠s) (h0:0<=Yl by_ v) (hi:es[(Yl by_ v).toNat]? =some e) (ht:e.t=v) (hr:0<e.r) (hT:T e) (h:Chain es by_ s T e.f n):Chain es by_ s T v (n+1)
variable {es:List Ed}{by_:List Int}{s v:Int}{n:Nat}
theorem Chain.imp{T T':Ed->Prop}(hT:∀e∈es,0<e.r->T e->T' e)(h:Chain es by_ s T v n):Chain es by_ s T' v n:=by
 induction h with
 |here=>exact .here
 |step hne h0 hi ht hr hTe _ ih=>exact .step hne h0 hi ht hr (hT _ (Td hi) hr hTe) ih
theorem Chain.uniq{T:Ed->Prop}{m:Nat}(h:Chain es by_ s T v n)(h':Chain es by_ s T v m):n=m:=by
 induction h generalizing m with
 |here=>
  cases h' with
  |here=>rfl
  |step hne=>omega
 |step hne h0 hi ht hr hT _ ih=>
  cases h' with
  |here=>omega
  |step hne' h0' hi' ht' hr' hT' h'=>
   grind
theorem Chain.nodes{T:Ed->Prop}(h:Chain es by_ s T v n):∃L:List Int,L.length=n/\L.Nodup/\∀x∈L,(∃e∈es,e.t=x)/\∃m,m<=n/\Chain es by_ s T x m:=by
 induction h with
 |here=>simp_all
 |@step v n e hne h0 hi ht hr hT h ih=>
  obtain⟨L,h1,h2,h3⟩:=ih
  refine⟨v::L,by simp[h1],List.nodup_cons.2 ⟨λhv=>?_,h2⟩,λx hx=>?_⟩
  ·obtain⟨_,m,hm,hc⟩:=h3 v hv
   have:=Chain.uniq hc (.step hne h0 hi ht hr hT h)
   omega
  ·rcases RA.1 hx with rfl|hx
   ·exact⟨⟨e,Td hi,ht⟩,n+1,TQ _,.step hne h0 hi ht hr hT h⟩
   grind
theorem nodup_len:∀(k:Nat) (L:List Int),L.Nodup->(∀x∈L,0<=x/\x<k)->L.length<=k
 |0,L,_,h=>by
  cases L with
  |nil=>simp_all
  |cons a l=>grind [TM]
 |k+1,L,hn,h=>by
  have h1:=nodup_len k (L.erase (k:Int)) (hn.erase _) λx hx=>by
   grind
  grind
theorem Chain.len{sides:Nat}(hes:Ed8 sides es){T:Ed->Prop}(h:Chain es by_ s T v n):n<=sides:=by
 obtain⟨L,h1,h2,h3⟩:=h.nodes
 rw[<-h1]
 refine nodup_len sides L h2 λx hx=>?_
 obtain⟨⟨e,he,rfl⟩,_⟩:=h3 x hx
 exact(hes e he).2.1
structure FA where
 f:Int
 t:Int
 c:Int
 u:Bool
abbrev E3:=Int×Int×Int
def Yor(L:List FA):List E3:=L.map λx=>(x.f,x.t,x.c)
def Yuc(closed:Int->Bool)(k:Nat):List FA:=(List.range k).flatMap λv:Nat=>if closed (v:Int)=true then []else [⟨2*(v:Int),2*(v:Int)+1,0,false⟩]
def YuF(l:List Lk):List FA:=l.map λa=>⟨2*a.1+1,2*a.2.1,a.2.2,false⟩
def Ygv(nodes:Nat)(l:List Lk)(closed:Int->Bool):List FA:=Yuc closed nodes++YuF l
def Arcs8(nodes:Nat)(l:List Lk):Prop:=∀a∈l,(0<=a.1/\a.1<nodes)/\(0<=a.2.1/\a.2.1<nodes)/\(1<=a.2.2/\a.2.2<=8)
def arc3(a:Lk):E3:=(2*a.1+1,2*a.2.1,a.2.2)
def Ya2(v:Int):E3:=(2*v,2*v+1,0)
theorem YcT{nodes:Nat}{l:List Lk}{closed:Int->Bool}{e:E3}:e∈Yor (Ygv nodes l closed)↔(∃v:Int,(0<=v/\v<nodes)/\closed v=false/\e=Ya2 v)\/∃a∈l,e=arc3 a:=by
 unfold Yor Ygv
 rw[TX,Re]
 constructor
 ·rintro(h|h)
  ·obtain⟨x,hx,rfl⟩:=TI.1 h
   obtain⟨v,hv,h⟩:=SO.1 hx
   have hv:=Ro.1 hv
   cases hc:closed (v:Int)with
   |true=>simp_all
   |false=>
    rw[hc,Tf (by decide)]at h
    obtain rfl:=Rk.1 h
    exact .inl ⟨(v:Int),by omega,hc,rfl⟩
  ·obtain⟨x,hx,rfl⟩:=TI.1 h
   obtain⟨a,ha,rfl⟩:=TI.1 hx
   exact .inr ⟨a,ha,rfl⟩
 ·rintro(⟨v,⟨h0,h1⟩,hc,rfl⟩|⟨a,ha,rfl⟩)
  ·left
   refine TI.2 ⟨⟨2*v,2*v+1,0,false⟩,SO.2 ⟨v.toNat,Ro.2 (by omega),?_⟩,rfl⟩
   grind
  ·right
   exact TI.2 ⟨⟨2*a.1+1,2*a.2.1,a.2.2,false⟩,TI.2 ⟨a,ha,rfl⟩,rfl⟩
theorem OM{α β:Type}{f:α->β}(hf:∀a b,f a=f b->a=b){l:List α}(h:l.Nodup):(l.map f).Nodup:=
 by grind
theorem YnX(a b:Lk)(h:arc3 a=arc3 b):a=b:=by
 grind [arc3]
theorem YmR(a b:Int)(h:Ya2 a=Ya2 b):a=b:=by
 grind [Ya2]
theorem YnY(a:Lk)(v:Int):arc3 a≠Ya2 v:=by
 grind [arc3,Ya2]
inductive Way (l:List Lk) (sh:Int->Bool) (to:Int):Int->List Lk->Prop
 |last {a:Lk}(ha:a∈l) (ht:a.2.1=to):Way l sh to a.1 [a]
 |step {a:Lk}{az:List Lk}(ha:a∈l) (hs:sh a.2.1=false) (h:Way l sh to a.2.1 az):Way l sh to a.1 (a::az)
def QE:List Lk->List Int
 |[]=>[]
 |_::az=>az.map λa=>a.1
def eOf(az:List Lk):List E3:=az.map arc3++(QE az).map Ya2
variable {l az:List Lk}{sh:Int->Bool}{to u:Int}
theorem Way.cons_(h:Way l sh to u az):∃a az',az=a::az'/\a.1=u:=by
 cases h with
 |last ha ht=>simp_all
 |step ha hs h=>simp_all
theorem Way.inner_cons{a:Lk}(h:Way l sh to u az):QE (a::az)=u::QE az:=by
 obtain⟨b,bs,rfl,rfl⟩:=h.cons_
 rfl
theorem Way.mem(h:Way l sh to u az):∀a∈az,a∈l:=by
 induction h with
 |last ha ht=>simp_all
 |step ha hs h ih=>
  simp_all
theorem Way.open_(h:Way l sh to u az):∀v∈QE az,sh v=false:=by
 induction h with
 |last ha ht=>intro v hv;cases hv
 |step ha hs h ih=>
  intro v hv
  rw[h.inner_cons]at hv
  grind
structure Cand(l:List Lk)(sh:Int->Bool)(a b to:Int)(az bs:List Lk):Prop where
 p:Way l sh to a az
 q:Way l sh to b bs
 arcs:(az++bs).Nodup
 nodes:(QE az++QE bs).Nodup
theorem YiI:∀{E M:List E3},E.Nodup->(∀e∈E,e∈M)->∃R,M.Perm (E++R)
 |[],M,_,_=>⟨M,.refl _⟩
 |e::E,M,hn,hm=>by
  obtain⟨h1,h2⟩:=List.nodup_cons.1 hn
  have hp:=List.perm_cons_erase (hm e TM)
  obtain⟨R,hR⟩:=YiI (M:=M.erase e) h2 λx hx=>by
   grind
  exact⟨R,hp.trans (.cons _ hR)⟩
theorem Yof(az bs:List Lk):(eOf az++eOf bs).Perm ((az++bs).map arc3++(QE az++QE bs).map Ya2):=by
 unfold eOf
 rw[TX,TX]
 rw[Rq,Rq]
 refine .append_left _ ?_
 rw[<-Rq,<-Rq]
 exact .append_right _ SY
theorem Cand.sub{nodes:Nat}{a b:Int}{bs:List Lk}(hl:Arcs8 nodes l)(h:Cand l sh a b to az bs):∃R,(Yor (Ygv nodes l sh)).Perm ((eOf az++eOf bs)++R):=by
 have hn:(eOf az++eOf bs).Nodup:=by
  rw[(Yof az bs).nodup_iff]
  refine Nq.2 ⟨OM YnX h.arcs,OM YmR h.nodes,λx hx y hy=>?_⟩
  obtain⟨c,_,rfl⟩:=TI.1 hx
  obtain⟨v,_,rfl⟩:=TI.1 hy
  exact YnY c v
 refine YiI hn λe he=>?_
 have he:=(Yof az bs).mem_iff.1 he
 rcases Re.1 he with he|he
 ·obtain⟨c,hc,rfl⟩:=TI.1 he
  refine YcT.2 (.inr ⟨c,?_,rfl⟩)
  rcases Re.1 hc with hc|hc
  ·exact h.p.mem c hc
  ·exact h.q.mem c hc
 ·obtain⟨v,hv,rfl⟩:=TI.1 he
  have hr:∀{u:Int}{cs:List Lk},Way l sh to u cs->v∈QE cs->0<=v/\v<nodes:=λhw hv=>by
   have:∃c∈l,c.1=v:=by
    obtain⟨c,cs',rfl,_⟩:=hw.cons_
    obtain⟨d,hd,rfl⟩:=TI.1 hv
    exact⟨d,hw.mem d (TP _ hd),rfl⟩
   obtain⟨c,hc,rfl⟩:=this
   exact(hl c hc).1
  rcases Re.1 hv with hv|hv
  ·exact YcT.2 (.inl ⟨v,hr h.p hv,h.p.open_ v hv,rfl⟩)
  ·exact YcT.2 (.inl ⟨v,hr h.q hv,h.q.open_ v hv,rfl⟩)
def FirstMin{α:Type}(key:α->Int)(l:List α)(x:α):Prop:=∃l1 l2,l=l1++x::l2/\(∀y∈l1,key x<key y)/\∀y∈l2,key x<=key y
variable {α:Type}
theorem FirstMin.mem{key:α->Int}{l:List α}{x:α}(h:FirstMin key l x):x∈l:=by
 obtain⟨l1,l2,rfl,_⟩:=h
 simp_all
theorem FirstMin.le{key:α->Int}{l:List α}{x y:α}(h:FirstMin key l x)(hy:y∈l):key x<=key y:=by
 obtain⟨l1,l2,rfl,h1,h2⟩:=h
 grind
theorem FirstMin.uniq{key:α->Int}:∀{l:List α}{x y:α},FirstMin key l x->FirstMin key l y->x=y:=by
 intro l x y hx hy
 obtain⟨a1,a2,e1,p1,p2⟩:=hx
 obtain⟨b1,b2,e2,q1,q2⟩:=hy
 rw[e1]at e2
 rcases List.append_eq_append_iff.1 e2 with⟨c,h3,h4⟩|⟨c,h3,h4⟩
 ·cases c with
  |nil=>simp_all
  |cons z c=>
   grind
 ·cases c with
  |nil=>simp_all
  |cons z c=>
   grind
theorem FirstMin.one(key:α->Int)(x:α):FirstMin key [x] x:=⟨[],[],rfl,(λ_ hy=>absurd hy (R9)),(λ_ hy=>absurd hy (R9))⟩
theorem FirstMin.mid{key:α->Int}{l a b:List α}{x:α}(h:FirstMin key l x)(h1:∀y∈a,key x<key y)(h2:∀y∈b,key x<=key y):FirstMin key (a++l++b) x:=by
 obtain⟨l1,l2,rfl,p1,p2⟩:=h
 refine⟨a++l1,l2++b,by simp,λy hy=>?_,λy hy=>?_⟩
 all_goals grind
section
variable (st:Int->Int->Bool) (w:Int->Int->Int) (nodes:Nat) (to:Int)
def keyG:List Int->Int
 |[]=>0
 |[_]=>0
 |u::v::r=>w u v+keyG (v::r)
inductive PathG:Int->List Int->Prop
 |done:PathG to []
 |step {u v:Int}{r:List Int}(hu:u≠to) (hs:st u v=true) (hv:0<=v/\v<nodes) (h:PathG v r):PathG u (v::r)
end
variable {l:List Lk}
theorem Arcs8.ok{nodes:Nat}(h:Arcs8 nodes l):ArcsOk nodes l:=λa ha=>by
 obtain⟨h1,h2,h3⟩:=h a ha
 omega
theorem Arcs8.sub{nodes:Nat}{m:List Lk}(h:Arcs8 nodes l)(hm:∀a∈m,a∈l):Arcs8 nodes m:=λa ha=>h a (hm a ha)
section
variable {st:Int->Int->Bool}{w:Int->Int->Int}{l:List Lk}{nodes:Nat}{t:Int}
abbrev YuC(st:Int->Int->Bool)(nodes:Nat)(t u:Int)(ms:List Int):Prop:=PathG st nodes t u (ms++[t])
variable {u:Int}{p:List Int}
theorem PathG.mono{st2:Int->Int->Bool}(h:PathG st nodes t u p)(hs:∀x y,x=u\/x∈p->y∈p->st x y=true->st2 x y=true):PathG st2 nodes t u p:=by
 induction h with
 |done=>exact .done
 |@step u v r hu hst hv h ih=>
  refine .step hu (hs u v (.inl rfl) TM hst) hv (ih λx y hx hy hxy=>hs x y ?_ (TP _ hy) hxy)
  simp_all
theorem PathG.append{v:Int}{q:List Int}(h:PathG st nodes t u (p++v::q)):PathG st nodes t v q:=by
 induction p generalizing u with
 |nil=>cases h with|step _ _ _ h=>exact h
 |cons x p ih=>cases h with|step _ _ _ h=>exact ih h
end
end Go.Rt
namespace Go.Proofs
open Go.Shelf
def Tryz.sortCels_ren:Go.Shelf.Ren:=⟨λ|6=>168|15=>150|14=>270|28=>258|29=>259|20=>347|21=>348|22=>349|23=>350|24=>351|25=>352|26=>353|27=>354|46=>400|47=>334|48=>335|49=>401|50=>402|57=>430|n=>n,λ|22=>28|24=>48|25=>194|3=>3|39=>205|0=>0|53=>180|55=>182|4=>4|46=>316|45=>315|50=>152|5=>5|9=>9|66=>372|70=>376|76=>425|77=>426|n=>n,λ|n=>n⟩
theorem Tryz.sortCels:Go.Proofs.SlLaysF0.n6 Tryz.prog Tryz.sortCels_ren:={
 mixed:=by kernel_rfl
 f6:=⟨Tryz.f168.name,by decide,Tryz.func168.trans (TD some (by kernel_rfl))⟩
 f14:=⟨Tryz.f270.name,by decide,Tryz.func270.trans (TD some (by kernel_rfl))⟩
 f15:=Tryz.func150.trans (TD some (by kernel_rfl))
 f20:=⟨Tryz.f347.name,by decide,Tryz.func347.trans (TD some (by kernel_rfl))⟩
 f21:=⟨Tryz.f348.name,by decide,Tryz.func348.trans (TD some (by kernel_rfl))⟩
 f22:=⟨Tryz.f349.name,by decide,Tryz.func349.trans (TD some (by kernel_rfl))⟩
 f23:=⟨Tryz.f350.name,by decide,Tryz.func350.trans (TD some (by kernel_rfl))⟩
 f24:=⟨Tryz.f351.name,by decide,Tryz.func351.trans (TD some (by kernel_rfl))⟩
 f25:=⟨Tryz.f352.name,by decide,Tryz.func352.trans (TD some (by kernel_rfl))⟩
 f26:=⟨Tryz.f353.name,by decide,Tryz.func353.trans (TD some (by kernel_rfl))⟩
 f27:=⟨Tryz.f354.name,by decide,Tryz.func354.trans (TD some (by kernel_rfl))⟩
 f28:=Tryz.func258.trans (TD some (by kernel_rfl))
 f29:=Tryz.func259.trans (TD some (by kernel_rfl))
 f46:=⟨Tryz.f400.name,by decide,Tryz.func400.trans (TD some (by kernel_rfl))⟩
 f47:=Tryz.func334.trans (TD some (by kernel_rfl))
 f48:=Tryz.func335.trans (TD some (by kernel_rfl))
 f49:=⟨Tryz.f401.name,by decide,Tryz.func401.trans (TD some (by kernel_rfl))⟩
 f50:=⟨Tryz.f402.name,by decide,Tryz.func402.trans (TD some (by kernel_rfl))⟩
 f57:=⟨Tryz.f430.name,by decide,Tryz.func430.trans (TD some (by kernel_rfl))⟩
 t0:=Tryz.underlying0
 a0:=Tryz.isAgg0
 z0:=Tryz.sizeOf0
 v0:=Tryz.zeroValue0
 t3:=Tryz.underlying3
 a3:=Tryz.isAgg3
 z3:=Tryz.sizeOf3
 v3:=Tryz.zeroValue3
 t4:=Tryz.underlying4
 a4:=Tryz.isAgg4
 z4:=Tryz.sizeOf4
 v4:=Tryz.zeroValue4
 t5:=Tryz.underlying5
 a5:=Tryz.isAgg5
 z5:=Tryz.sizeOf5
 v5:=Tryz.zeroValue5
 t9:=Tryz.underlying9
 a9:=Tryz.isAgg9
 z9:=Tryz.sizeOf9
 v9:=Tryz.zeroValue9
 t22:=Tryz.underlying28
 a22:=Tryz.isAgg28
 z22:=Tryz.sizeOf28
 v22:=Tryz.zeroValue28
 t25:=Tryz.underlying194
 a25:=Tryz.isAgg194
 z25:=Tryz.sizeOf194
 v25:=Tryz.zeroValue194
 t39:=Tryz.underlying205
 a39:=Tryz.isAgg205
 z39:=Tryz.sizeOf205
 v39:=Tryz.zeroValue205
 t45:=Tryz.underlying315
 a45:=Tryz.isAgg315
 z45:=Tryz.sizeOf315
 v45:=Tryz.zeroValue315
 t46:=Tryz.underlying316
 a46:=Tryz.isAgg316
 z46:=Tryz.sizeOf316
 v46:=Tryz.zeroValue316
 t50:=Tryz.underlying152
 a50:=Tryz.isAgg152
 z50:=Tryz.sizeOf152
 v50:=Tryz.zeroValue152
 t53:=Tryz.underlying180
 a53:=Tryz.isAgg180
 z53:=Tryz.sizeOf180
 v53:=Tryz.zeroValue180
 t55:=Tryz.underlying182
 a55:=Tryz.isAgg182
 z55:=Tryz.sizeOf182
 v55:=Tryz.zeroValue182
 t66:=Tryz.underlying372
 a66:=Tryz.isAgg372
 z66:=Tryz.sizeOf372
 v66:=Tryz.zeroValue372
 t70:=Tryz.underlying376
 a70:=Tryz.isAgg376
 z70:=Tryz.sizeOf376
 v70:=Tryz.zeroValue376
 t76:=Tryz.underlying425
 a76:=Tryz.isAgg425
 z76:=Tryz.sizeOf425
 v76:=Tryz.zeroValue425
 t77:=Tryz.underlying426
 a77:=Tryz.isAgg426
 z77:=Tryz.sizeOf426
 v77:=Tryz.zeroValue426}
end Go.Proofs
