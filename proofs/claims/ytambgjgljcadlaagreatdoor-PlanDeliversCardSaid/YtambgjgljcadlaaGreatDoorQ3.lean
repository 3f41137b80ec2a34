/- Lemmas. -/
import Derived.Shelf.Strings.Builder1
import Derived.Shelf.Small.Bits
import Derived.Shelf.Small.Wraps
import Derived.Shelf.Strings.BuilderF
import Derived.Shelf.Strings.BuilderK
import Derived.Shelf.Strconv.Itoa0
import Derived.Shelf.Strconv.Itoa1
import Derived.Shelf.LaysM
import Derived.Shelf.Strconv.Itoa2
import Derived.Shelf.Strconv.Itoa3
import Derived.Shelf.Bits.Mul64
import Derived.Shelf.Strings.BuilderCap
import Derived.Shelf.Slices.Turned
import Derived.Shelf.Slices.Equal
import Derived.Ground.Names2Prog
import Derived.Shelf.Slices.Clone
import Derived.Shelf.Slices.SearchI
import Derived.Shelf.Slices.Empties2
import Derived.Test.YtambgjgljcadlaaGreatDoorProg
import Derived.Lib.Split
import Derived.Lib.ItoaNum
import Derived.Lib.AtoiAll
import Derived.Lib.AtoiTie
import Derived.ProofKit
import Derived.Below
import Derived.ChangeSame
import Derived.Carry
import Derived.Shelf.SlGeneric
import Derived.Shelf.SlSortCmp.WholeK
import Derived.Ground.SlsfProg
import Derived.Test.YtambgjgljcadlaaGreatDoorQ1
set_option maxRecDepth 100000
set_option maxHeartbeats 8000000
set_option linter.all false
namespace Go.Nw
abbrev Lk:=Int×Int×Int
structure Net where
 nodes:Int
 power:List (List Int)
 noise:Int
 thr:Int
 links:List Lk
 margin:List Int
def cmpI(x y:Int):Int:=if x<y then -1 else if y<x then 1 else 0
def cmpL(a b:Lk):Int:=if cmpI a.1 b.1=0 then cmpI a.2.1 b.2.1 else cmpI a.1 b.1
def Jr(p:Int):Bool:=decide (p<0\/68719476736<p)
def wide(k:Int)(r:List Int):Bool:=decide ((r.length:Int)≠k)
def Wj(n:Net):Int:=
 if(n.power.length:Int)≠n.nodes then 1 else if n.power.any (wide n.nodes)=true then 1 else if n.power.any (λr=>r.any Jr)=true then 2 else 0
def lnk(n:Net)(i:Nat):Lk:=n.links.getD i (0,0,0)
def mar(n:Net)(i:Nat):Int:=n.margin.getD i 0
def powr(n:Net)(a b:Int):Int:=(n.power.getD a.toNat []).getD b.toNat 0
def OJ(n:Net)(i:Nat):Int:=
 if¬(0<=(lnk n i).1/\(lnk n i).1<n.nodes)\/¬(0<=(lnk n i).2.1/\(lnk n i).2.1<n.nodes)\/(lnk n i).1=(lnk n i).2.1\/(lnk n i).2.2<0\/7<(lnk n i).2.2 then 2
 else if 0<i/\0<=cmpL (lnk n (i-1)) (lnk n i)then 5
 else if mar n i<0\/powr n (lnk n i).1 (lnk n i).2.1<mar n i then 2 else 0
def VI(n:Net):Nat->Nat->Int
 |0,_=>0
 |r+1,i=>if OJ n i=0 then VI n r (i+1)else OJ n i
def Yp(n:Net):Int:=
 if n.nodes<2\/32<n.nodes then 2 else if Wj n≠0 then Wj n
 else if n.noise<0\/68719476736<n.noise\/n.thr<1000\/100000<n.thr then 2
 else if 128<n.links.length then 8 else if n.margin.length≠n.links.length then 11 else VI n n.links.length 0
def Yi{α:Type}(p:α->Bool):List α->Int->Int
 |[],_=> -1
 |a::l,k=>if p a then k else Yi p l (k+1)
theorem Vl{α:Type}(p:α->Bool):∀(l:List α) (k:Int),0<=k->(0<=Yi p l k↔l.any p=true)
 |[],k,_=>by simp[Yi]
 |a::l,k,h=>by
  unfold Yi
  by_cases hp:p a=true
  ·simp_all
  ·rw[Tf hp,Vl p l (k+1) (by omega)]
   simp[hp]
theorem Zu{α:Type}(p:α->Bool)(l:List α){k:Nat}{a:α}(h:l[k]? =some a):Yi p (l.drop k) k=if p a then(k:Int)else Yi p (l.drop (k+1)) (k+1):=by
 grind [Rw,Yi]
variable {i:Nat}
theorem Yii(n:Net)(h:i<n.links.length)(h0:OJ n i=0):VI n (n.links.length-i) i=VI n (n.links.length-(i+1)) (i+1):=by
 rw[show n.links.length-i=n.links.length-(i+1)+1 by omega,VI,Tj h0]
theorem Yij(n:Net)(h:i<n.links.length)(h0:OJ n i≠0):VI n (n.links.length-i) i=OJ n i:=by
 rw[show n.links.length-i=n.links.length-(i+1)+1 by omega,VI,Tf h0]
theorem Yi2{n:Net}(h:Wj n=0):(n.power.length:Int)=n.nodes/\(∀r∈n.power,(r.length:Int)=n.nodes)/\∀r∈n.power,∀p∈r,0<=p/\p<=68719476736:=by
 unfold Wj at h
 by_cases h1:(n.power.length:Int)≠n.nodes
 ·omega
 by_cases h2:n.power.any (wide n.nodes)=true
 ·simp_all
 by_cases h3:n.power.any (λr=>r.any Jr)=true
 ·simp_all
 refine⟨by omega,λr hr=>?_,λr hr p hp=>?_⟩
 ·by_cases hw:(r.length:Int)=n.nodes
  ·exact hw
  ·exact absurd (Re.2 ⟨r,hr,by simp[wide,hw]⟩) h2
 ·by_cases ho:Jr p=true
  ·grind
  grind [Jr]
variable {x y a b:Int}
theorem Ypa:cmpI x y<0↔x<y:=by grind [cmpI]
theorem cmpI_zero:cmpI x y=0↔x=y:=by grind [cmpI]
theorem Uv{a b:Lk}:cmpL a b<0↔a.1<b.1\/(a.1=b.1/\a.2.1<b.2.1):=by
 grind [Ypa,cmpI_zero,cmpL]
theorem Uw{a b:Lk}:cmpL a b=0↔a.1=b.1/\a.2.1=b.2.1:=by
 grind [cmpI_zero,cmpL]
structure OkL(n:Net)(i:Nat):Prop where
 f0:0<=(lnk n i).1
 f1:(lnk n i).1<n.nodes
 t0:0<=(lnk n i).2.1
 t1:(lnk n i).2.1<n.nodes
 ne:(lnk n i).1≠(lnk n i).2.1
 l0:0<=(lnk n i).2.2
 l1:(lnk n i).2.2<=7
 ord:0<i->cmpL (lnk n (i-1)) (lnk n i)<0
 m0:0<=mar n i
 m1:mar n i<=powr n (lnk n i).1 (lnk n i).2.1
variable {n:Net}{i:Nat}
theorem Yr4(h:OJ n i=0):OkL n i:=by
 unfold OJ at h
 by_cases h1:¬(0<=(lnk n i).1/\(lnk n i).1<n.nodes)\/¬(0<=(lnk n i).2.1/\(lnk n i).2.1<n.nodes)\/(lnk n i).1=(lnk n i).2.1\/(lnk n i).2.2<0\/7<(lnk n i).2.2
 ·omega
 by_cases h2:0<i/\0<=cmpL (lnk n (i-1)) (lnk n i)
 ·omega
 by_cases h3:mar n i<0\/powr n (lnk n i).1 (lnk n i).2.1<mar n i
 ·omega
 constructor<;>omega
structure Ok(n:Net):Prop where
 n0:2<=n.nodes
 n1:n.nodes<=32
 p0:(n.power.length:Int)=n.nodes
 p1:∀r∈n.power,(r.length:Int)=n.nodes
 p2:∀r∈n.power,∀p∈r,0<=p/\p<=68719476736
 z0:0<=n.noise
 z1:n.noise<=68719476736
 t0:1000<=n.thr
 t1:n.thr<=100000
 k0:n.links.length<=128
 k1:n.margin.length=n.links.length
 lk:∀i,i<n.links.length->OkL n i
theorem Yik{n:Net}:∀(r i:Nat),VI n r i=0->∀j,i<=j->j<i+r->OkL n j
 |0,_,_,j,h1,h2=>by omega
 |r+1,i,h,j,h1,h2=>by
  unfold VI at h
  by_cases h0:OJ n i=0
  ·rw[Tj h0]at h
   by_cases e:i=j
   ·grind [Yr4]
   ·exact Yik r (i+1) h j (by omega) (by omega)
  omega
theorem YM(h:Yp n=0):Ok n:=by
 unfold Yp at h
 by_cases h1:n.nodes<2\/32<n.nodes
 ·omega
 rw[Tf h1]at h
 by_cases h2:Wj n≠0
 ·omega
 rw[Tf h2]at h
 by_cases h3:n.noise<0\/68719476736<n.noise\/n.thr<1000\/100000<n.thr
 ·omega
 rw[Tf h3]at h
 by_cases h4:128<n.links.length
 ·omega
 rw[Tf h4]at h
 by_cases h5:n.margin.length≠n.links.length
 ·omega
 rw[Tf h5]at h
 obtain⟨t1,t2,t3⟩:=Yi2 (Classical.not_not.1 h2)
 exact⟨by omega,by omega,t1,t2,t3,by omega,by omega,by omega,by omega,by omega,Classical.not_not.1 h5,λi hi=>Yik _ _ h i (Tm _) (by omega)⟩
theorem Ydv(h:Ok n):∀(i j:Nat),i<j->j<n.links.length->cmpL (lnk n i) (lnk n j)<0:=by
 intro i j
 induction j with
 |zero=>omega
 |succ j ih=>
  intro h1 h2
  have h3:=(h.lk (j+1) h2).ord (by omega)
  rw[SB]at h3
  by_cases e:i=j
  ·simp_all
  ·rw[Uv]at*
   omega
def Ya1(a b:Int)(l:Lk):Bool:=decide (l.1=a)&&decide (l.2.1=b)
def Yy(n:Net)(a b:Int):Int:=Yi (Ya1 a b) n.links 0
theorem QF{α:Type}{p:α->Bool}:∀{l:List α}{k:Int},(∀a∈l,p a=false)->Yi p l k= -1
 |[],_,_=>rfl
 |a::l,k,h=>by
  rw[Yi,h a TB,Tf (by simp)]
  exact QF λb hb=>h b (TJ _ hb)
theorem O3{α:Type}{p:α->Bool}:∀{l:List α}{k:Int}{i:Nat}{a:α},l[i]? =some a->p a=true->(∀j b,j<i->l[j]? =some b->p b=false)->Yi p l k=k+i
 |[],_,_,_,h,_,_=>by simp at h
 |b::l,k,0,a,h,hp,_=>by
  simp_all [Yi]
 |b::l,k,i+1,a,h,hp,hn=>by
  have hb:=hn 0 b (by omega) (by simp)
  rw[Yi,Tf (by simp_all),O3 (i:=i) (a:=a) (by simp_all) hp λj c hj hc=>hn (j+1) c (by omega) (by simp_all)]
  omega
theorem U7{α:Type}{p:α->Bool}:∀{l:List α}{k:Int},0<=k->Yi p l k= -1\/(k<=Yi p l k/\Yi p l k<k+l.length)
 |[],_,_=>.inl rfl
 |a::l,k,h=>by
  unfold Yi
  by_cases hp:p a=true
  ·grind
  ·rcases @U7 _ p l (k+1) (by omega)with h1|h1
   all_goals grind
theorem QG{α:Type}{p:α->Bool}:∀{l:List α}{k:Int}{i:Nat},0<=k->Yi p l k=k+i->∃a,l[i]? =some a/\p a=true
 |[],k,i,h0,h=>by grind [Yi]
 |a::l,k,i,h0,h=>by
  unfold Yi at h
  by_cases hp:p a=true
  ·grind
  ·cases i with
   |zero=>
    grind [U7]
   |succ i=>
    obtain⟨b,h1,h2⟩:=QG (p:=p) (i:=i) (l:=l) (k:=k+1) (by omega) (by omega)
    simp_all
theorem Vm{l:Lk}(h:n.links[i]? =some l):lnk n i=l:=by grind [lnk]
theorem Ygi{z:Int}(h:n.margin[i]? =some z):mar n i=z:=by grind [mar]
theorem QL(n:Net)(h:i<n.links.length):n.links[i]? =some (lnk n i):=by grind [lnk]
theorem YhR(h:Ok n){c:Int}{k:Nat}(hk:k<=n.links.length)(h1:∀j,j<k->cmpL (lnk n j) (a,b,c)<0)(h2:∀j,k<=j->j<n.links.length->0<=cmpL (lnk n j) (a,b,c)):
 Yy n a b=if k<n.links.length/\cmpL (lnk n k) (a,b,c)=0 then(k:Int)else -1:=by
 unfold Yy
 have hlow:∀j l,j<k->n.links[j]? =some l->Ya1 a b l=false:=by grind [Vm,Uv,Ya1]
 by_cases hc:k<n.links.length/\cmpL (lnk n k) (a,b,c)=0
 ·rw[Tj hc,O3 (QL n hc.1) (by grind [Uw,Ya1]) hlow]
  omega
 ·rw[Tf hc]
  refine QF λl hl=>?_
  obtain⟨j,hj,rfl⟩:=List.mem_iff_getElem.1 hl
  by_cases hjk:j<k
  ·exact hlow j _ hjk (Ta hj)
  ·have e:lnk n j=n.links[j]:=Vm (Ta hj)
   have h3:cmpL (lnk n j) (a,b,c)≠0:=by
    by_cases ejk:j=k
    ·grind
    ·intro e0
     have h4:=Ydv h k j (by omega) hj
     have h5:=h2 k (TI _) (by omega)
     rw[Uw]at e0
     have h6:¬cmpL (lnk n k) (a,b,c)<0:=by omega
     simp_all [Uv]
   simp_all [Uw,Ya1]
def ZP(n:Net)(s d:Int):Bool:=decide (n.thr*(n.noise+d)<=s*1000)
def ZL(n:Net)(i:Nat):Bool:=decide (0<=Yy n (lnk n i).2.1 (lnk n i).1)&&(ZP n (mar n i) 0&&ZP n (mar n (Yy n (lnk n i).2.1 (lnk n i).1).toNat) 0)
theorem YrT(h:Ok n){d:Int}(h0:0<=d)(h1:d<=8796093022208): -9223372036854775808<=n.thr*(n.noise+d)/\n.thr*(n.noise+d)<=9223372036854775807:=by
 have h2:=h.t0;have h3:=h.t1;have h4:=h.z0;have h5:=h.z1
 have h6:0<=n.thr*(n.noise+d):=SJ (by omega) (by omega)
 have h7:n.thr*(n.noise+d)<=100000*(n.noise+d):=RY h3 (by omega)
 omega
theorem Ykg(h:Ok n)(hi:i<n.links.length):0<=mar n i/\mar n i<=68719476736:=by
 have hl:=h.lk i hi
 refine⟨hl.m0,Int.le_trans hl.m1 ?_⟩
 unfold powr
 have e1:(lnk n i).1.toNat<n.power.length:=by have:=h.p0;have:=hl.f1;have:=hl.f0;omega
 rw[show n.power.getD (lnk n i).1.toNat []=n.power[(lnk n i).1.toNat] by simp_all]
 have hm:=List.getElem_mem e1
 have e2:(lnk n i).2.1.toNat<(n.power[(lnk n i).1.toNat]).length:=by have:=h.p1 _ hm;have:=hl.t1;have:=hl.t0;omega
 rw[show(n.power[(lnk n i).1.toNat]).getD (lnk n i).2.1.toNat 0=(n.power[(lnk n i).1.toNat])[(lnk n i).2.1.toNat] by simp_all]
 exact(h.p2 _ hm _ (List.getElem_mem e2)).2
theorem Zj(h:0<=Yy n a b):(Yy n a b).toNat<n.links.length:=by
 rcases @U7 _ (Ya1 a b) n.links 0 (by omega)with h1|h1<;>unfold Yy at h⊢<;>omega
theorem WU(h:0<=Yy n a b):(lnk n (Yy n a b).toNat).1=a/\(lnk n (Yy n a b).toNat).2.1=b:=by
 obtain⟨l,h1,h2⟩:=@QG _ (Ya1 a b) n.links 0 (Yy n a b).toNat (by omega) (by grind [Yy])
 grind [Vm,Ya1]
end Go.Nw
namespace Go.Proofs.YtambgjgljcadlaaGreatDoor
def XQ:List Int->List Int->Bool
 |[],b=>!b.isEmpty
 |_::_,[]=>false
 |a::l,b::m=>if a≠b then decide (a<b)else XQ l m
theorem Yih{a b:List Int}{i:Nat}{x y:Int}(hx:a[i]? =some x)(hy:b[i]? =some y):XQ (a.drop i) (b.drop i)=if x≠y then decide (x<y)else XQ (a.drop (i+1)) (b.drop (i+1)):=by
 obtain⟨h1,rfl⟩:=Td.1 hx
 obtain⟨h2,rfl⟩:=Td.1 hy
 rw[Rw h1,Rw h2]
 rfl
theorem YpV:∀{a b:List Int},XQ a b=false->XQ b a=false->a=b
 |[],[],_,_=>rfl
 |[],b::m,h,_=>by simp[XQ]at h
 |a::l,[],_,h=>by simp[XQ]at h
 |a::l,b::m,h1,h2=>by
  unfold XQ at h1 h2
  by_cases e:a=b
  ·subst e
   rw[Tf (λh=>h rfl)]at h1 h2
   rw[YpV h1 h2]
  grind
theorem YcY:∀a:List Int,XQ a a=false
 |[]=>rfl
 |a::l=>by unfold XQ;rw[Tf (λh=>h rfl)];exact YcY l
open Go.Nw
abbrev Cel:=Int×Int×Int×Int×Int
def nums(c:Cel):List Int:=[c.1,c.2.1,c.2.2.1,c.2.2.2.1,c.2.2.2.2]
def Xb(a b:Cel):Bool:=XQ (nums a) (nums b)
variable {a b c:Cel}
theorem Yix(h:nums a=nums b):a=b:=by
 grind [nums]
theorem Ye6:∀{a b c:List Int},XQ a b=true->XQ b c=true->XQ a c=true
 |_,_,[],_,h=>by cases‹List Int›<;>cases h
 |[],_,_::_,_,_=>rfl
 |_::_,[],_::_,h,_=>by cases h
 |x::a,y::b,z::c,h1,h2=>by
  unfold XQ at h1 h2⊢
  by_cases e1:x=y
  ·subst e1
   rw[Tf (λh=>h rfl)]at h1
   by_cases e2:x=z
   ·subst e2
    rw[Tf (λh=>h rfl)]at h2⊢
    exact Ye6 h1 h2
   simp_all
  grind
theorem Z6(h1:Xb a b=true)(h2:Xb b c=true):Xb a c=true:=Ye6 h1 h2
theorem JG(a:Cel):Xb a a=false:=YcY _
theorem Qt(h1:Xb a b=false)(h2:Xb b a=false):a=b:=Yix (YpV h1 h2)
def insE(x n:Int):Bool:=decide (0<=x/\x<n)
structure Sch where
 len:Int
 off:Int
 cells:List Cel
def Zl(s:Sch)(c:Cel):Bool:=insE c.1 s.len&&insE c.2.1 s.off
def ZF(s:Sch)(c:Cel):Bool:=Zl s c&&insE c.2.2.1 32&&insE c.2.2.2.1 32&&insE c.2.2.2.2 256
def Zy(s:Sch):Bool:=decide (1<=s.len/\s.len<=512/\1<=s.off/\s.off<=16)
def Ym(s:Sch)(i:Nat):Cel:=s.cells.getD i (0,0,0,0,0)
def J7(s:Sch)(i:Nat):Bool:=ZF s (Ym s i)&&(decide (i=0)||Xb (Ym s (i-1)) (Ym s i))
def Y5(s:Sch):Bool:=Zy s&&decide (s.cells.length<=512)&&(List.range s.cells.length).all (J7 s)
variable {p:Nat->Bool}{k i:Nat}
theorem Yb6:(List.range (k+1)).all p=((List.range k).all p&&p k):=by
 grind
theorem YfV(h:(List.range k).all p=true)(hi:i<k):p i=true:=by simp_all
variable {s:Sch}
theorem Xy(h:s.cells[i]? =some c):Ym s i=c:=by
 grind [Ym]
theorem Y0(h:i<s.cells.length):s.cells[i]? =some (Ym s i):=by
 grind [Ym]
theorem JE(h:i<s.cells.length):Ym s i∈s.cells:=Tc (Y0 h)
structure Frm(s:Sch):Prop where
 sized:Zy s=true
 few:s.cells.length<=512
 formed:∀c∈s.cells,ZF s c=true
 ord:s.cells.Pairwise λa b=>Xb a b=true
theorem QQ{α:Type}{lt:α->α->Bool}(htr:∀{a b c},lt a b=true->lt b c=true->lt a c=true){l:List α}(h:∀i,∀a b,l[i]? =some a->l[i+1]? =some b->lt a b=true):l.Pairwise λa b=>lt a b=true:=by
 induction l with
 |nil=>simp_all
 |cons x l ih=>
  have h1:=ih λi a b ha hb=>h (i+1) a b (by simp_all) (by simp_all)
  refine .cons (λy hy=>?_) h1
  cases l with
  |nil=>cases hy
  |cons z l=>
   have hz:=h 0 x z rfl rfl
   grind [Nb]
theorem Zt:Y5 s=true↔Frm s:=by
 unfold Y5
 simp only[Tq,Tt]
 constructor
 ·rintro⟨⟨h1,h2⟩,h3⟩
  have hc:∀i,i<s.cells.length->J7 s i=true:=by simp_all
  refine⟨h1,h2,λc hc2=>?_,?_⟩
  ·obtain⟨i,hi⟩:=TQ.1 hc2
   have:=hc i (Td.1 hi).1
   simp_all [J7,Xy]
  ·refine QQ (lt:=Xb) (λh1 h2=>Z6 h1 h2) λi a b ha hb=>?_
   have:=hc (i+1) (Td.1 hb).1
   simp_all [J7,Xy]
 ·intro h
  refine⟨⟨h.sized,h.few⟩,TK.2 λi hi=>?_⟩
  have hi:=TN.1 hi
  unfold J7
  rw[h.formed _ (JE hi),RV,RO,Tt]
  rcases NY i with h0|h0
  ·omega
  ·obtain⟨h1,h2⟩:=Td.1 (Y0 (s:=s) (i:=i-1) (by omega))
   obtain⟨h3,h4⟩:=Td.1 (Y0 (s:=s) hi)
   grind [TY,Go.Proofs.YtambgjgljcadlaaGreatDoor.Frm.ord]
abbrev Flw:=Int×Int×Int×Int×Int×Int
def YX(nodes:Int)(f:Flw):Int:=
 if f.1<0\/255<f.1\/insE f.2.1 nodes=false\/insE f.2.2.1 nodes=false then 2
 else if f.2.2.2.1<1\/512<f.2.2.2.1\/f.2.2.2.2.1<0\/f.2.2.2.1<=f.2.2.2.2.1\/f.2.2.2.2.2<1\/f.2.2.2.1<f.2.2.2.2.2 then 2
 else if f.2.1=f.2.2.1 then 1 else 0
def Xk(l:List Flw)(i:Nat):Flw:=l.getD i (0,0,0,0,0,0)
def YT(f:Nat->Int):Nat->Nat->Int×Int
 |0,_=>(-1,0)
 |r+1,i=>if f i=0 then YT f r (i+1)else((i:Int),f i)
theorem YG{f:Nat->Int}:∀{r i:Nat},(YT f r i).2=0↔∀k,i<=k->k<i+r->f k=0
 |0,i=>by grind [YT]
 |r+1,i=>by
  unfold YT
  split
  ·rw[YG]
   grind
  grind
theorem Ycy{f:Nat->Int}:∀{r i:Nat},(YT f r i).2=0->(YT f r i).1= -1
 |0,i,_=>rfl
 |r+1,i,h=>by
  unfold YT at h⊢
  split at h
  ·rw[Tj ‹_›];exact Ycy h
  omega
def Xl(nodes:Int)(l:List Flw)(i:Nat):Int:=if YX nodes (Xk l i)≠0 then YX nodes (Xk l i)else if 0<i/\(Xk l i).1<=(Xk l (i-1)).1 then 5 else 0
def Yz(nodes:Int)(l:List Flw):Int×Int:=
 if nodes<2\/32<nodes then(-1,2)else if 16<l.length then(-1,8)else YT (Xl nodes l) l.length 0
def Zi(l:List Flw)(id:Int):Int:=Yi (λf=>decide (f.1=id)) l 0
end Go.Proofs.YtambgjgljcadlaaGreatDoor
namespace Go.Nw
theorem nodup_len:∀(N:Nat) (l:List Int),l.Nodup->(∀x∈l,0<=x/\x<N)->l.length<=N
 |0,l,_,h=>by
  cases l with
  |nil=>simp
  |cons a l=>grind [TB]
 |N+1,l,hn,h=>by
  have h1:=nodup_len N (l.erase (N:Int)) (hn.erase _) (λx hx=>by
   grind)
  grind
end Go.Nw
namespace Go.Proofs
open Go.Shelf
def Tryz.lays169_ren:Go.Shelf.Ren:=⟨λ|169=>87|n=>n,λ|70=>172|9=>9|0=>0|72=>175|37=>173|127=>256|3=>3|5=>5|n=>n,λ|n=>n⟩
theorem Tryz.lays169:Go.Proofs.Lays.n169 Tryz.prog Tryz.lays169_ren:={
 mixed:=by kernel_rfl
 f169:=Tryz.func87.trans (TC some (by kernel_rfl))
 t0:=Tryz.underlying0
 a0:=Tryz.isAgg0
 z0:=Tryz.sizeOf0
 v0:=Tryz.zeroValue0
 t3:=Tryz.underlying3
 a3:=Tryz.isAgg3
 z3:=Tryz.sizeOf3
 v3:=Tryz.zeroValue3
 t9:=Tryz.underlying9
 a9:=Tryz.isAgg9
 z9:=Tryz.sizeOf9
 v9:=Tryz.zeroValue9
 t37:=Tryz.underlying173
 a37:=Tryz.isAgg173
 z37:=Tryz.sizeOf173
 v37:=Tryz.zeroValue173
 t70:=Tryz.underlying172
 a70:=Tryz.isAgg172
 z70:=Tryz.sizeOf172
 v70:=Tryz.zeroValue172
 t72:=Tryz.underlying175
 a72:=Tryz.isAgg175
 z72:=Tryz.sizeOf175
 v72:=Tryz.zeroValue175
 t127:=Tryz.underlying256
 a127:=Tryz.isAgg256
 z127:=Tryz.sizeOf256
 v127:=Tryz.zeroValue256}
theorem Tryz.Builder_Extra_169:Builder.Extra Tryz.prog Tryz.lays169_ren:={
 sizeBuilder:=by kernel_rfl
 liesBuilder:=by kernel_rfl
 t5:=Tryz.underlying5
 a5:=Tryz.isAgg5
 z5:=Tryz.sizeOf5
 v5:=Tryz.zeroValue5
 infoByte:=by kernel_rfl
 cellsByte:=by kernel_rfl
 sizeByte:=by kernel_rfl
 neB5:=by decide}
open Go.RowKit in
theorem Tryz.Builder_String_any(B b:Nat)(l:List UInt8)(w:World)(h:Lib.IsBuilder 175 5 B b (Lib.byteCells l) w)(hBw:B<=w.heap.size):
 Calls Tryz.prog 87 #[.pointer (some ⟨b,0,none⟩)] w λe w'=>e=.returned (.string ⟨l.toArray⟩)/\Below B w w':=Any.Builder_String_any Tryz.lays169 Tryz.Builder_Extra_169 B b l w h hBw
def Tryz.lays122_ren:Go.Shelf.Ren:=⟨λ|122=>49|215=>114|n=>n,λ|3=>3|4=>4|n=>n,λ|n=>n⟩
theorem Tryz.lays122:Go.Proofs.Lays.n122 Tryz.prog Tryz.lays122_ren:={
 mixed:=by kernel_rfl
 f122:=Tryz.func49.trans (TC some (by kernel_rfl))
 f215:=Tryz.func114.trans (TC some (by kernel_rfl))
 t3:=Tryz.underlying3
 a3:=Tryz.isAgg3
 z3:=Tryz.sizeOf3
 v3:=Tryz.zeroValue3
 t4:=Tryz.underlying4
 a4:=Tryz.isAgg4
 z4:=Tryz.sizeOf4
 v4:=Tryz.zeroValue4}
open Go.RowKit in
theorem Tryz.cmp_Compare_int(x y:Int)(w:World):
 Calls Tryz.prog 49 #[.int .i64 x,.int .i64 y] w λe w'=>e=.returned (.int .i64 (Lib.compareInt x y))/\w'=w:=Any.cmp_Compare_int Tryz.lays122 x y w
def Tryz.laysM171_ren:Go.Shelf.Ren:=⟨λ|171=>155|243=>229|246=>285|283=>316|284=>317|285=>318|286=>319|129=>203|317=>339|318=>340|319=>341|320=>342|337=>355|338=>356|n=>n,λ|3=>3|9=>9|2=>2|4=>4|171=>397|0=>0|53=>234|37=>173|5=>5|173=>399|212=>423|51=>232|20=>20|213=>424|46=>153|232=>450|233=>451|n=>n,λ|17=>0|18=>1|19=>2|n=>n⟩
theorem Tryz.laysM171:Go.Proofs.LaysM.n171 Tryz.prog Tryz.laysM171_ren:={
 mixed:=by kernel_rfl
 f129:=Tryz.func203.trans (TC some (by kernel_rfl))
 f171:=Tryz.func155.trans (TC some (by kernel_rfl))
 f243:=Tryz.func229.trans (TC some (by kernel_rfl))
 f246:=Tryz.func285.trans (TC some (by kernel_rfl))
 f283:=Tryz.func316.trans (TC some (by kernel_rfl))
 f284:=Tryz.func317.trans (TC some (by kernel_rfl))
 f285:=Tryz.func318.trans (TC some (by kernel_rfl))
 f286:=Tryz.func319.trans (TC some (by kernel_rfl))
 f317:=Tryz.func339.trans (TC some (by kernel_rfl))
 f318:=Tryz.func340.trans (TC some (by kernel_rfl))
 f319:=Tryz.func341.trans (TC some (by kernel_rfl))
 f320:=Tryz.func342.trans (TC some (by kernel_rfl))
 f337:=Tryz.func355.trans (TC some (by kernel_rfl))
 f338:=Tryz.func356.trans (TC some (by kernel_rfl))
 t0:=Tryz.underlying0
 a0:=Tryz.isAgg0
 z0:=Tryz.sizeOf0
 v0:=Tryz.zeroValue0
 t2:=Tryz.underlying2
 a2:=Tryz.isAgg2
 z2:=Tryz.sizeOf2
 v2:=Tryz.zeroValue2
 t3:=Tryz.underlying3
 a3:=Tryz.isAgg3
 z3:=Tryz.sizeOf3
 v3:=Tryz.zeroValue3
 t4:=Tryz.underlying4
 a4:=Tryz.isAgg4
 z4:=Tryz.sizeOf4
 v4:=Tryz.zeroValue4
 t5:=Tryz.underlying5
 a5:=Tryz.isAgg5
 z5:=Tryz.sizeOf5
 v5:=Tryz.zeroValue5
 t9:=Tryz.underlying9
 a9:=Tryz.isAgg9
 z9:=Tryz.sizeOf9
 v9:=Tryz.zeroValue9
 t20:=Tryz.underlying20
 a20:=Tryz.isAgg20
 z20:=Tryz.sizeOf20
 v20:=Tryz.zeroValue20
 t37:=Tryz.underlying173
 a37:=Tryz.isAgg173
 z37:=Tryz.sizeOf173
 v37:=Tryz.zeroValue173
 t46:=Tryz.underlying153
 a46:=Tryz.isAgg153
 z46:=Tryz.sizeOf153
 v46:=Tryz.zeroValue153
 t51:=Tryz.underlying232
 a51:=Tryz.isAgg232
 z51:=Tryz.sizeOf232
 v51:=Tryz.zeroValue232
 t53:=Tryz.underlying234
 a53:=Tryz.isAgg234
 z53:=Tryz.sizeOf234
 v53:=Tryz.zeroValue234
 t171:=Tryz.underlying397
 a171:=Tryz.isAgg397
 z171:=Tryz.sizeOf397
 v171:=Tryz.zeroValue397
 t173:=Tryz.underlying399
 a173:=Tryz.isAgg399
 z173:=Tryz.sizeOf399
 v173:=Tryz.zeroValue399
 t212:=Tryz.underlying423
 a212:=Tryz.isAgg423
 z212:=Tryz.sizeOf423
 v212:=Tryz.zeroValue423
 t213:=Tryz.underlying424
 a213:=Tryz.isAgg424
 z213:=Tryz.sizeOf424
 t232:=Tryz.underlying450
 a232:=Tryz.isAgg450
 z232:=Tryz.sizeOf450
 v232:=Tryz.zeroValue450
 t233:=Tryz.underlying451
 a233:=Tryz.isAgg451
 z233:=Tryz.sizeOf451
 v233:=Tryz.zeroValue451
 g17:=by kernel_rfl
 g18:=by kernel_rfl
 g19:=by kernel_rfl
 i0:=by kernel_rfl
 i2:=by kernel_rfl
 i3:=by kernel_rfl
 i4:=by kernel_rfl
 i5:=by kernel_rfl
 i9:=by kernel_rfl
 i20:=by kernel_rfl
 i37:=by kernel_rfl
 i46:=by kernel_rfl
 i51:=by kernel_rfl
 i53:=by kernel_rfl
 i171:=by kernel_rfl
 i173:=by kernel_rfl
 i212:=by kernel_rfl
 i232:=by kernel_rfl
 i233:=by kernel_rfl
 m17:=by kernel_rfl
 m18:=by kernel_rfl
 m19:=by kernel_rfl}
open Go.RowKit Go.Sort Go.Lib in
theorem Tryz.strconv_Itoa(n:Int)(h0: -9223372036854775808<=n)(h1:n<=9223372036854775807)(w:World)(htab:Lib.TabIs Tryz.prog w "internal/strconv.uint64pow10" .u64 Lib.pow10Tab):
 Calls Tryz.prog 155 #[.int .i64 n] w λe w'=>e=.returned (.string ⟨(Lib.itoa n).toArray⟩)/\∃k os,w'=grow (w.drewN k) os:=Any.strconv_Itoa Tryz.laysM171 n h0 h1 w htab
def Tryz.lays212_ren:Go.Shelf.Ren:=⟨λ|212=>350|263=>359|264=>360|n=>n,λ|46=>153|51=>232|146=>446|53=>234|148=>448|n=>n,λ|n=>n⟩
theorem Tryz.lays212:Go.Proofs.Lays.n212 Tryz.prog Tryz.lays212_ren:={
 mixed:=by kernel_rfl
 f212:=Tryz.func350.trans (TC some (by kernel_rfl))
 f263:=Tryz.func359.trans (TC some (by kernel_rfl))
 f264:=Tryz.func360.trans (TC some (by kernel_rfl))
 t46:=Tryz.underlying153
 a46:=Tryz.isAgg153
 z46:=Tryz.sizeOf153
 v46:=Tryz.zeroValue153
 t51:=Tryz.underlying232
 a51:=Tryz.isAgg232
 z51:=Tryz.sizeOf232
 v51:=Tryz.zeroValue232
 t53:=Tryz.underlying234
 a53:=Tryz.isAgg234
 z53:=Tryz.sizeOf234
 v53:=Tryz.zeroValue234
 t146:=Tryz.underlying446
 a146:=Tryz.isAgg446
 z146:=Tryz.sizeOf446
 v146:=Tryz.zeroValue446
 t148:=Tryz.underlying448
 a148:=Tryz.isAgg448
 z148:=Tryz.sizeOf448
 v148:=Tryz.zeroValue448}
open Go.RowKit Go.Lib in
theorem Tryz.bits_Mul(x y:Nat)(hx:x<18446744073709551616)(hy:y<18446744073709551616)(w:World):
 Calls Tryz.prog 350 #[.int .u64 x,.int .u64 y] w λe w'=>e=.returned (.tuple #[.int .u64 ((x*y/18446744073709551616:Nat):Int),.int .u64 ((x*y%18446744073709551616:Nat):Int)])/\w'=w:=Any.bits_Mul Tryz.lays212 x y hx hy w
end Go.Proofs
namespace Go.Rt
open Go.Nw
def Xg:Int:=1073741824
def Yl(far:List Int)(v:Int):Int:=far.getD v.toNat 0
def ArcsOk(nodes:Nat)(l:List Lk):Prop:=∀a∈l,(0<=a.1/\a.1<nodes)/\(0<=a.2.1/\a.2.1<nodes)/\(1<=a.2.2/\a.2.2<=1000000)
structure Dist(nodes:Nat)(l:List Lk)(to:Int)(far:List Int):Prop where
 len:far.length=nodes
 to0:Yl far to=0
 range:∀v:Int,0<=v->v<nodes->0<=Yl far v/\Yl far v<=Xg
 tight:∀v:Int,0<=v->v<nodes->v≠to->Yl far v<Xg->∃a∈l,a.1=v/\Yl far a.2.1+a.2.2<=Yl far v
 least:∀a∈l,Yl far a.2.1<Xg->Yl far a.1<=Yl far a.2.1+a.2.2
structure DInv(nodes:Nat)(l:List Lk)(to:Int)(far:List Int)(q:List (Int×Int))(v:Int)(rest:List Lk):Prop where
 len:far.length=nodes
 to0:Yl far to=0
 range:∀v:Int,0<=v->v<nodes->0<=Yl far v/\Yl far v<=Xg
 tight:∀v:Int,0<=v->v<nodes->v≠to->Yl far v<Xg->∃a∈l,a.1=v/\Yl far a.2.1+a.2.2<=Yl far v
 pend:∀a∈l,Yl far a.2.1<Xg->Yl far a.1<=Yl far a.2.1+a.2.2\/(a.2.1,Yl far a.2.1)∈q\/(a.2.1=v/\a∈rest)
 items:∀x∈q,(0<=x.1/\x.1<nodes)/\Yl far x.1<=x.2/\x.2<Xg
def Jw(far:List Int)(q:List (Int×Int)):Nat:=2*(far.map Int.toNat).sum+q.length
variable {far:List Int}{i x to v:Int}
theorem U0(h:i.toNat<far.length):Yl (far.set i.toNat x) i=x:=by
 grind [Yl]
theorem WR{j:Int}(h:i.toNat≠j.toNat):Yl (far.set i.toNat x) j=Yl far j:=by
 grind [Yl]
theorem XH(h:i.toNat<far.length):far[i.toNat]? =some (Yl far i):=by
 grind [Yl]
theorem YsD{i:Nat}(h:i<far.length)(h0:0<=x)(hx:x<far.getD i 0):((far.set i x).map Int.toNat).sum+1<=(far.map Int.toNat).sum:=by
 induction far generalizing i with
 |nil=>simp at h
 |cons a l ih=>
  cases i with
  |zero=>
   grind
  |succ i=>
   grind
variable {l rest:List Lk}
theorem YjP{nodes:Nat}(hl:ArcsOk nodes l)(h0:0<=to)(h1:to<nodes):DInv nodes l to ((List.replicate nodes Xg).set to.toNat 0) [(to,0)] 0 []:=by
 have hlen:to.toNat<(List.replicate nodes Xg).length:=by simp_all
 have hself:=U0 (far:=List.replicate nodes Xg) (i:=to) (x:=0) hlen
 have hrep:∀v:Int,0<=v->v<nodes->Yl (List.replicate nodes Xg) v=Xg:=by
  simp_all [Yl]
 have hoth:∀v:Int,0<=v->v<nodes->v≠to->Yl ((List.replicate nodes Xg).set to.toNat 0) v=Xg:=by
  grind [WR]
 refine⟨by simp,hself,?_,?_,?_,?_⟩
 ·intro v hv hv2
  by_cases e:v=to
  ·subst e;rw[hself];exact⟨RI _,by decide⟩
  ·rw[hoth v hv hv2 e];exact⟨by decide,RI _⟩
 ·simp_all
 ·intro a ha hlt
  obtain⟨_,⟨h3,h4⟩,_⟩:=hl a ha
  grind
 ·intro x hx
  obtain rfl:x=(to,0):=by simp_all
  exact⟨⟨h0,h1⟩,by simp_all,show(0:Int)<1073741824 by decide⟩
variable {q q':List (Int×Int)}
theorem Ym3{nodes:Nat}{x:Int×Int}(h:DInv nodes l to far q 0 [])(hp:(x::q').Perm q)(hx:Yl far x.1<x.2):DInv nodes l to far q' 0 []:=by
 refine⟨h.len,h.to0,h.range,h.tight,?_,λy hy=>h.items y (hp.mem_iff.1 (TJ _ hy))⟩
 intro a ha hlt
 rcases h.pend a ha hlt with h1|h1|⟨_,h1⟩
 all_goals grind
theorem Ym2{nodes:Nat}{x:Int×Int}(h:DInv nodes l to far q 0 [])(hp:(x::q').Perm q):DInv nodes l to far q' x.1 l:=by
 refine⟨h.len,h.to0,h.range,h.tight,?_,λy hy=>h.items y (hp.mem_iff.1 (TJ _ hy))⟩
 intro a ha hlt
 rcases h.pend a ha hlt with h1|h1|⟨_,h1⟩
 all_goals grind
theorem Yph{nodes:Nat}(h:DInv nodes l to far q v []):DInv nodes l to far q 0 []:=by
 refine⟨h.len,h.to0,h.range,h.tight,λa ha hlt=>?_,h.items⟩
 rcases h.pend a ha hlt with h1|h1|⟨_,h1⟩
 all_goals simp_all
theorem Ym1{nodes:Nat}(h:DInv nodes l to far [] 0 []):Dist nodes l to far:=by
 refine⟨h.len,h.to0,h.range,h.tight,λa ha hlt=>?_⟩
 rcases h.pend a ha hlt with h1|h1|⟨_,h1⟩
 all_goals simp_all
variable {a:Lk}
theorem YrK{nodes:Nat}(h:DInv nodes l to far q v (a::rest))(hn:¬(a.2.1=v/\Yl far v+a.2.2<Yl far a.1)):DInv nodes l to far q v rest:=by
 refine⟨h.len,h.to0,h.range,h.tight,?_,h.items⟩
 intro b hb hlt
 rcases h.pend b hb hlt with h1|h1|⟨h1,h2⟩
 all_goals grind
theorem Ypi{nodes:Nat}{d:Int}(hl:ArcsOk nodes l)(hv:0<=v/\v<nodes)(hd:Yl far v=d)(hal:a∈l)(h:DInv nodes l to far q v (a::rest))(h1:a.2.1=v)(h2:d+a.2.2<Yl far a.1)(hp:q'.Perm ((a.1,d+a.2.2)::q)):
 DInv nodes l to (far.set a.1.toNat (d+a.2.2)) q' v rest/\Yl (far.set a.1.toNat (d+a.2.2)) v=d/\Jw (far.set a.1.toNat (d+a.2.2)) q'+1<=Jw far q:=by
 obtain⟨⟨a1,a2⟩,_,⟨a5,a6⟩⟩:=hl a hal
 have hlen:=h.len
 have hlt:a.1.toNat<far.length:=by omega
 have hself:=U0 (far:=far) (i:=a.1) (x:=d+a.2.2) hlt
 obtain⟨r1,r2⟩:=h.range v hv.1 hv.2
 obtain⟨r3,r4⟩:=h.range a.1 a1 a2
 have hoth:∀u:Int,0<=u->u≠a.1->Yl (far.set a.1.toNat (d+a.2.2)) u=Yl far u:=by grind [WR]
 have hle:∀u:Int,0<=u->Yl (far.set a.1.toNat (d+a.2.2)) u<=Yl far u:=by
  grind
 have hto:Yl (far.set a.1.toNat (d+a.2.2)) to=0:=by
  by_cases e:to.toNat=a.1.toNat
  ·have:Yl far a.1=0:=by
    have h5:=h.to0
    grind [Yl]
   omega
  ·rw[WR (λh=>e h.symm)];exact h.to0
 refine⟨⟨by simp_all,hto,?_,?_,?_,?_⟩,by grind,?_⟩
 ·intro u hu hu2
  by_cases e:u=a.1
  ·grind
  ·rw[hoth u hu e];exact h.range u hu hu2
 ·intro u hu hu2 hut hul
  by_cases e:u=a.1
  ·grind
  ·rw[hoth u hu e]at hul⊢
   obtain⟨b,hb,hb1,hb2⟩:=h.tight u hu hu2 hut hul
   have:=hle b.2.1 (hl b hb).2.1.1
   grind
 ·intro b hb hbl
  obtain⟨⟨b1,b2⟩,⟨b3,b4⟩,_⟩:=hl b hb
  by_cases e:b.2.1=a.1
  ·grind
  ·rw[hoth _ b3 e]at hbl⊢
   rcases h.pend b hb hbl with h3|h3|⟨h3,h4⟩
   all_goals grind
 ·intro x hx
  rcases TV.1 (hp.mem_iff.1 hx)with rfl|hx
  ·grind
  ·obtain⟨h3,h4,h5⟩:=h.items x hx
   grind
 ·have h3:=YsD (x:=d+a.2.2) hlt (by omega) (by grind [Yl])
  grind [List.Perm.length_eq,Jw,TS]
end Go.Rt
namespace Go.Proofs.YtambgjgljcadlaaGreatDoor
theorem YrJ{u:Nat}(h:u<10000):(Lib.decDigits u).length<=4:=by
 rw[Lib.decDigits_length]
 by_cases h1:u<10
 ·rw[Lib.nDigits_small h1];omega
 ·rw[Lib.nDigits_big h1]
  by_cases h2:u/10<10
  ·rw[Lib.nDigits_small h2];omega
  ·all_goals grind [Go.Lib.nDigits_small,Go.Lib.nDigits_big]
open Go.ChangeShapes Go.WideShapes Go.ChangeAt Go.RowKit
section
variable {H:Type}{enc:TypeId×Value->H}{P:Program}
theorem Q3(hl:laidOutB P=true){W W':World}{sp:Nat->Bool}:∀{ts:List TypeId}{vs:List Value}{ds:List (DataW H)}{ps:List MemPlace},(ts.all λt=>P.readableRec t&&decide (t<P.types.size))=true->
 DataW.TrodAll enc P W 0 (λ_=>true) true ts vs ds ps->(∀p∈ps,W.sameAt W' p)->(∀p∈ps,sp p.block=true)->DataW.TrodAll enc P W' 0 sp true ts vs ds ps
 |[],[],[],_,_,h,_,_=>h
 |[],[],_::_,_,_,h,_,_=>h.elim
 |[],_::_,_,_,_,h,_,_=>h.elim
 |_::_,[],_,_,_,h,_,_=>h.elim
 |_::_,_::_,[],_,_,h,_,_=>h.elim
 |t::ts,v::vs,d::ds,ps,hr,h,hs,hp=>by
  obtain⟨p,q,h1,h2,rfl⟩:=h
  simp only[NV,Tq,Tt]at hr
  exact⟨p,q,WideElems.Trod_stays hl hr.1.1 hr.1.2 h1 (λx hx=>hs x (by simp[hx])) (λx hx=>hp x (by simp[hx])),Q3 hl hr.2 h2 (λx hx=>hs x (by simp[hx])) (λx hx=>hp x (by simp[hx])),rfl⟩
theorem Yvw{f:Func}{s:ChangeSpec}{apart fresh handsOn again:Bool}{W W':World}{args:Array Value}{ds gs:List (DataW H)}{before:List MemPlace}{tb:TypeId}(hl:laidOutB P=true)
 (hrd:(f.params.toList.all λt=>P.readableRec t&&decide (t<P.types.size))=true) (hv:s.vars=[]) (hrt:f.resultTypes=#[tb]) (htb:P.underlying tb=some .bool)
 (hW:DataW.Whole enc P f.params.toList s.vars apart W args.toList ds gs before) (hb:Below W.heap.size W W')
 (hres:(s.fn H (ds++gs)).results=[.lit (.bool true)]) (hargs:(s.fn H (ds++gs)).args=ds) (hvars:(s.fn H (ds++gs)).vars=[]):
 s.post enc P f apart fresh handsOn again W args (.bool true) W':=by
 have hlt:∀p∈before,p.block<W.heap.size:=λp hp=>hW.lt p hp
 have hW0:=hW
 obtain⟨p,q,hA,hV,rfl,hz,hn⟩:=hW
 rw[hv]at hV
 have hq:gs=[]/\q=[]:=by
  cases gs with
  |nil=>exact⟨rfl,hV⟩
  |cons _ _=>exact hV.elim
 obtain⟨rfl,rfl⟩:=hq
 have hkeep:∀sp:Nat->Bool,(∀x∈p++[],sp x.block=true)->DataW.TrodAll enc P W' 0 sp true f.params.toList args.toList ds p:=λsp hsp=>
  Q3 hl hrd hA (λx hx=>hb.same (hlt x (by simpa using hx))) (λx hx=>hsp x (by simpa using hx))
 have hR:∀(b:Nat) (sp:Nat->Bool) (hd:Bool),DataW.TrodAll enc P W' b sp hd f.resultTypes.toList ((Value.bool true).resultList f.resultTypes.size) (s.fn H (ds++[])).results []:=by
  intro b sp hd
  rw[hres,hrt]
  exact trodAll_mk1 (shut_bool htb true)
 have hok:=ok_one (P:=P) (W':=W') (f:=f) (v:=.bool true) hrt rfl (okWide_bool_mk htb true)
 have hold:∀x∈p++[],(λb=>decide (b<W.heap.size)) x.block=true:=λx hx=>by simpa using hlt x hx
 refine⟨ds,[],p++[],[],p,[],hW0,hR _ _ _,by rw[hargs];exact hkeep _ hold,by rw[hvars,hv];rfl,World.keptBut_mono (λx hx=>⟨hx,Or.inr (by simpa using hx)⟩) (hb.frame (·∈p++[])),λ_=>?_⟩
 refine⟨hok,_,_,([]++p)++[],⟨[]++p,[],trodAll_append (hkeep _ (λ_ _=>rfl)) (hR _ _ _),(show DataW.TrodVars enc P W' (λ_=>true) s.vars [] [] by rw[hv];rfl),rfl,?_,?_⟩,?_⟩
 ·intro b off hp
  have hin:MemPlace.cell b off∈p++[]:=by simpa using hp
  rw[hb.frozen (hlt _ hin)]
  exact hz b off hin
 ·intro ha
  simpa using hn ha
 ·intro x hx _
  simpa using hx
end
end Go.Proofs.YtambgjgljcadlaaGreatDoor
namespace Go.Rt
open Go.Nw
def ZS(far:List Int)(at_:Int)(best:Int)(a:Lk):Int:=if a.1=at_/\a.2.2+Yl far a.2.1=Yl far at_/\(best<0\/a.2.1<best)then a.2.1 else best
def XA(l:List Lk)(far:List Int)(at_:Int):Int:=l.foldl (ZS far at_) (-1)
def XR(l:List Lk)(far:List Int)(to:Int):Nat->Int->List Int
 |0,_=>[]
 |k+1,at_=>if at_=to then []else XA l far at_::XR l far to k (XA l far at_)
def wayF(l:List Lk)(far:List Int)(s to:Int):List Int:=if Xg<=Yl far s then []else s::XR l far to (Yl far s).toNat s
theorem YcD(l:List Lk)(far:List Int)(to:Int):∀(k:Nat) (v:Int),(XR l far to k v).length<=k
 |0,_=>TI _
 |k+1,v=>by
  have:=YcD l far to k (XA l far v)
  unfold XR
  grind
theorem YgW(l:List Lk)(far:List Int)(s to:Int):(wayF l far s to).length<=1073741824:=by
 unfold wayF
 split
 ·simp_all
 grind [YcD,Xg]
theorem YmU(l:List Lk)(far:List Int)(at_:Int)(a:Lk):XA (l++[a]) far at_=ZS far at_ (XA l far at_) a:=by
 grind [XA]
theorem YrE(l:List Lk)(far:List Int)(at_:Int)(b0:Int):l.foldl (ZS far at_) b0=b0\/∃a∈l,a.1=at_/\a.2.2+Yl far a.2.1=Yl far at_/\l.foldl (ZS far at_) b0=a.2.1:=by
 induction l generalizing b0 with
 |nil=>simp_all
 |cons a l ih=>
  rw[List.foldl_cons]
  rcases ih (ZS far at_ b0 a)with h|⟨c,hc,h⟩
  ·rw[h]
   unfold ZS
   grind
  grind
variable {l:List Lk}{far far':List Int}
theorem YrD{at_:Int}(hl:∀a∈l,0<=a.2.1)(b0:Int)(h:0<=b0\/∃a∈l,a.1=at_/\a.2.2+Yl far a.2.1=Yl far at_):0<=l.foldl (ZS far at_) b0:=by
 induction l generalizing b0 with
 |nil=>
  simp_all
 |cons a l ih=>
  refine ih (λc hc=>hl c (TJ _ hc)) _ ?_
  unfold ZS
  grind
variable {to v:Int}
theorem Ydy{nodes:Nat}(_hl:ArcsOk nodes l)(h:Dist nodes l to far)(h0:0<=v)(h1:v<nodes)(hne:v≠to)(hlt:Yl far v<Xg):∃a∈l,a.1=v/\a.2.2+Yl far a.2.1=Yl far v:=by
 obtain⟨a,ha,ha1,ha2⟩:=h.tight v h0 h1 hne hlt
 obtain⟨_,_,⟨h5,_⟩⟩:=_hl a ha
 have:=h.least a ha (by omega)
 grind
theorem Q8{nodes:Nat}(hl:ArcsOk nodes l)(h:Dist nodes l to far)(h0:0<=v)(h1:v<nodes)(hne:v≠to)(hlt:Yl far v<Xg):
 (0<=XA l far v/\XA l far v<nodes)/\Yl far (XA l far v)<Yl far v/\0<=Yl far (XA l far v)/\∃a∈l,a.1=v/\a.2.1=XA l far v/\a.2.2+Yl far (XA l far v)=Yl far v:=by
 have hge:0<=XA l far v:=YrD (λa ha=>(hl a ha).2.1.1) (-1) (.inr (Ydy hl h h0 h1 hne hlt))
 rcases YrE l far v (-1)with h2|⟨a,ha,h3,h4,h5⟩
 ·grind [XA]
 ·obtain⟨_,⟨h6,h7⟩,⟨h8,_⟩⟩:=hl a ha
  have h9:XA l far v=a.2.1:=h5
  have:=(h.range a.2.1 h6 h7).1
  grind
theorem Yf5{nodes:Nat}(hl:ArcsOk nodes l)(h:Dist nodes l to far)(h':Dist nodes l to far'):∀(k:Nat) (v:Int),0<=v->v<nodes->Yl far v<Xg->(Yl far v).toNat<=k->Yl far' v<=Yl far v:=by
 intro k
 induction k with
 |zero=>
  intro v h0 h1 hlt hk
  by_cases hv:v=to
  ·rw[hv,h.to0,h'.to0];omega
  ·obtain⟨a,ha,ha1,ha2⟩:=Ydy hl h h0 h1 hv hlt
   obtain⟨_,⟨h3,h4⟩,⟨h5,_⟩⟩:=hl a ha
   have:=(h.range a.2.1 h3 h4).1
   omega
 |succ k ih=>
  intro v h0 h1 hlt hk
  by_cases hv:v=to
  ·rw[hv,h.to0,h'.to0];omega
  ·obtain⟨a,ha,ha1,ha2⟩:=Ydy hl h h0 h1 hv hlt
   obtain⟨_,⟨h3,h4⟩,⟨h5,_⟩⟩:=hl a ha
   have h7:=ih a.2.1 h3 h4 (by omega) (by omega)
   have h8:=h'.least a ha (by omega)
   grind
theorem YhK{nodes:Nat}(hl:ArcsOk nodes l)(h:Dist nodes l to far)(h':Dist nodes l to far'):far=far':=by
 have key:∀v:Int,0<=v->v<nodes->Yl far v=Yl far' v:=by
  intro v h0 h1
  have r1:=h.range v h0 h1
  have r2:=h'.range v h0 h1
  rcases Int.lt_or_le (Yl far v) Xg with h2|h2
  ·have h3:=Yf5 hl h h' _ v h0 h1 h2 (TI _)
   have h4:=Yf5 hl h' h _ v h0 h1 (by omega) (TI _)
   omega
  ·rcases Int.lt_or_le (Yl far' v) Xg with h3|h3
   ·have h4:=Yf5 hl h' h _ v h0 h1 h3 (TI _)
    omega
   ·omega
 apply Su
 all_goals grind [XH,Go.Rt.Dist.len,Rx]
open Classical in
noncomputable def J8(nodes:Nat)(l:List Lk)(to:Int):List Int:=if h:∃far,Dist nodes l to far then h.choose else []
theorem Qy{nodes:Nat}(hl:ArcsOk nodes l)(h:Dist nodes l to far):J8 nodes l to=far:=by
 unfold J8
 rw[dif_pos ⟨far,h⟩]
 exact YhK hl (Exists.choose_spec (⟨far,h⟩:∃far,Dist nodes l to far)) h
structure Ed where
 f:Int
 t:Int
 c:Int
 r:Int
def Vb(f t c:Int):List Ed:=[⟨f,t,c,1⟩,⟨t,f,-c,0⟩]
def ZQ(closed:Int->Bool)(k:Nat):List Ed:=(List.range k).flatMap λv:Nat=>if closed (v:Int)=true then []else Vb (2*(v:Int)) (2*(v:Int)+1) 0
def Uu(l:List Lk):List Ed:=l.flatMap λa=>Vb (2*a.1+1) (2*a.2.1) a.2.2
def Qe(nodes:Nat)(l:List Lk)(closed:Int->Bool):List Ed:=ZQ closed nodes++Uu l
abbrev YaB:=List Int×List Int×Bool
def Uk(i:Nat)(e:Ed)(st:YaB):YaB:=
 if 0<e.r/\Yl st.1 e.f<Xg/\Yl st.1 e.f+e.c<Yl st.1 e.t then(st.1.set e.t.toNat (Yl st.1 e.f+e.c),st.2.1.set e.t.toNat (i:Int),true)else st
def Xq:Nat->List Ed->YaB->YaB
 |_,[],st=>st
 |i,e::es,st=>Xq (i+1) es (Uk i e st)
def Yar:Nat->List Ed->List Int->List Int->Option (List Int×List Int)
 |0,_,_,_=>none
 |k+1,es,far,by_=>if(Xq 0 es (far,by_,false)).2.2=true then Yar k es (Xq 0 es (far,by_,false)).1 (Xq 0 es (far,by_,false)).2.1 else some ((Xq 0 es (far,by_,false)).1,(Xq 0 es (far,by_,false)).2.1)
def twin(i:Nat):Nat:=if i%2=0 then i+1 else i-1
def Ya6(es:List Ed)(i:Nat)(d:Int):List Ed:=match es[i]? with|some e=>es.set i {e with r:=e.r+d}|none=>es
def Yhr:Nat->List Ed->List Int->Int->Int->Option (List Ed)
 |0,_,_,_,_=>none
 |k+1,es,by_,s,at_=>
  if at_=s then some es else
   if Yl by_ at_<0 then none else
    match es[(Yl by_ at_).toNat]? with
    |none=>none
    |some e=>if es.length<=twin (Yl by_ at_).toNat then none else Yhr k (Ya6 (Ya6 es (Yl by_ at_).toNat (-1)) (twin (Yl by_ at_).toNat) 1) by_ s e.f
def Wi(sides:Nat)(s:Int):List Int:=(List.replicate sides Xg).set s.toNat 0
def Yfm(fuel sides:Nat)(es:List Ed)(s t:Int):Option (Int×Bool×List Ed):=
 match Yar fuel es (Wi sides s) (List.replicate sides (-1))with
 |none=>none
 |some (far,by_)=>if Xg<=Yl far t then some (0,false,es)else
  match Yhr fuel es by_ s t with
  |none=>none
  |some es'=>some (Yl far t,true,es')
def UM(a b to:Int)(closed:Int->Bool)(v:Int):Bool:=decide (v=a\/v=b\/v=to)||closed v
def YaJ(fuel nodes:Nat)(l:List Lk)(a b to:Int)(closed:Int->Bool):Option (Int×Bool×List Ed):=
 match Yfm fuel (2*nodes) (Qe nodes l (UM a b to closed)) (2*a+1) (2*to)with
 |none=>none
 |some (x,ok,es)=>
  match Yfm fuel (2*nodes) es (2*b+1) (2*to)with
  |none=>none
  |some (y,is,es2)=>some (x+y,ok&&is,es2)
theorem QR:∀(l:List Ed) (i:Nat) (e:Ed) (st:YaB),Xq i (l++[e]) st=Uk (i+l.length) e (Xq i l st)
 |[],_,_,_=>rfl
 |x::l,i,e,st=>by
  show Xq (i+1) (l++[e]) (Uk i x st)=_
  rw[QR l (i+1) e,TS,show i+1+l.length=i+(l.length+1) by omega];rfl
def Yk3(sides:Nat)(es:List Ed):Prop:=∀e∈es,(0<=e.f/\e.f<sides)/\(0<=e.t/\e.t<sides)/\(-1000000<=e.c/\e.c<=1000000)/\(-1000000000<=e.r/\e.r<=1000000000)
structure RelOk(sides:Nat)(low:Int)(st:YaB):Prop where
 l1:st.1.length=sides
 l2:st.2.1.length=sides
 low:∀v:Int,0<=v->v<sides->low<=Yl st.1 v/\Yl st.1 v<=Xg
variable {sides:Nat}{es:List Ed}
theorem YkC{low:Int}{st:YaB}{e:Ed}{i:Nat}(hes:Yk3 sides es)(he:e∈es)(h:RelOk sides low st):RelOk sides (low-1000000) (Uk i e st):=by
 obtain⟨⟨e1,e2⟩,⟨e3,e4⟩,⟨e5,e6⟩,_⟩:=hes e he
 unfold Uk
 split
 ·have hlt:e.t.toNat<st.1.length:=by rw[h.l1];omega
  refine⟨by grind [Go.Rt.RelOk.l1],by grind [Go.Rt.RelOk.l2],λv h0 h1=>?_⟩
  have h2:=h.low v h0 h1
  have h3:=h.low e.f e1 e2
  all_goals grind [U0,WR]
 ·exact⟨h.l1,h.l2,λv h0 h1=>by have:=h.low v h0 h1;omega⟩
theorem Qa{sides:Nat}{es:List Ed}(hes:Yk3 sides es):∀(l:List Ed) (i:Nat) (st:YaB) (low:Int),(∀e∈l,e∈es)->RelOk sides low st->RelOk sides (low-1000000*l.length) (Xq i l st)
 |[],_,_,_,_,h=>by grind [Xq]
 |e::l,i,st,low,hl,h=>by
  have h1:=Qa hes l (i+1) (Uk i e st) (low-1000000) (λx hx=>hl x (TJ _ hx)) (YkC hes (hl e TB) h)
  rw[TS]
  have e1:low-1000000*((l.length+1:Nat):Int)=low-1000000-1000000*(l.length:Int):=by omega
  rw[e1];exact h1
def EdsIn(sides:Nat)(b:Int)(es:List Ed):Prop:=∀e∈es,(0<=e.f/\e.f<sides)/\(0<=e.t/\e.t<sides)/\(-1000000<=e.c/\e.c<=1000000)/\(-b<=e.r/\e.r<=b)
variable {b:Int}
theorem EdsIn.ok(h:EdsIn sides b es)(hb:b<=1000000000):Yk3 sides es:=λe he=>by
 obtain⟨h1,h2,h3,h4⟩:=h e he
 omega
theorem EdsIn.mono{b':Int}(h:EdsIn sides b es)(hb:b<=b'):EdsIn sides b' es:=λe he=>by
 obtain⟨h1,h2,h3,h4⟩:=h e he
 omega
theorem Yir(h:EdsIn sides b es)(i:Nat){d:Int}(hd: -1<=d/\d<=1):EdsIn sides (b+1) (Ya6 es i d):=by
 unfold Ya6
 cases hi:es[i]? with
 |none=>exact h.mono (by omega)
 |some e=>
  intro x hx
  rcases Ni hx with hx|rfl
  ·obtain⟨h1,h2,h3,h4⟩:=h x hx
   omega
  ·obtain⟨h1,h2,h3,h4⟩:=h e (Tc hi)
   grind
theorem YsE(i:Nat):twin i≠i:=by grind [twin]
theorem Yob{s:Int}(hs:0<=s/\s<sides)(b:List Int)(hb:b.length=sides)(ag:Bool):RelOk sides (-2000000000) (Wi sides s,b,ag):=by
 refine⟨by grind [Wi],hb,λv h0 h1=>?_⟩
 have hn:Xg=1073741824:=rfl
 unfold Wi
 by_cases hv:v=s
 ·grind [U0]
 ·rw[WR (by omega)]
  simp_all [Yl]
def sumW(w:Int->Nat)(far:List Int):Nat:=(far.map w).sum
def fin1(x:Int):Nat:=if x<Xg then 1 else 0
def cnt(far:List Int):Nat:=sumW fin1 far
def Ed8(sides:Nat)(es:List Ed):Prop:=∀e∈es,(0<=e.f/\e.f<sides)/\(0<=e.t/\e.t<sides)/\(-8<=e.c/\e.c<=8)
inductive Chain (es:List Ed) (by_:List Int) (s:Int) (T:Ed->Prop):Int->Nat->Prop
 |here:Chain es by_ s T s 0
 |step {v:Int}{n:Nat}{e:Ed}(hne:v≠s) (h0:0<=Yl by_ v) (hi:es[(Yl by_ v).toNat]? =some e) (ht:e.t=v) (hr:0<e.r) (hT:T e) (h:Chain es by_ s T e.f n):Chain es by_ s T v (n+1)
variable {es:List Ed}{by_:List Int}{s v:Int}{n:Nat}
theorem Chain.imp{T T':Ed->Prop}(hT:∀e∈es,0<e.r->T e->T' e)(h:Chain es by_ s T v n):Chain es by_ s T' v n:=by
 induction h with
 |here=>exact .here
 |step hne h0 hi ht hr hTe _ ih=>exact .step hne h0 hi ht hr (hT _ (Tc hi) hr hTe) ih
theorem Chain.uniq{T:Ed->Prop}{m:Nat}(h:Chain es by_ s T v n)(h':Chain es by_ s T v m):n=m:=by
 induction h generalizing m with
 |here=>
  cases h' with
  |here=>rfl
  |step hne=>omega
 |step hne h0 hi ht hr hT _ ih=>
  cases h' with
  |here=>omega
  |step hne' h0' hi' ht' hr' hT' h'=>
   grind
theorem Chain.nodes{T:Ed->Prop}(h:Chain es by_ s T v n):∃L:List Int,L.length=n/\L.Nodup/\∀x∈L,(∃e∈es,e.t=x)/\∃m,m<=n/\Chain es by_ s T x m:=by
 induction h with
 |here=>simp_all
 |@step v n e hne h0 hi ht hr hT h ih=>
  obtain⟨L,h1,h2,h3⟩:=ih
  refine⟨v::L,by simp[h1],List.nodup_cons.2 ⟨λhv=>?_,h2⟩,λx hx=>?_⟩
  ·obtain⟨_,m,hm,hc⟩:=h3 v hv
   have:=Chain.uniq hc (.step hne h0 hi ht hr hT h)
   omega
  ·rcases TV.1 hx with rfl|hx
   ·exact⟨⟨e,Tc hi,ht⟩,n+1,TI _,.step hne h0 hi ht hr hT h⟩
   grind
theorem nodup_len:∀(k:Nat) (L:List Int),L.Nodup->(∀x∈L,0<=x/\x<k)->L.length<=k
 |0,L,_,h=>by
  cases L with
  |nil=>simp_all
  |cons a l=>grind [TB]
 |k+1,L,hn,h=>by
  have h1:=nodup_len k (L.erase (k:Int)) (hn.erase _) λx hx=>by
   grind
  grind
theorem Chain.len{sides:Nat}(hes:Ed8 sides es){T:Ed->Prop}(h:Chain es by_ s T v n):n<=sides:=by
 obtain⟨L,h1,h2,h3⟩:=h.nodes
 rw[<-h1]
 refine nodup_len sides L h2 λx hx=>?_
 obtain⟨⟨e,he,rfl⟩,_⟩:=h3 x hx
 exact(hes e he).2.1
structure FA where
 f:Int
 t:Int
 c:Int
 u:Bool
def fwd(x:FA):Ed:=⟨x.f,x.t,x.c,if x.u=true then 0 else 1⟩
def rev(x:FA):Ed:=⟨x.t,x.f,-x.c,if x.u=true then 1 else 0⟩
def Ww:List FA->List Ed
 |[]=>[]
 |x::l=>fwd x::rev x::Ww l
def YwH(x:FA):FA:=⟨x.f,x.t,x.c,!x.u⟩
theorem O0:∀(l:List FA) (j:Nat),(Ww l)[2*j]? =(l[j]?).map fwd
 |[],_=>rfl
 |x::l,0=>rfl
 |x::l,j+1=>by
  rw[show 2*(j+1)=2*j+1+1 by omega]
  simp only[Ww,NE,O0 l j]
theorem O1:∀(l:List FA) (j:Nat),(Ww l)[2*j+1]? =(l[j]?).map rev
 |[],_=>rfl
 |x::l,0=>rfl
 |x::l,j+1=>by
  rw[show 2*(j+1)+1=2*j+1+1+1 by omega]
  simp only[Ww,NE,O1 l j]
abbrev E3:=Int×Int×Int
def Ypy(L:List FA):List E3:=L.map λx=>(x.f,x.t,x.c)
variable {L:List FA}{j m:Nat}
theorem YdZ{y:FA}(h:m/2≠j):(Ww (L.set j y))[m]? =(Ww L)[m]? :=by
 rcases Nat.mod_two_eq_zero_or_one m with hm|hm
 ·obtain⟨k,rfl⟩:∃k,m=2*k:=⟨m/2,by omega⟩
  grind [O0]
 ·obtain⟨k,rfl⟩:∃k,m=2*k+1:=⟨m/2,by omega⟩
  grind [O1]
theorem Chain.other{by_:List Int}{s v:Int}{T:Ed->Prop}{n:Nat}{x:FA}{e:Ed}(hv:Chain (Ww L) by_ s T v (n+1))(hi:(Ww L)[(Yl by_ v).toNat]? =some e)(het:e.t=v)(hx:L[j]? =some x)(_hj:(Yl by_ v).toNat/2=j)(hex:((Yl by_ v).toNat=2*j/\e=fwd x)\/((Yl by_ v).toNat=2*j+1/\e=rev x)){w:Int}(h:Chain (Ww L) by_ s T w m)(hm:m<=n):Chain (Ww (L.set j (YwH x))) by_ s T w m:=by
 induction h with
 |here=>exact .here
 |@step w m e' hne h0 hi' ht hr hT h ih=>
  refine .step hne h0 ?_ ht hr hT (ih (by omega))
  rw[YdZ];exact hi'
  intro hjj
  have hfull:Chain (Ww L) by_ s T w (m+1):=.step hne h0 hi' ht hr hT h
  have hwv:w≠v:=by grind [Go.Rt.Chain.uniq]
  by_cases hsame:(Yl by_ w).toNat=(Yl by_ v).toNat
  ·simp_all
  ·rcases hex with⟨h1,rfl⟩|⟨h1,rfl⟩
   ·have h2:(Yl by_ w).toNat=2*j+1:=by omega
    rw[h2,O1,hx]at hi'
    have:(rev x).f=v:=het
    grind [Go.Rt.Chain.uniq]
   ·have h2:(Yl by_ w).toNat=2*j:=by omega
    rw[h2,O0,hx]at hi'
    have:(fwd x).f=v:=het
    grind [Go.Rt.Chain.uniq]
def Yu6(closed:Int->Bool)(k:Nat):List FA:=(List.range k).flatMap λv:Nat=>if closed (v:Int)=true then []else [⟨2*(v:Int),2*(v:Int)+1,0,false⟩]
def YvC(l:List Lk):List FA:=l.map λa=>⟨2*a.1+1,2*a.2.1,a.2.2,false⟩
def YgS(nodes:Nat)(l:List Lk)(closed:Int->Bool):List FA:=Yu6 closed nodes++YvC l
def Arcs8(nodes:Nat)(l:List Lk):Prop:=∀a∈l,(0<=a.1/\a.1<nodes)/\(0<=a.2.1/\a.2.1<nodes)/\(1<=a.2.2/\a.2.2<=8)
def arc3(a:Lk):E3:=(2*a.1+1,2*a.2.1,a.2.2)
def Ya7(v:Int):E3:=(2*v,2*v+1,0)
theorem Yc4{nodes:Nat}{l:List Lk}{closed:Int->Bool}{e:E3}:e∈Ypy (YgS nodes l closed)↔(∃v:Int,(0<=v/\v<nodes)/\closed v=false/\e=Ya7 v)\/∃a∈l,e=arc3 a:=by
 unfold Ypy YgS
 rw[Rb,TF]
 constructor
 ·rintro(h|h)
  ·obtain⟨x,hx,rfl⟩:=TE.1 h
   obtain⟨v,hv,h⟩:=SQ.1 hx
   have hv:=TN.1 hv
   cases hc:closed (v:Int)with
   |true=>simp_all
   |false=>
    rw[hc,Tf (by decide)]at h
    obtain rfl:=TO.1 h
    exact .inl ⟨(v:Int),by omega,hc,rfl⟩
  ·obtain⟨x,hx,rfl⟩:=TE.1 h
   obtain⟨a,ha,rfl⟩:=TE.1 hx
   exact .inr ⟨a,ha,rfl⟩
 ·rintro(⟨v,⟨h0,h1⟩,hc,rfl⟩|⟨a,ha,rfl⟩)
  ·left
   refine TE.2 ⟨⟨2*v,2*v+1,0,false⟩,SQ.2 ⟨v.toNat,TN.2 (by omega),?_⟩,rfl⟩
   grind
  ·right
   exact TE.2 ⟨⟨2*a.1+1,2*a.2.1,a.2.2,false⟩,TE.2 ⟨a,ha,rfl⟩,rfl⟩
theorem OK{α β:Type}{f:α->β}(hf:∀a b,f a=f b->a=b){l:List α}(h:l.Nodup):(l.map f).Nodup:=
 by grind
theorem Yo3(a b:Lk)(h:arc3 a=arc3 b):a=b:=by
 grind [arc3]
theorem YnN(a b:Int)(h:Ya7 a=Ya7 b):a=b:=by
 grind [Ya7]
theorem Yo4(a:Lk)(v:Int):arc3 a≠Ya7 v:=by
 grind [arc3,Ya7]
inductive Way (l:List Lk) (sh:Int->Bool) (to:Int):Int->List Lk->Prop
 |last {a:Lk}(ha:a∈l) (ht:a.2.1=to):Way l sh to a.1 [a]
 |step {a:Lk}{az:List Lk}(ha:a∈l) (hs:sh a.2.1=false) (h:Way l sh to a.2.1 az):Way l sh to a.1 (a::az)
def QH:List Lk->List Int
 |[]=>[]
 |_::az=>az.map λa=>a.1
def eOf(az:List Lk):List E3:=az.map arc3++(QH az).map Ya7
variable {l az:List Lk}{sh:Int->Bool}{to u:Int}
theorem Way.cons_(h:Way l sh to u az):∃a az',az=a::az'/\a.1=u:=by
 cases h with
 |last ha ht=>simp_all
 |step ha hs h=>simp_all
theorem Way.inner_cons{a:Lk}(h:Way l sh to u az):QH (a::az)=u::QH az:=by
 obtain⟨b,bs,rfl,rfl⟩:=h.cons_
 rfl
theorem Way.mem(h:Way l sh to u az):∀a∈az,a∈l:=by
 induction h with
 |last ha ht=>simp_all
 |step ha hs h ih=>
  simp_all
theorem Way.open_(h:Way l sh to u az):∀v∈QH az,sh v=false:=by
 induction h with
 |last ha ht=>intro v hv;cases hv
 |step ha hs h ih=>
  intro v hv
  rw[h.inner_cons]at hv
  grind
structure Cand(l:List Lk)(sh:Int->Bool)(a b to:Int)(az bs:List Lk):Prop where
 p:Way l sh to a az
 q:Way l sh to b bs
 arcs:(az++bs).Nodup
 nodes:(QH az++QH bs).Nodup
theorem Yi0:∀{E M:List E3},E.Nodup->(∀e∈E,e∈M)->∃R,M.Perm (E++R)
 |[],M,_,_=>⟨M,.refl _⟩
 |e::E,M,hn,hm=>by
  obtain⟨h1,h2⟩:=List.nodup_cons.1 hn
  have hp:=List.perm_cons_erase (hm e TB)
  obtain⟨R,hR⟩:=Yi0 (M:=M.erase e) h2 λx hx=>by
   grind
  exact⟨R,hp.trans (.cons _ hR)⟩
theorem Ypl(az bs:List Lk):(eOf az++eOf bs).Perm ((az++bs).map arc3++(QH az++QH bs).map Ya7):=by
 unfold eOf
 rw[Rb,Rb]
 rw[Ru,Ru]
 refine .append_left _ ?_
 rw[<-Ru,<-Ru]
 exact .append_right _ NM
theorem Cand.sub{nodes:Nat}{a b:Int}{bs:List Lk}(hl:Arcs8 nodes l)(h:Cand l sh a b to az bs):∃R,(Ypy (YgS nodes l sh)).Perm ((eOf az++eOf bs)++R):=by
 have hn:(eOf az++eOf bs).Nodup:=by
  rw[(Ypl az bs).nodup_iff]
  refine N3.2 ⟨OK Yo3 h.arcs,OK YnN h.nodes,λx hx y hy=>?_⟩
  obtain⟨c,_,rfl⟩:=TE.1 hx
  obtain⟨v,_,rfl⟩:=TE.1 hy
  exact Yo4 c v
 refine Yi0 hn λe he=>?_
 have he:=(Ypl az bs).mem_iff.1 he
 rcases TF.1 he with he|he
 ·obtain⟨c,hc,rfl⟩:=TE.1 he
  refine Yc4.2 (.inr ⟨c,?_,rfl⟩)
  rcases TF.1 hc with hc|hc
  ·exact h.p.mem c hc
  ·exact h.q.mem c hc
 ·obtain⟨v,hv,rfl⟩:=TE.1 he
  have hr:∀{u:Int}{cs:List Lk},Way l sh to u cs->v∈QH cs->0<=v/\v<nodes:=λhw hv=>by
   have:∃c∈l,c.1=v:=by
    obtain⟨c,cs',rfl,_⟩:=hw.cons_
    obtain⟨d,hd,rfl⟩:=TE.1 hv
    exact⟨d,hw.mem d (TJ _ hd),rfl⟩
   obtain⟨c,hc,rfl⟩:=this
   exact(hl c hc).1
  rcases TF.1 hv with hv|hv
  ·exact Yc4.2 (.inl ⟨v,hr h.p hv,h.p.open_ v hv,rfl⟩)
  ·exact Yc4.2 (.inl ⟨v,hr h.q hv,h.q.open_ v hv,rfl⟩)
def FirstMin{α:Type}(key:α->Int)(l:List α)(x:α):Prop:=∃l1 l2,l=l1++x::l2/\(∀y∈l1,key x<key y)/\∀y∈l2,key x<=key y
variable {α:Type}
theorem FirstMin.mem{key:α->Int}{l:List α}{x:α}(h:FirstMin key l x):x∈l:=by
 obtain⟨l1,l2,rfl,_⟩:=h
 simp_all
theorem FirstMin.le{key:α->Int}{l:List α}{x y:α}(h:FirstMin key l x)(hy:y∈l):key x<=key y:=by
 obtain⟨l1,l2,rfl,h1,h2⟩:=h
 grind
theorem FirstMin.uniq{key:α->Int}:∀{l:List α}{x y:α},FirstMin key l x->FirstMin key l y->x=y:=by
 intro l x y hx hy
 obtain⟨a1,a2,e1,p1,p2⟩:=hx
 obtain⟨b1,b2,e2,q1,q2⟩:=hy
 rw[e1]at e2
 rcases List.append_eq_append_iff.1 e2 with⟨c,h3,h4⟩|⟨c,h3,h4⟩
 ·cases c with
  |nil=>simp_all
  |cons z c=>
   grind
 ·cases c with
  |nil=>simp_all
  |cons z c=>
   grind
theorem FirstMin.one(key:α->Int)(x:α):FirstMin key [x] x:=⟨[],[],rfl,(λ_ hy=>absurd hy (RJ)),(λ_ hy=>absurd hy (RJ))⟩
theorem FirstMin.mid{key:α->Int}{l a b:List α}{x:α}(h:FirstMin key l x)(h1:∀y∈a,key x<key y)(h2:∀y∈b,key x<=key y):FirstMin key (a++l++b) x:=by
 obtain⟨l1,l2,rfl,p1,p2⟩:=h
 refine⟨a++l1,l2++b,by simp,λy hy=>?_,λy hy=>?_⟩
 all_goals grind
theorem FirstMin.snoc{key:α->Int}{l:List α}{x y:α}(h:FirstMin key l x):FirstMin key (l++[y]) (if key y<key x then y else x):=by
 split
 ·refine⟨l,[],rfl,λz hz=>?_,λz hz=>by cases hz⟩
  have:=h.le hz
  omega
 ·have:=h.mid (a:=[]) (b:=[y]) (λz hz=>by cases hz) (λz hz=>by simp_all)
  simp_all
section
variable (st:Int->Int->Bool) (w:Int->Int->Int) (nodes:Nat) (to:Int)
def keyG:List Int->Int
 |[]=>0
 |[_]=>0
 |u::v::r=>w u v+keyG (v::r)
inductive PathG:Int->List Int->Prop
 |done:PathG to []
 |step {u v:Int}{r:List Int}(hu:u≠to) (hs:st u v=true) (hv:0<=v/\v<nodes) (h:PathG v r):PathG u (v::r)
end
variable {l:List Lk}
theorem Arcs8.ok{nodes:Nat}(h:Arcs8 nodes l):ArcsOk nodes l:=λa ha=>by
 obtain⟨h1,h2,h3⟩:=h a ha
 exact⟨h1,h2,by omega⟩
theorem Arcs8.sub{nodes:Nat}{m:List Lk}(h:Arcs8 nodes l)(hm:∀a∈m,a∈l):Arcs8 nodes m:=λa ha=>h a (hm a ha)
section
variable {st:Int->Int->Bool}{w:Int->Int->Int}{l:List Lk}{nodes:Nat}{t:Int}
abbrev Yvz(st:Int->Int->Bool)(nodes:Nat)(t u:Int)(ms:List Int):Prop:=PathG st nodes t u (ms++[t])
variable {u:Int}{p:List Int}
theorem PathG.mono{st2:Int->Int->Bool}(h:PathG st nodes t u p)(hs:∀x y,x=u\/x∈p->y∈p->st x y=true->st2 x y=true):PathG st2 nodes t u p:=by
 induction h with
 |done=>exact .done
 |@step u v r hu hst hv h ih=>
  refine .step hu (hs u v (.inl rfl) TB hst) hv (ih λx y hx hy hxy=>hs x y ?_ (TJ _ hy) hxy)
  rcases hx with rfl|hx
  ·exact .inr TB
  ·exact .inr (TJ _ hx)
theorem PathG.append{v:Int}{q:List Int}(h:PathG st nodes t u (p++v::q)):PathG st nodes t v q:=by
 induction p generalizing u with
 |nil=>cases h with|step _ _ _ h=>exact h
 |cons x p ih=>cases h with|step _ _ _ h=>exact ih h
end
end Go.Rt
namespace Go.Proofs
open Go.Shelf
def Tryz.sortDels_ren:Go.Shelf.Ren:=⟨λ|6=>107|15=>113|14=>185|28=>202|29=>203|20=>249|21=>250|22=>251|23=>252|24=>253|25=>254|26=>255|27=>256|46=>297|47=>260|48=>261|49=>298|50=>299|57=>323|n=>n,λ|22=>43|24=>132|25=>208|3=>3|39=>153|0=>0|53=>232|55=>234|4=>4|46=>291|45=>290|50=>61|5=>5|9=>9|66=>340|70=>344|76=>379|77=>380|n=>n,λ|n=>n⟩
theorem Tryz.sortDels:Go.Proofs.SlLaysF0.n6 Tryz.prog Tryz.sortDels_ren:={
 mixed:=by kernel_rfl
 f6:=⟨Tryz.f107.name,by decide,Tryz.func107.trans (TC some (by kernel_rfl))⟩
 f14:=⟨Tryz.f185.name,by decide,Tryz.func185.trans (TC some (by kernel_rfl))⟩
 f15:=Tryz.func113.trans (TC some (by kernel_rfl))
 f20:=⟨Tryz.f249.name,by decide,Tryz.func249.trans (TC some (by kernel_rfl))⟩
 f21:=⟨Tryz.f250.name,by decide,Tryz.func250.trans (TC some (by kernel_rfl))⟩
 f22:=⟨Tryz.f251.name,by decide,Tryz.func251.trans (TC some (by kernel_rfl))⟩
 f23:=⟨Tryz.f252.name,by decide,Tryz.func252.trans (TC some (by kernel_rfl))⟩
 f24:=⟨Tryz.f253.name,by decide,Tryz.func253.trans (TC some (by kernel_rfl))⟩
 f25:=⟨Tryz.f254.name,by decide,Tryz.func254.trans (TC some (by kernel_rfl))⟩
 f26:=⟨Tryz.f255.name,by decide,Tryz.func255.trans (TC some (by kernel_rfl))⟩
 f27:=⟨Tryz.f256.name,by decide,Tryz.func256.trans (TC some (by kernel_rfl))⟩
 f28:=Tryz.func202.trans (TC some (by kernel_rfl))
 f29:=Tryz.func203.trans (TC some (by kernel_rfl))
 f46:=⟨Tryz.f297.name,by decide,Tryz.func297.trans (TC some (by kernel_rfl))⟩
 f47:=Tryz.func260.trans (TC some (by kernel_rfl))
 f48:=Tryz.func261.trans (TC some (by kernel_rfl))
 f49:=⟨Tryz.f298.name,by decide,Tryz.func298.trans (TC some (by kernel_rfl))⟩
 f50:=⟨Tryz.f299.name,by decide,Tryz.func299.trans (TC some (by kernel_rfl))⟩
 f57:=⟨Tryz.f323.name,by decide,Tryz.func323.trans (TC some (by kernel_rfl))⟩
 t0:=Tryz.underlying0
 a0:=Tryz.isAgg0
 z0:=Tryz.sizeOf0
 v0:=Tryz.zeroValue0
 t3:=Tryz.underlying3
 a3:=Tryz.isAgg3
 z3:=Tryz.sizeOf3
 v3:=Tryz.zeroValue3
 t4:=Tryz.underlying4
 a4:=Tryz.isAgg4
 z4:=Tryz.sizeOf4
 v4:=Tryz.zeroValue4
 t5:=Tryz.underlying5
 a5:=Tryz.isAgg5
 z5:=Tryz.sizeOf5
 v5:=Tryz.zeroValue5
 t9:=Tryz.underlying9
 a9:=Tryz.isAgg9
 z9:=Tryz.sizeOf9
 v9:=Tryz.zeroValue9
 t22:=Tryz.underlying43
 a22:=Tryz.isAgg43
 z22:=Tryz.sizeOf43
 v22:=Tryz.zeroValue43
 t25:=Tryz.underlying208
 a25:=Tryz.isAgg208
 z25:=Tryz.sizeOf208
 v25:=Tryz.zeroValue208
 t39:=Tryz.underlying153
 a39:=Tryz.isAgg153
 z39:=Tryz.sizeOf153
 v39:=Tryz.zeroValue153
 t45:=Tryz.underlying290
 a45:=Tryz.isAgg290
 z45:=Tryz.sizeOf290
 v45:=Tryz.zeroValue290
 t46:=Tryz.underlying291
 a46:=Tryz.isAgg291
 z46:=Tryz.sizeOf291
 v46:=Tryz.zeroValue291
 t50:=Tryz.underlying61
 a50:=Tryz.isAgg61
 z50:=Tryz.sizeOf61
 v50:=Tryz.zeroValue61
 t53:=Tryz.underlying232
 a53:=Tryz.isAgg232
 z53:=Tryz.sizeOf232
 v53:=Tryz.zeroValue232
 t55:=Tryz.underlying234
 a55:=Tryz.isAgg234
 z55:=Tryz.sizeOf234
 v55:=Tryz.zeroValue234
 t66:=Tryz.underlying340
 a66:=Tryz.isAgg340
 z66:=Tryz.sizeOf340
 v66:=Tryz.zeroValue340
 t70:=Tryz.underlying344
 a70:=Tryz.isAgg344
 z70:=Tryz.sizeOf344
 v70:=Tryz.zeroValue344
 t76:=Tryz.underlying379
 a76:=Tryz.isAgg379
 z76:=Tryz.sizeOf379
 v76:=Tryz.zeroValue379
 t77:=Tryz.underlying380
 a77:=Tryz.isAgg380
 z77:=Tryz.sizeOf380
 v77:=Tryz.zeroValue380}
def Tryz.sortBrs_ren:Go.Shelf.Ren:=⟨λ|6=>46|15=>113|14=>112|28=>202|29=>203|20=>194|21=>195|22=>196|23=>197|24=>198|25=>199|26=>200|27=>201|46=>259|47=>260|48=>261|49=>262|50=>263|57=>300|n=>n,λ|22=>50|24=>67|25=>128|3=>3|39=>153|0=>0|53=>232|55=>234|4=>4|46=>291|45=>290|50=>61|5=>5|9=>9|66=>340|70=>344|76=>379|77=>380|n=>n,λ|n=>n⟩
theorem Tryz.sortBrs:Go.Proofs.SlLaysF0.n6 Tryz.prog Tryz.sortBrs_ren:={
 mixed:=by kernel_rfl
 f6:=⟨Tryz.f46.name,by decide,Tryz.func46.trans (TC some (by kernel_rfl))⟩
 f14:=⟨Tryz.f112.name,by decide,Tryz.func112.trans (TC some (by kernel_rfl))⟩
 f15:=Tryz.func113.trans (TC some (by kernel_rfl))
 f20:=⟨Tryz.f194.name,by decide,Tryz.func194.trans (TC some (by kernel_rfl))⟩
 f21:=⟨Tryz.f195.name,by decide,Tryz.func195.trans (TC some (by kernel_rfl))⟩
 f22:=⟨Tryz.f196.name,by decide,Tryz.func196.trans (TC some (by kernel_rfl))⟩
 f23:=⟨Tryz.f197.name,by decide,Tryz.func197.trans (TC some (by kernel_rfl))⟩
 f24:=⟨Tryz.f198.name,by decide,Tryz.func198.trans (TC some (by kernel_rfl))⟩
 f25:=⟨Tryz.f199.name,by decide,Tryz.func199.trans (TC some (by kernel_rfl))⟩
 f26:=⟨Tryz.f200.name,by decide,Tryz.func200.trans (TC some (by kernel_rfl))⟩
 f27:=⟨Tryz.f201.name,by decide,Tryz.func201.trans (TC some (by kernel_rfl))⟩
 f28:=Tryz.func202.trans (TC some (by kernel_rfl))
 f29:=Tryz.func203.trans (TC some (by kernel_rfl))
 f46:=⟨Tryz.f259.name,by decide,Tryz.func259.trans (TC some (by kernel_rfl))⟩
 f47:=Tryz.func260.trans (TC some (by kernel_rfl))
 f48:=Tryz.func261.trans (TC some (by kernel_rfl))
 f49:=⟨Tryz.f262.name,by decide,Tryz.func262.trans (TC some (by kernel_rfl))⟩
 f50:=⟨Tryz.f263.name,by decide,Tryz.func263.trans (TC some (by kernel_rfl))⟩
 f57:=⟨Tryz.f300.name,by decide,Tryz.func300.trans (TC some (by kernel_rfl))⟩
 t0:=Tryz.underlying0
 a0:=Tryz.isAgg0
 z0:=Tryz.sizeOf0
 v0:=Tryz.zeroValue0
 t3:=Tryz.underlying3
 a3:=Tryz.isAgg3
 z3:=Tryz.sizeOf3
 v3:=Tryz.zeroValue3
 t4:=Tryz.underlying4
 a4:=Tryz.isAgg4
 z4:=Tryz.sizeOf4
 v4:=Tryz.zeroValue4
 t5:=Tryz.underlying5
 a5:=Tryz.isAgg5
 z5:=Tryz.sizeOf5
 v5:=Tryz.zeroValue5
 t9:=Tryz.underlying9
 a9:=Tryz.isAgg9
 z9:=Tryz.sizeOf9
 v9:=Tryz.zeroValue9
 t22:=Tryz.underlying50
 a22:=Tryz.isAgg50
 z22:=Tryz.sizeOf50
 v22:=Tryz.zeroValue50
 t25:=Tryz.underlying128
 a25:=Tryz.isAgg128
 z25:=Tryz.sizeOf128
 v25:=Tryz.zeroValue128
 t39:=Tryz.underlying153
 a39:=Tryz.isAgg153
 z39:=Tryz.sizeOf153
 v39:=Tryz.zeroValue153
 t45:=Tryz.underlying290
 a45:=Tryz.isAgg290
 z45:=Tryz.sizeOf290
 v45:=Tryz.zeroValue290
 t46:=Tryz.underlying291
 a46:=Tryz.isAgg291
 z46:=Tryz.sizeOf291
 v46:=Tryz.zeroValue291
 t50:=Tryz.underlying61
 a50:=Tryz.isAgg61
 z50:=Tryz.sizeOf61
 v50:=Tryz.zeroValue61
 t53:=Tryz.underlying232
 a53:=Tryz.isAgg232
 z53:=Tryz.sizeOf232
 v53:=Tryz.zeroValue232
 t55:=Tryz.underlying234
 a55:=Tryz.isAgg234
 z55:=Tryz.sizeOf234
 v55:=Tryz.zeroValue234
 t66:=Tryz.underlying340
 a66:=Tryz.isAgg340
 z66:=Tryz.sizeOf340
 v66:=Tryz.zeroValue340
 t70:=Tryz.underlying344
 a70:=Tryz.isAgg344
 z70:=Tryz.sizeOf344
 v70:=Tryz.zeroValue344
 t76:=Tryz.underlying379
 a76:=Tryz.isAgg379
 z76:=Tryz.sizeOf379
 v76:=Tryz.zeroValue379
 t77:=Tryz.underlying380
 a77:=Tryz.isAgg380
 z77:=Tryz.sizeOf380
 v77:=Tryz.zeroValue380}
def Tryz.sortCels_ren:Go.Shelf.Ren:=⟨λ|6=>146|15=>113|14=>227|28=>202|29=>203|20=>277|21=>278|22=>279|23=>280|24=>281|25=>282|26=>283|27=>284|46=>313|47=>260|48=>261|49=>314|50=>315|57=>338|n=>n,λ|22=>28|24=>117|25=>246|3=>3|39=>153|0=>0|53=>232|55=>234|4=>4|46=>291|45=>290|50=>61|5=>5|9=>9|66=>340|70=>344|76=>379|77=>380|n=>n,λ|n=>n⟩
theorem Tryz.sortCels:Go.Proofs.SlLaysF0.n6 Tryz.prog Tryz.sortCels_ren:={
 mixed:=by kernel_rfl
 f6:=⟨Tryz.f146.name,by decide,Tryz.func146.trans (TC some (by kernel_rfl))⟩
 f14:=⟨Tryz.f227.name,by decide,Tryz.func227.trans (TC some (by kernel_rfl))⟩
 f15:=Tryz.func113.trans (TC some (by kernel_rfl))
 f20:=⟨Tryz.f277.name,by decide,Tryz.func277.trans (TC some (by kernel_rfl))⟩
 f21:=⟨Tryz.f278.name,by decide,Tryz.func278.trans (TC some (by kernel_rfl))⟩
 f22:=⟨Tryz.f279.name,by decide,Tryz.func279.trans (TC some (by kernel_rfl))⟩
 f23:=⟨Tryz.f280.name,by decide,Tryz.func280.trans (TC some (by kernel_rfl))⟩
 f24:=⟨Tryz.f281.name,by decide,Tryz.func281.trans (TC some (by kernel_rfl))⟩
 f25:=⟨Tryz.f282.name,by decide,Tryz.func282.trans (TC some (by kernel_rfl))⟩
 f26:=⟨Tryz.f283.name,by decide,Tryz.func283.trans (TC some (by kernel_rfl))⟩
 f27:=⟨Tryz.f284.name,by decide,Tryz.func284.trans (TC some (by kernel_rfl))⟩
 f28:=Tryz.func202.trans (TC some (by kernel_rfl))
 f29:=Tryz.func203.trans (TC some (by kernel_rfl))
 f46:=⟨Tryz.f313.name,by decide,Tryz.func313.trans (TC some (by kernel_rfl))⟩
 f47:=Tryz.func260.trans (TC some (by kernel_rfl))
 f48:=Tryz.func261.trans (TC some (by kernel_rfl))
 f49:=⟨Tryz.f314.name,by decide,Tryz.func314.trans (TC some (by kernel_rfl))⟩
 f50:=⟨Tryz.f315.name,by decide,Tryz.func315.trans (TC some (by kernel_rfl))⟩
 f57:=⟨Tryz.f338.name,by decide,Tryz.func338.trans (TC some (by kernel_rfl))⟩
 t0:=Tryz.underlying0
 a0:=Tryz.isAgg0
 z0:=Tryz.sizeOf0
 v0:=Tryz.zeroValue0
 t3:=Tryz.underlying3
 a3:=Tryz.isAgg3
 z3:=Tryz.sizeOf3
 v3:=Tryz.zeroValue3
 t4:=Tryz.underlying4
 a4:=Tryz.isAgg4
 z4:=Tryz.sizeOf4
 v4:=Tryz.zeroValue4
 t5:=Tryz.underlying5
 a5:=Tryz.isAgg5
 z5:=Tryz.sizeOf5
 v5:=Tryz.zeroValue5
 t9:=Tryz.underlying9
 a9:=Tryz.isAgg9
 z9:=Tryz.sizeOf9
 v9:=Tryz.zeroValue9
 t22:=Tryz.underlying28
 a22:=Tryz.isAgg28
 z22:=Tryz.sizeOf28
 v22:=Tryz.zeroValue28
 t25:=Tryz.underlying246
 a25:=Tryz.isAgg246
 z25:=Tryz.sizeOf246
 v25:=Tryz.zeroValue246
 t39:=Tryz.underlying153
 a39:=Tryz.isAgg153
 z39:=Tryz.sizeOf153
 v39:=Tryz.zeroValue153
 t45:=Tryz.underlying290
 a45:=Tryz.isAgg290
 z45:=Tryz.sizeOf290
 v45:=Tryz.zeroValue290
 t46:=Tryz.underlying291
 a46:=Tryz.isAgg291
 z46:=Tryz.sizeOf291
 v46:=Tryz.zeroValue291
 t50:=Tryz.underlying61
 a50:=Tryz.isAgg61
 z50:=Tryz.sizeOf61
 v50:=Tryz.zeroValue61
 t53:=Tryz.underlying232
 a53:=Tryz.isAgg232
 z53:=Tryz.sizeOf232
 v53:=Tryz.zeroValue232
 t55:=Tryz.underlying234
 a55:=Tryz.isAgg234
 z55:=Tryz.sizeOf234
 v55:=Tryz.zeroValue234
 t66:=Tryz.underlying340
 a66:=Tryz.isAgg340
 z66:=Tryz.sizeOf340
 v66:=Tryz.zeroValue340
 t70:=Tryz.underlying344
 a70:=Tryz.isAgg344
 z70:=Tryz.sizeOf344
 v70:=Tryz.zeroValue344
 t76:=Tryz.underlying379
 a76:=Tryz.isAgg379
 z76:=Tryz.sizeOf379
 v76:=Tryz.zeroValue379
 t77:=Tryz.underlying380
 a77:=Tryz.isAgg380
 z77:=Tryz.sizeOf380
 v77:=Tryz.zeroValue380}
end Go.Proofs
