/- Lemmas for the claim, part 3. -/
import Derived.Shelf.Strings.Builder1
import Derived.Shelf.Small.Bits
import Derived.Shelf.Small.Wraps
import Derived.Shelf.Strings.BuilderF
import Derived.Shelf.Strings.BuilderK
import Derived.Shelf.Strconv.Itoa0
import Derived.Shelf.Strconv.Itoa1
import Derived.Shelf.LaysM
import Derived.Shelf.Strconv.Itoa2
import Derived.Shelf.Strconv.Itoa3
import Derived.Shelf.Strings.Prefix
import Derived.Shelf.Bits.Mul64
import Derived.Shelf.Strings.BuilderCap
import Derived.Shelf.Slices.Turned
import Derived.Shelf.Slices.Equal
import Derived.Ground.Names2Prog
import Derived.Shelf.Slices.Clone
import Derived.Shelf.Slices.SearchI
import Derived.Shelf.Slices.Empties2
import Derived.Test.YtaholidehobiiaaGreatDoorProg
import Derived.Lib.Split
import Derived.Lib.ItoaNum
import Derived.Lib.AtoiAll
import Derived.Lib.AtoiTie
import Derived.ProofKit
import Derived.Below
import Derived.ChangeSame
import Derived.Carry
import Derived.Test.YtaholidehobiiaaGreatDoorQ1
set_option maxRecDepth 100000
set_option maxHeartbeats 8000000
set_option linter.all false
namespace Go.Nw
abbrev Lk:=Int×Int×Int
structure Net where
 nodes:Int
 power:List (List Int)
 noise:Int
 thr:Int
 links:List Lk
 margin:List Int
def cmpI(x y:Int):Int:=if x<y then -1 else if y<x then 1 else 0
def cmpL(a b:Lk):Int:=if cmpI a.1 b.1=0 then cmpI a.2.1 b.2.1 else cmpI a.1 b.1
def ZR(p:Int):Bool:=decide (p<0\/68719476736<p)
def wide(k:Int)(r:List Int):Bool:=decide ((r.length:Int)≠k)
def Vl(n:Net):Int:=
 if(n.power.length:Int)≠n.nodes then 1 else if n.power.any (wide n.nodes)=true then 1 else if n.power.any (λr=>r.any ZR)=true then 2 else 0
def lnk(n:Net)(i:Nat):Lk:=n.links.getD i (0,0,0)
def mar(n:Net)(i:Nat):Int:=n.margin.getD i 0
def powr(n:Net)(a b:Int):Int:=(n.power.getD a.toNat []).getD b.toNat 0
def Oi(n:Net)(i:Nat):Int:=
 if¬(0<=(lnk n i).1/\(lnk n i).1<n.nodes)\/¬(0<=(lnk n i).2.1/\(lnk n i).2.1<n.nodes)\/(lnk n i).1=(lnk n i).2.1\/(lnk n i).2.2<0\/7<(lnk n i).2.2 then 2
 else if 0<i/\0<=cmpL (lnk n (i-1)) (lnk n i)then 5
 else if mar n i<0\/powr n (lnk n i).1 (lnk n i).2.1<mar n i then 2 else 0
def Vi(n:Net):Nat->Nat->Int
 |0,_=>0
 |r+1,i=>if Oi n i=0 then Vi n r (i+1)else Oi n i
def Yo(n:Net):Int:=
 if n.nodes<2\/32<n.nodes then 2 else if Vl n≠0 then Vl n
 else if n.noise<0\/68719476736<n.noise\/n.thr<1000\/100000<n.thr then 2
 else if 128<n.links.length then 8 else if n.margin.length≠n.links.length then 11 else Vi n n.links.length 0
def Ym{α:Type}(p:α->Bool):List α->Int->Int
 |[],_=> -1
 |a::l,k=>if p a then k else Ym p l (k+1)
theorem JT{α:Type}(p:α->Bool):∀(l:List α) (k:Int),0<=k->(0<=Ym p l k↔l.any p=true)
 |[],k,_=>by simp[Ym]
 |a::l,k,h=>by
  unfold Ym
  by_cases hp:p a=true
  ·simp_all
  ·rw[Tf hp,JT p l (k+1) (by omega)]
   simp[hp]
theorem Z3{α:Type}(p:α->Bool)(l:List α){k:Nat}{a:α}(h:l[k]? =some a):Ym p (l.drop k) k=if p a then(k:Int)else Ym p (l.drop (k+1)) (k+1):=by
 grind [Rl,Ym]
variable {i:Nat}
theorem YjN(n:Net)(h:i<n.links.length)(h0:Oi n i=0):Vi n (n.links.length-i) i=Vi n (n.links.length-(i+1)) (i+1):=by
 rw[show n.links.length-i=n.links.length-(i+1)+1 by omega,Vi,Tn h0]
theorem YjO(n:Net)(h:i<n.links.length)(h0:Oi n i≠0):Vi n (n.links.length-i) i=Oi n i:=by
 rw[show n.links.length-i=n.links.length-(i+1)+1 by omega,Vi,Tf h0]
theorem YeO{n:Net}(h:Vl n=0):(n.power.length:Int)=n.nodes/\(∀r∈n.power,(r.length:Int)=n.nodes)/\∀r∈n.power,∀p∈r,0<=p/\p<=68719476736:=by
 unfold Vl at h
 by_cases h1:(n.power.length:Int)≠n.nodes
 ·omega
 by_cases h2:n.power.any (wide n.nodes)=true
 ·simp_all
 by_cases h3:n.power.any (λr=>r.any ZR)=true
 ·simp_all
 refine⟨by omega,λr hr=>?_,λr hr p hp=>?_⟩
 ·by_cases hw:(r.length:Int)=n.nodes
  ·exact hw
  ·exact absurd (T8.2 ⟨r,hr,by simp[wide,hw]⟩) h2
 ·by_cases ho:ZR p=true
  ·grind
  grind [ZR]
variable {x y a b:Int}
theorem YqO:cmpI x y<0↔x<y:=by grind [cmpI]
theorem cmpI_zero:cmpI x y=0↔x=y:=by grind [cmpI]
theorem Ui{a b:Lk}:cmpL a b<0↔a.1<b.1\/(a.1=b.1/\a.2.1<b.2.1):=by
 grind [YqO,cmpI_zero,cmpL]
theorem Wj{a b:Lk}:cmpL a b=0↔a.1=b.1/\a.2.1=b.2.1:=by
 grind [cmpI_zero,cmpL]
structure OkL(n:Net)(i:Nat):Prop where
 f0:0<=(lnk n i).1
 f1:(lnk n i).1<n.nodes
 t0:0<=(lnk n i).2.1
 t1:(lnk n i).2.1<n.nodes
 ne:(lnk n i).1≠(lnk n i).2.1
 l0:0<=(lnk n i).2.2
 l1:(lnk n i).2.2<=7
 ord:0<i->cmpL (lnk n (i-1)) (lnk n i)<0
 m0:0<=mar n i
 m1:mar n i<=powr n (lnk n i).1 (lnk n i).2.1
variable {n:Net}{i:Nat}
theorem YtL(h:Oi n i=0):OkL n i:=by
 unfold Oi at h
 by_cases h1:¬(0<=(lnk n i).1/\(lnk n i).1<n.nodes)\/¬(0<=(lnk n i).2.1/\(lnk n i).2.1<n.nodes)\/(lnk n i).1=(lnk n i).2.1\/(lnk n i).2.2<0\/7<(lnk n i).2.2
 ·omega
 by_cases h2:0<i/\0<=cmpL (lnk n (i-1)) (lnk n i)
 ·omega
 by_cases h3:mar n i<0\/powr n (lnk n i).1 (lnk n i).2.1<mar n i
 ·omega
 constructor<;>omega
structure Ok(n:Net):Prop where
 n0:2<=n.nodes
 n1:n.nodes<=32
 p0:(n.power.length:Int)=n.nodes
 p1:∀r∈n.power,(r.length:Int)=n.nodes
 p2:∀r∈n.power,∀p∈r,0<=p/\p<=68719476736
 z0:0<=n.noise
 z1:n.noise<=68719476736
 t0:1000<=n.thr
 t1:n.thr<=100000
 k0:n.links.length<=128
 k1:n.margin.length=n.links.length
 lk:∀i,i<n.links.length->OkL n i
theorem YjP{n:Net}:∀(r i:Nat),Vi n r i=0->∀j,i<=j->j<i+r->OkL n j
 |0,_,_,j,h1,h2=>by omega
 |r+1,i,h,j,h1,h2=>by
  unfold Vi at h
  by_cases h0:Oi n i=0
  ·rw[Tn h0]at h
   by_cases e:i=j
   ·grind [YtL]
   ·exact YjP r (i+1) h j (by omega) (by omega)
  omega
theorem YC(h:Yo n=0):Ok n:=by
 unfold Yo at h
 by_cases h1:n.nodes<2\/32<n.nodes
 ·omega
 rw[Tf h1]at h
 by_cases h2:Vl n≠0
 ·omega
 rw[Tf h2]at h
 by_cases h3:n.noise<0\/68719476736<n.noise\/n.thr<1000\/100000<n.thr
 ·omega
 rw[Tf h3]at h
 by_cases h4:128<n.links.length
 ·omega
 rw[Tf h4]at h
 by_cases h5:n.margin.length≠n.links.length
 ·omega
 rw[Tf h5]at h
 obtain⟨t1,t2,t3⟩:=YeO (Classical.not_not.1 h2)
 exact⟨by omega,by omega,t1,t2,t3,by omega,by omega,by omega,by omega,by omega,Classical.not_not.1 h5,λi hi=>YjP _ _ h i (Tm _) (by omega)⟩
theorem YeI(h:Ok n):∀(i j:Nat),i<j->j<n.links.length->cmpL (lnk n i) (lnk n j)<0:=by
 intro i j
 induction j with
 |zero=>omega
 |succ j ih=>
  intro h1 h2
  have h3:=(h.lk (j+1) h2).ord (by omega)
  rw[SK]at h3
  by_cases e:i=j
  ·simp_all
  ·rw[Ui]at*
   omega
def Wr(a b:Int)(l:Lk):Bool:=decide (l.1=a)&&decide (l.2.1=b)
def Yt(n:Net)(a b:Int):Int:=Ym (Wr a b) n.links 0
theorem YaF{α:Type}{p:α->Bool}:∀{l:List α}{k:Int},(∀a∈l,p a=false)->Ym p l k= -1
 |[],_,_=>rfl
 |a::l,k,h=>by
  rw[Ym,h a Tz,Tf (by simp)]
  exact YaF λb hb=>h b (TA _ hb)
theorem YdW{α:Type}{p:α->Bool}:∀{l:List α}{k:Int}{i:Nat}{a:α},l[i]? =some a->p a=true->(∀j b,j<i->l[j]? =some b->p b=false)->Ym p l k=k+i
 |[],_,_,_,h,_,_=>by simp at h
 |b::l,k,0,a,h,hp,_=>by
  simp_all [Ym]
 |b::l,k,i+1,a,h,hp,hn=>by
  have hb:=hn 0 b (by omega) (by simp)
  rw[Ym,Tf (by simp_all),YdW (i:=i) (a:=a) (by simp_all) hp λj c hj hc=>hn (j+1) c (by omega) (by simp_all)]
  omega
theorem Q3{α:Type}{p:α->Bool}:∀{l:List α}{k:Int},0<=k->Ym p l k= -1\/(k<=Ym p l k/\Ym p l k<k+l.length)
 |[],_,_=>.inl rfl
 |a::l,k,h=>by
  unfold Ym
  by_cases hp:p a=true
  ·grind
  ·rcases @Q3 _ p l (k+1) (by omega)with h1|h1
   all_goals grind
theorem YaG{α:Type}{p:α->Bool}:∀{l:List α}{k:Int}{i:Nat},0<=k->Ym p l k=k+i->∃a,l[i]? =some a/\p a=true
 |[],k,i,h0,h=>by grind [Ym]
 |a::l,k,i,h0,h=>by
  unfold Ym at h
  by_cases hp:p a=true
  ·grind
  ·cases i with
   |zero=>
    grind [Q3]
   |succ i=>
    obtain⟨b,h1,h2⟩:=YaG (p:=p) (i:=i) (l:=l) (k:=k+1) (by omega) (by omega)
    simp_all
theorem JU{l:Lk}(h:n.links[i]? =some l):lnk n i=l:=by grind [lnk]
theorem Qp{z:Int}(h:n.margin[i]? =some z):mar n i=z:=by grind [mar]
theorem OL(n:Net)(h:i<n.links.length):n.links[i]? =some (lnk n i):=by grind [lnk]
theorem Yjl(h:Ok n){c:Int}{k:Nat}(hk:k<=n.links.length)(h1:∀j,j<k->cmpL (lnk n j) (a,b,c)<0)(h2:∀j,k<=j->j<n.links.length->0<=cmpL (lnk n j) (a,b,c)):
 Yt n a b=if k<n.links.length/\cmpL (lnk n k) (a,b,c)=0 then(k:Int)else -1:=by
 unfold Yt
 have hlow:∀j l,j<k->n.links[j]? =some l->Wr a b l=false:=by grind [JU,Ui,Wr]
 by_cases hc:k<n.links.length/\cmpL (lnk n k) (a,b,c)=0
 ·rw[Tn hc,YdW (OL n hc.1) (by grind [Wj,Wr]) hlow]
  omega
 ·rw[Tf hc]
  refine YaF λl hl=>?_
  obtain⟨j,hj,rfl⟩:=List.mem_iff_getElem.1 hl
  by_cases hjk:j<k
  ·exact hlow j _ hjk (Ta hj)
  ·have e:lnk n j=n.links[j]:=JU (Ta hj)
   have h3:cmpL (lnk n j) (a,b,c)≠0:=by
    by_cases ejk:j=k
    ·grind
    ·intro e0
     have h4:=YeI h k j (by omega) hj
     have h5:=h2 k (TJ _) (by omega)
     rw[Wj]at e0
     have h6:¬cmpL (lnk n k) (a,b,c)<0:=by omega
     simp_all [Ui]
   simp_all [Wj,Wr]
def Z2(n:Net)(s d:Int):Bool:=decide (n.thr*(n.noise+d)<=s*1000)
def ZU(n:Net)(i:Nat):Bool:=decide (0<=Yt n (lnk n i).2.1 (lnk n i).1)&&(Z2 n (mar n i) 0&&Z2 n (mar n (Yt n (lnk n i).2.1 (lnk n i).1).toNat) 0)
theorem Ytu(h:Ok n){d:Int}(h0:0<=d)(h1:d<=8796093022208): -9223372036854775808<=n.thr*(n.noise+d)/\n.thr*(n.noise+d)<=9223372036854775807:=by
 have h2:=h.t0;have h3:=h.t1;have h4:=h.z0;have h5:=h.z1
 have h6:0<=n.thr*(n.noise+d):=Int.mul_nonneg (by omega) (by omega)
 have h7:n.thr*(n.noise+d)<=100000*(n.noise+d):=SR h3 (by omega)
 omega
theorem Yea(h:Ok n)(hi:i<n.links.length):0<=mar n i/\mar n i<=68719476736:=by
 have hl:=h.lk i hi
 refine⟨hl.m0,Int.le_trans hl.m1 ?_⟩
 unfold powr
 have e1:(lnk n i).1.toNat<n.power.length:=by have:=h.p0;have:=hl.f1;have:=hl.f0;omega
 rw[show n.power.getD (lnk n i).1.toNat []=n.power[(lnk n i).1.toNat] by simp_all]
 have hm:=List.getElem_mem e1
 have e2:(lnk n i).2.1.toNat<(n.power[(lnk n i).1.toNat]).length:=by have:=h.p1 _ hm;have:=hl.t1;have:=hl.t0;omega
 rw[show(n.power[(lnk n i).1.toNat]).getD (lnk n i).2.1.toNat 0=(n.power[(lnk n i).1.toNat])[(lnk n i).2.1.toNat] by simp_all]
 exact(h.p2 _ hm _ (List.getElem_mem e2)).2
theorem XR(h:0<=Yt n a b):(Yt n a b).toNat<n.links.length:=by
 rcases @Q3 _ (Wr a b) n.links 0 (by omega)with h1|h1<;>unfold Yt at h⊢<;>omega
theorem Vv(h:0<=Yt n a b):(lnk n (Yt n a b).toNat).1=a/\(lnk n (Yt n a b).toNat).2.1=b:=by
 obtain⟨l,h1,h2⟩:=@YaG _ (Wr a b) n.links 0 (Yt n a b).toNat (by omega) (by grind [Yt])
 grind [JU,Wr]
end Go.Nw
namespace Go.Proofs.YtaholidehobiiaaGreatDoor
def Y2:List Int->List Int->Bool
 |[],b=>!b.isEmpty
 |_::_,[]=>false
 |a::l,b::m=>if a≠b then decide (a<b)else Y2 l m
theorem Yd5{a b:List Int}{i:Nat}{x y:Int}(hx:a[i]? =some x)(hy:b[i]? =some y):Y2 (a.drop i) (b.drop i)=if x≠y then decide (x<y)else Y2 (a.drop (i+1)) (b.drop (i+1)):=by
 obtain⟨h1,rfl⟩:=Tj.1 hx
 obtain⟨h2,rfl⟩:=Tj.1 hy
 rw[Rl h1,Rl h2]
 rfl
theorem YlF:∀{a b:List Int},Y2 a b=false->Y2 b a=false->a=b
 |[],[],_,_=>rfl
 |[],b::m,h,_=>by simp[Y2]at h
 |a::l,[],_,h=>by simp[Y2]at h
 |a::l,b::m,h1,h2=>by
  unfold Y2 at h1 h2
  by_cases e:a=b
  ·subst e
   rw[Tf (λh=>h rfl)]at h1 h2
   rw[YlF h1 h2]
  grind
theorem Uo:∀a:List Int,Y2 a a=false
 |[]=>rfl
 |a::l=>by unfold Y2;rw[Tf (λh=>h rfl)];exact Uo l
open Go.Nw
abbrev Cel:=Int×Int×Int×Int×Int
def nums(c:Cel):List Int:=[c.1,c.2.1,c.2.2.1,c.2.2.2.1,c.2.2.2.2]
def Xi(a b:Cel):Bool:=Y2 (nums a) (nums b)
variable {a b c:Cel}
theorem Yj0(h:nums a=nums b):a=b:=by
 grind [nums]
theorem Ygq:∀{a b c:List Int},Y2 a b=true->Y2 b c=true->Y2 a c=true
 |_,_,[],_,h=>by cases‹List Int›<;>cases h
 |[],_,_::_,_,_=>rfl
 |_::_,[],_::_,h,_=>by cases h
 |x::a,y::b,z::c,h1,h2=>by
  unfold Y2 at h1 h2⊢
  by_cases e1:x=y
  ·subst e1
   rw[Tf (λh=>h rfl)]at h1
   by_cases e2:x=z
   ·subst e2
    rw[Tf (λh=>h rfl)]at h2⊢
    exact Ygq h1 h2
   simp_all
  grind
theorem JB(h1:Xi a b=true)(h2:Xi b c=true):Xi a c=true:=Ygq h1 h2
theorem Va(a:Cel):Xi a a=false:=Uo _
theorem Yav(h1:Xi a b=false)(h2:Xi b a=false):a=b:=Yj0 (YlF h1 h2)
def insE(x n:Int):Bool:=decide (0<=x/\x<n)
structure Sch where
 len:Int
 off:Int
 cells:List Cel
def ZT(s:Sch)(c:Cel):Bool:=insE c.1 s.len&&insE c.2.1 s.off
def Jf(s:Sch)(c:Cel):Bool:=ZT s c&&insE c.2.2.1 32&&insE c.2.2.2.1 32&&insE c.2.2.2.2 256
def Jo(s:Sch):Bool:=decide (1<=s.len/\s.len<=512/\1<=s.off/\s.off<=16)
def Yn(s:Sch)(i:Nat):Cel:=s.cells.getD i (0,0,0,0,0)
def VN(s:Sch)(i:Nat):Bool:=Jf s (Yn s i)&&(decide (i=0)||Xi (Yn s (i-1)) (Yn s i))
def XH(s:Sch):Bool:=Jo s&&decide (s.cells.length<=512)&&(List.range s.cells.length).all (VN s)
variable {p:Nat->Bool}{k i:Nat}
theorem Ydb:(List.range (k+1)).all p=((List.range k).all p&&p k):=by
 grind
theorem Yhh(h:(List.range k).all p=true)(hi:i<k):p i=true:=by simp_all
variable {s:Sch}
theorem XV(h:s.cells[i]? =some c):Yn s i=c:=by
 grind [Yn]
theorem Xg(h:i<s.cells.length):s.cells[i]? =some (Yn s i):=by
 grind [Yn]
theorem J8(h:i<s.cells.length):Yn s i∈s.cells:=Tc (Xg h)
structure Frm(s:Sch):Prop where
 sized:Jo s=true
 few:s.cells.length<=512
 formed:∀c∈s.cells,Jf s c=true
 ord:s.cells.Pairwise λa b=>Xi a b=true
theorem YaS{α:Type}{lt:α->α->Bool}(htr:∀{a b c},lt a b=true->lt b c=true->lt a c=true){l:List α}(h:∀i,∀a b,l[i]? =some a->l[i+1]? =some b->lt a b=true):l.Pairwise λa b=>lt a b=true:=by
 induction l with
 |nil=>simp_all
 |cons x l ih=>
  have h1:=ih λi a b ha hb=>h (i+1) a b (by simp_all) (by simp_all)
  refine .cons (λy hy=>?_) h1
  cases l with
  |nil=>cases hy
  |cons z l=>
   have hz:=h 0 x z rfl rfl
   grind [Ni]
theorem ZA:XH s=true↔Frm s:=by
 unfold XH
 simp only[Tq,Tt]
 constructor
 ·rintro⟨⟨h1,h2⟩,h3⟩
  have hc:∀i,i<s.cells.length->VN s i=true:=by simp_all
  refine⟨h1,h2,λc hc2=>?_,?_⟩
  ·obtain⟨i,hi⟩:=TS.1 hc2
   have:=hc i (Tj.1 hi).1
   simp_all [VN,XV]
  ·refine YaS (lt:=Xi) (λh1 h2=>JB h1 h2) λi a b ha hb=>?_
   have:=hc (i+1) (Tj.1 hb).1
   simp_all [VN,XV]
 ·intro h
  refine⟨⟨h.sized,h.few⟩,TF.2 λi hi=>?_⟩
  have hi:=TQ.1 hi
  unfold VN
  rw[h.formed _ (J8 hi),RO,R9,Tt]
  rcases Nj i with h0|h0
  ·omega
  ·obtain⟨h1,h2⟩:=Tj.1 (Xg (s:=s) (i:=i-1) (by omega))
   obtain⟨h3,h4⟩:=Tj.1 (Xg (s:=s) hi)
   grind [Rm,Go.Proofs.YtaholidehobiiaaGreatDoor.Frm.ord]
abbrev Flw:=Int×Int×Int×Int×Int×Int
def Xx(nodes:Int)(f:Flw):Int:=
 if f.1<0\/255<f.1\/insE f.2.1 nodes=false\/insE f.2.2.1 nodes=false then 2
 else if f.2.2.2.1<1\/512<f.2.2.2.1\/f.2.2.2.2.1<0\/f.2.2.2.1<=f.2.2.2.2.1\/f.2.2.2.2.2<1\/f.2.2.2.1<f.2.2.2.2.2 then 2
 else if f.2.1=f.2.2.1 then 1 else 0
def Xj(l:List Flw)(i:Nat):Flw:=l.getD i (0,0,0,0,0,0)
def YZ(f:Nat->Int):Nat->Nat->Int×Int
 |0,_=>(-1,0)
 |r+1,i=>if f i=0 then YZ f r (i+1)else((i:Int),f i)
theorem YK{f:Nat->Int}:∀{r i:Nat},(YZ f r i).2=0↔∀k,i<=k->k<i+r->f k=0
 |0,i=>by grind [YZ]
 |r+1,i=>by
  unfold YZ
  split
  ·rw[YK]
   grind
  grind
theorem YdL{f:Nat->Int}:∀{r i:Nat},(YZ f r i).2=0->(YZ f r i).1= -1
 |0,i,_=>rfl
 |r+1,i,h=>by
  unfold YZ at h⊢
  split at h
  ·rw[Tn ‹_›];exact YdL h
  omega
def YT(nodes:Int)(l:List Flw)(i:Nat):Int:=if Xx nodes (Xj l i)≠0 then Xx nodes (Xj l i)else if 0<i/\(Xj l i).1<=(Xj l (i-1)).1 then 5 else 0
def Yu(nodes:Int)(l:List Flw):Int×Int:=
 if nodes<2\/32<nodes then(-1,2)else if 16<l.length then(-1,8)else YZ (YT nodes l) l.length 0
def Z1(l:List Flw)(id:Int):Int:=Ym (λf=>decide (f.1=id)) l 0
end Go.Proofs.YtaholidehobiiaaGreatDoor
namespace Go.Nw
theorem nodup_len:∀(N:Nat) (l:List Int),l.Nodup->(∀x∈l,0<=x/\x<N)->l.length<=N
 |0,l,_,h=>by
  cases l with
  |nil=>simp
  |cons a l=>grind [Tz]
 |N+1,l,hn,h=>by
  have h1:=nodup_len N (l.erase (N:Int)) (hn.erase _) (λx hx=>by
   grind)
  grind
end Go.Nw
namespace Go.Proofs
open Go.Shelf
def Tryz.lays169_ren:Go.Shelf.Ren:=⟨λ|169=>117|n=>n,λ|70=>160|9=>9|0=>0|72=>163|37=>161|127=>240|3=>3|5=>5|n=>n,λ|n=>n⟩
theorem Tryz.lays169:Go.Proofs.Lays.n169 Tryz.prog Tryz.lays169_ren:={
 mixed:=by kernel_rfl
 f169:=Tryz.func117.trans (TE some (by kernel_rfl))
 t0:=Tryz.underlying0
 a0:=Tryz.isAgg0
 z0:=Tryz.sizeOf0
 v0:=Tryz.zeroValue0
 t3:=Tryz.underlying3
 a3:=Tryz.isAgg3
 z3:=Tryz.sizeOf3
 v3:=Tryz.zeroValue3
 t9:=Tryz.underlying9
 a9:=Tryz.isAgg9
 z9:=Tryz.sizeOf9
 v9:=Tryz.zeroValue9
 t37:=Tryz.underlying161
 a37:=Tryz.isAgg161
 z37:=Tryz.sizeOf161
 v37:=Tryz.zeroValue161
 t70:=Tryz.underlying160
 a70:=Tryz.isAgg160
 z70:=Tryz.sizeOf160
 v70:=Tryz.zeroValue160
 t72:=Tryz.underlying163
 a72:=Tryz.isAgg163
 z72:=Tryz.sizeOf163
 v72:=Tryz.zeroValue163
 t127:=Tryz.underlying240
 a127:=Tryz.isAgg240
 z127:=Tryz.sizeOf240
 v127:=Tryz.zeroValue240}
theorem Tryz.Builder_Extra_169:Builder.Extra Tryz.prog Tryz.lays169_ren:={
 sizeBuilder:=by kernel_rfl
 liesBuilder:=by kernel_rfl
 t5:=Tryz.underlying5
 a5:=Tryz.isAgg5
 z5:=Tryz.sizeOf5
 v5:=Tryz.zeroValue5
 infoByte:=by kernel_rfl
 cellsByte:=by kernel_rfl
 sizeByte:=by kernel_rfl
 neB5:=by decide}
open Go.RowKit in
theorem Tryz.Builder_String_any(B b:Nat)(l:List UInt8)(w:World)(h:Lib.IsBuilder 163 5 B b (Lib.byteCells l) w)(hBw:B<=w.heap.size):
 Calls Tryz.prog 117 #[.pointer (some ⟨b,0,none⟩)] w λe w'=>e=.returned (.string ⟨l.toArray⟩)/\Below B w w':=Any.Builder_String_any Tryz.lays169 Tryz.Builder_Extra_169 B b l w h hBw
def Tryz.lays122_ren:Go.Shelf.Ren:=⟨λ|122=>140|215=>235|n=>n,λ|3=>3|4=>4|n=>n,λ|n=>n⟩
theorem Tryz.lays122:Go.Proofs.Lays.n122 Tryz.prog Tryz.lays122_ren:={
 mixed:=by kernel_rfl
 f122:=Tryz.func140.trans (TE some (by kernel_rfl))
 f215:=Tryz.func235.trans (TE some (by kernel_rfl))
 t3:=Tryz.underlying3
 a3:=Tryz.isAgg3
 z3:=Tryz.sizeOf3
 v3:=Tryz.zeroValue3
 t4:=Tryz.underlying4
 a4:=Tryz.isAgg4
 z4:=Tryz.sizeOf4
 v4:=Tryz.zeroValue4}
open Go.RowKit in
theorem Tryz.cmp_Compare_int(x y:Int)(w:World):
 Calls Tryz.prog 140 #[.int .i64 x,.int .i64 y] w λe w'=>e=.returned (.int .i64 (Lib.compareInt x y))/\w'=w:=Any.cmp_Compare_int Tryz.lays122 x y w
def Tryz.laysM171_ren:Go.Shelf.Ren:=⟨λ|171=>211|243=>282|246=>348|283=>403|284=>404|285=>405|286=>406|129=>309|317=>429|318=>430|319=>431|320=>432|337=>440|338=>441|n=>n,λ|3=>3|9=>9|2=>2|4=>4|171=>420|0=>0|53=>244|37=>161|5=>5|173=>422|212=>453|51=>242|20=>20|213=>454|46=>231|232=>462|233=>463|n=>n,λ|17=>0|18=>1|19=>2|n=>n⟩
theorem Tryz.laysM171:Go.Proofs.LaysM.n171 Tryz.prog Tryz.laysM171_ren:={
 mixed:=by kernel_rfl
 f129:=Tryz.func309.trans (TE some (by kernel_rfl))
 f171:=Tryz.func211.trans (TE some (by kernel_rfl))
 f243:=Tryz.func282.trans (TE some (by kernel_rfl))
 f246:=Tryz.func348.trans (TE some (by kernel_rfl))
 f283:=Tryz.func403.trans (TE some (by kernel_rfl))
 f284:=Tryz.func404.trans (TE some (by kernel_rfl))
 f285:=Tryz.func405.trans (TE some (by kernel_rfl))
 f286:=Tryz.func406.trans (TE some (by kernel_rfl))
 f317:=Tryz.func429.trans (TE some (by kernel_rfl))
 f318:=Tryz.func430.trans (TE some (by kernel_rfl))
 f319:=Tryz.func431.trans (TE some (by kernel_rfl))
 f320:=Tryz.func432.trans (TE some (by kernel_rfl))
 f337:=Tryz.func440.trans (TE some (by kernel_rfl))
 f338:=Tryz.func441.trans (TE some (by kernel_rfl))
 t0:=Tryz.underlying0
 a0:=Tryz.isAgg0
 z0:=Tryz.sizeOf0
 v0:=Tryz.zeroValue0
 t2:=Tryz.underlying2
 a2:=Tryz.isAgg2
 z2:=Tryz.sizeOf2
 v2:=Tryz.zeroValue2
 t3:=Tryz.underlying3
 a3:=Tryz.isAgg3
 z3:=Tryz.sizeOf3
 v3:=Tryz.zeroValue3
 t4:=Tryz.underlying4
 a4:=Tryz.isAgg4
 z4:=Tryz.sizeOf4
 v4:=Tryz.zeroValue4
 t5:=Tryz.underlying5
 a5:=Tryz.isAgg5
 z5:=Tryz.sizeOf5
 v5:=Tryz.zeroValue5
 t9:=Tryz.underlying9
 a9:=Tryz.isAgg9
 z9:=Tryz.sizeOf9
 v9:=Tryz.zeroValue9
 t20:=Tryz.underlying20
 a20:=Tryz.isAgg20
 z20:=Tryz.sizeOf20
 v20:=Tryz.zeroValue20
 t37:=Tryz.underlying161
 a37:=Tryz.isAgg161
 z37:=Tryz.sizeOf161
 v37:=Tryz.zeroValue161
 t46:=Tryz.underlying231
 a46:=Tryz.isAgg231
 z46:=Tryz.sizeOf231
 v46:=Tryz.zeroValue231
 t51:=Tryz.underlying242
 a51:=Tryz.isAgg242
 z51:=Tryz.sizeOf242
 v51:=Tryz.zeroValue242
 t53:=Tryz.underlying244
 a53:=Tryz.isAgg244
 z53:=Tryz.sizeOf244
 v53:=Tryz.zeroValue244
 t171:=Tryz.underlying420
 a171:=Tryz.isAgg420
 z171:=Tryz.sizeOf420
 v171:=Tryz.zeroValue420
 t173:=Tryz.underlying422
 a173:=Tryz.isAgg422
 z173:=Tryz.sizeOf422
 v173:=Tryz.zeroValue422
 t212:=Tryz.underlying453
 a212:=Tryz.isAgg453
 z212:=Tryz.sizeOf453
 v212:=Tryz.zeroValue453
 t213:=Tryz.underlying454
 a213:=Tryz.isAgg454
 z213:=Tryz.sizeOf454
 t232:=Tryz.underlying462
 a232:=Tryz.isAgg462
 z232:=Tryz.sizeOf462
 v232:=Tryz.zeroValue462
 t233:=Tryz.underlying463
 a233:=Tryz.isAgg463
 z233:=Tryz.sizeOf463
 v233:=Tryz.zeroValue463
 g17:=by kernel_rfl
 g18:=by kernel_rfl
 g19:=by kernel_rfl
 i0:=by kernel_rfl
 i2:=by kernel_rfl
 i3:=by kernel_rfl
 i4:=by kernel_rfl
 i5:=by kernel_rfl
 i9:=by kernel_rfl
 i20:=by kernel_rfl
 i37:=by kernel_rfl
 i46:=by kernel_rfl
 i51:=by kernel_rfl
 i53:=by kernel_rfl
 i171:=by kernel_rfl
 i173:=by kernel_rfl
 i212:=by kernel_rfl
 i232:=by kernel_rfl
 i233:=by kernel_rfl
 m17:=by kernel_rfl
 m18:=by kernel_rfl
 m19:=by kernel_rfl}
open Go.RowKit Go.Sort Go.Lib in
theorem Tryz.strconv_Itoa(n:Int)(h0: -9223372036854775808<=n)(h1:n<=9223372036854775807)(w:World)(htab:Lib.TabIs Tryz.prog w "internal/strconv.uint64pow10" .u64 Lib.pow10Tab):
 Calls Tryz.prog 211 #[.int .i64 n] w λe w'=>e=.returned (.string ⟨(Lib.itoa n).toArray⟩)/\∃k os,w'=grow (w.drewN k) os:=Any.strconv_Itoa Tryz.laysM171 n h0 h1 w htab
def Tryz.lays212_ren:Go.Shelf.Ren:=⟨λ|212=>425|263=>437|264=>438|n=>n,λ|46=>231|51=>242|146=>457|53=>244|148=>459|n=>n,λ|n=>n⟩
theorem Tryz.lays212:Go.Proofs.Lays.n212 Tryz.prog Tryz.lays212_ren:={
 mixed:=by kernel_rfl
 f212:=Tryz.func425.trans (TE some (by kernel_rfl))
 f263:=Tryz.func437.trans (TE some (by kernel_rfl))
 f264:=Tryz.func438.trans (TE some (by kernel_rfl))
 t46:=Tryz.underlying231
 a46:=Tryz.isAgg231
 z46:=Tryz.sizeOf231
 v46:=Tryz.zeroValue231
 t51:=Tryz.underlying242
 a51:=Tryz.isAgg242
 z51:=Tryz.sizeOf242
 v51:=Tryz.zeroValue242
 t53:=Tryz.underlying244
 a53:=Tryz.isAgg244
 z53:=Tryz.sizeOf244
 v53:=Tryz.zeroValue244
 t146:=Tryz.underlying457
 a146:=Tryz.isAgg457
 z146:=Tryz.sizeOf457
 v146:=Tryz.zeroValue457
 t148:=Tryz.underlying459
 a148:=Tryz.isAgg459
 z148:=Tryz.sizeOf459
 v148:=Tryz.zeroValue459}
open Go.RowKit Go.Lib in
theorem Tryz.bits_Mul(x y:Nat)(hx:x<18446744073709551616)(hy:y<18446744073709551616)(w:World):
 Calls Tryz.prog 425 #[.int .u64 x,.int .u64 y] w λe w'=>e=.returned (.tuple #[.int .u64 ((x*y/18446744073709551616:Nat):Int),.int .u64 ((x*y%18446744073709551616:Nat):Int)])/\w'=w:=Any.bits_Mul Tryz.lays212 x y hx hy w
end Go.Proofs
namespace Go.Rt
open Go.Nw
def YP:Int:=1073741824
def Yf(far:List Int)(v:Int):Int:=far.getD v.toNat 0
def ArcsOk(nodes:Nat)(l:List Lk):Prop:=∀a∈l,(0<=a.1/\a.1<nodes)/\(0<=a.2.1/\a.2.1<nodes)/\(1<=a.2.2/\a.2.2<=1000000)
structure Dist(nodes:Nat)(l:List Lk)(to:Int)(far:List Int):Prop where
 len:far.length=nodes
 to0:Yf far to=0
 range:∀v:Int,0<=v->v<nodes->0<=Yf far v/\Yf far v<=YP
 tight:∀v:Int,0<=v->v<nodes->v≠to->Yf far v<YP->∃a∈l,a.1=v/\Yf far a.2.1+a.2.2<=Yf far v
 least:∀a∈l,Yf far a.2.1<YP->Yf far a.1<=Yf far a.2.1+a.2.2
structure DInv(nodes:Nat)(l:List Lk)(to:Int)(far:List Int)(q:List (Int×Int))(v:Int)(rest:List Lk):Prop where
 len:far.length=nodes
 to0:Yf far to=0
 range:∀v:Int,0<=v->v<nodes->0<=Yf far v/\Yf far v<=YP
 tight:∀v:Int,0<=v->v<nodes->v≠to->Yf far v<YP->∃a∈l,a.1=v/\Yf far a.2.1+a.2.2<=Yf far v
 pend:∀a∈l,Yf far a.2.1<YP->Yf far a.1<=Yf far a.2.1+a.2.2\/(a.2.1,Yf far a.2.1)∈q\/(a.2.1=v/\a∈rest)
 items:∀x∈q,(0<=x.1/\x.1<nodes)/\Yf far x.1<=x.2/\x.2<YP
def ZL(far:List Int)(q:List (Int×Int)):Nat:=2*(far.map Int.toNat).sum+q.length
variable {far:List Int}{i x to v:Int}
theorem Zt(h:i.toNat<far.length):Yf (far.set i.toNat x) i=x:=by
 grind [Yf]
theorem XN{j:Int}(h:i.toNat≠j.toNat):Yf (far.set i.toNat x) j=Yf far j:=by
 grind [Yf]
theorem X6(h:i.toNat<far.length):far[i.toNat]? =some (Yf far i):=by
 grind [Yf]
theorem Yuf{i:Nat}(h:i<far.length)(h0:0<=x)(hx:x<far.getD i 0):((far.set i x).map Int.toNat).sum+1<=(far.map Int.toNat).sum:=by
 induction far generalizing i with
 |nil=>simp at h
 |cons a l ih=>
  cases i with
  |zero=>
   grind
  |succ i=>
   grind
variable {l rest:List Lk}
theorem Ydu{nodes:Nat}(hl:ArcsOk nodes l)(h0:0<=to)(h1:to<nodes):DInv nodes l to ((List.replicate nodes YP).set to.toNat 0) [(to,0)] 0 []:=by
 have hlen:to.toNat<(List.replicate nodes YP).length:=by simp_all
 have hself:=Zt (far:=List.replicate nodes YP) (i:=to) (x:=0) hlen
 have hrep:∀v:Int,0<=v->v<nodes->Yf (List.replicate nodes YP) v=YP:=by
  simp_all [Yf]
 have hoth:∀v:Int,0<=v->v<nodes->v≠to->Yf ((List.replicate nodes YP).set to.toNat 0) v=YP:=by
  grind [XN]
 refine⟨by simp,hself,?_,?_,?_,?_⟩
 ·intro v hv hv2
  by_cases e:v=to
  ·subst e;rw[hself];exact⟨R7 _,by decide⟩
  ·rw[hoth v hv hv2 e];exact⟨by decide,R7 _⟩
 ·simp_all
 ·intro a ha hlt
  obtain⟨_,⟨h3,h4⟩,_⟩:=hl a ha
  grind
 ·intro x hx
  obtain rfl:x=(to,0):=by simp_all
  exact⟨⟨h0,h1⟩,by simp_all,show(0:Int)<1073741824 by decide⟩
variable {q q':List (Int×Int)}
theorem YfV{nodes:Nat}{x:Int×Int}(h:DInv nodes l to far q 0 [])(hp:(x::q').Perm q)(hx:Yf far x.1<x.2):DInv nodes l to far q' 0 []:=by
 refine⟨h.len,h.to0,h.range,h.tight,?_,λy hy=>h.items y (hp.mem_iff.1 (TA _ hy))⟩
 intro a ha hlt
 rcases h.pend a ha hlt with h1|h1|⟨_,h1⟩
 all_goals grind
theorem YfU{nodes:Nat}{x:Int×Int}(h:DInv nodes l to far q 0 [])(hp:(x::q').Perm q):DInv nodes l to far q' x.1 l:=by
 refine⟨h.len,h.to0,h.range,h.tight,?_,λy hy=>h.items y (hp.mem_iff.1 (TA _ hy))⟩
 intro a ha hlt
 rcases h.pend a ha hlt with h1|h1|⟨_,h1⟩
 all_goals grind
theorem Yi8{nodes:Nat}(h:DInv nodes l to far q v []):DInv nodes l to far q 0 []:=by
 refine⟨h.len,h.to0,h.range,h.tight,λa ha hlt=>?_,h.items⟩
 rcases h.pend a ha hlt with h1|h1|⟨_,h1⟩
 all_goals simp_all
theorem YfT{nodes:Nat}(h:DInv nodes l to far [] 0 []):Dist nodes l to far:=by
 refine⟨h.len,h.to0,h.range,h.tight,λa ha hlt=>?_⟩
 rcases h.pend a ha hlt with h1|h1|⟨_,h1⟩
 all_goals simp_all
variable {a:Lk}
theorem YmU{nodes:Nat}(h:DInv nodes l to far q v (a::rest))(hn:¬(a.2.1=v/\Yf far v+a.2.2<Yf far a.1)):DInv nodes l to far q v rest:=by
 refine⟨h.len,h.to0,h.range,h.tight,?_,h.items⟩
 intro b hb hlt
 rcases h.pend b hb hlt with h1|h1|⟨h1,h2⟩
 all_goals grind
theorem Yi9{nodes:Nat}{d:Int}(hl:ArcsOk nodes l)(hv:0<=v/\v<nodes)(hd:Yf far v=d)(hal:a∈l)(h:DInv nodes l to far q v (a::rest))(h1:a.2.1=v)(h2:d+a.2.2<Yf far a.1)(hp:q'.Perm ((a.1,d+a.2.2)::q)):
 DInv nodes l to (far.set a.1.toNat (d+a.2.2)) q' v rest/\Yf (far.set a.1.toNat (d+a.2.2)) v=d/\ZL (far.set a.1.toNat (d+a.2.2)) q'+1<=ZL far q:=by
 obtain⟨⟨a1,a2⟩,_,⟨a5,a6⟩⟩:=hl a hal
 have hlen:=h.len
 have hlt:a.1.toNat<far.length:=by omega
 have hself:=Zt (far:=far) (i:=a.1) (x:=d+a.2.2) hlt
 obtain⟨r1,r2⟩:=h.range v hv.1 hv.2
 obtain⟨r3,r4⟩:=h.range a.1 a1 a2
 have hoth:∀u:Int,0<=u->u≠a.1->Yf (far.set a.1.toNat (d+a.2.2)) u=Yf far u:=by grind [XN]
 have hle:∀u:Int,0<=u->Yf (far.set a.1.toNat (d+a.2.2)) u<=Yf far u:=by
  grind
 have hto:Yf (far.set a.1.toNat (d+a.2.2)) to=0:=by
  by_cases e:to.toNat=a.1.toNat
  ·have:Yf far a.1=0:=by
    have h5:=h.to0
    grind [Yf]
   omega
  ·rw[XN (λh=>e h.symm)];exact h.to0
 refine⟨⟨by simp_all,hto,?_,?_,?_,?_⟩,by grind,?_⟩
 ·intro u hu hu2
  by_cases e:u=a.1
  ·grind
  ·rw[hoth u hu e];exact h.range u hu hu2
 ·intro u hu hu2 hut hul
  by_cases e:u=a.1
  ·grind
  ·rw[hoth u hu e]at hul⊢
   obtain⟨b,hb,hb1,hb2⟩:=h.tight u hu hu2 hut hul
   have:=hle b.2.1 (hl b hb).2.1.1
   grind
 ·intro b hb hbl
  obtain⟨⟨b1,b2⟩,⟨b3,b4⟩,_⟩:=hl b hb
  by_cases e:b.2.1=a.1
  ·grind
  ·rw[hoth _ b3 e]at hbl⊢
   rcases h.pend b hb hbl with h3|h3|⟨h3,h4⟩
   all_goals grind
 ·intro x hx
  rcases TL.1 (hp.mem_iff.1 hx)with rfl|hx
  ·grind
  ·obtain⟨h3,h4,h5⟩:=h.items x hx
   grind
 ·have h3:=Yuf (x:=d+a.2.2) hlt (by omega) (by grind [Yf])
  grind [List.Perm.length_eq,ZL,TM]
end Go.Rt
namespace Go.Proofs.YtaholidehobiiaaGreatDoor
theorem Ytn{u:Nat}(h:u<10000):(Lib.decDigits u).length<=4:=by
 rw[Lib.decDigits_length]
 by_cases h1:u<10
 ·rw[Lib.nDigits_small h1];omega
 ·rw[Lib.nDigits_big h1]
  by_cases h2:u/10<10
  ·rw[Lib.nDigits_small h2];omega
  ·all_goals grind [Go.Lib.nDigits_small,Go.Lib.nDigits_big]
open Go.ChangeShapes Go.WideShapes Go.ChangeAt Go.RowKit
section
variable {H:Type}{enc:TypeId×Value->H}{P:Program}
theorem Ya8(hl:laidOutB P=true){W W':World}{sp:Nat->Bool}:∀{ts:List TypeId}{vs:List Value}{ds:List (DataW H)}{ps:List MemPlace},(ts.all λt=>P.readableRec t&&decide (t<P.types.size))=true->
 DataW.TrodAll enc P W 0 (λ_=>true) true ts vs ds ps->(∀p∈ps,W.sameAt W' p)->(∀p∈ps,sp p.block=true)->DataW.TrodAll enc P W' 0 sp true ts vs ds ps
 |[],[],[],_,_,h,_,_=>h
 |[],[],_::_,_,_,h,_,_=>h.elim
 |[],_::_,_,_,_,h,_,_=>h.elim
 |_::_,[],_,_,_,h,_,_=>h.elim
 |_::_,_::_,[],_,_,h,_,_=>h.elim
 |t::ts,v::vs,d::ds,ps,hr,h,hs,hp=>by
  obtain⟨p,q,h1,h2,rfl⟩:=h
  simp only[NR,Tq,Tt]at hr
  exact⟨p,q,WideElems.Trod_stays hl hr.1.1 hr.1.2 h1 (λx hx=>hs x (by simp[hx])) (λx hx=>hp x (by simp[hx])),Ya8 hl hr.2 h2 (λx hx=>hs x (by simp[hx])) (λx hx=>hp x (by simp[hx])),rfl⟩
theorem YwZ{f:Func}{s:ChangeSpec}{apart fresh handsOn again:Bool}{W W':World}{args:Array Value}{ds gs:List (DataW H)}{before:List MemPlace}{tb:TypeId}(hl:laidOutB P=true)
 (hrd:(f.params.toList.all λt=>P.readableRec t&&decide (t<P.types.size))=true) (hv:s.vars=[]) (hrt:f.resultTypes=#[tb]) (htb:P.underlying tb=some .bool)
 (hW:DataW.Whole enc P f.params.toList s.vars apart W args.toList ds gs before) (hb:Below W.heap.size W W')
 (hres:(s.fn H (ds++gs)).results=[.lit (.bool true)]) (hargs:(s.fn H (ds++gs)).args=ds) (hvars:(s.fn H (ds++gs)).vars=[]):
 s.post enc P f apart fresh handsOn again W args (.bool true) W':=by
 have hlt:∀p∈before,p.block<W.heap.size:=λp hp=>hW.lt p hp
 have hW0:=hW
 obtain⟨p,q,hA,hV,rfl,hz,hn⟩:=hW
 rw[hv]at hV
 have hq:gs=[]/\q=[]:=by
  cases gs with
  |nil=>exact⟨rfl,hV⟩
  |cons _ _=>exact hV.elim
 obtain⟨rfl,rfl⟩:=hq
 have hkeep:∀sp:Nat->Bool,(∀x∈p++[],sp x.block=true)->DataW.TrodAll enc P W' 0 sp true f.params.toList args.toList ds p:=λsp hsp=>
  Ya8 hl hrd hA (λx hx=>hb.same (hlt x (by simpa using hx))) (λx hx=>hsp x (by simpa using hx))
 have hR:∀(b:Nat) (sp:Nat->Bool) (hd:Bool),DataW.TrodAll enc P W' b sp hd f.resultTypes.toList ((Value.bool true).resultList f.resultTypes.size) (s.fn H (ds++[])).results []:=by
  intro b sp hd
  rw[hres,hrt]
  exact trodAll_mk1 (shut_bool htb true)
 have hok:=ok_one (P:=P) (W':=W') (f:=f) (v:=.bool true) hrt rfl (okWide_bool_mk htb true)
 have hold:∀x∈p++[],(λb=>decide (b<W.heap.size)) x.block=true:=λx hx=>by simpa using hlt x hx
 refine⟨ds,[],p++[],[],p,[],hW0,hR _ _ _,by rw[hargs];exact hkeep _ hold,by rw[hvars,hv];rfl,World.keptBut_mono (λx hx=>⟨hx,Or.inr (by simpa using hx)⟩) (hb.frame (·∈p++[])),λ_=>?_⟩
 refine⟨hok,_,_,([]++p)++[],⟨[]++p,[],trodAll_append (hkeep _ (λ_ _=>rfl)) (hR _ _ _),(show DataW.TrodVars enc P W' (λ_=>true) s.vars [] [] by rw[hv];rfl),rfl,?_,?_⟩,?_⟩
 ·intro b off hp
  have hin:MemPlace.cell b off∈p++[]:=by simpa using hp
  rw[hb.frozen (hlt _ hin)]
  exact hz b off hin
 ·intro ha
  simpa using hn ha
 ·intro x hx _
  simpa using hx
end
end Go.Proofs.YtaholidehobiiaaGreatDoor
namespace Go.Rt
open Go.Nw
def Xh(far:List Int)(at_:Int)(best:Int)(a:Lk):Int:=if a.1=at_/\a.2.2+Yf far a.2.1=Yf far at_/\(best<0\/a.2.1<best)then a.2.1 else best
def Xt(l:List Lk)(far:List Int)(at_:Int):Int:=l.foldl (Xh far at_) (-1)
def Y6(l:List Lk)(far:List Int)(to:Int):Nat->Int->List Int
 |0,_=>[]
 |k+1,at_=>if at_=to then []else Xt l far at_::Y6 l far to k (Xt l far at_)
def wayF(l:List Lk)(far:List Int)(s to:Int):List Int:=if YP<=Yf far s then []else s::Y6 l far to (Yf far s).toNat s
theorem YdP(l:List Lk)(far:List Int)(to:Int):∀(k:Nat) (v:Int),(Y6 l far to k v).length<=k
 |0,_=>TJ _
 |k+1,v=>by
  have:=YdP l far to k (Xt l far v)
  unfold Y6
  grind
theorem Yih(l:List Lk)(far:List Int)(s to:Int):(wayF l far s to).length<=1073741824:=by
 unfold wayF
 split
 ·simp_all
 grind [YdP,YP]
theorem YoA(l:List Lk)(far:List Int)(at_:Int)(a:Lk):Xt (l++[a]) far at_=Xh far at_ (Xt l far at_) a:=by
 grind [Xt]
theorem Yti(l:List Lk)(far:List Int)(at_:Int)(b0:Int):l.foldl (Xh far at_) b0=b0\/∃a∈l,a.1=at_/\a.2.2+Yf far a.2.1=Yf far at_/\l.foldl (Xh far at_) b0=a.2.1:=by
 induction l generalizing b0 with
 |nil=>simp_all
 |cons a l ih=>
  rw[N6]
  rcases ih (Xh far at_ b0 a)with h|⟨c,hc,h⟩
  ·rw[h]
   unfold Xh
   grind
  grind
variable {l:List Lk}{far far':List Int}
theorem Yth{at_:Int}(hl:∀a∈l,0<=a.2.1)(b0:Int)(h:0<=b0\/∃a∈l,a.1=at_/\a.2.2+Yf far a.2.1=Yf far at_):0<=l.foldl (Xh far at_) b0:=by
 induction l generalizing b0 with
 |nil=>
  simp_all
 |cons a l ih=>
  refine ih (λc hc=>hl c (TA _ hc)) _ ?_
  unfold Xh
  grind
variable {to v:Int}
theorem YeQ{nodes:Nat}(_hl:ArcsOk nodes l)(h:Dist nodes l to far)(h0:0<=v)(h1:v<nodes)(hne:v≠to)(hlt:Yf far v<YP):∃a∈l,a.1=v/\a.2.2+Yf far a.2.1=Yf far v:=by
 obtain⟨a,ha,ha1,ha2⟩:=h.tight v h0 h1 hne hlt
 obtain⟨_,_,⟨h5,_⟩⟩:=_hl a ha
 have:=h.least a ha (by omega)
 grind
theorem Wh{nodes:Nat}(hl:ArcsOk nodes l)(h:Dist nodes l to far)(h0:0<=v)(h1:v<nodes)(hne:v≠to)(hlt:Yf far v<YP):
 (0<=Xt l far v/\Xt l far v<nodes)/\Yf far (Xt l far v)<Yf far v/\0<=Yf far (Xt l far v)/\∃a∈l,a.1=v/\a.2.1=Xt l far v/\a.2.2+Yf far (Xt l far v)=Yf far v:=by
 have hge:0<=Xt l far v:=Yth (λa ha=>(hl a ha).2.1.1) (-1) (.inr (YeQ hl h h0 h1 hne hlt))
 rcases Yti l far v (-1)with h2|⟨a,ha,h3,h4,h5⟩
 ·grind [Xt]
 ·obtain⟨_,⟨h6,h7⟩,⟨h8,_⟩⟩:=hl a ha
  have h9:Xt l far v=a.2.1:=h5
  have:=(h.range a.2.1 h6 h7).1
  grind
theorem Yhr{nodes:Nat}(hl:ArcsOk nodes l)(h:Dist nodes l to far)(h':Dist nodes l to far'):∀(k:Nat) (v:Int),0<=v->v<nodes->Yf far v<YP->(Yf far v).toNat<=k->Yf far' v<=Yf far v:=by
 intro k
 induction k with
 |zero=>
  intro v h0 h1 hlt hk
  by_cases hv:v=to
  ·rw[hv,h.to0,h'.to0];omega
  ·obtain⟨a,ha,ha1,ha2⟩:=YeQ hl h h0 h1 hv hlt
   obtain⟨_,⟨h3,h4⟩,⟨h5,_⟩⟩:=hl a ha
   have:=(h.range a.2.1 h3 h4).1
   omega
 |succ k ih=>
  intro v h0 h1 hlt hk
  by_cases hv:v=to
  ·rw[hv,h.to0,h'.to0];omega
  ·obtain⟨a,ha,ha1,ha2⟩:=YeQ hl h h0 h1 hv hlt
   obtain⟨_,⟨h3,h4⟩,⟨h5,_⟩⟩:=hl a ha
   have h7:=ih a.2.1 h3 h4 (by omega) (by omega)
   have h8:=h'.least a ha (by omega)
   grind
theorem Yjc{nodes:Nat}(hl:ArcsOk nodes l)(h:Dist nodes l to far)(h':Dist nodes l to far'):far=far':=by
 have key:∀v:Int,0<=v->v<nodes->Yf far v=Yf far' v:=by
  intro v h0 h1
  have r1:=h.range v h0 h1
  have r2:=h'.range v h0 h1
  rcases Me (Yf far v) YP with h2|h2
  ·have h3:=Yhr hl h h' _ v h0 h1 h2 (TJ _)
   have h4:=Yhr hl h' h _ v h0 h1 (by omega) (TJ _)
   omega
  ·rcases Me (Yf far' v) YP with h3|h3
   ·have h4:=Yhr hl h' h _ v h0 h1 h3 (TJ _)
    omega
   ·omega
 apply Sv
 all_goals grind [X6,Go.Rt.Dist.len,RU]
open Classical in
noncomputable def Ze(nodes:Nat)(l:List Lk)(to:Int):List Int:=if h:∃far,Dist nodes l to far then h.choose else []
theorem Wm{nodes:Nat}(hl:ArcsOk nodes l)(h:Dist nodes l to far):Ze nodes l to=far:=by
 unfold Ze
 rw[dif_pos ⟨far,h⟩]
 exact Yjc hl (Exists.choose_spec (⟨far,h⟩:∃far,Dist nodes l to far)) h
structure Ed where
 f:Int
 t:Int
 c:Int
 r:Int
def VS(f t c:Int):List Ed:=[⟨f,t,c,1⟩,⟨t,f,-c,0⟩]
def Z6(closed:Int->Bool)(k:Nat):List Ed:=(List.range k).flatMap λv:Nat=>if closed (v:Int)=true then []else VS (2*(v:Int)) (2*(v:Int)+1) 0
def UD(l:List Lk):List Ed:=l.flatMap λa=>VS (2*a.1+1) (2*a.2.1) a.2.2
def W4(nodes:Nat)(l:List Lk)(closed:Int->Bool):List Ed:=Z6 closed nodes++UD l
abbrev U8:=List Int×List Int×Bool
def XI(i:Nat)(e:Ed)(st:U8):U8:=
 if 0<e.r/\Yf st.1 e.f<YP/\Yf st.1 e.f+e.c<Yf st.1 e.t then(st.1.set e.t.toNat (Yf st.1 e.f+e.c),st.2.1.set e.t.toNat (i:Int),true)else st
def YU:Nat->List Ed->U8->U8
 |_,[],st=>st
 |i,e::es,st=>YU (i+1) es (XI i e st)
def OW:Nat->List Ed->List Int->List Int->Option (List Int×List Int)
 |0,_,_,_=>none
 |k+1,es,far,by_=>if(YU 0 es (far,by_,false)).2.2=true then OW k es (YU 0 es (far,by_,false)).1 (YU 0 es (far,by_,false)).2.1 else some ((YU 0 es (far,by_,false)).1,(YU 0 es (far,by_,false)).2.1)
def twin(i:Nat):Nat:=if i%2=0 then i+1 else i-1
def VR(es:List Ed)(i:Nat)(d:Int):List Ed:=match es[i]? with|some e=>es.set i {e with r:=e.r+d}|none=>es
def YbS:Nat->List Ed->List Int->Int->Int->Option (List Ed)
 |0,_,_,_,_=>none
 |k+1,es,by_,s,at_=>
  if at_=s then some es else
   if Yf by_ at_<0 then none else
    match es[(Yf by_ at_).toNat]? with
    |none=>none
    |some e=>if es.length<=twin (Yf by_ at_).toNat then none else YbS k (VR (VR es (Yf by_ at_).toNat (-1)) (twin (Yf by_ at_).toNat) 1) by_ s e.f
def Zx(sides:Nat)(s:Int):List Int:=(List.replicate sides YP).set s.toNat 0
def Ycj(fuel sides:Nat)(es:List Ed)(s t:Int):Option (Int×Bool×List Ed):=
 match OW fuel es (Zx sides s) (List.replicate sides (-1))with
 |none=>none
 |some (far,by_)=>if YP<=Yf far t then some (0,false,es)else
  match YbS fuel es by_ s t with
  |none=>none
  |some es'=>some (Yf far t,true,es')
def Y5(a b to:Int)(closed:Int->Bool)(v:Int):Bool:=decide (v=a\/v=b\/v=to)||closed v
def Wi(fuel nodes:Nat)(l:List Lk)(a b to:Int)(closed:Int->Bool):Option (Int×Bool×List Ed):=
 match Ycj fuel (2*nodes) (W4 nodes l (Y5 a b to closed)) (2*a+1) (2*to)with
 |none=>none
 |some (x,ok,es)=>
  match Ycj fuel (2*nodes) es (2*b+1) (2*to)with
  |none=>none
  |some (y,is,es2)=>some (x+y,ok&&is,es2)
theorem YaW:∀(l:List Ed) (i:Nat) (e:Ed) (st:U8),YU i (l++[e]) st=XI (i+l.length) e (YU i l st)
 |[],_,_,_=>rfl
 |x::l,i,e,st=>by
  show YU (i+1) (l++[e]) (XI i x st)=_
  rw[YaW l (i+1) e,TM,show i+1+l.length=i+(l.length+1) by omega];rfl
def Ymw(sides:Nat)(es:List Ed):Prop:=∀e∈es,(0<=e.f/\e.f<sides)/\(0<=e.t/\e.t<sides)/\(-1000000<=e.c/\e.c<=1000000)/\(-1000000000<=e.r/\e.r<=1000000000)
structure RelOk(sides:Nat)(low:Int)(st:U8):Prop where
 l1:st.1.length=sides
 l2:st.2.1.length=sides
 low:∀v:Int,0<=v->v<sides->low<=Yf st.1 v/\Yf st.1 v<=YP
variable {sides:Nat}{es:List Ed}
theorem Yl4{low:Int}{st:U8}{e:Ed}{i:Nat}(hes:Ymw sides es)(he:e∈es)(h:RelOk sides low st):RelOk sides (low-1000000) (XI i e st):=by
 obtain⟨⟨e1,e2⟩,⟨e3,e4⟩,⟨e5,e6⟩,_⟩:=hes e he
 unfold XI
 split
 ·have hlt:e.t.toNat<st.1.length:=by rw[h.l1];omega
  refine⟨by grind [Go.Rt.RelOk.l1],by grind [Go.Rt.RelOk.l2],λv h0 h1=>?_⟩
  have h2:=h.low v h0 h1
  have h3:=h.low e.f e1 e2
  all_goals grind [Zt,XN]
 ·exact⟨h.l1,h.l2,λv h0 h1=>by have:=h.low v h0 h1;omega⟩
theorem Yaa{sides:Nat}{es:List Ed}(hes:Ymw sides es):∀(l:List Ed) (i:Nat) (st:U8) (low:Int),(∀e∈l,e∈es)->RelOk sides low st->RelOk sides (low-1000000*l.length) (YU i l st)
 |[],_,_,_,_,h=>by grind [YU]
 |e::l,i,st,low,hl,h=>by
  have h1:=Yaa hes l (i+1) (XI i e st) (low-1000000) (λx hx=>hl x (TA _ hx)) (Yl4 hes (hl e Tz) h)
  rw[TM]
  have e1:low-1000000*((l.length+1:Nat):Int)=low-1000000-1000000*(l.length:Int):=by omega
  rw[e1];exact h1
def EdsIn(sides:Nat)(b:Int)(es:List Ed):Prop:=∀e∈es,(0<=e.f/\e.f<sides)/\(0<=e.t/\e.t<sides)/\(-1000000<=e.c/\e.c<=1000000)/\(-b<=e.r/\e.r<=b)
variable {b:Int}
theorem EdsIn.ok(h:EdsIn sides b es)(hb:b<=1000000000):Ymw sides es:=λe he=>by
 obtain⟨h1,h2,h3,h4⟩:=h e he
 omega
theorem EdsIn.mono{b':Int}(h:EdsIn sides b es)(hb:b<=b'):EdsIn sides b' es:=λe he=>by
 obtain⟨h1,h2,h3,h4⟩:=h e he
 omega
theorem YjU(h:EdsIn sides b es)(i:Nat){d:Int}(hd: -1<=d/\d<=1):EdsIn sides (b+1) (VR es i d):=by
 unfold VR
 cases hi:es[i]? with
 |none=>exact h.mono (by omega)
 |some e=>
  intro x hx
  rcases ND hx with hx|rfl
  ·obtain⟨h1,h2,h3,h4⟩:=h x hx
   omega
  ·obtain⟨h1,h2,h3,h4⟩:=h e (Tc hi)
   grind
theorem Yug(i:Nat):twin i≠i:=by grind [twin]
theorem YpO{s:Int}(hs:0<=s/\s<sides)(b:List Int)(hb:b.length=sides)(ag:Bool):RelOk sides (-2000000000) (Zx sides s,b,ag):=by
 refine⟨by grind [Zx],hb,λv h0 h1=>?_⟩
 have hn:YP=1073741824:=rfl
 unfold Zx
 by_cases hv:v=s
 ·grind [Zt]
 ·rw[XN (by omega)]
  simp_all [Yf]
def sumW(w:Int->Nat)(far:List Int):Nat:=(far.map w).sum
theorem YeN{w:Int->Nat}{x:Int}:∀{far:List Int}{i:Nat},i<far.length->sumW w (far.set i x)+w (far.getD i 0)=sumW w far+w x
 |[],_,h=>by simp at h
 |a::l,0,_=>by
  grind [sumW]
 |a::l,i+1,h=>by
  have:=YeN (w:=w) (x:=x) (far:=l) (i:=i) (by simp_all)
  grind [sumW]
theorem Yie{w:Int->Nat}{K:Nat}(h:∀x,w x<=K):∀far:List Int,sumW w far<=far.length*K
 |[]=>by simp[sumW]
 |a::l=>by
  have h1:=Yie h l
  have e:(a::l).length*K=l.length*K+K:=by grind
  grind [sumW]
def fin1(x:Int):Nat:=if x<YP then 1 else 0
def cnt(far:List Int):Nat:=sumW fin1 far
theorem Yld(far:List Int):cnt far<=far.length:=by
 have:=Yie (w:=fin1) (K:=1) (λx=>by grind [fin1]) far
 grind [cnt]
theorem YaO:YP=1073741824:=rfl
def Ed8(sides:Nat)(es:List Ed):Prop:=∀e∈es,(0<=e.f/\e.f<sides)/\(0<=e.t/\e.t<sides)/\(-8<=e.c/\e.c<=8)
def PotE(es:List Ed)(π:Int->Int):Prop:=∀e∈es,0<e.r->π e.t<=π e.f+e.c
def Imp(e:Ed)(far:List Int):Prop:=0<e.r/\Yf far e.f<YP/\Yf far e.f+e.c<Yf far e.t
structure RelG(sides:Nat)(lo:Int->Int)(st:U8):Prop where
 l1:st.1.length=sides
 l2:st.2.1.length=sides
 lo_:∀v:Int,0<=v->v<sides->lo v<=Yf st.1 v
 hi:∀v:Int,0<=v->v<sides->Yf st.1 v<YP->Yf st.1 v<=8*(cnt st.1:Int)
 top:∀v:Int,0<=v->v<sides->Yf st.1 v<=YP
def Ydo(sides:Nat)(L x:Int):Nat:=(min x (8*(sides:Int)+1)-L).toNat
def mes(sides:Nat)(L:Int)(far:List Int):Nat:=sumW (Ydo sides L) far
variable {sides n:Nat}{es:List Ed}{lo:Int->Int}{L s v x i w:Int}
theorem YgG{st:U8}{e:Ed}(i:Nat)(hs:sides<=1000)(hes:Ed8 sides es)(hp:PotE es lo)(hL:∀v:Int,0<=v->v<sides->L<=lo v)(he:e∈es)(h:RelG sides lo st):
 RelG sides lo (XI i e st)/\((XI i e st=st/\¬Imp e st.1)\/((XI i e st).2.2=true/\mes sides L (XI i e st).1+1<=mes sides L st.1)):=by
 obtain⟨⟨e1,e2⟩,⟨e3,e4⟩,⟨e5,e6⟩⟩:=hes e he
 have hn:=YaO
 unfold XI
 split
 ·rename_i hc
  obtain⟨c1,c2,c3⟩:=hc
  obtain⟨far,by_,ag⟩:=st
  obtain⟨l1,l2,hlo,hhi,htop⟩:=h
  simp only at*
  have hlt:e.t.toNat<far.length:=by omega
  have hself:=Zt (far:=far) (i:=e.t) (x:=Yf far e.f+e.c) hlt
  have hoth:∀v:Int,0<=v->v≠e.t->Yf (far.set e.t.toNat (Yf far e.f+e.c)) v=Yf far v:=by grind [XN]
  have hf1:=hlo e.f e1 e2
  have hf2:=hhi e.f e1 e2 c2
  have ht1:=htop e.t e3 e4
  have hpe:=hp e he c1
  have hLt:=hL e.t e3 e4
  have hcs:=YeN (w:=fin1) (x:=Yf far e.f+e.c) hlt
  have hms:=YeN (w:=Ydo sides L) (x:=Yf far e.f+e.c) hlt
  have hgd:far.getD e.t.toNat 0=Yf far e.t:=rfl
  rw[hgd]at hcs hms
  have hcl:=Yld far
  have hcl2:=Yld (far.set e.t.toNat (Yf far e.f+e.c))
  rw[Rf]at hcl2
  have hx:fin1 (Yf far e.f+e.c)=1:=by unfold fin1;grind
  rw[hx]at hcs
  have hcs':cnt (far.set e.t.toNat (Yf far e.f+e.c))+fin1 (Yf far e.t)=cnt far+1:=hcs
  have hnew:Yf far e.f+e.c<=8*(cnt (far.set e.t.toNat (Yf far e.f+e.c)):Int)/\cnt far<=cnt (far.set e.t.toNat (Yf far e.f+e.c)):=by
   by_cases hfin:Yf far e.t<YP
   ·have:=hhi e.t e3 e4 hfin
    have h1:fin1 (Yf far e.t)=1:=by simp_all [fin1]
    omega
   ·have h1:fin1 (Yf far e.t)=0:=by simp_all [fin1]
    omega
  have hdown:Ydo sides L (Yf far e.f+e.c)+1<=Ydo sides L (Yf far e.t):=by
   unfold Ydo
   omega
  refine⟨⟨by simp_all,by simp_all,?_,?_,?_⟩,.inr ⟨trivial,by grind [mes]⟩⟩
  all_goals grind
 ·rename_i hc
  exact⟨h,.inl ⟨rfl,λhi=>hc hi⟩⟩
theorem YaV{sides:Nat}{es:List Ed}{lo:Int->Int}{L:Int}(hs:sides<=1000)(hes:Ed8 sides es)(hp:PotE es lo)(hL:∀v:Int,0<=v->v<sides->L<=lo v):∀(l:List Ed) (i:Nat) (st:U8),(∀e∈l,e∈es)->RelG sides lo st->
 RelG sides lo (YU i l st)/\mes sides L (YU i l st).1<=mes sides L st.1/\((YU i l st).2.2=false->YU i l st=st/\∀e∈l,¬Imp e st.1)/\(st.2.2=false->(YU i l st).2.2=true->mes sides L (YU i l st).1+1<=mes sides L st.1)
 |[],_,st,_,h=>⟨h,TJ _,λ_=>⟨rfl,λe he=>by cases he⟩,λh1 h2=>by grind [YU]⟩
 |e::l,i,st,hl,h=>by
  obtain⟨h1,h2⟩:=YgG i hs hes hp hL (hl e Tz) h
  obtain⟨g1,g2,g3,g4⟩:=YaV hs hes hp hL l (i+1) (XI i e st) (λx hx=>hl x (TA _ hx)) h1
  refine⟨g1,?_,?_,?_⟩
  ·grind [YU]
  ·intro hf
   have hf':(YU (i+1) l (XI i e st)).2.2=false:=hf
   rcases h2 with⟨h2,h3⟩|⟨h2,_⟩
   ·all_goals grind [YU]
   simp_all
  grind [YU]
theorem YbD{sides:Nat}{es:List Ed}{lo:Int->Int}{L:Int}(hs:sides<=1000)(hes:Ed8 sides es)(hp:PotE es lo)(hL:∀v:Int,0<=v->v<sides->L<=lo v)
 (I:List Int->List Int->Prop) (hI:∀i e st,es[i]? =some e->RelG sides lo st->I st.1 st.2.1->I (XI i e st).1 (XI i e st).2.1):∀(k:Nat) (far by_:List Int),RelG sides lo (far,by_,false)->I far by_->mes sides L far<k->
 ∃r,OW k es far by_=some r/\RelG sides lo (r.1,r.2,false)/\I r.1 r.2/\∀e∈es,¬Imp e r.1
 |0,_,_,_,_,h=>by omega
 |k+1,far,by_,hG,hi,hk=>by
  have hpI:∀(l:List Ed) (i:Nat) (st:U8),(∀j e,l[j]? =some e->es[i+j]? =some e)->RelG sides lo st->I st.1 st.2.1->I (YU i l st).1 (YU i l st).2.1:=by
   intro l
   induction l with
   |nil=>exactλ_ _ _ _ h=>h
   |cons e l ih=>
    intro i st hj hG hi
    have h0:es[i]? =some e:=hj 0 e rfl
    refine ih (i+1) _ (λj x hx=>?_) (YgG i hs hes hp hL (Tc h0) hG).1 (hI i e st h0 hG hi)
    have:=hj (j+1) x hx
    grind
  obtain⟨g1,g2,g3,g4⟩:=YaV hs hes hp hL es 0 (far,by_,false) (λ_ h=>h) hG
  have g5:=hpI es 0 (far,by_,false) (λj e h=>by simp_all) hG hi
  unfold OW
  obtain⟨⟨f2,b2,ag⟩,hst⟩:∃st,YU 0 es (far,by_,false)=st:=⟨_,rfl⟩
  rw[hst]at g1 g2 g3 g4 g5⊢
  simp only at g1 g2 g3 g4 g5⊢
  cases ag with
  |true=>
   have:=g4 trivial rfl
   exact YbD hs hes hp hL I hI k f2 b2 ⟨g1.l1,g1.l2,g1.lo_,g1.hi,g1.top⟩ g5 (by omega)
  |false=>
   simp_all
variable {far by_:List Int}
theorem YwC(hl:far.length=sides)(hL:L<=0):mes sides L far<=sides*(8*sides+1+L.natAbs):=by
 have:=Yie (w:=Ydo sides L) (K:=8*sides+1+L.natAbs) (λx=>by grind [Ydo]) far
 rw[hl]at this
 exact this
inductive Chain (es:List Ed) (by_:List Int) (s:Int) (T:Ed->Prop):Int->Nat->Prop
 |here:Chain es by_ s T s 0
 |step {v:Int}{n:Nat}{e:Ed}(hne:v≠s) (h0:0<=Yf by_ v) (hi:es[(Yf by_ v).toNat]? =some e) (ht:e.t=v) (hr:0<e.r) (hT:T e) (h:Chain es by_ s T e.f n):Chain es by_ s T v (n+1)
theorem Chain.imp{T T':Ed->Prop}(hT:∀e∈es,0<e.r->T e->T' e)(h:Chain es by_ s T v n):Chain es by_ s T' v n:=by
 induction h with
 |here=>exact .here
 |step hne h0 hi ht hr hTe _ ih=>exact .step hne h0 hi ht hr (hT _ (Tc hi) hr hTe) ih
theorem Chain.uniq{T:Ed->Prop}{m:Nat}(h:Chain es by_ s T v n)(h':Chain es by_ s T v m):n=m:=by
 induction h generalizing m with
 |here=>
  cases h' with
  |here=>rfl
  |step hne=>omega
 |step hne h0 hi ht hr hT _ ih=>
  cases h' with
  |here=>omega
  |step hne' h0' hi' ht' hr' hT' h'=>
   grind
theorem Chain.nodes{T:Ed->Prop}(h:Chain es by_ s T v n):∃L:List Int,L.length=n/\L.Nodup/\∀x∈L,(∃e∈es,e.t=x)/\∃m,m<=n/\Chain es by_ s T x m:=by
 induction h with
 |here=>simp_all
 |@step v n e hne h0 hi ht hr hT h ih=>
  obtain⟨L,h1,h2,h3⟩:=ih
  refine⟨v::L,by simp[h1],S9.2 ⟨λhv=>?_,h2⟩,λx hx=>?_⟩
  ·obtain⟨_,m,hm,hc⟩:=h3 v hv
   have:=Chain.uniq hc (.step hne h0 hi ht hr hT h)
   omega
  ·rcases TL.1 hx with rfl|hx
   ·exact⟨⟨e,Tc hi,ht⟩,n+1,TJ _,.step hne h0 hi ht hr hT h⟩
   grind
theorem nodup_len:∀(k:Nat) (L:List Int),L.Nodup->(∀x∈L,0<=x/\x<k)->L.length<=k
 |0,L,_,h=>by
  cases L with
  |nil=>simp_all
  |cons a l=>grind [Tz]
 |k+1,L,hn,h=>by
  have h1:=nodup_len k (L.erase (k:Int)) (hn.erase _) λx hx=>by
   grind
  grind
theorem Chain.len(hes:Ed8 sides es){T:Ed->Prop}(h:Chain es by_ s T v n):n<=sides:=by
 obtain⟨L,h1,h2,h3⟩:=h.nodes
 rw[<-h1]
 refine nodup_len sides L h2 λx hx=>?_
 obtain⟨⟨e,he,rfl⟩,_⟩:=h3 x hx
 exact(hes e he).2.1
def Tle(far:List Int)(e:Ed):Prop:=Yf far e.f<YP/\Yf far e.f+e.c<=Yf far e.t
structure RelC(sides:Nat)(es:List Ed)(s:Int)(far by_:List Int):Prop where
 s0:Yf far s=0
 ch:∀v:Int,0<=v->v<sides->Yf far v<YP->∃n,Chain es by_ s (Tle far) v n
theorem Yk9(hes:Ed8 sides es)(hp:PotE es lo)(hv0:0<=v)(_hlt:v.toNat<far.length)(_hx:x<=Yf far v)(h:Chain es by_ s (Tle far) w n)(hd:Yf far w-lo w<Yf far v-lo v):Chain es (by_.set v.toNat i) s (Tle (far.set v.toNat x)) w n:=by
 induction h with
 |here=>exact .here
 |@step w n e hne h0 hi ht hr hT h ih=>
  obtain⟨⟨e1,e2⟩,⟨e3,e4⟩,_⟩:=hes e (Tc hi)
  have hwv:w≠v:=by grind
  have hpe:=hp e (Tc hi) hr
  obtain⟨t1,t2⟩:=hT
  have hby:Yf (by_.set v.toNat i) e.t=Yf by_ e.t:=XN (by omega)
  have hft:Yf (far.set v.toNat x) e.t=Yf far e.t:=XN (by omega)
  have hff:Yf (far.set v.toNat x) e.f<=Yf far e.f:=by
   by_cases hfv:e.f=v
   ·grind
   ·rw[XN (by omega)];omega
  subst ht
  exact .step hne (by omega) (by simp_all) rfl hr ⟨by omega,by omega⟩ (ih (by omega))
theorem YoE(hes:Ed8 sides es)(hv0:0<=v)(hlt:v.toNat<far.length)(hx:x<=Yf far v)(hnew:∃k,Chain es (by_.set v.toNat i) s (Tle (far.set v.toNat x)) v k)(h:Chain es by_ s (Tle far) w n):∃k,Chain es (by_.set v.toNat i) s (Tle (far.set v.toNat x)) w k:=by
 induction h with
 |here=>exact⟨0,.here⟩
 |@step w n e hne h0 hi ht hr hT h ih=>
  by_cases hwv:w=v
  ·simp_all
  obtain⟨⟨e1,e2⟩,⟨e3,e4⟩,_⟩:=hes e (Tc hi)
  obtain⟨k,hk⟩:=ih
  obtain⟨t1,t2⟩:=hT
  have hby:Yf (by_.set v.toNat i) e.t=Yf by_ e.t:=XN (by omega)
  have hft:Yf (far.set v.toNat x) e.t=Yf far e.t:=XN (by omega)
  have hff:Yf (far.set v.toNat x) e.f<=Yf far e.f:=by
   by_cases hfv:e.f=v
   ·grind [Zt]
   ·rw[XN (by omega)];omega
  subst ht
  exact⟨k+1,.step hne (by omega) (by simp_all) rfl hr ⟨by omega,by omega⟩ hk⟩
theorem YgF(hes:Ed8 sides es)(hp:PotE es lo)(hs:0<=s/\s<sides)(hlo:lo s=0)(i:Nat)(e:Ed)(st:U8)(hi:es[i]? =some e)(hG:RelG sides lo st)(h:RelC sides es s st.1 st.2.1):RelC sides es s (XI i e st).1 (XI i e st).2.1:=by
 have he:=Tc hi
 obtain⟨⟨e1,e2⟩,⟨e3,e4⟩,⟨e5,e6⟩⟩:=hes e he
 unfold XI
 split
 ·rename_i hc
  obtain⟨c1,c2,c3⟩:=hc
  obtain⟨far,by_,ag⟩:=st
  simp only at*
  have hl1:far.length=sides:=hG.l1
  have hl2:by_.length=sides:=hG.l2
  have hlt:e.t.toNat<far.length:=by omega
  have hlt2:e.t.toNat<by_.length:=by omega
  have hpe:=hp e he c1
  have hff:=hG.lo_ e.f e1 e2
  have hts:e.t≠s:=by grind [Go.Rt.RelC.s0]
  have hself:=Zt (far:=far) (i:=e.t) (x:=Yf far e.f+e.c) hlt
  have hef:e.f≠e.t:=by grind
  have hfo:Yf (far.set e.t.toNat (Yf far e.f+e.c)) e.f=Yf far e.f:=XN (by omega)
  obtain⟨n,hn⟩:=h.ch e.f e1 e2 c2
  have hk:=Yk9 (i:=(i:Int)) hes hp e3 hlt (x:=Yf far e.f+e.c) (by omega) hn (by omega)
  have hbs:Yf (by_.set e.t.toNat (i:Int)) e.t=i:=Zt hlt2
  have hnew:Chain es (by_.set e.t.toNat (i:Int)) s (Tle (far.set e.t.toNat (Yf far e.f+e.c))) e.t (n+1):=
   .step hts (by omega) (by simp_all) rfl c1 ⟨by omega,by omega⟩ hk
  refine⟨?_,λv h0 h1 h2=>?_⟩
  ·rw[XN (by omega)];exact h.s0
  ·by_cases hv:v=e.t
   ·grind
   ·rw[XN (by omega)]at h2
    obtain⟨m,hm⟩:=h.ch v h0 h1 h2
    exact YoE hes e3 hlt (by omega) ⟨n+1,hnew⟩ hm
 omega
end Go.Rt
