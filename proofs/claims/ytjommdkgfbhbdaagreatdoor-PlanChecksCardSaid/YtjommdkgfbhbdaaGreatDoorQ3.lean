/- Lemmas. -/
import Derived.Shelf.Strings.Builder1
import Derived.Shelf.Small.Bits
import Derived.Shelf.Small.Wraps
import Derived.Shelf.Strings.BuilderF
import Derived.Shelf.Strings.BuilderK
import Derived.Shelf.Strconv.Itoa0
import Derived.Shelf.Strconv.Itoa1
import Derived.Shelf.LaysM
import Derived.Shelf.Strconv.Itoa2
import Derived.Shelf.Strconv.Itoa3
import Derived.Shelf.Bits.Mul64
import Derived.Shelf.Strings.BuilderCap
import Derived.Shelf.Slices.Turned
import Derived.Shelf.Slices.Equal
import Derived.Ground.Names2Prog
import Derived.Shelf.Slices.Clone
import Derived.Shelf.Slices.SearchI
import Derived.Shelf.Slices.Empties2
import Derived.Test.YtjommdkgfbhbdaaGreatDoorProg
import Derived.Lib.Split
import Derived.Lib.ItoaNum
import Derived.Lib.AtoiAll
import Derived.Lib.AtoiTie
import Derived.ProofKit
import Derived.Below
import Derived.ChangeSame
import Derived.Carry
import Derived.Shelf.SlGeneric
import Derived.Shelf.SlSortCmp.WholeK
import Derived.Ground.SlsfProg
import Derived.Test.YtjommdkgfbhbdaaGreatDoorQ1
set_option maxRecDepth 100000
set_option maxHeartbeats 8000000
set_option linter.all false
namespace Go.Nw
abbrev Lk:=Int×Int×Int
structure Net where
 nodes:Int
 power:List (List Int)
 noise:Int
 thr:Int
 links:List Lk
 margin:List Int
def cmpI(x y:Int):Int:=if x<y then -1 else if y<x then 1 else 0
def cmpL(a b:Lk):Int:=if cmpI a.1 b.1=0 then cmpI a.2.1 b.2.1 else cmpI a.1 b.1
def ZL(p:Int):Bool:=decide (p<0\/68719476736<p)
def wide(k:Int)(r:List Int):Bool:=decide ((r.length:Int)≠k)
def J3(n:Net):Int:=
 if(n.power.length:Int)≠n.nodes then 1 else if n.power.any (wide n.nodes)=true then 1 else if n.power.any (λr=>r.any ZL)=true then 2 else 0
def lnk(n:Net)(i:Nat):Lk:=n.links.getD i (0,0,0)
def mar(n:Net)(i:Nat):Int:=n.margin.getD i 0
def powr(n:Net)(a b:Int):Int:=(n.power.getD a.toNat []).getD b.toNat 0
def WK(n:Net)(i:Nat):Int:=
 if¬(0<=(lnk n i).1/\(lnk n i).1<n.nodes)\/¬(0<=(lnk n i).2.1/\(lnk n i).2.1<n.nodes)\/(lnk n i).1=(lnk n i).2.1\/(lnk n i).2.2<0\/7<(lnk n i).2.2 then 2
 else if 0<i/\0<=cmpL (lnk n (i-1)) (lnk n i)then 5
 else if mar n i<0\/powr n (lnk n i).1 (lnk n i).2.1<mar n i then 2 else 0
def JX(n:Net):Nat->Nat->Int
 |0,_=>0
 |r+1,i=>if WK n i=0 then JX n r (i+1)else WK n i
def Yl(n:Net):Int:=
 if n.nodes<2\/32<n.nodes then 2 else if J3 n≠0 then J3 n
 else if n.noise<0\/68719476736<n.noise\/n.thr<1000\/100000<n.thr then 2
 else if 128<n.links.length then 8 else if n.margin.length≠n.links.length then 11 else JX n n.links.length 0
def Ym{α:Type}(p:α->Bool):List α->Int->Int
 |[],_=> -1
 |a::l,k=>if p a then k else Ym p l (k+1)
theorem Vz{α:Type}(p:α->Bool):∀(l:List α) (k:Int),0<=k->(0<=Ym p l k↔l.any p=true)
 |[],k,_=>by simp[Ym]
 |a::l,k,h=>by
  unfold Ym
  by_cases hp:p a=true
  ·simp_all
  ·rw[Tj hp,Vz p l (k+1) (by omega)]
   simp[hp]
theorem Z9{α:Type}(p:α->Bool)(l:List α){k:Nat}{a:α}(h:l[k]? =some a):Ym p (l.drop k) k=if p a then(k:Int)else Ym p (l.drop (k+1)) (k+1):=by
 grind [Rm,Ym]
variable {i:Nat}
theorem Yim(n:Net)(h:i<n.links.length)(h0:WK n i=0):JX n (n.links.length-i) i=JX n (n.links.length-(i+1)) (i+1):=by
 rw[show n.links.length-i=n.links.length-(i+1)+1 by omega,JX,Tn h0]
theorem Yin(n:Net)(h:i<n.links.length)(h0:WK n i≠0):JX n (n.links.length-i) i=WK n i:=by
 rw[show n.links.length-i=n.links.length-(i+1)+1 by omega,JX,Tj h0]
theorem Yd9{n:Net}(h:J3 n=0):(n.power.length:Int)=n.nodes/\(∀r∈n.power,(r.length:Int)=n.nodes)/\∀r∈n.power,∀p∈r,0<=p/\p<=68719476736:=by
 unfold J3 at h
 by_cases h1:(n.power.length:Int)≠n.nodes
 ·omega
 by_cases h2:n.power.any (wide n.nodes)=true
 ·simp_all
 by_cases h3:n.power.any (λr=>r.any ZL)=true
 ·simp_all
 refine⟨by omega,λr hr=>?_,λr hr p hp=>?_⟩
 ·by_cases hw:(r.length:Int)=n.nodes
  ·exact hw
  ·exact absurd (Rj.2 ⟨r,hr,by simp[wide,hw]⟩) h2
 ·by_cases ho:ZL p=true
  ·grind
  grind [ZL]
variable {x y a b:Int}
theorem Yo4:cmpI x y<0↔x<y:=by grind [cmpI]
theorem cmpI_zero:cmpI x y=0↔x=y:=by grind [cmpI]
theorem VX{a b:Lk}:cmpL a b<0↔a.1<b.1\/(a.1=b.1/\a.2.1<b.2.1):=by
 grind [Yo4,cmpI_zero,cmpL]
theorem UL{a b:Lk}:cmpL a b=0↔a.1=b.1/\a.2.1=b.2.1:=by
 grind [cmpI_zero,cmpL]
structure OkL(n:Net)(i:Nat):Prop where
 f0:0<=(lnk n i).1
 f1:(lnk n i).1<n.nodes
 t0:0<=(lnk n i).2.1
 t1:(lnk n i).2.1<n.nodes
 ne:(lnk n i).1≠(lnk n i).2.1
 l0:0<=(lnk n i).2.2
 l1:(lnk n i).2.2<=7
 ord:0<i->cmpL (lnk n (i-1)) (lnk n i)<0
 m0:0<=mar n i
 m1:mar n i<=powr n (lnk n i).1 (lnk n i).2.1
variable {n:Net}{i:Nat}
theorem YrQ(h:WK n i=0):OkL n i:=by
 unfold WK at h
 by_cases h1:¬(0<=(lnk n i).1/\(lnk n i).1<n.nodes)\/¬(0<=(lnk n i).2.1/\(lnk n i).2.1<n.nodes)\/(lnk n i).1=(lnk n i).2.1\/(lnk n i).2.2<0\/7<(lnk n i).2.2
 ·omega
 by_cases h2:0<i/\0<=cmpL (lnk n (i-1)) (lnk n i)
 ·omega
 by_cases h3:mar n i<0\/powr n (lnk n i).1 (lnk n i).2.1<mar n i
 ·omega
 constructor<;>omega
structure Ok(n:Net):Prop where
 n0:2<=n.nodes
 n1:n.nodes<=32
 p0:(n.power.length:Int)=n.nodes
 p1:∀r∈n.power,(r.length:Int)=n.nodes
 p2:∀r∈n.power,∀p∈r,0<=p/\p<=68719476736
 z0:0<=n.noise
 z1:n.noise<=68719476736
 t0:1000<=n.thr
 t1:n.thr<=100000
 k0:n.links.length<=128
 k1:n.margin.length=n.links.length
 lk:∀i,i<n.links.length->OkL n i
theorem Yio{n:Net}:∀(r i:Nat),JX n r i=0->∀j,i<=j->j<i+r->OkL n j
 |0,_,_,j,h1,h2=>by omega
 |r+1,i,h,j,h1,h2=>by
  unfold JX at h
  by_cases h0:WK n i=0
  ·rw[Tn h0]at h
   by_cases e:i=j
   ·grind [YrQ]
   ·exact Yio r (i+1) h j (by omega) (by omega)
  omega
theorem YO(h:Yl n=0):Ok n:=by
 unfold Yl at h
 by_cases h1:n.nodes<2\/32<n.nodes
 ·omega
 rw[Tj h1]at h
 by_cases h2:J3 n≠0
 ·omega
 rw[Tj h2]at h
 by_cases h3:n.noise<0\/68719476736<n.noise\/n.thr<1000\/100000<n.thr
 ·omega
 rw[Tj h3]at h
 by_cases h4:128<n.links.length
 ·omega
 rw[Tj h4]at h
 by_cases h5:n.margin.length≠n.links.length
 ·omega
 rw[Tj h5]at h
 obtain⟨t1,t2,t3⟩:=Yd9 (Classical.not_not.1 h2)
 exact⟨by omega,by omega,t1,t2,t3,by omega,by omega,by omega,by omega,by omega,Classical.not_not.1 h5,λi hi=>Yio _ _ h i (Td _) (by omega)⟩
theorem Yd5(h:Ok n):∀(i j:Nat),i<j->j<n.links.length->cmpL (lnk n i) (lnk n j)<0:=by
 intro i j
 induction j with
 |zero=>omega
 |succ j ih=>
  intro h1 h2
  have h3:=(h.lk (j+1) h2).ord (by omega)
  rw[SX]at h3
  by_cases e:i=j
  ·simp_all
  ·rw[VX]at*
   omega
def UW(a b:Int)(l:Lk):Bool:=decide (l.1=a)&&decide (l.2.1=b)
def Yq(n:Net)(a b:Int):Int:=Ym (UW a b) n.links 0
theorem Q4{α:Type}{p:α->Bool}:∀{l:List α}{k:Int},(∀a∈l,p a=false)->Ym p l k= -1
 |[],_,_=>rfl
 |a::l,k,h=>by
  rw[Ym,h a TG,Tj (by simp)]
  exact Q4 λb hb=>h b (TO _ hb)
theorem Ydl{α:Type}{p:α->Bool}:∀{l:List α}{k:Int}{i:Nat}{a:α},l[i]? =some a->p a=true->(∀j b,j<i->l[j]? =some b->p b=false)->Ym p l k=k+i
 |[],_,_,_,h,_,_=>by simp at h
 |b::l,k,0,a,h,hp,_=>by
  simp_all [Ym]
 |b::l,k,i+1,a,h,hp,hn=>by
  have hb:=hn 0 b (by omega) (by simp)
  rw[Ym,Tj (by simp_all),Ydl (i:=i) (a:=a) (by simp_all) hp λj c hj hc=>hn (j+1) c (by omega) (by simp_all)]
  omega
theorem Qn{α:Type}{p:α->Bool}:∀{l:List α}{k:Int},0<=k->Ym p l k= -1\/(k<=Ym p l k/\Ym p l k<k+l.length)
 |[],_,_=>.inl rfl
 |a::l,k,h=>by
  unfold Ym
  by_cases hp:p a=true
  ·grind
  ·rcases @Qn _ p l (k+1) (by omega)with h1|h1
   all_goals grind
theorem Q5{α:Type}{p:α->Bool}:∀{l:List α}{k:Int}{i:Nat},0<=k->Ym p l k=k+i->∃a,l[i]? =some a/\p a=true
 |[],k,i,h0,h=>by grind [Ym]
 |a::l,k,i,h0,h=>by
  unfold Ym at h
  by_cases hp:p a=true
  ·grind
  ·cases i with
   |zero=>
    grind [Qn]
   |succ i=>
    obtain⟨b,h1,h2⟩:=Q5 (p:=p) (i:=i) (l:=l) (k:=k+1) (by omega) (by omega)
    simp_all
theorem JF{l:Lk}(h:n.links[i]? =some l):lnk n i=l:=by grind [lnk]
theorem ON{z:Int}(h:n.margin[i]? =some z):mar n i=z:=by grind [mar]
theorem Oe(n:Net)(h:i<n.links.length):n.links[i]? =some (lnk n i):=by grind [lnk]
theorem YhX(h:Ok n){c:Int}{k:Nat}(hk:k<=n.links.length)(h1:∀j,j<k->cmpL (lnk n j) (a,b,c)<0)(h2:∀j,k<=j->j<n.links.length->0<=cmpL (lnk n j) (a,b,c)):
 Yq n a b=if k<n.links.length/\cmpL (lnk n k) (a,b,c)=0 then(k:Int)else -1:=by
 unfold Yq
 have hlow:∀j l,j<k->n.links[j]? =some l->UW a b l=false:=by grind [JF,VX,UW]
 by_cases hc:k<n.links.length/\cmpL (lnk n k) (a,b,c)=0
 ·rw[Tn hc,Ydl (Oe n hc.1) (by grind [UL,UW]) hlow]
  omega
 ·rw[Tj hc]
  refine Q4 λl hl=>?_
  obtain⟨j,hj,rfl⟩:=List.mem_iff_getElem.1 hl
  by_cases hjk:j<k
  ·exact hlow j _ hjk (Ta hj)
  ·have e:lnk n j=n.links[j]:=JF (Ta hj)
   have h3:cmpL (lnk n j) (a,b,c)≠0:=by
    by_cases ejk:j=k
    ·grind
    ·intro e0
     have h4:=Yd5 h k j (by omega) hj
     have h5:=h2 k (TK _) (by omega)
     rw[UL]at e0
     have h6:¬cmpL (lnk n k) (a,b,c)<0:=by omega
     simp_all [VX]
   simp_all [UL,UW]
def XQ(n:Net)(s d:Int):Bool:=decide (n.thr*(n.noise+d)<=s*1000)
def Jg(n:Net)(i:Nat):Bool:=decide (0<=Yq n (lnk n i).2.1 (lnk n i).1)&&(XQ n (mar n i) 0&&XQ n (mar n (Yq n (lnk n i).2.1 (lnk n i).1).toNat) 0)
theorem YrF(h:Ok n){d:Int}(h0:0<=d)(h1:d<=8796093022208): -9223372036854775808<=n.thr*(n.noise+d)/\n.thr*(n.noise+d)<=9223372036854775807:=by
 have h2:=h.t0;have h3:=h.t1;have h4:=h.z0;have h5:=h.z1
 have h6:0<=n.thr*(n.noise+d):=Int.mul_nonneg (by omega) (by omega)
 have h7:n.thr*(n.noise+d)<=100000*(n.noise+d):=RZ h3 (by omega)
 omega
theorem Qp(h:Ok n)(hi:i<n.links.length):0<=mar n i/\mar n i<=68719476736:=by
 have hl:=h.lk i hi
 refine⟨hl.m0,Int.le_trans hl.m1 ?_⟩
 unfold powr
 have e1:(lnk n i).1.toNat<n.power.length:=by have:=h.p0;have:=hl.f1;have:=hl.f0;omega
 rw[show n.power.getD (lnk n i).1.toNat []=n.power[(lnk n i).1.toNat] by simp_all]
 have hm:=List.getElem_mem e1
 have e2:(lnk n i).2.1.toNat<(n.power[(lnk n i).1.toNat]).length:=by have:=h.p1 _ hm;have:=hl.t1;have:=hl.t0;omega
 rw[show(n.power[(lnk n i).1.toNat]).getD (lnk n i).2.1.toNat 0=(n.power[(lnk n i).1.toNat])[(lnk n i).2.1.toNat] by simp_all]
 exact(h.p2 _ hm _ (List.getElem_mem e2)).2
theorem XV(h:0<=Yq n a b):(Yq n a b).toNat<n.links.length:=by
 rcases @Qn _ (UW a b) n.links 0 (by omega)with h1|h1<;>unfold Yq at h⊢<;>omega
theorem Oa(h:0<=Yq n a b):(lnk n (Yq n a b).toNat).1=a/\(lnk n (Yq n a b).toNat).2.1=b:=by
 obtain⟨l,h1,h2⟩:=@Q5 _ (UW a b) n.links 0 (Yq n a b).toNat (by omega) (by grind [Yq])
 grind [JF,UW]
end Go.Nw
namespace Go.Proofs.YtjommdkgfbhbdaaGreatDoor
def X6:List Int->List Int->Bool
 |[],b=>!b.isEmpty
 |_::_,[]=>false
 |a::l,b::m=>if a≠b then decide (a<b)else X6 l m
theorem Ydv{a b:List Int}{i:Nat}{x y:Int}(hx:a[i]? =some x)(hy:b[i]? =some y):X6 (a.drop i) (b.drop i)=if x≠y then decide (x<y)else X6 (a.drop (i+1)) (b.drop (i+1)):=by
 obtain⟨h1,rfl⟩:=Tu.1 hx
 obtain⟨h2,rfl⟩:=Tu.1 hy
 rw[Rm h1,Rm h2]
 rfl
theorem YpS:∀{a b:List Int},X6 a b=false->X6 b a=false->a=b
 |[],[],_,_=>rfl
 |[],b::m,h,_=>by simp[X6]at h
 |a::l,[],_,h=>by simp[X6]at h
 |a::l,b::m,h1,h2=>by
  unfold X6 at h1 h2
  by_cases e:a=b
  ·subst e
   rw[Tj (λh=>h rfl)]at h1 h2
   rw[YpS h1 h2]
  grind
theorem Ydw:∀a:List Int,X6 a a=false
 |[]=>rfl
 |a::l=>by unfold X6;rw[Tj (λh=>h rfl)];exact Ydw l
open Go.Nw
abbrev Cel:=Int×Int×Int×Int×Int
def nums(c:Cel):List Int:=[c.1,c.2.1,c.2.2.1,c.2.2.2.1,c.2.2.2.2]
def Xg(a b:Cel):Bool:=X6 (nums a) (nums b)
variable {a b c:Cel}
theorem YiB(h:nums a=nums b):a=b:=by
 grind [nums]
theorem Yfs:∀{a b c:List Int},X6 a b=true->X6 b c=true->X6 a c=true
 |_,_,[],_,h=>by cases‹List Int›<;>cases h
 |[],_,_::_,_,_=>rfl
 |_::_,[],_::_,h,_=>by cases h
 |x::a,y::b,z::c,h1,h2=>by
  unfold X6 at h1 h2⊢
  by_cases e1:x=y
  ·subst e1
   rw[Tj (λh=>h rfl)]at h1
   by_cases e2:x=z
   ·subst e2
    rw[Tj (λh=>h rfl)]at h2⊢
    exact Yfs h1 h2
   simp_all
  grind
theorem Ju(h1:Xg a b=true)(h2:Xg b c=true):Xg a c=true:=Yfs h1 h2
theorem VS(a:Cel):Xg a a=false:=Ydw _
theorem Yb4(h1:Xg a b=false)(h2:Xg b a=false):a=b:=YiB (YpS h1 h2)
def insE(x n:Int):Bool:=decide (0<=x/\x<n)
structure Sch where
 len:Int
 off:Int
 cells:List Cel
def XK(s:Sch)(c:Cel):Bool:=insE c.1 s.len&&insE c.2.1 s.off
def XJ(s:Sch)(c:Cel):Bool:=XK s c&&insE c.2.2.1 32&&insE c.2.2.2.1 32&&insE c.2.2.2.2 256
def Zw(s:Sch):Bool:=decide (1<=s.len/\s.len<=512/\1<=s.off/\s.off<=16)
def Yj(s:Sch)(i:Nat):Cel:=s.cells.getD i (0,0,0,0,0)
def Zn(s:Sch)(i:Nat):Bool:=XJ s (Yj s i)&&(decide (i=0)||Xg (Yj s (i-1)) (Yj s i))
def Xd(s:Sch):Bool:=Zw s&&decide (s.cells.length<=512)&&(List.range s.cells.length).all (Zn s)
variable {p:Nat->Bool}{k i:Nat}
theorem WU:(List.range (k+1)).all p=((List.range k).all p&&p k):=by
 grind
theorem Yf9(hi:i<k)(h:p i=false):(List.range k).all p=false:=by
 grind
theorem Yf8(h:(List.range k).all p=true)(hi:i<k):p i=true:=by simp_all
variable {s:Sch}
theorem Zi(h:s.cells[i]? =some c):Yj s i=c:=by
 grind [Yj]
theorem YM(h:i<s.cells.length):s.cells[i]? =some (Yj s i):=by
 grind [Yj]
theorem Z0(h:i<s.cells.length):Yj s i∈s.cells:=Tc (YM h)
structure Frm(s:Sch):Prop where
 sized:Zw s=true
 few:s.cells.length<=512
 formed:∀c∈s.cells,XJ s c=true
 ord:s.cells.Pairwise λa b=>Xg a b=true
theorem Yaf{α:Type}{lt:α->α->Bool}(htr:∀{a b c},lt a b=true->lt b c=true->lt a c=true){l:List α}(h:∀i,∀a b,l[i]? =some a->l[i+1]? =some b->lt a b=true):l.Pairwise λa b=>lt a b=true:=by
 induction l with
 |nil=>simp_all
 |cons x l ih=>
  have h1:=ih λi a b ha hb=>h (i+1) a b (by simp_all) (by simp_all)
  refine .cons (λy hy=>?_) h1
  cases l with
  |nil=>cases hy
  |cons z l=>
   have hz:=h 0 x z rfl rfl
   grind [SY]
theorem XF:Xd s=true↔Frm s:=by
 unfold Xd
 simp only[Tq,Tm]
 constructor
 ·rintro⟨⟨h1,h2⟩,h3⟩
  have hc:∀i,i<s.cells.length->Zn s i=true:=by simp_all
  refine⟨h1,h2,λc hc2=>?_,?_⟩
  ·obtain⟨i,hi⟩:=TP.1 hc2
   have:=hc i (Tu.1 hi).1
   simp_all [Zn,Zi]
  ·refine Yaf (lt:=Xg) (λh1 h2=>Ju h1 h2) λi a b ha hb=>?_
   have:=hc (i+1) (Tu.1 hb).1
   simp_all [Zn,Zi]
 ·intro h
  refine⟨⟨h.sized,h.few⟩,TL.2 λi hi=>?_⟩
  have hi:=TQ.1 hi
  unfold Zn
  rw[h.formed _ (Z0 hi),RD,RH,Tm]
  rcases Su i with h0|h0
  ·omega
  ·obtain⟨h1,h2⟩:=Tu.1 (YM (s:=s) (i:=i-1) (by omega))
   obtain⟨h3,h4⟩:=Tu.1 (YM (s:=s) hi)
   grind [Rn,Go.Proofs.YtjommdkgfbhbdaaGreatDoor.Frm.ord]
abbrev Flw:=Int×Int×Int×Int×Int×Int
def Xi(nodes:Int)(f:Flw):Int:=
 if f.1<0\/255<f.1\/insE f.2.1 nodes=false\/insE f.2.2.1 nodes=false then 2
 else if f.2.2.2.1<1\/512<f.2.2.2.1\/f.2.2.2.2.1<0\/f.2.2.2.1<=f.2.2.2.2.1\/f.2.2.2.2.2<1\/f.2.2.2.1<f.2.2.2.2.2 then 2
 else if f.2.1=f.2.2.1 then 1 else 0
def Xa(l:List Flw)(i:Nat):Flw:=l.getD i (0,0,0,0,0,0)
def YD(f:Nat->Int):Nat->Nat->Int×Int
 |0,_=>(-1,0)
 |r+1,i=>if f i=0 then YD f r (i+1)else((i:Int),f i)
theorem YI{f:Nat->Int}:∀{r i:Nat},(YD f r i).2=0↔∀k,i<=k->k<i+r->f k=0
 |0,i=>by grind [YD]
 |r+1,i=>by
  unfold YD
  split
  ·rw[YI]
   grind
  grind
theorem Yc8{f:Nat->Int}:∀{r i:Nat},(YD f r i).2=0->(YD f r i).1= -1
 |0,i,_=>rfl
 |r+1,i,h=>by
  unfold YD at h⊢
  split at h
  ·rw[Tn ‹_›];exact Yc8 h
  omega
theorem QZ{f g:Nat->Int}:∀{r i:Nat},(∀k,i<=k->k<i+r->(∀j,i<=j->j<k->f j=0)->f k=g k)->YD f r i=YD g r i
 |0,i,_=>rfl
 |r+1,i,h=>by
  unfold YD
  have h0:=h i (TK _) (by omega) (λj h1 h2=>by omega)
  rw[<-h0]
  by_cases hz:f i=0
  ·rw[Tn hz,Tn hz]
   refine QZ λk h1 h2 h3=>h k (by omega) (by omega) λj h4 h5=>?_
   grind
  simp_all
def YP(nodes:Int)(l:List Flw)(i:Nat):Int:=if Xi nodes (Xa l i)≠0 then Xi nodes (Xa l i)else if 0<i/\(Xa l i).1<=(Xa l (i-1)).1 then 5 else 0
def YB(nodes:Int)(l:List Flw):Int×Int:=
 if nodes<2\/32<nodes then(-1,2)else if 16<l.length then(-1,8)else YD (YP nodes l) l.length 0
def ZB(l:List Flw)(id:Int):Int:=Ym (λf=>decide (f.1=id)) l 0
end Go.Proofs.YtjommdkgfbhbdaaGreatDoor
namespace Go.Nw
theorem nodup_len:∀(N:Nat) (l:List Int),l.Nodup->(∀x∈l,0<=x/\x<N)->l.length<=N
 |0,l,_,h=>by
  cases l with
  |nil=>simp
  |cons a l=>grind [TG]
 |N+1,l,hn,h=>by
  have h1:=nodup_len N (l.erase (N:Int)) (hn.erase _) (λx hx=>by
   grind)
  grind
end Go.Nw
namespace Go.Proofs
open Go.Shelf
def Tryz.lays169_ren:Go.Shelf.Ren:=⟨λ|169=>84|n=>n,λ|70=>118|9=>9|0=>0|72=>121|37=>119|127=>205|3=>3|5=>5|n=>n,λ|n=>n⟩
theorem Tryz.lays169:Go.Proofs.Lays.n169 Tryz.prog Tryz.lays169_ren:={
 mixed:=by kernel_rfl
 f169:=Tryz.func84.trans (TF some (by kernel_rfl))
 t0:=Tryz.underlying0
 a0:=Tryz.isAgg0
 z0:=Tryz.sizeOf0
 v0:=Tryz.zeroValue0
 t3:=Tryz.underlying3
 a3:=Tryz.isAgg3
 z3:=Tryz.sizeOf3
 v3:=Tryz.zeroValue3
 t9:=Tryz.underlying9
 a9:=Tryz.isAgg9
 z9:=Tryz.sizeOf9
 v9:=Tryz.zeroValue9
 t37:=Tryz.underlying119
 a37:=Tryz.isAgg119
 z37:=Tryz.sizeOf119
 v37:=Tryz.zeroValue119
 t70:=Tryz.underlying118
 a70:=Tryz.isAgg118
 z70:=Tryz.sizeOf118
 v70:=Tryz.zeroValue118
 t72:=Tryz.underlying121
 a72:=Tryz.isAgg121
 z72:=Tryz.sizeOf121
 v72:=Tryz.zeroValue121
 t127:=Tryz.underlying205
 a127:=Tryz.isAgg205
 z127:=Tryz.sizeOf205
 v127:=Tryz.zeroValue205}
theorem Tryz.Builder_Extra_169:Builder.Extra Tryz.prog Tryz.lays169_ren:={
 sizeBuilder:=by kernel_rfl
 liesBuilder:=by kernel_rfl
 t5:=Tryz.underlying5
 a5:=Tryz.isAgg5
 z5:=Tryz.sizeOf5
 v5:=Tryz.zeroValue5
 infoByte:=by kernel_rfl
 cellsByte:=by kernel_rfl
 sizeByte:=by kernel_rfl
 neB5:=by decide}
open Go.RowKit in
theorem Tryz.Builder_String_any(B b:Nat)(l:List UInt8)(w:World)(h:Lib.IsBuilder 121 5 B b (Lib.byteCells l) w)(hBw:B<=w.heap.size):
 Calls Tryz.prog 84 #[.pointer (some ⟨b,0,none⟩)] w λe w'=>e=.returned (.string ⟨l.toArray⟩)/\Below B w w':=Any.Builder_String_any Tryz.lays169 Tryz.Builder_Extra_169 B b l w h hBw
def Tryz.lays122_ren:Go.Shelf.Ren:=⟨λ|122=>147|215=>231|n=>n,λ|3=>3|4=>4|n=>n,λ|n=>n⟩
theorem Tryz.lays122:Go.Proofs.Lays.n122 Tryz.prog Tryz.lays122_ren:={
 mixed:=by kernel_rfl
 f122:=Tryz.func147.trans (TF some (by kernel_rfl))
 f215:=Tryz.func231.trans (TF some (by kernel_rfl))
 t3:=Tryz.underlying3
 a3:=Tryz.isAgg3
 z3:=Tryz.sizeOf3
 v3:=Tryz.zeroValue3
 t4:=Tryz.underlying4
 a4:=Tryz.isAgg4
 z4:=Tryz.sizeOf4
 v4:=Tryz.zeroValue4}
open Go.RowKit in
theorem Tryz.cmp_Compare_int(x y:Int)(w:World):
 Calls Tryz.prog 147 #[.int .i64 x,.int .i64 y] w λe w'=>e=.returned (.int .i64 (Lib.compareInt x y))/\w'=w:=Any.cmp_Compare_int Tryz.lays122 x y w
def Tryz.laysM171_ren:Go.Shelf.Ren:=⟨λ|171=>166|243=>247|246=>316|283=>377|284=>378|285=>379|286=>380|129=>303|317=>415|318=>416|319=>417|320=>418|337=>427|338=>428|n=>n,λ|3=>3|9=>9|2=>2|4=>4|171=>383|0=>0|53=>209|37=>119|5=>5|173=>385|212=>415|51=>207|20=>20|213=>416|46=>160|232=>431|233=>432|n=>n,λ|17=>0|18=>1|19=>2|n=>n⟩
theorem Tryz.laysM171:Go.Proofs.LaysM.n171 Tryz.prog Tryz.laysM171_ren:={
 mixed:=by kernel_rfl
 f129:=Tryz.func303.trans (TF some (by kernel_rfl))
 f171:=Tryz.func166.trans (TF some (by kernel_rfl))
 f243:=Tryz.func247.trans (TF some (by kernel_rfl))
 f246:=Tryz.func316.trans (TF some (by kernel_rfl))
 f283:=Tryz.func377.trans (TF some (by kernel_rfl))
 f284:=Tryz.func378.trans (TF some (by kernel_rfl))
 f285:=Tryz.func379.trans (TF some (by kernel_rfl))
 f286:=Tryz.func380.trans (TF some (by kernel_rfl))
 f317:=Tryz.func415.trans (TF some (by kernel_rfl))
 f318:=Tryz.func416.trans (TF some (by kernel_rfl))
 f319:=Tryz.func417.trans (TF some (by kernel_rfl))
 f320:=Tryz.func418.trans (TF some (by kernel_rfl))
 f337:=Tryz.func427.trans (TF some (by kernel_rfl))
 f338:=Tryz.func428.trans (TF some (by kernel_rfl))
 t0:=Tryz.underlying0
 a0:=Tryz.isAgg0
 z0:=Tryz.sizeOf0
 v0:=Tryz.zeroValue0
 t2:=Tryz.underlying2
 a2:=Tryz.isAgg2
 z2:=Tryz.sizeOf2
 v2:=Tryz.zeroValue2
 t3:=Tryz.underlying3
 a3:=Tryz.isAgg3
 z3:=Tryz.sizeOf3
 v3:=Tryz.zeroValue3
 t4:=Tryz.underlying4
 a4:=Tryz.isAgg4
 z4:=Tryz.sizeOf4
 v4:=Tryz.zeroValue4
 t5:=Tryz.underlying5
 a5:=Tryz.isAgg5
 z5:=Tryz.sizeOf5
 v5:=Tryz.zeroValue5
 t9:=Tryz.underlying9
 a9:=Tryz.isAgg9
 z9:=Tryz.sizeOf9
 v9:=Tryz.zeroValue9
 t20:=Tryz.underlying20
 a20:=Tryz.isAgg20
 z20:=Tryz.sizeOf20
 v20:=Tryz.zeroValue20
 t37:=Tryz.underlying119
 a37:=Tryz.isAgg119
 z37:=Tryz.sizeOf119
 v37:=Tryz.zeroValue119
 t46:=Tryz.underlying160
 a46:=Tryz.isAgg160
 z46:=Tryz.sizeOf160
 v46:=Tryz.zeroValue160
 t51:=Tryz.underlying207
 a51:=Tryz.isAgg207
 z51:=Tryz.sizeOf207
 v51:=Tryz.zeroValue207
 t53:=Tryz.underlying209
 a53:=Tryz.isAgg209
 z53:=Tryz.sizeOf209
 v53:=Tryz.zeroValue209
 t171:=Tryz.underlying383
 a171:=Tryz.isAgg383
 z171:=Tryz.sizeOf383
 v171:=Tryz.zeroValue383
 t173:=Tryz.underlying385
 a173:=Tryz.isAgg385
 z173:=Tryz.sizeOf385
 v173:=Tryz.zeroValue385
 t212:=Tryz.underlying415
 a212:=Tryz.isAgg415
 z212:=Tryz.sizeOf415
 v212:=Tryz.zeroValue415
 t213:=Tryz.underlying416
 a213:=Tryz.isAgg416
 z213:=Tryz.sizeOf416
 t232:=Tryz.underlying431
 a232:=Tryz.isAgg431
 z232:=Tryz.sizeOf431
 v232:=Tryz.zeroValue431
 t233:=Tryz.underlying432
 a233:=Tryz.isAgg432
 z233:=Tryz.sizeOf432
 v233:=Tryz.zeroValue432
 g17:=by kernel_rfl
 g18:=by kernel_rfl
 g19:=by kernel_rfl
 i0:=by kernel_rfl
 i2:=by kernel_rfl
 i3:=by kernel_rfl
 i4:=by kernel_rfl
 i5:=by kernel_rfl
 i9:=by kernel_rfl
 i20:=by kernel_rfl
 i37:=by kernel_rfl
 i46:=by kernel_rfl
 i51:=by kernel_rfl
 i53:=by kernel_rfl
 i171:=by kernel_rfl
 i173:=by kernel_rfl
 i212:=by kernel_rfl
 i232:=by kernel_rfl
 i233:=by kernel_rfl
 m17:=by kernel_rfl
 m18:=by kernel_rfl
 m19:=by kernel_rfl}
open Go.RowKit Go.Sort Go.Lib in
theorem Tryz.strconv_Itoa(n:Int)(h0: -9223372036854775808<=n)(h1:n<=9223372036854775807)(w:World)(htab:Lib.TabIs Tryz.prog w "internal/strconv.uint64pow10" .u64 Lib.pow10Tab):
 Calls Tryz.prog 166 #[.int .i64 n] w λe w'=>e=.returned (.string ⟨(Lib.itoa n).toArray⟩)/\∃k os,w'=grow (w.drewN k) os:=Any.strconv_Itoa Tryz.laysM171 n h0 h1 w htab
def Tryz.lays212_ren:Go.Shelf.Ren:=⟨λ|212=>411|263=>424|264=>425|n=>n,λ|46=>160|51=>207|146=>426|53=>209|148=>428|n=>n,λ|n=>n⟩
theorem Tryz.lays212:Go.Proofs.Lays.n212 Tryz.prog Tryz.lays212_ren:={
 mixed:=by kernel_rfl
 f212:=Tryz.func411.trans (TF some (by kernel_rfl))
 f263:=Tryz.func424.trans (TF some (by kernel_rfl))
 f264:=Tryz.func425.trans (TF some (by kernel_rfl))
 t46:=Tryz.underlying160
 a46:=Tryz.isAgg160
 z46:=Tryz.sizeOf160
 v46:=Tryz.zeroValue160
 t51:=Tryz.underlying207
 a51:=Tryz.isAgg207
 z51:=Tryz.sizeOf207
 v51:=Tryz.zeroValue207
 t53:=Tryz.underlying209
 a53:=Tryz.isAgg209
 z53:=Tryz.sizeOf209
 v53:=Tryz.zeroValue209
 t146:=Tryz.underlying426
 a146:=Tryz.isAgg426
 z146:=Tryz.sizeOf426
 v146:=Tryz.zeroValue426
 t148:=Tryz.underlying428
 a148:=Tryz.isAgg428
 z148:=Tryz.sizeOf428
 v148:=Tryz.zeroValue428}
open Go.RowKit Go.Lib in
theorem Tryz.bits_Mul(x y:Nat)(hx:x<18446744073709551616)(hy:y<18446744073709551616)(w:World):
 Calls Tryz.prog 411 #[.int .u64 x,.int .u64 y] w λe w'=>e=.returned (.tuple #[.int .u64 ((x*y/18446744073709551616:Nat):Int),.int .u64 ((x*y%18446744073709551616:Nat):Int)])/\w'=w:=Any.bits_Mul Tryz.lays212 x y hx hy w
end Go.Proofs
namespace Go.Rt
open Go.Nw
def Xr:Int:=1073741824
def Yk(far:List Int)(v:Int):Int:=far.getD v.toNat 0
def ArcsOk(nodes:Nat)(l:List Lk):Prop:=∀a∈l,(0<=a.1/\a.1<nodes)/\(0<=a.2.1/\a.2.1<nodes)/\(1<=a.2.2/\a.2.2<=1000000)
structure Dist(nodes:Nat)(l:List Lk)(to:Int)(far:List Int):Prop where
 len:far.length=nodes
 to0:Yk far to=0
 range:∀v:Int,0<=v->v<nodes->0<=Yk far v/\Yk far v<=Xr
 tight:∀v:Int,0<=v->v<nodes->v≠to->Yk far v<Xr->∃a∈l,a.1=v/\Yk far a.2.1+a.2.2<=Yk far v
 least:∀a∈l,Yk far a.2.1<Xr->Yk far a.1<=Yk far a.2.1+a.2.2
structure DInv(nodes:Nat)(l:List Lk)(to:Int)(far:List Int)(q:List (Int×Int))(v:Int)(rest:List Lk):Prop where
 len:far.length=nodes
 to0:Yk far to=0
 range:∀v:Int,0<=v->v<nodes->0<=Yk far v/\Yk far v<=Xr
 tight:∀v:Int,0<=v->v<nodes->v≠to->Yk far v<Xr->∃a∈l,a.1=v/\Yk far a.2.1+a.2.2<=Yk far v
 pend:∀a∈l,Yk far a.2.1<Xr->Yk far a.1<=Yk far a.2.1+a.2.2\/(a.2.1,Yk far a.2.1)∈q\/(a.2.1=v/\a∈rest)
 items:∀x∈q,(0<=x.1/\x.1<nodes)/\Yk far x.1<=x.2/\x.2<Xr
def JM(far:List Int)(q:List (Int×Int)):Nat:=2*(far.map Int.toNat).sum+q.length
variable {far:List Int}{i x to v:Int}
theorem Wg(h:i.toNat<far.length):Yk (far.set i.toNat x) i=x:=by
 grind [Yk]
theorem W8{j:Int}(h:i.toNat≠j.toNat):Yk (far.set i.toNat x) j=Yk far j:=by
 grind [Yk]
theorem ZE(h:i.toNat<far.length):far[i.toNat]? =some (Yk far i):=by
 grind [Yk]
theorem Ysk{i:Nat}(h:i<far.length)(h0:0<=x)(hx:x<far.getD i 0):((far.set i x).map Int.toNat).sum+1<=(far.map Int.toNat).sum:=by
 induction far generalizing i with
 |nil=>simp at h
 |cons a l ih=>
  cases i with
  |zero=>
   grind
  |succ i=>
   grind
variable {l rest:List Lk}
theorem Yj1{nodes:Nat}(hl:ArcsOk nodes l)(h0:0<=to)(h1:to<nodes):DInv nodes l to ((List.replicate nodes Xr).set to.toNat 0) [(to,0)] 0 []:=by
 have hlen:to.toNat<(List.replicate nodes Xr).length:=by simp_all
 have hself:=Wg (far:=List.replicate nodes Xr) (i:=to) (x:=0) hlen
 have hrep:∀v:Int,0<=v->v<nodes->Yk (List.replicate nodes Xr) v=Xr:=by
  simp_all [Yk]
 have hoth:∀v:Int,0<=v->v<nodes->v≠to->Yk ((List.replicate nodes Xr).set to.toNat 0) v=Xr:=by
  grind [W8]
 refine⟨by simp,hself,?_,?_,?_,?_⟩
 ·intro v hv hv2
  by_cases e:v=to
  ·subst e;rw[hself];exact⟨SK _,by decide⟩
  ·rw[hoth v hv hv2 e];exact⟨by decide,SK _⟩
 ·simp_all
 ·intro a ha hlt
  obtain⟨_,⟨h3,h4⟩,_⟩:=hl a ha
  grind
 ·intro x hx
  obtain rfl:x=(to,0):=by simp_all
  exact⟨⟨h0,h1⟩,by simp_all,show(0:Int)<1073741824 by decide⟩
variable {q q':List (Int×Int)}
theorem Yne{nodes:Nat}{x:Int×Int}(h:DInv nodes l to far q 0 [])(hp:(x::q').Perm q)(hx:Yk far x.1<x.2):DInv nodes l to far q' 0 []:=by
 refine⟨h.len,h.to0,h.range,h.tight,?_,λy hy=>h.items y (hp.mem_iff.1 (TO _ hy))⟩
 intro a ha hlt
 rcases h.pend a ha hlt with h1|h1|⟨_,h1⟩
 all_goals grind
theorem Ynd{nodes:Nat}{x:Int×Int}(h:DInv nodes l to far q 0 [])(hp:(x::q').Perm q):DInv nodes l to far q' x.1 l:=by
 refine⟨h.len,h.to0,h.range,h.tight,?_,λy hy=>h.items y (hp.mem_iff.1 (TO _ hy))⟩
 intro a ha hlt
 rcases h.pend a ha hlt with h1|h1|⟨_,h1⟩
 all_goals grind
theorem Ypa{nodes:Nat}(h:DInv nodes l to far q v []):DInv nodes l to far q 0 []:=by
 refine⟨h.len,h.to0,h.range,h.tight,λa ha hlt=>?_,h.items⟩
 rcases h.pend a ha hlt with h1|h1|⟨_,h1⟩
 all_goals simp_all
theorem Ync{nodes:Nat}(h:DInv nodes l to far [] 0 []):Dist nodes l to far:=by
 refine⟨h.len,h.to0,h.range,h.tight,λa ha hlt=>?_⟩
 rcases h.pend a ha hlt with h1|h1|⟨_,h1⟩
 all_goals simp_all
variable {a:Lk}
theorem YrA{nodes:Nat}(h:DInv nodes l to far q v (a::rest))(hn:¬(a.2.1=v/\Yk far v+a.2.2<Yk far a.1)):DInv nodes l to far q v rest:=by
 refine⟨h.len,h.to0,h.range,h.tight,?_,h.items⟩
 intro b hb hlt
 rcases h.pend b hb hlt with h1|h1|⟨h1,h2⟩
 all_goals grind
theorem Ypb{nodes:Nat}{d:Int}(hl:ArcsOk nodes l)(hv:0<=v/\v<nodes)(hd:Yk far v=d)(hal:a∈l)(h:DInv nodes l to far q v (a::rest))(h1:a.2.1=v)(h2:d+a.2.2<Yk far a.1)(hp:q'.Perm ((a.1,d+a.2.2)::q)):
 DInv nodes l to (far.set a.1.toNat (d+a.2.2)) q' v rest/\Yk (far.set a.1.toNat (d+a.2.2)) v=d/\JM (far.set a.1.toNat (d+a.2.2)) q'+1<=JM far q:=by
 obtain⟨⟨a1,a2⟩,_,⟨a5,a6⟩⟩:=hl a hal
 have hlen:=h.len
 have hlt:a.1.toNat<far.length:=by omega
 have hself:=Wg (far:=far) (i:=a.1) (x:=d+a.2.2) hlt
 obtain⟨r1,r2⟩:=h.range v hv.1 hv.2
 obtain⟨r3,r4⟩:=h.range a.1 a1 a2
 have hoth:∀u:Int,0<=u->u≠a.1->Yk (far.set a.1.toNat (d+a.2.2)) u=Yk far u:=by grind [W8]
 have hle:∀u:Int,0<=u->Yk (far.set a.1.toNat (d+a.2.2)) u<=Yk far u:=by
  grind
 have hto:Yk (far.set a.1.toNat (d+a.2.2)) to=0:=by
  by_cases e:to.toNat=a.1.toNat
  ·have:Yk far a.1=0:=by
    have h5:=h.to0
    grind [Yk]
   omega
  ·rw[W8 (λh=>e h.symm)];exact h.to0
 refine⟨⟨by simp_all,hto,?_,?_,?_,?_⟩,by grind,?_⟩
 ·intro u hu hu2
  by_cases e:u=a.1
  ·grind
  ·rw[hoth u hu e];exact h.range u hu hu2
 ·intro u hu hu2 hut hul
  by_cases e:u=a.1
  ·grind
  ·rw[hoth u hu e]at hul⊢
   obtain⟨b,hb,hb1,hb2⟩:=h.tight u hu hu2 hut hul
   have:=hle b.2.1 (hl b hb).2.1.1
   grind
 ·intro b hb hbl
  obtain⟨⟨b1,b2⟩,⟨b3,b4⟩,_⟩:=hl b hb
  by_cases e:b.2.1=a.1
  ·grind
  ·rw[hoth _ b3 e]at hbl⊢
   rcases h.pend b hb hbl with h3|h3|⟨h3,h4⟩
   all_goals grind
 ·intro x hx
  rcases RA.1 (hp.mem_iff.1 hx)with rfl|hx
  ·grind
  ·obtain⟨h3,h4,h5⟩:=h.items x hx
   grind
 ·have h3:=Ysk (x:=d+a.2.2) hlt (by omega) (by grind [Yk])
  grind [List.Perm.length_eq,JM,Ro]
end Go.Rt
namespace Go.Proofs.YtjommdkgfbhbdaaGreatDoor
theorem YlD{u:Nat}(h:u<10000):(Lib.decDigits u).length<=4:=by
 rw[Lib.decDigits_length]
 by_cases h1:u<10
 ·rw[Lib.nDigits_small h1];omega
 ·rw[Lib.nDigits_big h1]
  by_cases h2:u/10<10
  ·rw[Lib.nDigits_small h2];omega
  ·all_goals grind [Go.Lib.nDigits_small,Go.Lib.nDigits_big]
open Go.ChangeShapes Go.WideShapes Go.ChangeAt Go.RowKit
section
variable {H:Type}{enc:TypeId×Value->H}{P:Program}
theorem Yau(hl:laidOutB P=true){W W':World}{sp:Nat->Bool}:∀{ts:List TypeId}{vs:List Value}{ds:List (DataW H)}{ps:List MemPlace},(ts.all λt=>P.readableRec t&&decide (t<P.types.size))=true->
 DataW.TrodAll enc P W 0 (λ_=>true) true ts vs ds ps->(∀p∈ps,W.sameAt W' p)->(∀p∈ps,sp p.block=true)->DataW.TrodAll enc P W' 0 sp true ts vs ds ps
 |[],[],[],_,_,h,_,_=>h
 |[],[],_::_,_,_,h,_,_=>h.elim
 |[],_::_,_,_,_,h,_,_=>h.elim
 |_::_,[],_,_,_,h,_,_=>h.elim
 |_::_,_::_,[],_,_,h,_,_=>h.elim
 |t::ts,v::vs,d::ds,ps,hr,h,hs,hp=>by
  obtain⟨p,q,h1,h2,rfl⟩:=h
  simp only[Ny,Tq,Tm]at hr
  exact⟨p,q,WideElems.Trod_stays hl hr.1.1 hr.1.2 h1 (λx hx=>hs x (by simp[hx])) (λx hx=>hp x (by simp[hx])),Yau hl hr.2 h2 (λx hx=>hs x (by simp[hx])) (λx hx=>hp x (by simp[hx])),rfl⟩
theorem YvD{f:Func}{s:ChangeSpec}{apart fresh handsOn again:Bool}{W W':World}{args:Array Value}{ds gs:List (DataW H)}{before:List MemPlace}{tb:TypeId}(hl:laidOutB P=true)
 (hrd:(f.params.toList.all λt=>P.readableRec t&&decide (t<P.types.size))=true) (hv:s.vars=[]) (hrt:f.resultTypes=#[tb]) (htb:P.underlying tb=some .bool)
 (hW:DataW.Whole enc P f.params.toList s.vars apart W args.toList ds gs before) (hb:Below W.heap.size W W')
 (hres:(s.fn H (ds++gs)).results=[.lit (.bool true)]) (hargs:(s.fn H (ds++gs)).args=ds) (hvars:(s.fn H (ds++gs)).vars=[]):
 s.post enc P f apart fresh handsOn again W args (.bool true) W':=by
 have hlt:∀p∈before,p.block<W.heap.size:=λp hp=>hW.lt p hp
 have hW0:=hW
 obtain⟨p,q,hA,hV,rfl,hz,hn⟩:=hW
 rw[hv]at hV
 have hq:gs=[]/\q=[]:=by
  cases gs with
  |nil=>exact⟨rfl,hV⟩
  |cons _ _=>exact hV.elim
 obtain⟨rfl,rfl⟩:=hq
 have hkeep:∀sp:Nat->Bool,(∀x∈p++[],sp x.block=true)->DataW.TrodAll enc P W' 0 sp true f.params.toList args.toList ds p:=λsp hsp=>
  Yau hl hrd hA (λx hx=>hb.same (hlt x (by simp_all))) (λx hx=>hsp x (by simp_all))
 have hR:∀(b:Nat) (sp:Nat->Bool) (hd:Bool),DataW.TrodAll enc P W' b sp hd f.resultTypes.toList ((Value.bool true).resultList f.resultTypes.size) (s.fn H (ds++[])).results []:=by
  intro b sp hd
  rw[hres,hrt]
  exact trodAll_mk1 (shut_bool htb true)
 have hok:=ok_one (P:=P) (W':=W') (f:=f) (v:=.bool true) hrt rfl (okWide_bool_mk htb true)
 have hold:∀x∈p++[],(λb=>decide (b<W.heap.size)) x.block=true:=by simp_all
 refine⟨ds,[],p++[],[],p,[],hW0,hR _ _ _,by simp_all,by rw[hvars,hv];rfl,World.keptBut_mono (λx hx=>⟨hx,Or.inr (by simp_all)⟩) (hb.frame (·∈p++[])),λ_=>?_⟩
 refine⟨hok,_,_,([]++p)++[],⟨[]++p,[],trodAll_append (hkeep _ (λ_ _=>rfl)) (hR _ _ _),(show DataW.TrodVars enc P W' (λ_=>true) s.vars [] [] by rw[hv];rfl),rfl,?_,?_⟩,?_⟩
 ·intro b off hp
  have hin:MemPlace.cell b off∈p++[]:=by simp_all
  rw[hb.frozen (hlt _ hin)]
  exact hz b off hin
 all_goals simp_all
end
end Go.Proofs.YtjommdkgfbhbdaaGreatDoor
namespace Go.Rt
open Go.Nw
def Z6(far:List Int)(at_:Int)(best:Int)(a:Lk):Int:=if a.1=at_/\a.2.2+Yk far a.2.1=Yk far at_/\(best<0\/a.2.1<best)then a.2.1 else best
def XO(l:List Lk)(far:List Int)(at_:Int):Int:=l.foldl (Z6 far at_) (-1)
def Zd(l:List Lk)(far:List Int)(to:Int):Nat->Int->List Int
 |0,_=>[]
 |k+1,at_=>if at_=to then []else XO l far at_::Zd l far to k (XO l far at_)
def wayF(l:List Lk)(far:List Int)(s to:Int):List Int:=if Xr<=Yk far s then []else s::Zd l far to (Yk far s).toNat s
theorem Ydb(l:List Lk)(far:List Int)(to:Int):∀(k:Nat) (v:Int),(Zd l far to k v).length<=k
 |0,_=>TK _
 |k+1,v=>by
  have:=Ydb l far to k (XO l far v)
  unfold Zd
  grind
theorem Ysp(l:List Lk)(far:List Int)(s to:Int):(wayF l far s to).length<=1073741824:=by
 unfold wayF
 split
 ·simp_all
 grind [Ydb,Xr]
theorem Ym3(l:List Lk)(far:List Int)(at_:Int)(a:Lk):XO (l++[a]) far at_=Z6 far at_ (XO l far at_) a:=by
 grind [XO]
theorem Yrv(l:List Lk)(far:List Int)(at_:Int)(b0:Int):l.foldl (Z6 far at_) b0=b0\/∃a∈l,a.1=at_/\a.2.2+Yk far a.2.1=Yk far at_/\l.foldl (Z6 far at_) b0=a.2.1:=by
 induction l generalizing b0 with
 |nil=>simp_all
 |cons a l ih=>
  rw[List.foldl_cons]
  rcases ih (Z6 far at_ b0 a)with h|⟨c,hc,h⟩
  ·rw[h]
   unfold Z6
   grind
  grind
variable {l:List Lk}{far far':List Int}
theorem Yru{at_:Int}(hl:∀a∈l,0<=a.2.1)(b0:Int)(h:0<=b0\/∃a∈l,a.1=at_/\a.2.2+Yk far a.2.1=Yk far at_):0<=l.foldl (Z6 far at_) b0:=by
 induction l generalizing b0 with
 |nil=>
  simp_all
 |cons a l ih=>
  refine ih (λc hc=>hl c (TO _ hc)) _ ?_
  unfold Z6
  grind
variable {to v:Int}
theorem Yeb{nodes:Nat}(_hl:ArcsOk nodes l)(h:Dist nodes l to far)(h0:0<=v)(h1:v<nodes)(hne:v≠to)(hlt:Yk far v<Xr):∃a∈l,a.1=v/\a.2.2+Yk far a.2.1=Yk far v:=by
 obtain⟨a,ha,ha1,ha2⟩:=h.tight v h0 h1 hne hlt
 obtain⟨_,_,⟨h5,_⟩⟩:=_hl a ha
 have:=h.least a ha (by omega)
 grind
theorem YaB{nodes:Nat}(hl:ArcsOk nodes l)(h:Dist nodes l to far)(h0:0<=v)(h1:v<nodes)(hne:v≠to)(hlt:Yk far v<Xr):
 (0<=XO l far v/\XO l far v<nodes)/\Yk far (XO l far v)<Yk far v/\0<=Yk far (XO l far v)/\∃a∈l,a.1=v/\a.2.1=XO l far v/\a.2.2+Yk far (XO l far v)=Yk far v:=by
 have hge:0<=XO l far v:=Yru (λa ha=>(hl a ha).2.1.1) (-1) (.inr (Yeb hl h h0 h1 hne hlt))
 rcases Yrv l far v (-1)with h2|⟨a,ha,h3,h4,h5⟩
 ·grind [XO]
 ·obtain⟨_,⟨h6,h7⟩,⟨h8,_⟩⟩:=hl a ha
  have h9:XO l far v=a.2.1:=h5
  have:=(h.range a.2.1 h6 h7).1
  grind
theorem Ygg{nodes:Nat}(hl:ArcsOk nodes l)(h:Dist nodes l to far)(h':Dist nodes l to far'):∀(k:Nat) (v:Int),0<=v->v<nodes->Yk far v<Xr->(Yk far v).toNat<=k->Yk far' v<=Yk far v:=by
 intro k
 induction k with
 |zero=>
  intro v h0 h1 hlt hk
  by_cases hv:v=to
  ·rw[hv,h.to0,h'.to0];omega
  ·obtain⟨a,ha,ha1,ha2⟩:=Yeb hl h h0 h1 hv hlt
   obtain⟨_,⟨h3,h4⟩,⟨h5,_⟩⟩:=hl a ha
   have:=(h.range a.2.1 h3 h4).1
   omega
 |succ k ih=>
  intro v h0 h1 hlt hk
  by_cases hv:v=to
  ·rw[hv,h.to0,h'.to0];omega
  ·obtain⟨a,ha,ha1,ha2⟩:=Yeb hl h h0 h1 hv hlt
   obtain⟨_,⟨h3,h4⟩,⟨h5,_⟩⟩:=hl a ha
   have h7:=ih a.2.1 h3 h4 (by omega) (by omega)
   have h8:=h'.least a ha (by omega)
   grind
theorem YhJ{nodes:Nat}(hl:ArcsOk nodes l)(h:Dist nodes l to far)(h':Dist nodes l to far'):far=far':=by
 have key:∀v:Int,0<=v->v<nodes->Yk far v=Yk far' v:=by
  intro v h0 h1
  have r1:=h.range v h0 h1
  have r2:=h'.range v h0 h1
  rcases Int.lt_or_le (Yk far v) Xr with h2|h2
  ·have h3:=Ygg hl h h' _ v h0 h1 h2 (TK _)
   have h4:=Ygg hl h' h _ v h0 h1 (by omega) (TK _)
   omega
  ·rcases Int.lt_or_le (Yk far' v) Xr with h3|h3
   ·have h4:=Ygg hl h' h _ v h0 h1 h3 (TK _)
    omega
   ·omega
 apply Si
 all_goals grind [ZE,Go.Rt.Dist.len,Ry]
open Classical in
noncomputable def Uj(nodes:Nat)(l:List Lk)(to:Int):List Int:=if h:∃far,Dist nodes l to far then h.choose else []
theorem YhH{nodes:Nat}(hl:ArcsOk nodes l)(h:Dist nodes l to far):Uj nodes l to=far:=by
 unfold Uj
 rw[dif_pos ⟨far,h⟩]
 exact YhJ hl (Exists.choose_spec (⟨far,h⟩:∃far,Dist nodes l to far)) h
structure Ed where
 f:Int
 t:Int
 c:Int
 r:Int
def Vs(f t c:Int):List Ed:=[⟨f,t,c,1⟩,⟨t,f,-c,0⟩]
def Z4(closed:Int->Bool)(k:Nat):List Ed:=(List.range k).flatMap λv:Nat=>if closed (v:Int)=true then []else Vs (2*(v:Int)) (2*(v:Int)+1) 0
def UH(l:List Lk):List Ed:=l.flatMap λa=>Vs (2*a.1+1) (2*a.2.1) a.2.2
def Qx(nodes:Nat)(l:List Lk)(closed:Int->Bool):List Ed:=Z4 closed nodes++UH l
abbrev Ya7:=List Int×List Int×Bool
def Ut(i:Nat)(e:Ed)(st:Ya7):Ya7:=
 if 0<e.r/\Yk st.1 e.f<Xr/\Yk st.1 e.f+e.c<Yk st.1 e.t then(st.1.set e.t.toNat (Yk st.1 e.f+e.c),st.2.1.set e.t.toNat (i:Int),true)else st
def Xz:Nat->List Ed->Ya7->Ya7
 |_,[],st=>st
 |i,e::es,st=>Xz (i+1) es (Ut i e st)
def YaZ:Nat->List Ed->List Int->List Int->Option (List Int×List Int)
 |0,_,_,_=>none
 |k+1,es,far,by_=>if(Xz 0 es (far,by_,false)).2.2=true then YaZ k es (Xz 0 es (far,by_,false)).1 (Xz 0 es (far,by_,false)).2.1 else some ((Xz 0 es (far,by_,false)).1,(Xz 0 es (far,by_,false)).2.1)
def twin(i:Nat):Nat:=if i%2=0 then i+1 else i-1
def Ybw(es:List Ed)(i:Nat)(d:Int):List Ed:=match es[i]? with|some e=>es.set i {e with r:=e.r+d}|none=>es
def Yhv:Nat->List Ed->List Int->Int->Int->Option (List Ed)
 |0,_,_,_,_=>none
 |k+1,es,by_,s,at_=>
  if at_=s then some es else
   if Yk by_ at_<0 then none else
    match es[(Yk by_ at_).toNat]? with
    |none=>none
    |some e=>if es.length<=twin (Yk by_ at_).toNat then none else Yhv k (Ybw (Ybw es (Yk by_ at_).toNat (-1)) (twin (Yk by_ at_).toNat) 1) by_ s e.f
def Wv(sides:Nat)(s:Int):List Int:=(List.replicate sides Xr).set s.toNat 0
def YfD(fuel sides:Nat)(es:List Ed)(s t:Int):Option (Int×Bool×List Ed):=
 match YaZ fuel es (Wv sides s) (List.replicate sides (-1))with
 |none=>none
 |some (far,by_)=>if Xr<=Yk far t then some (0,false,es)else
  match Yhv fuel es by_ s t with
  |none=>none
  |some es'=>some (Yk far t,true,es')
def U6(a b to:Int)(closed:Int->Bool)(v:Int):Bool:=decide (v=a\/v=b\/v=to)||closed v
def QM(fuel nodes:Nat)(l:List Lk)(a b to:Int)(closed:Int->Bool):Option (Int×Bool×List Ed):=
 match YfD fuel (2*nodes) (Qx nodes l (U6 a b to closed)) (2*a+1) (2*to)with
 |none=>none
 |some (x,ok,es)=>
  match YfD fuel (2*nodes) es (2*b+1) (2*to)with
  |none=>none
  |some (y,is,es2)=>some (x+y,ok&&is,es2)
theorem Yah:∀(l:List Ed) (i:Nat) (e:Ed) (st:Ya7),Xz i (l++[e]) st=Ut (i+l.length) e (Xz i l st)
 |[],_,_,_=>rfl
 |x::l,i,e,st=>by
  show Xz (i+1) (l++[e]) (Ut i x st)=_
  rw[Yah l (i+1) e,Ro,show i+1+l.length=i+(l.length+1) by omega];rfl
def Ylh(sides:Nat)(es:List Ed):Prop:=∀e∈es,(0<=e.f/\e.f<sides)/\(0<=e.t/\e.t<sides)/\(-1000000<=e.c/\e.c<=1000000)/\(-1000000000<=e.r/\e.r<=1000000000)
structure RelOk(sides:Nat)(low:Int)(st:Ya7):Prop where
 l1:st.1.length=sides
 l2:st.2.1.length=sides
 low:∀v:Int,0<=v->v<sides->low<=Yk st.1 v/\Yk st.1 v<=Xr
variable {sides:Nat}{es:List Ed}
theorem YkO{low:Int}{st:Ya7}{e:Ed}{i:Nat}(hes:Ylh sides es)(he:e∈es)(h:RelOk sides low st):RelOk sides (low-1000000) (Ut i e st):=by
 obtain⟨⟨e1,e2⟩,⟨e3,e4⟩,⟨e5,e6⟩,_⟩:=hes e he
 unfold Ut
 split
 ·have hlt:e.t.toNat<st.1.length:=by rw[h.l1];omega
  refine⟨by grind [Go.Rt.RelOk.l1],by grind [Go.Rt.RelOk.l2],λv h0 h1=>?_⟩
  have h2:=h.low v h0 h1
  have h3:=h.low e.f e1 e2
  all_goals grind [Wg,W8]
 ·exact⟨h.l1,h.l2,λv h0 h1=>by have:=h.low v h0 h1;omega⟩
theorem Qt{sides:Nat}{es:List Ed}(hes:Ylh sides es):∀(l:List Ed) (i:Nat) (st:Ya7) (low:Int),(∀e∈l,e∈es)->RelOk sides low st->RelOk sides (low-1000000*l.length) (Xz i l st)
 |[],_,_,_,_,h=>by grind [Xz]
 |e::l,i,st,low,hl,h=>by
  have h1:=Qt hes l (i+1) (Ut i e st) (low-1000000) (λx hx=>hl x (TO _ hx)) (YkO hes (hl e TG) h)
  rw[Ro]
  have e1:low-1000000*((l.length+1:Nat):Int)=low-1000000-1000000*(l.length:Int):=by omega
  rw[e1];exact h1
def EdsIn(sides:Nat)(b:Int)(es:List Ed):Prop:=∀e∈es,(0<=e.f/\e.f<sides)/\(0<=e.t/\e.t<sides)/\(-1000000<=e.c/\e.c<=1000000)/\(-b<=e.r/\e.r<=b)
variable {b:Int}
theorem EdsIn.ok(h:EdsIn sides b es)(hb:b<=1000000000):Ylh sides es:=λe he=>by
 obtain⟨h1,h2,h3,h4⟩:=h e he
 omega
theorem EdsIn.mono{b':Int}(h:EdsIn sides b es)(hb:b<=b'):EdsIn sides b' es:=λe he=>by
 obtain⟨h1,h2,h3,h4⟩:=h e he
 omega
theorem Yiv(h:EdsIn sides b es)(i:Nat){d:Int}(hd: -1<=d/\d<=1):EdsIn sides (b+1) (Ybw es i d):=by
 unfold Ybw
 cases hi:es[i]? with
 |none=>exact h.mono (by omega)
 |some e=>
  intro x hx
  rcases List.mem_or_eq_of_mem_set hx with hx|rfl
  ·obtain⟨h1,h2,h3,h4⟩:=h x hx
   omega
  ·obtain⟨h1,h2,h3,h4⟩:=h e (Tc hi)
   grind
theorem Ysl(i:Nat):twin i≠i:=by grind [twin]
theorem Yn7{s:Int}(hs:0<=s/\s<sides)(b:List Int)(hb:b.length=sides)(ag:Bool):RelOk sides (-2000000000) (Wv sides s,b,ag):=by
 refine⟨by grind [Wv],hb,λv h0 h1=>?_⟩
 have hn:Xr=1073741824:=rfl
 unfold Wv
 by_cases hv:v=s
 ·grind [Wg]
 ·rw[W8 (by omega)]
  simp_all [Yk]
def sumW(w:Int->Nat)(far:List Int):Nat:=(far.map w).sum
def fin1(x:Int):Nat:=if x<Xr then 1 else 0
def cnt(far:List Int):Nat:=sumW fin1 far
def Ed8(sides:Nat)(es:List Ed):Prop:=∀e∈es,(0<=e.f/\e.f<sides)/\(0<=e.t/\e.t<sides)/\(-8<=e.c/\e.c<=8)
inductive Chain (es:List Ed) (by_:List Int) (s:Int) (T:Ed->Prop):Int->Nat->Prop
 |here:Chain es by_ s T s 0
 |step {v:Int}{n:Nat}{e:Ed}(hne:v≠s) (h0:0<=Yk by_ v) (hi:es[(Yk by_ v).toNat]? =some e) (ht:e.t=v) (hr:0<e.r) (hT:T e) (h:Chain es by_ s T e.f n):Chain es by_ s T v (n+1)
variable {es:List Ed}{by_:List Int}{s v:Int}{n:Nat}
theorem Chain.imp{T T':Ed->Prop}(hT:∀e∈es,0<e.r->T e->T' e)(h:Chain es by_ s T v n):Chain es by_ s T' v n:=by
 induction h with
 |here=>exact .here
 |step hne h0 hi ht hr hTe _ ih=>exact .step hne h0 hi ht hr (hT _ (Tc hi) hr hTe) ih
theorem Chain.uniq{T:Ed->Prop}{m:Nat}(h:Chain es by_ s T v n)(h':Chain es by_ s T v m):n=m:=by
 induction h generalizing m with
 |here=>
  cases h' with
  |here=>rfl
  |step hne=>omega
 |step hne h0 hi ht hr hT _ ih=>
  cases h' with
  |here=>omega
  |step hne' h0' hi' ht' hr' hT' h'=>
   grind
theorem Chain.nodes{T:Ed->Prop}(h:Chain es by_ s T v n):∃L:List Int,L.length=n/\L.Nodup/\∀x∈L,(∃e∈es,e.t=x)/\∃m,m<=n/\Chain es by_ s T x m:=by
 induction h with
 |here=>simp_all
 |@step v n e hne h0 hi ht hr hT h ih=>
  obtain⟨L,h1,h2,h3⟩:=ih
  refine⟨v::L,by simp[h1],List.nodup_cons.2 ⟨λhv=>?_,h2⟩,λx hx=>?_⟩
  ·obtain⟨_,m,hm,hc⟩:=h3 v hv
   have:=Chain.uniq hc (.step hne h0 hi ht hr hT h)
   omega
  ·rcases RA.1 hx with rfl|hx
   ·exact⟨⟨e,Tc hi,ht⟩,n+1,TK _,.step hne h0 hi ht hr hT h⟩
   grind
theorem nodup_len:∀(k:Nat) (L:List Int),L.Nodup->(∀x∈L,0<=x/\x<k)->L.length<=k
 |0,L,_,h=>by
  cases L with
  |nil=>simp_all
  |cons a l=>grind [TG]
 |k+1,L,hn,h=>by
  have h1:=nodup_len k (L.erase (k:Int)) (hn.erase _) λx hx=>by
   grind
  grind
theorem Chain.len{sides:Nat}(hes:Ed8 sides es){T:Ed->Prop}(h:Chain es by_ s T v n):n<=sides:=by
 obtain⟨L,h1,h2,h3⟩:=h.nodes
 rw[<-h1]
 refine nodup_len sides L h2 λx hx=>?_
 obtain⟨⟨e,he,rfl⟩,_⟩:=h3 x hx
 exact(hes e he).2.1
structure FA where
 f:Int
 t:Int
 c:Int
 u:Bool
abbrev E3:=Int×Int×Int
def Ypu(L:List FA):List E3:=L.map λx=>(x.f,x.t,x.c)
def Yvd(closed:Int->Bool)(k:Nat):List FA:=(List.range k).flatMap λv:Nat=>if closed (v:Int)=true then []else [⟨2*(v:Int),2*(v:Int)+1,0,false⟩]
def YvJ(l:List Lk):List FA:=l.map λa=>⟨2*a.1+1,2*a.2.1,a.2.2,false⟩
def YgU(nodes:Nat)(l:List Lk)(closed:Int->Bool):List FA:=Yvd closed nodes++YvJ l
def Arcs8(nodes:Nat)(l:List Lk):Prop:=∀a∈l,(0<=a.1/\a.1<nodes)/\(0<=a.2.1/\a.2.1<nodes)/\(1<=a.2.2/\a.2.2<=8)
def arc3(a:Lk):E3:=(2*a.1+1,2*a.2.1,a.2.2)
def Ybx(v:Int):E3:=(2*v,2*v+1,0)
theorem YdC{nodes:Nat}{l:List Lk}{closed:Int->Bool}{e:E3}:e∈Ypu (YgU nodes l closed)↔(∃v:Int,(0<=v/\v<nodes)/\closed v=false/\e=Ybx v)\/∃a∈l,e=arc3 a:=by
 unfold Ypu YgU
 rw[Rf,Rl]
 constructor
 ·rintro(h|h)
  ·obtain⟨x,hx,rfl⟩:=TD.1 h
   obtain⟨v,hv,h⟩:=SV.1 hx
   have hv:=TQ.1 hv
   cases hc:closed (v:Int)with
   |true=>simp_all
   |false=>
    rw[hc,Tj (by decide)]at h
    obtain rfl:=Ru.1 h
    exact .inl ⟨(v:Int),by omega,hc,rfl⟩
  ·obtain⟨x,hx,rfl⟩:=TD.1 h
   obtain⟨a,ha,rfl⟩:=TD.1 hx
   exact .inr ⟨a,ha,rfl⟩
 ·rintro(⟨v,⟨h0,h1⟩,hc,rfl⟩|⟨a,ha,rfl⟩)
  ·left
   refine TD.2 ⟨⟨2*v,2*v+1,0,false⟩,SV.2 ⟨v.toNat,TQ.2 (by omega),?_⟩,rfl⟩
   grind
  ·right
   exact TD.2 ⟨⟨2*a.1+1,2*a.2.1,a.2.2,false⟩,TD.2 ⟨a,ha,rfl⟩,rfl⟩
theorem O5{α β:Type}{f:α->β}(hf:∀a b,f a=f b->a=b){l:List α}(h:l.Nodup):(l.map f).Nodup:=
 by grind
theorem YoX(a b:Lk)(h:arc3 a=arc3 b):a=b:=by
 grind [arc3]
theorem YnL(a b:Int)(h:Ybx a=Ybx b):a=b:=by
 grind [Ybx]
theorem YoY(a:Lk)(v:Int):arc3 a≠Ybx v:=by
 grind [arc3,Ybx]
inductive Way (l:List Lk) (sh:Int->Bool) (to:Int):Int->List Lk->Prop
 |last {a:Lk}(ha:a∈l) (ht:a.2.1=to):Way l sh to a.1 [a]
 |step {a:Lk}{az:List Lk}(ha:a∈l) (hs:sh a.2.1=false) (h:Way l sh to a.2.1 az):Way l sh to a.1 (a::az)
def Q8:List Lk->List Int
 |[]=>[]
 |_::az=>az.map λa=>a.1
def eOf(az:List Lk):List E3:=az.map arc3++(Q8 az).map Ybx
variable {l az:List Lk}{sh:Int->Bool}{to u:Int}
theorem Way.cons_(h:Way l sh to u az):∃a az',az=a::az'/\a.1=u:=by
 cases h with
 |last ha ht=>simp_all
 |step ha hs h=>simp_all
theorem Way.inner_cons{a:Lk}(h:Way l sh to u az):Q8 (a::az)=u::Q8 az:=by
 obtain⟨b,bs,rfl,rfl⟩:=h.cons_
 rfl
theorem Way.mem(h:Way l sh to u az):∀a∈az,a∈l:=by
 induction h with
 |last ha ht=>simp_all
 |step ha hs h ih=>
  simp_all
theorem Way.open_(h:Way l sh to u az):∀v∈Q8 az,sh v=false:=by
 induction h with
 |last ha ht=>intro v hv;cases hv
 |step ha hs h ih=>
  intro v hv
  rw[h.inner_cons]at hv
  grind
structure Cand(l:List Lk)(sh:Int->Bool)(a b to:Int)(az bs:List Lk):Prop where
 p:Way l sh to a az
 q:Way l sh to b bs
 arcs:(az++bs).Nodup
 nodes:(Q8 az++Q8 bs).Nodup
theorem Yjc:∀{E M:List E3},E.Nodup->(∀e∈E,e∈M)->∃R,M.Perm (E++R)
 |[],M,_,_=>⟨M,.refl _⟩
 |e::E,M,hn,hm=>by
  obtain⟨h1,h2⟩:=List.nodup_cons.1 hn
  have hp:=List.perm_cons_erase (hm e TG)
  obtain⟨R,hR⟩:=Yjc (M:=M.erase e) h2 λx hx=>by
   grind
  exact⟨R,hp.trans (.cons _ hR)⟩
theorem Ypd(az bs:List Lk):(eOf az++eOf bs).Perm ((az++bs).map arc3++(Q8 az++Q8 bs).map Ybx):=by
 unfold eOf
 rw[Rf,Rf]
 rw[TV,TV]
 refine .append_left _ ?_
 rw[<-TV,<-TV]
 exact .append_right _ Np
theorem Cand.sub{nodes:Nat}{a b:Int}{bs:List Lk}(hl:Arcs8 nodes l)(h:Cand l sh a b to az bs):∃R,(Ypu (YgU nodes l sh)).Perm ((eOf az++eOf bs)++R):=by
 have hn:(eOf az++eOf bs).Nodup:=by
  rw[(Ypd az bs).nodup_iff]
  refine ND.2 ⟨O5 YoX h.arcs,O5 YnL h.nodes,λx hx y hy=>?_⟩
  obtain⟨c,_,rfl⟩:=TD.1 hx
  obtain⟨v,_,rfl⟩:=TD.1 hy
  exact YoY c v
 refine Yjc hn λe he=>?_
 have he:=(Ypd az bs).mem_iff.1 he
 rcases Rl.1 he with he|he
 ·obtain⟨c,hc,rfl⟩:=TD.1 he
  refine YdC.2 (.inr ⟨c,?_,rfl⟩)
  rcases Rl.1 hc with hc|hc
  ·exact h.p.mem c hc
  ·exact h.q.mem c hc
 ·obtain⟨v,hv,rfl⟩:=TD.1 he
  have hr:∀{u:Int}{cs:List Lk},Way l sh to u cs->v∈Q8 cs->0<=v/\v<nodes:=λhw hv=>by
   have:∃c∈l,c.1=v:=by
    obtain⟨c,cs',rfl,_⟩:=hw.cons_
    obtain⟨d,hd,rfl⟩:=TD.1 hv
    exact⟨d,hw.mem d (TO _ hd),rfl⟩
   obtain⟨c,hc,rfl⟩:=this
   exact(hl c hc).1
  rcases Rl.1 hv with hv|hv
  ·exact YdC.2 (.inl ⟨v,hr h.p hv,h.p.open_ v hv,rfl⟩)
  ·exact YdC.2 (.inl ⟨v,hr h.q hv,h.q.open_ v hv,rfl⟩)
def FirstMin{α:Type}(key:α->Int)(l:List α)(x:α):Prop:=∃l1 l2,l=l1++x::l2/\(∀y∈l1,key x<key y)/\∀y∈l2,key x<=key y
variable {α:Type}
theorem FirstMin.mem{key:α->Int}{l:List α}{x:α}(h:FirstMin key l x):x∈l:=by
 obtain⟨l1,l2,rfl,_⟩:=h
 simp_all
theorem FirstMin.le{key:α->Int}{l:List α}{x y:α}(h:FirstMin key l x)(hy:y∈l):key x<=key y:=by
 obtain⟨l1,l2,rfl,h1,h2⟩:=h
 grind
theorem FirstMin.uniq{key:α->Int}:∀{l:List α}{x y:α},FirstMin key l x->FirstMin key l y->x=y:=by
 intro l x y hx hy
 obtain⟨a1,a2,e1,p1,p2⟩:=hx
 obtain⟨b1,b2,e2,q1,q2⟩:=hy
 rw[e1]at e2
 rcases List.append_eq_append_iff.1 e2 with⟨c,h3,h4⟩|⟨c,h3,h4⟩
 ·cases c with
  |nil=>simp_all
  |cons z c=>
   grind
 ·cases c with
  |nil=>simp_all
  |cons z c=>
   grind
theorem FirstMin.one(key:α->Int)(x:α):FirstMin key [x] x:=⟨[],[],rfl,(λ_ hy=>absurd hy (SJ)),(λ_ hy=>absurd hy (SJ))⟩
theorem FirstMin.mid{key:α->Int}{l a b:List α}{x:α}(h:FirstMin key l x)(h1:∀y∈a,key x<key y)(h2:∀y∈b,key x<=key y):FirstMin key (a++l++b) x:=by
 obtain⟨l1,l2,rfl,p1,p2⟩:=h
 refine⟨a++l1,l2++b,by simp,λy hy=>?_,λy hy=>?_⟩
 all_goals grind
section
variable (st:Int->Int->Bool) (w:Int->Int->Int) (nodes:Nat) (to:Int)
def keyG:List Int->Int
 |[]=>0
 |[_]=>0
 |u::v::r=>w u v+keyG (v::r)
inductive PathG:Int->List Int->Prop
 |done:PathG to []
 |step {u v:Int}{r:List Int}(hu:u≠to) (hs:st u v=true) (hv:0<=v/\v<nodes) (h:PathG v r):PathG u (v::r)
end
variable {l:List Lk}
theorem Arcs8.ok{nodes:Nat}(h:Arcs8 nodes l):ArcsOk nodes l:=λa ha=>by
 obtain⟨h1,h2,h3⟩:=h a ha
 omega
theorem Arcs8.sub{nodes:Nat}{m:List Lk}(h:Arcs8 nodes l)(hm:∀a∈m,a∈l):Arcs8 nodes m:=λa ha=>h a (hm a ha)
section
variable {st:Int->Int->Bool}{w:Int->Int->Int}{l:List Lk}{nodes:Nat}{t:Int}
abbrev YvF(st:Int->Int->Bool)(nodes:Nat)(t u:Int)(ms:List Int):Prop:=PathG st nodes t u (ms++[t])
variable {u:Int}{p:List Int}
theorem PathG.mono{st2:Int->Int->Bool}(h:PathG st nodes t u p)(hs:∀x y,x=u\/x∈p->y∈p->st x y=true->st2 x y=true):PathG st2 nodes t u p:=by
 induction h with
 |done=>exact .done
 |@step u v r hu hst hv h ih=>
  refine .step hu (hs u v (.inl rfl) TG hst) hv (ih λx y hx hy hxy=>hs x y ?_ (TO _ hy) hxy)
  simp_all
theorem PathG.append{v:Int}{q:List Int}(h:PathG st nodes t u (p++v::q)):PathG st nodes t v q:=by
 induction p generalizing u with
 |nil=>cases h with|step _ _ _ h=>exact h
 |cons x p ih=>cases h with|step _ _ _ h=>exact ih h
end
end Go.Rt
namespace Go.Proofs
open Go.Shelf
def Tryz.sortCels_ren:Go.Shelf.Ren:=⟨λ|6=>125|15=>220|14=>219|28=>302|29=>303|20=>294|21=>295|22=>296|23=>297|24=>298|25=>299|26=>300|27=>301|46=>357|47=>358|48=>359|49=>360|50=>361|57=>403|n=>n,λ|22=>31|24=>162|25=>171|3=>3|39=>160|0=>0|53=>207|55=>209|4=>4|46=>308|45=>307|50=>104|5=>5|9=>9|66=>360|70=>364|76=>398|77=>399|n=>n,λ|n=>n⟩
theorem Tryz.sortCels:Go.Proofs.SlLaysF0.n6 Tryz.prog Tryz.sortCels_ren:={
 mixed:=by kernel_rfl
 f6:=⟨Tryz.f125.name,by decide,Tryz.func125.trans (TF some (by kernel_rfl))⟩
 f14:=⟨Tryz.f219.name,by decide,Tryz.func219.trans (TF some (by kernel_rfl))⟩
 f15:=Tryz.func220.trans (TF some (by kernel_rfl))
 f20:=⟨Tryz.f294.name,by decide,Tryz.func294.trans (TF some (by kernel_rfl))⟩
 f21:=⟨Tryz.f295.name,by decide,Tryz.func295.trans (TF some (by kernel_rfl))⟩
 f22:=⟨Tryz.f296.name,by decide,Tryz.func296.trans (TF some (by kernel_rfl))⟩
 f23:=⟨Tryz.f297.name,by decide,Tryz.func297.trans (TF some (by kernel_rfl))⟩
 f24:=⟨Tryz.f298.name,by decide,Tryz.func298.trans (TF some (by kernel_rfl))⟩
 f25:=⟨Tryz.f299.name,by decide,Tryz.func299.trans (TF some (by kernel_rfl))⟩
 f26:=⟨Tryz.f300.name,by decide,Tryz.func300.trans (TF some (by kernel_rfl))⟩
 f27:=⟨Tryz.f301.name,by decide,Tryz.func301.trans (TF some (by kernel_rfl))⟩
 f28:=Tryz.func302.trans (TF some (by kernel_rfl))
 f29:=Tryz.func303.trans (TF some (by kernel_rfl))
 f46:=⟨Tryz.f357.name,by decide,Tryz.func357.trans (TF some (by kernel_rfl))⟩
 f47:=Tryz.func358.trans (TF some (by kernel_rfl))
 f48:=Tryz.func359.trans (TF some (by kernel_rfl))
 f49:=⟨Tryz.f360.name,by decide,Tryz.func360.trans (TF some (by kernel_rfl))⟩
 f50:=⟨Tryz.f361.name,by decide,Tryz.func361.trans (TF some (by kernel_rfl))⟩
 f57:=⟨Tryz.f403.name,by decide,Tryz.func403.trans (TF some (by kernel_rfl))⟩
 t0:=Tryz.underlying0
 a0:=Tryz.isAgg0
 z0:=Tryz.sizeOf0
 v0:=Tryz.zeroValue0
 t3:=Tryz.underlying3
 a3:=Tryz.isAgg3
 z3:=Tryz.sizeOf3
 v3:=Tryz.zeroValue3
 t4:=Tryz.underlying4
 a4:=Tryz.isAgg4
 z4:=Tryz.sizeOf4
 v4:=Tryz.zeroValue4
 t5:=Tryz.underlying5
 a5:=Tryz.isAgg5
 z5:=Tryz.sizeOf5
 v5:=Tryz.zeroValue5
 t9:=Tryz.underlying9
 a9:=Tryz.isAgg9
 z9:=Tryz.sizeOf9
 v9:=Tryz.zeroValue9
 t22:=Tryz.underlying31
 a22:=Tryz.isAgg31
 z22:=Tryz.sizeOf31
 v22:=Tryz.zeroValue31
 t25:=Tryz.underlying171
 a25:=Tryz.isAgg171
 z25:=Tryz.sizeOf171
 v25:=Tryz.zeroValue171
 t39:=Tryz.underlying160
 a39:=Tryz.isAgg160
 z39:=Tryz.sizeOf160
 v39:=Tryz.zeroValue160
 t45:=Tryz.underlying307
 a45:=Tryz.isAgg307
 z45:=Tryz.sizeOf307
 v45:=Tryz.zeroValue307
 t46:=Tryz.underlying308
 a46:=Tryz.isAgg308
 z46:=Tryz.sizeOf308
 v46:=Tryz.zeroValue308
 t50:=Tryz.underlying104
 a50:=Tryz.isAgg104
 z50:=Tryz.sizeOf104
 v50:=Tryz.zeroValue104
 t53:=Tryz.underlying207
 a53:=Tryz.isAgg207
 z53:=Tryz.sizeOf207
 v53:=Tryz.zeroValue207
 t55:=Tryz.underlying209
 a55:=Tryz.isAgg209
 z55:=Tryz.sizeOf209
 v55:=Tryz.zeroValue209
 t66:=Tryz.underlying360
 a66:=Tryz.isAgg360
 z66:=Tryz.sizeOf360
 v66:=Tryz.zeroValue360
 t70:=Tryz.underlying364
 a70:=Tryz.isAgg364
 z70:=Tryz.sizeOf364
 v70:=Tryz.zeroValue364
 t76:=Tryz.underlying398
 a76:=Tryz.isAgg398
 z76:=Tryz.sizeOf398
 v76:=Tryz.zeroValue398
 t77:=Tryz.underlying399
 a77:=Tryz.isAgg399
 z77:=Tryz.sizeOf399
 v77:=Tryz.zeroValue399}
end Go.Proofs
