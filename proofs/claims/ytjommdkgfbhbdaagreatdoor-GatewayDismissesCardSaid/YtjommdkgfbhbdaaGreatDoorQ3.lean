/- Lemmas. -/
import Derived.Shelf.Strings.Builder1
import Derived.Shelf.Small.Bits
import Derived.Shelf.Small.Wraps
import Derived.Shelf.Strings.BuilderF
import Derived.Shelf.Strings.BuilderK
import Derived.Shelf.Strconv.Itoa0
import Derived.Shelf.Strconv.Itoa1
import Derived.Shelf.LaysM
import Derived.Shelf.Strconv.Itoa2
import Derived.Shelf.Strconv.Itoa3
import Derived.Shelf.Bits.Mul64
import Derived.Shelf.Strings.BuilderCap
import Derived.Shelf.Slices.Turned
import Derived.Shelf.Slices.Equal
import Derived.Ground.Names2Prog
import Derived.Shelf.Slices.Clone
import Derived.Shelf.Slices.SearchI
import Derived.Shelf.Slices.Empties2
import Derived.Test.YtjommdkgfbhbdaaGreatDoorProg
import Derived.Lib.Split
import Derived.Lib.ItoaNum
import Derived.Lib.AtoiAll
import Derived.Lib.AtoiTie
import Derived.ProofKit
import Derived.Below
import Derived.ChangeSame
import Derived.Carry
import Derived.Shelf.SlGeneric
import Derived.Shelf.SlSortCmp.WholeK
import Derived.Ground.SlsfProg
import Derived.Test.YtjommdkgfbhbdaaGreatDoorQ1
set_option maxRecDepth 100000
set_option maxHeartbeats 8000000
set_option linter.all false
namespace Go.Nw
abbrev Lk:=Int×Int×Int
structure Net where
 nodes:Int
 power:List (List Int)
 noise:Int
 thr:Int
 links:List Lk
 margin:List Int
def cmpI(x y:Int):Int:=if x<y then -1 else if y<x then 1 else 0
def cmpL(a b:Lk):Int:=if cmpI a.1 b.1=0 then cmpI a.2.1 b.2.1 else cmpI a.1 b.1
def ZA(p:Int):Bool:=decide (p<0\/68719476736<p)
def wide(k:Int)(r:List Int):Bool:=decide ((r.length:Int)≠k)
def JJ(n:Net):Int:=
 if(n.power.length:Int)≠n.nodes then 1 else if n.power.any (wide n.nodes)=true then 1 else if n.power.any (λr=>r.any ZA)=true then 2 else 0
def lnk(n:Net)(i:Nat):Lk:=n.links.getD i (0,0,0)
def mar(n:Net)(i:Nat):Int:=n.margin.getD i 0
def powr(n:Net)(a b:Int):Int:=(n.power.getD a.toNat []).getD b.toNat 0
def Wm(n:Net)(i:Nat):Int:=
 if¬(0<=(lnk n i).1/\(lnk n i).1<n.nodes)\/¬(0<=(lnk n i).2.1/\(lnk n i).2.1<n.nodes)\/(lnk n i).1=(lnk n i).2.1\/(lnk n i).2.2<0\/7<(lnk n i).2.2 then 2
 else if 0<i/\0<=cmpL (lnk n (i-1)) (lnk n i)then 5
 else if mar n i<0\/powr n (lnk n i).1 (lnk n i).2.1<mar n i then 2 else 0
def JE(n:Net):Nat->Nat->Int
 |0,_=>0
 |r+1,i=>if Wm n i=0 then JE n r (i+1)else Wm n i
def Yo(n:Net):Int:=
 if n.nodes<2\/32<n.nodes then 2 else if JJ n≠0 then JJ n
 else if n.noise<0\/68719476736<n.noise\/n.thr<1000\/100000<n.thr then 2
 else if 128<n.links.length then 8 else if n.margin.length≠n.links.length then 11 else JE n n.links.length 0
def Yp{α:Type}(p:α->Bool):List α->Int->Int
 |[],_=> -1
 |a::l,k=>if p a then k else Yp p l (k+1)
theorem Vc{α:Type}(p:α->Bool):∀(l:List α) (k:Int),0<=k->(0<=Yp p l k↔l.any p=true)
 |[],k,_=>by simp[Yp]
 |a::l,k,h=>by
  unfold Yp
  by_cases hp:p a=true
  ·simp_all
  ·rw[Tf hp,Vc p l (k+1) (by omega)]
   simp[hp]
theorem Jo{α:Type}(p:α->Bool)(l:List α){k:Nat}{a:α}(h:l[k]? =some a):Yp p (l.drop k) k=if p a then(k:Int)else Yp p (l.drop (k+1)) (k+1):=by
 grind [T0,Yp]
variable {i:Nat}
theorem Yid(n:Net)(h:i<n.links.length)(h0:Wm n i=0):JE n (n.links.length-i) i=JE n (n.links.length-(i+1)) (i+1):=by
 rw[show n.links.length-i=n.links.length-(i+1)+1 by omega,JE,To h0]
theorem Yie(n:Net)(h:i<n.links.length)(h0:Wm n i≠0):JE n (n.links.length-i) i=Wm n i:=by
 rw[show n.links.length-i=n.links.length-(i+1)+1 by omega,JE,Tf h0]
theorem YdG{n:Net}(h:JJ n=0):(n.power.length:Int)=n.nodes/\(∀r∈n.power,(r.length:Int)=n.nodes)/\∀r∈n.power,∀p∈r,0<=p/\p<=68719476736:=by
 unfold JJ at h
 by_cases h1:(n.power.length:Int)≠n.nodes
 ·omega
 by_cases h2:n.power.any (wide n.nodes)=true
 ·simp_all
 by_cases h3:n.power.any (λr=>r.any ZA)=true
 ·simp_all
 refine⟨by omega,λr hr=>?_,λr hr p hp=>?_⟩
 ·by_cases hw:(r.length:Int)=n.nodes
  ·exact hw
  ·exact absurd (TM.2 ⟨r,hr,by simp[wide,hw]⟩) h2
 ·by_cases ho:ZA p=true
  ·grind
  grind [ZA]
variable {x y a b:Int}
theorem YoH:cmpI x y<0↔x<y:=by grind [cmpI]
theorem cmpI_zero:cmpI x y=0↔x=y:=by grind [cmpI]
theorem Vq{a b:Lk}:cmpL a b<0↔a.1<b.1\/(a.1=b.1/\a.2.1<b.2.1):=by
 grind [YoH,cmpI_zero,cmpL]
theorem Ud{a b:Lk}:cmpL a b=0↔a.1=b.1/\a.2.1=b.2.1:=by
 grind [cmpI_zero,cmpL]
structure OkL(n:Net)(i:Nat):Prop where
 f0:0<=(lnk n i).1
 f1:(lnk n i).1<n.nodes
 t0:0<=(lnk n i).2.1
 t1:(lnk n i).2.1<n.nodes
 ne:(lnk n i).1≠(lnk n i).2.1
 l0:0<=(lnk n i).2.2
 l1:(lnk n i).2.2<=7
 ord:0<i->cmpL (lnk n (i-1)) (lnk n i)<0
 m0:0<=mar n i
 m1:mar n i<=powr n (lnk n i).1 (lnk n i).2.1
variable {n:Net}{i:Nat}
theorem YrU(h:Wm n i=0):OkL n i:=by
 unfold Wm at h
 by_cases h1:¬(0<=(lnk n i).1/\(lnk n i).1<n.nodes)\/¬(0<=(lnk n i).2.1/\(lnk n i).2.1<n.nodes)\/(lnk n i).1=(lnk n i).2.1\/(lnk n i).2.2<0\/7<(lnk n i).2.2
 ·omega
 by_cases h2:0<i/\0<=cmpL (lnk n (i-1)) (lnk n i)
 ·omega
 by_cases h3:mar n i<0\/powr n (lnk n i).1 (lnk n i).2.1<mar n i
 ·omega
 constructor<;>omega
structure Ok(n:Net):Prop where
 n0:2<=n.nodes
 n1:n.nodes<=32
 p0:(n.power.length:Int)=n.nodes
 p1:∀r∈n.power,(r.length:Int)=n.nodes
 p2:∀r∈n.power,∀p∈r,0<=p/\p<=68719476736
 z0:0<=n.noise
 z1:n.noise<=68719476736
 t0:1000<=n.thr
 t1:n.thr<=100000
 k0:n.links.length<=128
 k1:n.margin.length=n.links.length
 lk:∀i,i<n.links.length->OkL n i
theorem Yif{n:Net}:∀(r i:Nat),JE n r i=0->∀j,i<=j->j<i+r->OkL n j
 |0,_,_,j,h1,h2=>by omega
 |r+1,i,h,j,h1,h2=>by
  unfold JE at h
  by_cases h0:Wm n i=0
  ·rw[To h0]at h
   by_cases e:i=j
   ·grind [YrU]
   ·exact Yif r (i+1) h j (by omega) (by omega)
  omega
theorem YP(h:Yo n=0):Ok n:=by
 unfold Yo at h
 by_cases h1:n.nodes<2\/32<n.nodes
 ·omega
 rw[Tf h1]at h
 by_cases h2:JJ n≠0
 ·omega
 rw[Tf h2]at h
 by_cases h3:n.noise<0\/68719476736<n.noise\/n.thr<1000\/100000<n.thr
 ·omega
 rw[Tf h3]at h
 by_cases h4:128<n.links.length
 ·omega
 rw[Tf h4]at h
 by_cases h5:n.margin.length≠n.links.length
 ·omega
 rw[Tf h5]at h
 obtain⟨t1,t2,t3⟩:=YdG (Classical.not_not.1 h2)
 exact⟨by omega,by omega,t1,t2,t3,by omega,by omega,by omega,by omega,by omega,Classical.not_not.1 h5,λi hi=>Yif _ _ h i (Td _) (by omega)⟩
theorem YdE(h:Ok n):∀(i j:Nat),i<j->j<n.links.length->cmpL (lnk n i) (lnk n j)<0:=by
 intro i j
 induction j with
 |zero=>omega
 |succ j ih=>
  intro h1 h2
  have h3:=(h.lk (j+1) h2).ord (by omega)
  rw[NH]at h3
  by_cases e:i=j
  ·simp_all
  ·rw[Vq]at*
   omega
def Up(a b:Int)(l:Lk):Bool:=decide (l.1=a)&&decide (l.2.1=b)
def Yv(n:Net)(a b:Int):Int:=Yp (Up a b) n.links 0
theorem Qt{α:Type}{p:α->Bool}:∀{l:List α}{k:Int},(∀a∈l,p a=false)->Yp p l k= -1
 |[],_,_=>rfl
 |a::l,k,h=>by
  rw[Yp,h a TN,Tf (by simp)]
  exact Qt λb hb=>h b (TK _ hb)
theorem YcU{α:Type}{p:α->Bool}:∀{l:List α}{k:Int}{i:Nat}{a:α},l[i]? =some a->p a=true->(∀j b,j<i->l[j]? =some b->p b=false)->Yp p l k=k+i
 |[],_,_,_,h,_,_=>by simp at h
 |b::l,k,0,a,h,hp,_=>by
  simp_all [Yp]
 |b::l,k,i+1,a,h,hp,hn=>by
  have hb:=hn 0 b (by omega) (by simp)
  rw[Yp,Tf (by simp_all),YcU (i:=i) (a:=a) (by simp_all) hp λj c hj hc=>hn (j+1) c (by omega) (by simp_all)]
  omega
theorem OR{α:Type}{p:α->Bool}:∀{l:List α}{k:Int},0<=k->Yp p l k= -1\/(k<=Yp p l k/\Yp p l k<k+l.length)
 |[],_,_=>.inl rfl
 |a::l,k,h=>by
  unfold Yp
  by_cases hp:p a=true
  ·grind
  ·rcases @OR _ p l (k+1) (by omega)with h1|h1
   all_goals grind
theorem Qu{α:Type}{p:α->Bool}:∀{l:List α}{k:Int}{i:Nat},0<=k->Yp p l k=k+i->∃a,l[i]? =some a/\p a=true
 |[],k,i,h0,h=>by grind [Yp]
 |a::l,k,i,h0,h=>by
  unfold Yp at h
  by_cases hp:p a=true
  ·grind
  ·cases i with
   |zero=>
    grind [OR]
   |succ i=>
    obtain⟨b,h1,h2⟩:=Qu (p:=p) (i:=i) (l:=l) (k:=k+1) (by omega) (by omega)
    simp_all
theorem Jp{l:Lk}(h:n.links[i]? =some l):lnk n i=l:=by grind [lnk]
theorem Oj{z:Int}(h:n.margin[i]? =some z):mar n i=z:=by grind [mar]
theorem WQ(n:Net)(h:i<n.links.length):n.links[i]? =some (lnk n i):=by grind [lnk]
theorem YhJ(h:Ok n){c:Int}{k:Nat}(hk:k<=n.links.length)(h1:∀j,j<k->cmpL (lnk n j) (a,b,c)<0)(h2:∀j,k<=j->j<n.links.length->0<=cmpL (lnk n j) (a,b,c)):
 Yv n a b=if k<n.links.length/\cmpL (lnk n k) (a,b,c)=0 then(k:Int)else -1:=by
 unfold Yv
 have hlow:∀j l,j<k->n.links[j]? =some l->Up a b l=false:=by grind [Jp,Vq,Up]
 by_cases hc:k<n.links.length/\cmpL (lnk n k) (a,b,c)=0
 ·rw[To hc,YcU (WQ n hc.1) (by grind [Ud,Up]) hlow]
  omega
 ·rw[Tf hc]
  refine Qt λl hl=>?_
  obtain⟨j,hj,rfl⟩:=List.mem_iff_getElem.1 hl
  by_cases hjk:j<k
  ·exact hlow j _ hjk (Ta hj)
  ·have e:lnk n j=n.links[j]:=Jp (Ta hj)
   have h3:cmpL (lnk n j) (a,b,c)≠0:=by
    by_cases ejk:j=k
    ·grind
    ·intro e0
     have h4:=YdE h k j (by omega) hj
     have h5:=h2 k (TS _) (by omega)
     rw[Ud]at e0
     have h6:¬cmpL (lnk n k) (a,b,c)<0:=by omega
     simp_all [Vq]
   simp_all [Ud,Up]
def XM(n:Net)(s d:Int):Bool:=decide (n.thr*(n.noise+d)<=s*1000)
def Z4(n:Net)(i:Nat):Bool:=decide (0<=Yv n (lnk n i).2.1 (lnk n i).1)&&(XM n (mar n i) 0&&XM n (mar n (Yv n (lnk n i).2.1 (lnk n i).1).toNat) 0)
theorem YrG(h:Ok n){d:Int}(h0:0<=d)(h1:d<=8796093022208): -9223372036854775808<=n.thr*(n.noise+d)/\n.thr*(n.noise+d)<=9223372036854775807:=by
 have h2:=h.t0;have h3:=h.t1;have h4:=h.z0;have h5:=h.z1
 have h6:0<=n.thr*(n.noise+d):=Int.mul_nonneg (by omega) (by omega)
 have h7:n.thr*(n.noise+d)<=100000*(n.noise+d):=SD h3 (by omega)
 omega
theorem OW(h:Ok n)(hi:i<n.links.length):0<=mar n i/\mar n i<=68719476736:=by
 have hl:=h.lk i hi
 refine⟨hl.m0,NQ hl.m1 ?_⟩
 unfold powr
 have e1:(lnk n i).1.toNat<n.power.length:=by have:=h.p0;have:=hl.f1;have:=hl.f0;omega
 rw[show n.power.getD (lnk n i).1.toNat []=n.power[(lnk n i).1.toNat] by simp_all]
 have hm:=List.getElem_mem e1
 have e2:(lnk n i).2.1.toNat<(n.power[(lnk n i).1.toNat]).length:=by have:=h.p1 _ hm;have:=hl.t1;have:=hl.t0;omega
 rw[show(n.power[(lnk n i).1.toNat]).getD (lnk n i).2.1.toNat 0=(n.power[(lnk n i).1.toNat])[(lnk n i).2.1.toNat] by simp_all]
 exact(h.p2 _ hm _ (List.getElem_mem e2)).2
theorem XP(h:0<=Yv n a b):(Yv n a b).toNat<n.links.length:=by
 rcases @OR _ (Up a b) n.links 0 (by omega)with h1|h1<;>unfold Yv at h⊢<;>omega
theorem WJ(h:0<=Yv n a b):(lnk n (Yv n a b).toNat).1=a/\(lnk n (Yv n a b).toNat).2.1=b:=by
 obtain⟨l,h1,h2⟩:=@Qu _ (Up a b) n.links 0 (Yv n a b).toNat (by omega) (by grind [Yv])
 grind [Jp,Up]
end Go.Nw
namespace Go.Proofs.YtjommdkgfbhbdaaGreatDoor
def XW:List Int->List Int->Bool
 |[],b=>!b.isEmpty
 |_::_,[]=>false
 |a::l,b::m=>if a≠b then decide (a<b)else XW l m
theorem Yc4{a b:List Int}{i:Nat}{x y:Int}(hx:a[i]? =some x)(hy:b[i]? =some y):XW (a.drop i) (b.drop i)=if x≠y then decide (x<y)else XW (a.drop (i+1)) (b.drop (i+1)):=by
 obtain⟨h1,rfl⟩:=Tj.1 hx
 obtain⟨h2,rfl⟩:=Tj.1 hy
 rw[T0 h1,T0 h2]
 rfl
theorem Ypz:∀{a b:List Int},XW a b=false->XW b a=false->a=b
 |[],[],_,_=>rfl
 |[],b::m,h,_=>by simp[XW]at h
 |a::l,[],_,h=>by simp[XW]at h
 |a::l,b::m,h1,h2=>by
  unfold XW at h1 h2
  by_cases e:a=b
  ·subst e
   rw[Tf (λh=>h rfl)]at h1 h2
   rw[Ypz h1 h2]
  grind
theorem Yc5:∀a:List Int,XW a a=false
 |[]=>rfl
 |a::l=>by unfold XW;rw[Tf (λh=>h rfl)];exact Yc5 l
open Go.Nw
abbrev Cel:=Int×Int×Int×Int×Int
def nums(c:Cel):List Int:=[c.1,c.2.1,c.2.2.1,c.2.2.2.1,c.2.2.2.2]
def Xp(a b:Cel):Bool:=XW (nums a) (nums b)
variable {a b c:Cel}
theorem YpL(h:nums a=nums b):a=b:=by
 grind [nums]
theorem YeZ:∀{a b c:List Int},XW a b=true->XW b c=true->XW a c=true
 |_,_,[],_,h=>by cases‹List Int›<;>cases h
 |[],_,_::_,_,_=>rfl
 |_::_,[],_::_,h,_=>by cases h
 |x::a,y::b,z::c,h1,h2=>by
  unfold XW at h1 h2⊢
  by_cases e1:x=y
  ·subst e1
   rw[Tf (λh=>h rfl)]at h1
   by_cases e2:x=z
   ·subst e2
    rw[Tf (λh=>h rfl)]at h2⊢
    exact YeZ h1 h2
   simp_all
  grind
theorem Uc(h1:Xp a b=true)(h2:Xp b c=true):Xp a c=true:=YeZ h1 h2
theorem Ycb(a:Cel):Xp a a=false:=Yc5 _
theorem Ylj(h1:Xp a b=false)(h2:Xp b a=false):a=b:=YpL (Ypz h1 h2)
def insE(x n:Int):Bool:=decide (0<=x/\x<n)
structure Sch where
 len:Int
 off:Int
 cells:List Cel
def XB(s:Sch)(c:Cel):Bool:=insE c.1 s.len&&insE c.2.1 s.off
def XA(s:Sch)(c:Cel):Bool:=XB s c&&insE c.2.2.1 32&&insE c.2.2.2.1 32&&insE c.2.2.2.2 256
def Zf(s:Sch):Bool:=decide (1<=s.len/\s.len<=512/\1<=s.off/\s.off<=16)
def Yl(s:Sch)(i:Nat):Cel:=s.cells.getD i (0,0,0,0,0)
def Zh(s:Sch)(i:Nat):Bool:=XA s (Yl s i)&&(decide (i=0)||Xp (Yl s (i-1)) (Yl s i))
def Xh(s:Sch):Bool:=Zf s&&decide (s.cells.length<=512)&&(List.range s.cells.length).all (Zh s)
variable {p:Nat->Bool}{k i:Nat}
theorem Wx:(List.range (k+1)).all p=((List.range k).all p&&p k):=by
 grind
theorem YfO(hi:i<k)(h:p i=false):(List.range k).all p=false:=by
 grind
theorem YfN(h:(List.range k).all p=true)(hi:i<k):p i=true:=by simp_all
variable {s:Sch}
theorem X9(h:s.cells[i]? =some c):Yl s i=c:=by
 grind [Yl]
theorem YS(h:i<s.cells.length):s.cells[i]? =some (Yl s i):=by
 grind [Yl]
theorem Jc(h:i<s.cells.length):Yl s i∈s.cells:=Tc (YS h)
structure Frm(s:Sch):Prop where
 sized:Zf s=true
 few:s.cells.length<=512
 formed:∀c∈s.cells,XA s c=true
 ord:s.cells.Pairwise λa b=>Xp a b=true
theorem QH{α:Type}{lt:α->α->Bool}(htr:∀{a b c},lt a b=true->lt b c=true->lt a c=true){l:List α}(h:∀i,∀a b,l[i]? =some a->l[i+1]? =some b->lt a b=true):l.Pairwise λa b=>lt a b=true:=by
 induction l with
 |nil=>simp_all
 |cons x l ih=>
  have h1:=ih λi a b ha hb=>h (i+1) a b (by simp_all) (by simp_all)
  refine .cons (λy hy=>?_) h1
  cases l with
  |nil=>cases hy
  |cons z l=>
   have hz:=h 0 x z rfl rfl
   grind [RS]
theorem Xm:Xh s=true↔Frm s:=by
 unfold Xh
 simp only[Tq,Tm]
 constructor
 ·rintro⟨⟨h1,h2⟩,h3⟩
  have hc:∀i,i<s.cells.length->Zh s i=true:=by simp_all
  refine⟨h1,h2,λc hc2=>?_,?_⟩
  ·obtain⟨i,hi⟩:=TL.1 hc2
   have:=hc i (Tj.1 hi).1
   simp_all [Zh,X9]
  ·refine QH (lt:=Xp) (λh1 h2=>Uc h1 h2) λi a b ha hb=>?_
   have:=hc (i+1) (Tj.1 hb).1
   simp_all [Zh,X9]
 ·intro h
  refine⟨⟨h.sized,h.few⟩,Rh.2 λi hi=>?_⟩
  have hi:=Rq.1 hi
  unfold Zh
  rw[h.formed _ (Jc hi),RN,R7,Tm]
  rcases RU i with h0|h0
  ·omega
  ·obtain⟨h1,h2⟩:=Tj.1 (YS (s:=s) (i:=i-1) (by omega))
   obtain⟨h3,h4⟩:=Tj.1 (YS (s:=s) hi)
   grind [TT,Go.Proofs.YtjommdkgfbhbdaaGreatDoor.Frm.ord]
abbrev Flw:=Int×Int×Int×Int×Int×Int
def Xl(nodes:Int)(f:Flw):Int:=
 if f.1<0\/255<f.1\/insE f.2.1 nodes=false\/insE f.2.2.1 nodes=false then 2
 else if f.2.2.2.1<1\/512<f.2.2.2.1\/f.2.2.2.2.1<0\/f.2.2.2.1<=f.2.2.2.2.1\/f.2.2.2.2.2<1\/f.2.2.2.1<f.2.2.2.2.2 then 2
 else if f.2.1=f.2.2.1 then 1 else 0
def Y4(l:List Flw)(i:Nat):Flw:=l.getD i (0,0,0,0,0,0)
def Yz(f:Nat->Int):Nat->Nat->Int×Int
 |0,_=>(-1,0)
 |r+1,i=>if f i=0 then Yz f r (i+1)else((i:Int),f i)
theorem YF{f:Nat->Int}:∀{r i:Nat},(Yz f r i).2=0↔∀k,i<=k->k<i+r->f k=0
 |0,i=>by grind [Yz]
 |r+1,i=>by
  unfold Yz
  split
  ·rw[YF]
   grind
  grind
theorem YcJ{f:Nat->Int}:∀{r i:Nat},(Yz f r i).2=0->(Yz f r i).1= -1
 |0,i,_=>rfl
 |r+1,i,h=>by
  unfold Yz at h⊢
  split at h
  ·rw[To ‹_›];exact YcJ h
  omega
theorem Qp{f g:Nat->Int}:∀{r i:Nat},(∀k,i<=k->k<i+r->(∀j,i<=j->j<k->f j=0)->f k=g k)->Yz f r i=Yz g r i
 |0,i,_=>rfl
 |r+1,i,h=>by
  unfold Yz
  have h0:=h i (TS _) (by omega) (λj h1 h2=>by omega)
  rw[<-h0]
  by_cases hz:f i=0
  ·rw[To hz,To hz]
   refine Qp λk h1 h2 h3=>h k (by omega) (by omega) λj h4 h5=>?_
   grind
  simp_all
def YV(nodes:Int)(l:List Flw)(i:Nat):Int:=if Xl nodes (Y4 l i)≠0 then Xl nodes (Y4 l i)else if 0<i/\(Y4 l i).1<=(Y4 l (i-1)).1 then 5 else 0
def Yt(nodes:Int)(l:List Flw):Int×Int:=
 if nodes<2\/32<nodes then(-1,2)else if 16<l.length then(-1,8)else Yz (YV nodes l) l.length 0
def Zr(l:List Flw)(id:Int):Int:=Yp (λf=>decide (f.1=id)) l 0
end Go.Proofs.YtjommdkgfbhbdaaGreatDoor
namespace Go.Nw
theorem nodup_len:∀(N:Nat) (l:List Int),l.Nodup->(∀x∈l,0<=x/\x<N)->l.length<=N
 |0,l,_,h=>by
  cases l with
  |nil=>simp
  |cons a l=>grind [TN]
 |N+1,l,hn,h=>by
  have h1:=nodup_len N (l.erase (N:Int)) (hn.erase _) (λx hx=>by
   grind)
  grind
end Go.Nw
namespace Go.Proofs
open Go.Shelf
def Tryz.lays169_ren:Go.Shelf.Ren:=⟨λ|169=>84|n=>n,λ|70=>118|9=>9|0=>0|72=>121|37=>119|127=>205|3=>3|5=>5|n=>n,λ|n=>n⟩
theorem Tryz.lays169:Go.Proofs.Lays.n169 Tryz.prog Tryz.lays169_ren:={
 mixed:=by kernel_rfl
 f169:=Tryz.func84.trans (TA some (by kernel_rfl))
 t0:=Tryz.underlying0
 a0:=Tryz.isAgg0
 z0:=Tryz.sizeOf0
 v0:=Tryz.zeroValue0
 t3:=Tryz.underlying3
 a3:=Tryz.isAgg3
 z3:=Tryz.sizeOf3
 v3:=Tryz.zeroValue3
 t9:=Tryz.underlying9
 a9:=Tryz.isAgg9
 z9:=Tryz.sizeOf9
 v9:=Tryz.zeroValue9
 t37:=Tryz.underlying119
 a37:=Tryz.isAgg119
 z37:=Tryz.sizeOf119
 v37:=Tryz.zeroValue119
 t70:=Tryz.underlying118
 a70:=Tryz.isAgg118
 z70:=Tryz.sizeOf118
 v70:=Tryz.zeroValue118
 t72:=Tryz.underlying121
 a72:=Tryz.isAgg121
 z72:=Tryz.sizeOf121
 v72:=Tryz.zeroValue121
 t127:=Tryz.underlying205
 a127:=Tryz.isAgg205
 z127:=Tryz.sizeOf205
 v127:=Tryz.zeroValue205}
theorem Tryz.Builder_Extra_169:Builder.Extra Tryz.prog Tryz.lays169_ren:={
 sizeBuilder:=by kernel_rfl
 liesBuilder:=by kernel_rfl
 t5:=Tryz.underlying5
 a5:=Tryz.isAgg5
 z5:=Tryz.sizeOf5
 v5:=Tryz.zeroValue5
 infoByte:=by kernel_rfl
 cellsByte:=by kernel_rfl
 sizeByte:=by kernel_rfl
 neB5:=by decide}
open Go.RowKit in
theorem Tryz.Builder_String_any(B b:Nat)(l:List UInt8)(w:World)(h:Lib.IsBuilder 121 5 B b (Lib.byteCells l) w)(hBw:B<=w.heap.size):
 Calls Tryz.prog 84 #[.pointer (some ⟨b,0,none⟩)] w λe w'=>e=.returned (.string ⟨l.toArray⟩)/\Below B w w':=Any.Builder_String_any Tryz.lays169 Tryz.Builder_Extra_169 B b l w h hBw
def Tryz.laysM171_ren:Go.Shelf.Ren:=⟨λ|171=>166|243=>247|246=>316|283=>377|284=>378|285=>379|286=>380|129=>303|317=>415|318=>416|319=>417|320=>418|337=>427|338=>428|n=>n,λ|3=>3|9=>9|2=>2|4=>4|171=>383|0=>0|53=>209|37=>119|5=>5|173=>385|212=>415|51=>207|20=>20|213=>416|46=>160|232=>431|233=>432|n=>n,λ|17=>0|18=>1|19=>2|n=>n⟩
theorem Tryz.laysM171:Go.Proofs.LaysM.n171 Tryz.prog Tryz.laysM171_ren:={
 mixed:=by kernel_rfl
 f129:=Tryz.func303.trans (TA some (by kernel_rfl))
 f171:=Tryz.func166.trans (TA some (by kernel_rfl))
 f243:=Tryz.func247.trans (TA some (by kernel_rfl))
 f246:=Tryz.func316.trans (TA some (by kernel_rfl))
 f283:=Tryz.func377.trans (TA some (by kernel_rfl))
 f284:=Tryz.func378.trans (TA some (by kernel_rfl))
 f285:=Tryz.func379.trans (TA some (by kernel_rfl))
 f286:=Tryz.func380.trans (TA some (by kernel_rfl))
 f317:=Tryz.func415.trans (TA some (by kernel_rfl))
 f318:=Tryz.func416.trans (TA some (by kernel_rfl))
 f319:=Tryz.func417.trans (TA some (by kernel_rfl))
 f320:=Tryz.func418.trans (TA some (by kernel_rfl))
 f337:=Tryz.func427.trans (TA some (by kernel_rfl))
 f338:=Tryz.func428.trans (TA some (by kernel_rfl))
 t0:=Tryz.underlying0
 a0:=Tryz.isAgg0
 z0:=Tryz.sizeOf0
 v0:=Tryz.zeroValue0
 t2:=Tryz.underlying2
 a2:=Tryz.isAgg2
 z2:=Tryz.sizeOf2
 v2:=Tryz.zeroValue2
 t3:=Tryz.underlying3
 a3:=Tryz.isAgg3
 z3:=Tryz.sizeOf3
 v3:=Tryz.zeroValue3
 t4:=Tryz.underlying4
 a4:=Tryz.isAgg4
 z4:=Tryz.sizeOf4
 v4:=Tryz.zeroValue4
 t5:=Tryz.underlying5
 a5:=Tryz.isAgg5
 z5:=Tryz.sizeOf5
 v5:=Tryz.zeroValue5
 t9:=Tryz.underlying9
 a9:=Tryz.isAgg9
 z9:=Tryz.sizeOf9
 v9:=Tryz.zeroValue9
 t20:=Tryz.underlying20
 a20:=Tryz.isAgg20
 z20:=Tryz.sizeOf20
 v20:=Tryz.zeroValue20
 t37:=Tryz.underlying119
 a37:=Tryz.isAgg119
 z37:=Tryz.sizeOf119
 v37:=Tryz.zeroValue119
 t46:=Tryz.underlying160
 a46:=Tryz.isAgg160
 z46:=Tryz.sizeOf160
 v46:=Tryz.zeroValue160
 t51:=Tryz.underlying207
 a51:=Tryz.isAgg207
 z51:=Tryz.sizeOf207
 v51:=Tryz.zeroValue207
 t53:=Tryz.underlying209
 a53:=Tryz.isAgg209
 z53:=Tryz.sizeOf209
 v53:=Tryz.zeroValue209
 t171:=Tryz.underlying383
 a171:=Tryz.isAgg383
 z171:=Tryz.sizeOf383
 v171:=Tryz.zeroValue383
 t173:=Tryz.underlying385
 a173:=Tryz.isAgg385
 z173:=Tryz.sizeOf385
 v173:=Tryz.zeroValue385
 t212:=Tryz.underlying415
 a212:=Tryz.isAgg415
 z212:=Tryz.sizeOf415
 v212:=Tryz.zeroValue415
 t213:=Tryz.underlying416
 a213:=Tryz.isAgg416
 z213:=Tryz.sizeOf416
 t232:=Tryz.underlying431
 a232:=Tryz.isAgg431
 z232:=Tryz.sizeOf431
 v232:=Tryz.zeroValue431
 t233:=Tryz.underlying432
 a233:=Tryz.isAgg432
 z233:=Tryz.sizeOf432
 v233:=Tryz.zeroValue432
 g17:=by kernel_rfl
 g18:=by kernel_rfl
 g19:=by kernel_rfl
 i0:=by kernel_rfl
 i2:=by kernel_rfl
 i3:=by kernel_rfl
 i4:=by kernel_rfl
 i5:=by kernel_rfl
 i9:=by kernel_rfl
 i20:=by kernel_rfl
 i37:=by kernel_rfl
 i46:=by kernel_rfl
 i51:=by kernel_rfl
 i53:=by kernel_rfl
 i171:=by kernel_rfl
 i173:=by kernel_rfl
 i212:=by kernel_rfl
 i232:=by kernel_rfl
 i233:=by kernel_rfl
 m17:=by kernel_rfl
 m18:=by kernel_rfl
 m19:=by kernel_rfl}
open Go.RowKit Go.Sort Go.Lib in
theorem Tryz.strconv_Itoa(n:Int)(h0: -9223372036854775808<=n)(h1:n<=9223372036854775807)(w:World)(htab:Lib.TabIs Tryz.prog w "internal/strconv.uint64pow10" .u64 Lib.pow10Tab):
 Calls Tryz.prog 166 #[.int .i64 n] w λe w'=>e=.returned (.string ⟨(Lib.itoa n).toArray⟩)/\∃k os,w'=grow (w.drewN k) os:=Any.strconv_Itoa Tryz.laysM171 n h0 h1 w htab
def Tryz.lays212_ren:Go.Shelf.Ren:=⟨λ|212=>411|263=>424|264=>425|n=>n,λ|46=>160|51=>207|146=>426|53=>209|148=>428|n=>n,λ|n=>n⟩
theorem Tryz.lays212:Go.Proofs.Lays.n212 Tryz.prog Tryz.lays212_ren:={
 mixed:=by kernel_rfl
 f212:=Tryz.func411.trans (TA some (by kernel_rfl))
 f263:=Tryz.func424.trans (TA some (by kernel_rfl))
 f264:=Tryz.func425.trans (TA some (by kernel_rfl))
 t46:=Tryz.underlying160
 a46:=Tryz.isAgg160
 z46:=Tryz.sizeOf160
 v46:=Tryz.zeroValue160
 t51:=Tryz.underlying207
 a51:=Tryz.isAgg207
 z51:=Tryz.sizeOf207
 v51:=Tryz.zeroValue207
 t53:=Tryz.underlying209
 a53:=Tryz.isAgg209
 z53:=Tryz.sizeOf209
 v53:=Tryz.zeroValue209
 t146:=Tryz.underlying426
 a146:=Tryz.isAgg426
 z146:=Tryz.sizeOf426
 v146:=Tryz.zeroValue426
 t148:=Tryz.underlying428
 a148:=Tryz.isAgg428
 z148:=Tryz.sizeOf428
 v148:=Tryz.zeroValue428}
open Go.RowKit Go.Lib in
theorem Tryz.bits_Mul(x y:Nat)(hx:x<18446744073709551616)(hy:y<18446744073709551616)(w:World):
 Calls Tryz.prog 411 #[.int .u64 x,.int .u64 y] w λe w'=>e=.returned (.tuple #[.int .u64 ((x*y/18446744073709551616:Nat):Int),.int .u64 ((x*y%18446744073709551616:Nat):Int)])/\w'=w:=Any.bits_Mul Tryz.lays212 x y hx hy w
end Go.Proofs
namespace Go.Rt
open Go.Nw
def Xy:Int:=1073741824
def Yk(far:List Int)(v:Int):Int:=far.getD v.toNat 0
def ArcsOk(nodes:Nat)(l:List Lk):Prop:=∀a∈l,(0<=a.1/\a.1<nodes)/\(0<=a.2.1/\a.2.1<nodes)/\(1<=a.2.2/\a.2.2<=1000000)
structure Dist(nodes:Nat)(l:List Lk)(to:Int)(far:List Int):Prop where
 len:far.length=nodes
 to0:Yk far to=0
 range:∀v:Int,0<=v->v<nodes->0<=Yk far v/\Yk far v<=Xy
 tight:∀v:Int,0<=v->v<nodes->v≠to->Yk far v<Xy->∃a∈l,a.1=v/\Yk far a.2.1+a.2.2<=Yk far v
 least:∀a∈l,Yk far a.2.1<Xy->Yk far a.1<=Yk far a.2.1+a.2.2
structure DInv(nodes:Nat)(l:List Lk)(to:Int)(far:List Int)(q:List (Int×Int))(v:Int)(rest:List Lk):Prop where
 len:far.length=nodes
 to0:Yk far to=0
 range:∀v:Int,0<=v->v<nodes->0<=Yk far v/\Yk far v<=Xy
 tight:∀v:Int,0<=v->v<nodes->v≠to->Yk far v<Xy->∃a∈l,a.1=v/\Yk far a.2.1+a.2.2<=Yk far v
 pend:∀a∈l,Yk far a.2.1<Xy->Yk far a.1<=Yk far a.2.1+a.2.2\/(a.2.1,Yk far a.2.1)∈q\/(a.2.1=v/\a∈rest)
 items:∀x∈q,(0<=x.1/\x.1<nodes)/\Yk far x.1<=x.2/\x.2<Xy
def Jv(far:List Int)(q:List (Int×Int)):Nat:=2*(far.map Int.toNat).sum+q.length
variable {far:List Int}{i x to v:Int}
theorem UP(h:i.toNat<far.length):Yk (far.set i.toNat x) i=x:=by
 grind [Yk]
theorem WG{j:Int}(h:i.toNat≠j.toNat):Yk (far.set i.toNat x) j=Yk far j:=by
 grind [Yk]
theorem Zu(h:i.toNat<far.length):far[i.toNat]? =some (Yk far i):=by
 grind [Yk]
theorem Ysr{i:Nat}(h:i<far.length)(h0:0<=x)(hx:x<far.getD i 0):((far.set i x).map Int.toNat).sum+1<=(far.map Int.toNat).sum:=by
 induction far generalizing i with
 |nil=>simp at h
 |cons a l ih=>
  cases i with
  |zero=>
   grind
  |succ i=>
   grind
variable {l rest:List Lk}
theorem YjM{nodes:Nat}(hl:ArcsOk nodes l)(h0:0<=to)(h1:to<nodes):DInv nodes l to ((List.replicate nodes Xy).set to.toNat 0) [(to,0)] 0 []:=by
 have hlen:to.toNat<(List.replicate nodes Xy).length:=by simp_all
 have hself:=UP (far:=List.replicate nodes Xy) (i:=to) (x:=0) hlen
 have hrep:∀v:Int,0<=v->v<nodes->Yk (List.replicate nodes Xy) v=Xy:=by
  simp_all [Yk]
 have hoth:∀v:Int,0<=v->v<nodes->v≠to->Yk ((List.replicate nodes Xy).set to.toNat 0) v=Xy:=by
  grind [WG]
 refine⟨by simp,hself,?_,?_,?_,?_⟩
 ·intro v hv hv2
  by_cases e:v=to
  ·subst e;rw[hself];exact⟨RP _,by decide⟩
  ·rw[hoth v hv hv2 e];exact⟨by decide,RP _⟩
 ·simp_all
 ·intro a ha hlt
  obtain⟨_,⟨h3,h4⟩,_⟩:=hl a ha
  grind
 ·intro x hx
  obtain rfl:x=(to,0):=by simp_all
  exact⟨⟨h0,h1⟩,by simp_all,show(0:Int)<1073741824 by decide⟩
variable {q q':List (Int×Int)}
theorem YmS{nodes:Nat}{x:Int×Int}(h:DInv nodes l to far q 0 [])(hp:(x::q').Perm q)(hx:Yk far x.1<x.2):DInv nodes l to far q' 0 []:=by
 refine⟨h.len,h.to0,h.range,h.tight,?_,λy hy=>h.items y (hp.mem_iff.1 (TK _ hy))⟩
 intro a ha hlt
 rcases h.pend a ha hlt with h1|h1|⟨_,h1⟩
 all_goals grind
theorem YmR{nodes:Nat}{x:Int×Int}(h:DInv nodes l to far q 0 [])(hp:(x::q').Perm q):DInv nodes l to far q' x.1 l:=by
 refine⟨h.len,h.to0,h.range,h.tight,?_,λy hy=>h.items y (hp.mem_iff.1 (TK _ hy))⟩
 intro a ha hlt
 rcases h.pend a ha hlt with h1|h1|⟨_,h1⟩
 all_goals grind
theorem YoO{nodes:Nat}(h:DInv nodes l to far q v []):DInv nodes l to far q 0 []:=by
 refine⟨h.len,h.to0,h.range,h.tight,λa ha hlt=>?_,h.items⟩
 rcases h.pend a ha hlt with h1|h1|⟨_,h1⟩
 all_goals simp_all
theorem YmQ{nodes:Nat}(h:DInv nodes l to far [] 0 []):Dist nodes l to far:=by
 refine⟨h.len,h.to0,h.range,h.tight,λa ha hlt=>?_⟩
 rcases h.pend a ha hlt with h1|h1|⟨_,h1⟩
 all_goals simp_all
variable {a:Lk}
theorem Yrz{nodes:Nat}(h:DInv nodes l to far q v (a::rest))(hn:¬(a.2.1=v/\Yk far v+a.2.2<Yk far a.1)):DInv nodes l to far q v rest:=by
 refine⟨h.len,h.to0,h.range,h.tight,?_,h.items⟩
 intro b hb hlt
 rcases h.pend b hb hlt with h1|h1|⟨h1,h2⟩
 all_goals grind
theorem YoP{nodes:Nat}{d:Int}(hl:ArcsOk nodes l)(hv:0<=v/\v<nodes)(hd:Yk far v=d)(hal:a∈l)(h:DInv nodes l to far q v (a::rest))(h1:a.2.1=v)(h2:d+a.2.2<Yk far a.1)(hp:q'.Perm ((a.1,d+a.2.2)::q)):
 DInv nodes l to (far.set a.1.toNat (d+a.2.2)) q' v rest/\Yk (far.set a.1.toNat (d+a.2.2)) v=d/\Jv (far.set a.1.toNat (d+a.2.2)) q'+1<=Jv far q:=by
 obtain⟨⟨a1,a2⟩,_,⟨a5,a6⟩⟩:=hl a hal
 have hlen:=h.len
 have hlt:a.1.toNat<far.length:=by omega
 have hself:=UP (far:=far) (i:=a.1) (x:=d+a.2.2) hlt
 obtain⟨r1,r2⟩:=h.range v hv.1 hv.2
 obtain⟨r3,r4⟩:=h.range a.1 a1 a2
 have hoth:∀u:Int,0<=u->u≠a.1->Yk (far.set a.1.toNat (d+a.2.2)) u=Yk far u:=by grind [WG]
 have hle:∀u:Int,0<=u->Yk (far.set a.1.toNat (d+a.2.2)) u<=Yk far u:=by
  grind
 have hto:Yk (far.set a.1.toNat (d+a.2.2)) to=0:=by
  by_cases e:to.toNat=a.1.toNat
  ·have:Yk far a.1=0:=by
    have h5:=h.to0
    grind [Yk]
   omega
  ·rw[WG (λh=>e h.symm)];exact h.to0
 refine⟨⟨by simp_all,hto,?_,?_,?_,?_⟩,by grind,?_⟩
 ·intro u hu hu2
  by_cases e:u=a.1
  ·grind
  ·rw[hoth u hu e];exact h.range u hu hu2
 ·intro u hu hu2 hut hul
  by_cases e:u=a.1
  ·grind
  ·rw[hoth u hu e]at hul⊢
   obtain⟨b,hb,hb1,hb2⟩:=h.tight u hu hu2 hut hul
   have:=hle b.2.1 (hl b hb).2.1.1
   grind
 ·intro b hb hbl
  obtain⟨⟨b1,b2⟩,⟨b3,b4⟩,_⟩:=hl b hb
  by_cases e:b.2.1=a.1
  ·grind
  ·rw[hoth _ b3 e]at hbl⊢
   rcases h.pend b hb hbl with h3|h3|⟨h3,h4⟩
   all_goals grind
 ·intro x hx
  rcases Rr.1 (hp.mem_iff.1 hx)with rfl|hx
  ·grind
  ·obtain⟨h3,h4,h5⟩:=h.items x hx
   grind
 ·have h3:=Ysr (x:=d+a.2.2) hlt (by omega) (by grind [Yk])
  grind [List.Perm.length_eq,Jv,Rf]
end Go.Rt
namespace Go.Proofs.YtjommdkgfbhbdaaGreatDoor
theorem Yry{u:Nat}(h:u<10000):(Lib.decDigits u).length<=4:=by
 rw[Lib.decDigits_length]
 by_cases h1:u<10
 ·rw[Lib.nDigits_small h1];omega
 ·rw[Lib.nDigits_big h1]
  by_cases h2:u/10<10
  ·rw[Lib.nDigits_small h2];omega
  ·all_goals grind [Go.Lib.nDigits_small,Go.Lib.nDigits_big]
open Go.ChangeShapes Go.WideShapes Go.ChangeAt Go.RowKit
section
variable {H:Type}{enc:TypeId×Value->H}{P:Program}
theorem QW(hl:laidOutB P=true){W W':World}{sp:Nat->Bool}:∀{ts:List TypeId}{vs:List Value}{ds:List (DataW H)}{ps:List MemPlace},(ts.all λt=>P.readableRec t&&decide (t<P.types.size))=true->
 DataW.TrodAll enc P W 0 (λ_=>true) true ts vs ds ps->(∀p∈ps,W.sameAt W' p)->(∀p∈ps,sp p.block=true)->DataW.TrodAll enc P W' 0 sp true ts vs ds ps
 |[],[],[],_,_,h,_,_=>h
 |[],[],_::_,_,_,h,_,_=>h.elim
 |[],_::_,_,_,_,h,_,_=>h.elim
 |_::_,[],_,_,_,h,_,_=>h.elim
 |_::_,_::_,[],_,_,h,_,_=>h.elim
 |t::ts,v::vs,d::ds,ps,hr,h,hs,hp=>by
  obtain⟨p,q,h1,h2,rfl⟩:=h
  simp only[ND,Tq,Tm]at hr
  exact⟨p,q,WideElems.Trod_stays hl hr.1.1 hr.1.2 h1 (λx hx=>hs x (by simp[hx])) (λx hx=>hp x (by simp[hx])),QW hl hr.2 h2 (λx hx=>hs x (by simp[hx])) (λx hx=>hp x (by simp[hx])),rfl⟩
theorem YvV{f:Func}{s:ChangeSpec}{apart fresh handsOn again:Bool}{W W':World}{args:Array Value}{ds gs:List (DataW H)}{before:List MemPlace}{tb:TypeId}(hl:laidOutB P=true)
 (hrd:(f.params.toList.all λt=>P.readableRec t&&decide (t<P.types.size))=true) (hv:s.vars=[]) (hrt:f.resultTypes=#[tb]) (htb:P.underlying tb=some .bool)
 (hW:DataW.Whole enc P f.params.toList s.vars apart W args.toList ds gs before) (hb:Below W.heap.size W W')
 (hres:(s.fn H (ds++gs)).results=[.lit (.bool true)]) (hargs:(s.fn H (ds++gs)).args=ds) (hvars:(s.fn H (ds++gs)).vars=[]):
 s.post enc P f apart fresh handsOn again W args (.bool true) W':=by
 have hlt:∀p∈before,p.block<W.heap.size:=λp hp=>hW.lt p hp
 have hW0:=hW
 obtain⟨p,q,hA,hV,rfl,hz,hn⟩:=hW
 rw[hv]at hV
 have hq:gs=[]/\q=[]:=by
  cases gs with
  |nil=>exact⟨rfl,hV⟩
  |cons _ _=>exact hV.elim
 obtain⟨rfl,rfl⟩:=hq
 have hkeep:∀sp:Nat->Bool,(∀x∈p++[],sp x.block=true)->DataW.TrodAll enc P W' 0 sp true f.params.toList args.toList ds p:=λsp hsp=>
  QW hl hrd hA (λx hx=>hb.same (hlt x (by simp_all))) (λx hx=>hsp x (by simp_all))
 have hR:∀(b:Nat) (sp:Nat->Bool) (hd:Bool),DataW.TrodAll enc P W' b sp hd f.resultTypes.toList ((Value.bool true).resultList f.resultTypes.size) (s.fn H (ds++[])).results []:=by
  intro b sp hd
  rw[hres,hrt]
  exact trodAll_mk1 (shut_bool htb true)
 have hok:=ok_one (P:=P) (W':=W') (f:=f) (v:=.bool true) hrt rfl (okWide_bool_mk htb true)
 have hold:∀x∈p++[],(λb=>decide (b<W.heap.size)) x.block=true:=by simp_all
 refine⟨ds,[],p++[],[],p,[],hW0,hR _ _ _,by simp_all,by rw[hvars,hv];rfl,World.keptBut_mono (λx hx=>⟨hx,Or.inr (by simp_all)⟩) (hb.frame (·∈p++[])),λ_=>?_⟩
 refine⟨hok,_,_,([]++p)++[],⟨[]++p,[],trodAll_append (hkeep _ (λ_ _=>rfl)) (hR _ _ _),(show DataW.TrodVars enc P W' (λ_=>true) s.vars [] [] by rw[hv];rfl),rfl,?_,?_⟩,?_⟩
 ·intro b off hp
  have hin:MemPlace.cell b off∈p++[]:=by simp_all
  rw[hb.frozen (hlt _ hin)]
  exact hz b off hin
 all_goals simp_all
end
end Go.Proofs.YtjommdkgfbhbdaaGreatDoor
namespace Go.Rt
open Go.Nw
def ZW(far:List Int)(at_:Int)(best:Int)(a:Lk):Int:=if a.1=at_/\a.2.2+Yk far a.2.1=Yk far at_/\(best<0\/a.2.1<best)then a.2.1 else best
def XL(l:List Lk)(far:List Int)(at_:Int):Int:=l.foldl (ZW far at_) (-1)
def X7(l:List Lk)(far:List Int)(to:Int):Nat->Int->List Int
 |0,_=>[]
 |k+1,at_=>if at_=to then []else XL l far at_::X7 l far to k (XL l far at_)
def wayF(l:List Lk)(far:List Int)(s to:Int):List Int:=if Xy<=Yk far s then []else s::X7 l far to (Yk far s).toNat s
theorem YcL(l:List Lk)(far:List Int)(to:Int):∀(k:Nat) (v:Int),(X7 l far to k v).length<=k
 |0,_=>TS _
 |k+1,v=>by
  have:=YcL l far to k (XL l far v)
  unfold X7
  grind
theorem Ysu(l:List Lk)(far:List Int)(s to:Int):(wayF l far s to).length<=1073741824:=by
 unfold wayF
 split
 ·simp_all
 grind [YcL,Xy]
theorem YmG(l:List Lk)(far:List Int)(at_:Int)(a:Lk):XL (l++[a]) far at_=ZW far at_ (XL l far at_) a:=by
 grind [XL]
theorem Yrs(l:List Lk)(far:List Int)(at_:Int)(b0:Int):l.foldl (ZW far at_) b0=b0\/∃a∈l,a.1=at_/\a.2.2+Yk far a.2.1=Yk far at_/\l.foldl (ZW far at_) b0=a.2.1:=by
 induction l generalizing b0 with
 |nil=>simp_all
 |cons a l ih=>
  rw[SQ]
  rcases ih (ZW far at_ b0 a)with h|⟨c,hc,h⟩
  ·rw[h]
   unfold ZW
   grind
  grind
variable {l:List Lk}{far far':List Int}
theorem Yrr{at_:Int}(hl:∀a∈l,0<=a.2.1)(b0:Int)(h:0<=b0\/∃a∈l,a.1=at_/\a.2.2+Yk far a.2.1=Yk far at_):0<=l.foldl (ZW far at_) b0:=by
 induction l generalizing b0 with
 |nil=>
  simp_all
 |cons a l ih=>
  refine ih (λc hc=>hl c (TK _ hc)) _ ?_
  unfold ZW
  grind
variable {to v:Int}
theorem YdJ{nodes:Nat}(_hl:ArcsOk nodes l)(h:Dist nodes l to far)(h0:0<=v)(h1:v<nodes)(hne:v≠to)(hlt:Yk far v<Xy):∃a∈l,a.1=v/\a.2.2+Yk far a.2.1=Yk far v:=by
 obtain⟨a,ha,ha1,ha2⟩:=h.tight v h0 h1 hne hlt
 obtain⟨_,_,⟨h5,_⟩⟩:=_hl a ha
 have:=h.least a ha (by omega)
 grind
theorem Q6{nodes:Nat}(hl:ArcsOk nodes l)(h:Dist nodes l to far)(h0:0<=v)(h1:v<nodes)(hne:v≠to)(hlt:Yk far v<Xy):
 (0<=XL l far v/\XL l far v<nodes)/\Yk far (XL l far v)<Yk far v/\0<=Yk far (XL l far v)/\∃a∈l,a.1=v/\a.2.1=XL l far v/\a.2.2+Yk far (XL l far v)=Yk far v:=by
 have hge:0<=XL l far v:=Yrr (λa ha=>(hl a ha).2.1.1) (-1) (.inr (YdJ hl h h0 h1 hne hlt))
 rcases Yrs l far v (-1)with h2|⟨a,ha,h3,h4,h5⟩
 ·grind [XL]
 ·obtain⟨_,⟨h6,h7⟩,⟨h8,_⟩⟩:=hl a ha
  have h9:XL l far v=a.2.1:=h5
  have:=(h.range a.2.1 h6 h7).1
  grind
theorem YfW{nodes:Nat}(hl:ArcsOk nodes l)(h:Dist nodes l to far)(h':Dist nodes l to far'):∀(k:Nat) (v:Int),0<=v->v<nodes->Yk far v<Xy->(Yk far v).toNat<=k->Yk far' v<=Yk far v:=by
 intro k
 induction k with
 |zero=>
  intro v h0 h1 hlt hk
  by_cases hv:v=to
  ·rw[hv,h.to0,h'.to0];omega
  ·obtain⟨a,ha,ha1,ha2⟩:=YdJ hl h h0 h1 hv hlt
   obtain⟨_,⟨h3,h4⟩,⟨h5,_⟩⟩:=hl a ha
   have:=(h.range a.2.1 h3 h4).1
   omega
 |succ k ih=>
  intro v h0 h1 hlt hk
  by_cases hv:v=to
  ·rw[hv,h.to0,h'.to0];omega
  ·obtain⟨a,ha,ha1,ha2⟩:=YdJ hl h h0 h1 hv hlt
   obtain⟨_,⟨h3,h4⟩,⟨h5,_⟩⟩:=hl a ha
   have h7:=ih a.2.1 h3 h4 (by omega) (by omega)
   have h8:=h'.least a ha (by omega)
   grind
theorem Yhr{nodes:Nat}(hl:ArcsOk nodes l)(h:Dist nodes l to far)(h':Dist nodes l to far'):far=far':=by
 have key:∀v:Int,0<=v->v<nodes->Yk far v=Yk far' v:=by
  intro v h0 h1
  have r1:=h.range v h0 h1
  have r2:=h'.range v h0 h1
  rcases Int.lt_or_le (Yk far v) Xy with h2|h2
  ·have h3:=YfW hl h h' _ v h0 h1 h2 (TS _)
   have h4:=YfW hl h' h _ v h0 h1 (by omega) (TS _)
   omega
  ·rcases Int.lt_or_le (Yk far' v) Xy with h3|h3
   ·have h4:=YfW hl h' h _ v h0 h1 h3 (TS _)
    omega
   ·omega
 apply Np
 all_goals grind [Zu,Go.Rt.Dist.len,Rm]
open Classical in
noncomputable def VH(nodes:Nat)(l:List Lk)(to:Int):List Int:=if h:∃far,Dist nodes l to far then h.choose else []
theorem Yhp{nodes:Nat}(hl:ArcsOk nodes l)(h:Dist nodes l to far):VH nodes l to=far:=by
 unfold VH
 rw[dif_pos ⟨far,h⟩]
 exact Yhr hl (Exists.choose_spec (⟨far,h⟩:∃far,Dist nodes l to far)) h
structure Ed where
 f:Int
 t:Int
 c:Int
 r:Int
def J5(f t c:Int):List Ed:=[⟨f,t,c,1⟩,⟨t,f,-c,0⟩]
def ZU(closed:Int->Bool)(k:Nat):List Ed:=(List.range k).flatMap λv:Nat=>if closed (v:Int)=true then []else J5 (2*(v:Int)) (2*(v:Int)+1) 0
def V9(l:List Lk):List Ed:=l.flatMap λa=>J5 (2*a.1+1) (2*a.2.1) a.2.2
def O3(nodes:Nat)(l:List Lk)(closed:Int->Bool):List Ed:=ZU closed nodes++V9 l
abbrev Yax:=List Int×List Int×Bool
def VS(i:Nat)(e:Ed)(st:Yax):Yax:=
 if 0<e.r/\Yk st.1 e.f<Xy/\Yk st.1 e.f+e.c<Yk st.1 e.t then(st.1.set e.t.toNat (Yk st.1 e.f+e.c),st.2.1.set e.t.toNat (i:Int),true)else st
def XC:Nat->List Ed->Yax->Yax
 |_,[],st=>st
 |i,e::es,st=>XC (i+1) es (VS i e st)
def Yaq:Nat->List Ed->List Int->List Int->Option (List Int×List Int)
 |0,_,_,_=>none
 |k+1,es,far,by_=>if(XC 0 es (far,by_,false)).2.2=true then Yaq k es (XC 0 es (far,by_,false)).1 (XC 0 es (far,by_,false)).2.1 else some ((XC 0 es (far,by_,false)).1,(XC 0 es (far,by_,false)).2.1)
def twin(i:Nat):Nat:=if i%2=0 then i+1 else i-1
def YaW(es:List Ed)(i:Nat)(d:Int):List Ed:=match es[i]? with|some e=>es.set i {e with r:=e.r+d}|none=>es
def Yhb:Nat->List Ed->List Int->Int->Int->Option (List Ed)
 |0,_,_,_,_=>none
 |k+1,es,by_,s,at_=>
  if at_=s then some es else
   if Yk by_ at_<0 then none else
    match es[(Yk by_ at_).toNat]? with
    |none=>none
    |some e=>if es.length<=twin (Yk by_ at_).toNat then none else Yhb k (YaW (YaW es (Yk by_ at_).toNat (-1)) (twin (Yk by_ at_).toNat) 1) by_ s e.f
def Wb(sides:Nat)(s:Int):List Int:=(List.replicate sides Xy).set s.toNat 0
def Yfa(fuel sides:Nat)(es:List Ed)(s t:Int):Option (Int×Bool×List Ed):=
 match Yaq fuel es (Wb sides s) (List.replicate sides (-1))with
 |none=>none
 |some (far,by_)=>if Xy<=Yk far t then some (0,false,es)else
  match Yhb fuel es by_ s t with
  |none=>none
  |some es'=>some (Yk far t,true,es')
def UB(a b to:Int)(closed:Int->Bool)(v:Int):Bool:=decide (v=a\/v=b\/v=to)||closed v
def Ov(fuel nodes:Nat)(l:List Lk)(a b to:Int)(closed:Int->Bool):Option (Int×Bool×List Ed):=
 match Yfa fuel (2*nodes) (O3 nodes l (UB a b to closed)) (2*a+1) (2*to)with
 |none=>none
 |some (x,ok,es)=>
  match Yfa fuel (2*nodes) es (2*b+1) (2*to)with
  |none=>none
  |some (y,is,es2)=>some (x+y,ok&&is,es2)
theorem QJ:∀(l:List Ed) (i:Nat) (e:Ed) (st:Yax),XC i (l++[e]) st=VS (i+l.length) e (XC i l st)
 |[],_,_,_=>rfl
 |x::l,i,e,st=>by
  show XC (i+1) (l++[e]) (VS i x st)=_
  rw[QJ l (i+1) e,Rf,show i+1+l.length=i+(l.length+1) by omega];rfl
def Yk6(sides:Nat)(es:List Ed):Prop:=∀e∈es,(0<=e.f/\e.f<sides)/\(0<=e.t/\e.t<sides)/\(-1000000<=e.c/\e.c<=1000000)/\(-1000000000<=e.r/\e.r<=1000000000)
structure RelOk(sides:Nat)(low:Int)(st:Yax):Prop where
 l1:st.1.length=sides
 l2:st.2.1.length=sides
 low:∀v:Int,0<=v->v<sides->low<=Yk st.1 v/\Yk st.1 v<=Xy
variable {sides:Nat}{es:List Ed}
theorem YkD{low:Int}{st:Yax}{e:Ed}{i:Nat}(hes:Yk6 sides es)(he:e∈es)(h:RelOk sides low st):RelOk sides (low-1000000) (VS i e st):=by
 obtain⟨⟨e1,e2⟩,⟨e3,e4⟩,⟨e5,e6⟩,_⟩:=hes e he
 unfold VS
 split
 ·have hlt:e.t.toNat<st.1.length:=by rw[h.l1];omega
  refine⟨by grind [Go.Rt.RelOk.l1],by grind [Go.Rt.RelOk.l2],λv h0 h1=>?_⟩
  have h2:=h.low v h0 h1
  have h3:=h.low e.f e1 e2
  all_goals grind [UP,WG]
 ·exact⟨h.l1,h.l2,λv h0 h1=>by have:=h.low v h0 h1;omega⟩
theorem OZ{sides:Nat}{es:List Ed}(hes:Yk6 sides es):∀(l:List Ed) (i:Nat) (st:Yax) (low:Int),(∀e∈l,e∈es)->RelOk sides low st->RelOk sides (low-1000000*l.length) (XC i l st)
 |[],_,_,_,_,h=>by grind [XC]
 |e::l,i,st,low,hl,h=>by
  have h1:=OZ hes l (i+1) (VS i e st) (low-1000000) (λx hx=>hl x (TK _ hx)) (YkD hes (hl e TN) h)
  rw[Rf]
  have e1:low-1000000*((l.length+1:Nat):Int)=low-1000000-1000000*(l.length:Int):=by omega
  rw[e1];exact h1
def EdsIn(sides:Nat)(b:Int)(es:List Ed):Prop:=∀e∈es,(0<=e.f/\e.f<sides)/\(0<=e.t/\e.t<sides)/\(-1000000<=e.c/\e.c<=1000000)/\(-b<=e.r/\e.r<=b)
variable {b:Int}
theorem EdsIn.ok(h:EdsIn sides b es)(hb:b<=1000000000):Yk6 sides es:=λe he=>by
 obtain⟨h1,h2,h3,h4⟩:=h e he
 omega
theorem EdsIn.mono{b':Int}(h:EdsIn sides b es)(hb:b<=b'):EdsIn sides b' es:=λe he=>by
 obtain⟨h1,h2,h3,h4⟩:=h e he
 omega
theorem Yin(h:EdsIn sides b es)(i:Nat){d:Int}(hd: -1<=d/\d<=1):EdsIn sides (b+1) (YaW es i d):=by
 unfold YaW
 cases hi:es[i]? with
 |none=>exact h.mono (by omega)
 |some e=>
  intro x hx
  rcases List.mem_or_eq_of_mem_set hx with hx|rfl
  ·obtain⟨h1,h2,h3,h4⟩:=h x hx
   omega
  ·obtain⟨h1,h2,h3,h4⟩:=h e (Tc hi)
   grind
theorem Yss(i:Nat):twin i≠i:=by grind [twin]
theorem YnH{s:Int}(hs:0<=s/\s<sides)(b:List Int)(hb:b.length=sides)(ag:Bool):RelOk sides (-2000000000) (Wb sides s,b,ag):=by
 refine⟨by grind [Wb],hb,λv h0 h1=>?_⟩
 have hn:Xy=1073741824:=rfl
 unfold Wb
 by_cases hv:v=s
 ·grind [UP]
 ·rw[WG (by omega)]
  simp_all [Yk]
def Ed8(sides:Nat)(es:List Ed):Prop:=∀e∈es,(0<=e.f/\e.f<sides)/\(0<=e.t/\e.t<sides)/\(-8<=e.c/\e.c<=8)
inductive Chain (es:List Ed) (by_:List Int) (s:Int) (T:Ed->Prop):Int->Nat->Prop
 |here:Chain es by_ s T s 0
 |step {v:Int}{n:Nat}{e:Ed}(hne:v≠s) (h0:0<=Yk by_ v) (hi:es[(Yk by_ v).toNat]? =some e) (ht:e.t=v) (hr:0<e.r) (hT:T e) (h:Chain es by_ s T e.f n):Chain es by_ s T v (n+1)
variable {es:List Ed}{by_:List Int}{s v:Int}{n:Nat}
theorem Chain.imp{T T':Ed->Prop}(hT:∀e∈es,0<e.r->T e->T' e)(h:Chain es by_ s T v n):Chain es by_ s T' v n:=by
 induction h with
 |here=>exact .here
 |step hne h0 hi ht hr hTe _ ih=>exact .step hne h0 hi ht hr (hT _ (Tc hi) hr hTe) ih
theorem Chain.uniq{T:Ed->Prop}{m:Nat}(h:Chain es by_ s T v n)(h':Chain es by_ s T v m):n=m:=by
 induction h generalizing m with
 |here=>
  cases h' with
  |here=>rfl
  |step hne=>omega
 |step hne h0 hi ht hr hT _ ih=>
  cases h' with
  |here=>omega
  |step hne' h0' hi' ht' hr' hT' h'=>
   grind
theorem Chain.nodes{T:Ed->Prop}(h:Chain es by_ s T v n):∃L:List Int,L.length=n/\L.Nodup/\∀x∈L,(∃e∈es,e.t=x)/\∃m,m<=n/\Chain es by_ s T x m:=by
 induction h with
 |here=>simp_all
 |@step v n e hne h0 hi ht hr hT h ih=>
  obtain⟨L,h1,h2,h3⟩:=ih
  refine⟨v::L,by simp[h1],List.nodup_cons.2 ⟨λhv=>?_,h2⟩,λx hx=>?_⟩
  ·obtain⟨_,m,hm,hc⟩:=h3 v hv
   have:=Chain.uniq hc (.step hne h0 hi ht hr hT h)
   omega
  ·rcases Rr.1 hx with rfl|hx
   ·exact⟨⟨e,Tc hi,ht⟩,n+1,TS _,.step hne h0 hi ht hr hT h⟩
   grind
theorem nodup_len:∀(k:Nat) (L:List Int),L.Nodup->(∀x∈L,0<=x/\x<k)->L.length<=k
 |0,L,_,h=>by
  cases L with
  |nil=>simp_all
  |cons a l=>grind [TN]
 |k+1,L,hn,h=>by
  have h1:=nodup_len k (L.erase (k:Int)) (hn.erase _) λx hx=>by
   grind
  grind
theorem Chain.len{sides:Nat}(hes:Ed8 sides es){T:Ed->Prop}(h:Chain es by_ s T v n):n<=sides:=by
 obtain⟨L,h1,h2,h3⟩:=h.nodes
 rw[<-h1]
 refine nodup_len sides L h2 λx hx=>?_
 obtain⟨⟨e,he,rfl⟩,_⟩:=h3 x hx
 exact(hes e he).2.1
structure FA where
 f:Int
 t:Int
 c:Int
 u:Bool
abbrev E3:=Int×Int×Int
def Yo9(L:List FA):List E3:=L.map λx=>(x.f,x.t,x.c)
def Yvt(closed:Int->Bool)(k:Nat):List FA:=(List.range k).flatMap λv:Nat=>if closed (v:Int)=true then []else [⟨2*(v:Int),2*(v:Int)+1,0,false⟩]
def YvZ(l:List Lk):List FA:=l.map λa=>⟨2*a.1+1,2*a.2.1,a.2.2,false⟩
def Ygz(nodes:Nat)(l:List Lk)(closed:Int->Bool):List FA:=Yvt closed nodes++YvZ l
def Arcs8(nodes:Nat)(l:List Lk):Prop:=∀a∈l,(0<=a.1/\a.1<nodes)/\(0<=a.2.1/\a.2.1<nodes)/\(1<=a.2.2/\a.2.2<=8)
def arc3(a:Lk):E3:=(2*a.1+1,2*a.2.1,a.2.2)
def YaX(v:Int):E3:=(2*v,2*v+1,0)
theorem Yda{nodes:Nat}{l:List Lk}{closed:Int->Bool}{e:E3}:e∈Yo9 (Ygz nodes l closed)↔(∃v:Int,(0<=v/\v<nodes)/\closed v=false/\e=YaX v)\/∃a∈l,e=arc3 a:=by
 unfold Yo9 Ygz
 rw[TY,T9]
 constructor
 ·rintro(h|h)
  ·obtain⟨x,hx,rfl⟩:=TG.1 h
   obtain⟨v,hv,h⟩:=SN.1 hx
   have hv:=Rq.1 hv
   cases hc:closed (v:Int)with
   |true=>simp_all
   |false=>
    rw[hc,Tf (by decide)]at h
    obtain rfl:=Ry.1 h
    exact .inl ⟨(v:Int),by omega,hc,rfl⟩
  ·obtain⟨x,hx,rfl⟩:=TG.1 h
   obtain⟨a,ha,rfl⟩:=TG.1 hx
   exact .inr ⟨a,ha,rfl⟩
 ·rintro(⟨v,⟨h0,h1⟩,hc,rfl⟩|⟨a,ha,rfl⟩)
  ·left
   refine TG.2 ⟨⟨2*v,2*v+1,0,false⟩,SN.2 ⟨v.toNat,Rq.2 (by omega),?_⟩,rfl⟩
   grind
  ·right
   exact TG.2 ⟨⟨2*a.1+1,2*a.2.1,a.2.2,false⟩,TG.2 ⟨a,ha,rfl⟩,rfl⟩
theorem OD{α β:Type}{f:α->β}(hf:∀a b,f a=f b->a=b){l:List α}(h:l.Nodup):(l.map f).Nodup:=
 by grind
theorem Yoy(a b:Lk)(h:arc3 a=arc3 b):a=b:=by
 grind [arc3]
theorem Ynl(a b:Int)(h:YaX a=YaX b):a=b:=by
 grind [YaX]
theorem Yoz(a:Lk)(v:Int):arc3 a≠YaX v:=by
 grind [arc3,YaX]
inductive Way (l:List Lk) (sh:Int->Bool) (to:Int):Int->List Lk->Prop
 |last {a:Lk}(ha:a∈l) (ht:a.2.1=to):Way l sh to a.1 [a]
 |step {a:Lk}{az:List Lk}(ha:a∈l) (hs:sh a.2.1=false) (h:Way l sh to a.2.1 az):Way l sh to a.1 (a::az)
def Qx:List Lk->List Int
 |[]=>[]
 |_::az=>az.map λa=>a.1
def eOf(az:List Lk):List E3:=az.map arc3++(Qx az).map YaX
variable {l az:List Lk}{sh:Int->Bool}{to u:Int}
theorem Way.cons_(h:Way l sh to u az):∃a az',az=a::az'/\a.1=u:=by
 cases h with
 |last ha ht=>simp_all
 |step ha hs h=>simp_all
theorem Way.inner_cons{a:Lk}(h:Way l sh to u az):Qx (a::az)=u::Qx az:=by
 obtain⟨b,bs,rfl,rfl⟩:=h.cons_
 rfl
theorem Way.mem(h:Way l sh to u az):∀a∈az,a∈l:=by
 induction h with
 |last ha ht=>simp_all
 |step ha hs h ih=>
  simp_all
theorem Way.open_(h:Way l sh to u az):∀v∈Qx az,sh v=false:=by
 induction h with
 |last ha ht=>intro v hv;cases hv
 |step ha hs h ih=>
  intro v hv
  rw[h.inner_cons]at hv
  grind
structure Cand(l:List Lk)(sh:Int->Bool)(a b to:Int)(az bs:List Lk):Prop where
 p:Way l sh to a az
 q:Way l sh to b bs
 arcs:(az++bs).Nodup
 nodes:(Qx az++Qx bs).Nodup
theorem Yi1:∀{E M:List E3},E.Nodup->(∀e∈E,e∈M)->∃R,M.Perm (E++R)
 |[],M,_,_=>⟨M,.refl _⟩
 |e::E,M,hn,hm=>by
  obtain⟨h1,h2⟩:=List.nodup_cons.1 hn
  have hp:=List.perm_cons_erase (hm e TN)
  obtain⟨R,hR⟩:=Yi1 (M:=M.erase e) h2 λx hx=>by
   grind
  exact⟨R,hp.trans (.cons _ hR)⟩
theorem YoS(az bs:List Lk):(eOf az++eOf bs).Perm ((az++bs).map arc3++(Qx az++Qx bs).map YaX):=by
 unfold eOf
 rw[TY,TY]
 rw[Ro,Ro]
 refine .append_left _ ?_
 rw[<-Ro,<-Ro]
 exact .append_right _ Nk
theorem Cand.sub{nodes:Nat}{a b:Int}{bs:List Lk}(hl:Arcs8 nodes l)(h:Cand l sh a b to az bs):∃R,(Yo9 (Ygz nodes l sh)).Perm ((eOf az++eOf bs)++R):=by
 have hn:(eOf az++eOf bs).Nodup:=by
  rw[(YoS az bs).nodup_iff]
  refine NJ.2 ⟨OD Yoy h.arcs,OD Ynl h.nodes,λx hx y hy=>?_⟩
  obtain⟨c,_,rfl⟩:=TG.1 hx
  obtain⟨v,_,rfl⟩:=TG.1 hy
  exact Yoz c v
 refine Yi1 hn λe he=>?_
 have he:=(YoS az bs).mem_iff.1 he
 rcases T9.1 he with he|he
 ·obtain⟨c,hc,rfl⟩:=TG.1 he
  refine Yda.2 (.inr ⟨c,?_,rfl⟩)
  rcases T9.1 hc with hc|hc
  ·exact h.p.mem c hc
  ·exact h.q.mem c hc
 ·obtain⟨v,hv,rfl⟩:=TG.1 he
  have hr:∀{u:Int}{cs:List Lk},Way l sh to u cs->v∈Qx cs->0<=v/\v<nodes:=λhw hv=>by
   have:∃c∈l,c.1=v:=by
    obtain⟨c,cs',rfl,_⟩:=hw.cons_
    obtain⟨d,hd,rfl⟩:=TG.1 hv
    exact⟨d,hw.mem d (TK _ hd),rfl⟩
   obtain⟨c,hc,rfl⟩:=this
   exact(hl c hc).1
  rcases T9.1 hv with hv|hv
  ·exact Yda.2 (.inl ⟨v,hr h.p hv,h.p.open_ v hv,rfl⟩)
  ·exact Yda.2 (.inl ⟨v,hr h.q hv,h.q.open_ v hv,rfl⟩)
def FirstMin{α:Type}(key:α->Int)(l:List α)(x:α):Prop:=∃l1 l2,l=l1++x::l2/\(∀y∈l1,key x<key y)/\∀y∈l2,key x<=key y
variable {α:Type}
theorem FirstMin.mem{key:α->Int}{l:List α}{x:α}(h:FirstMin key l x):x∈l:=by
 obtain⟨l1,l2,rfl,_⟩:=h
 simp_all
theorem FirstMin.le{key:α->Int}{l:List α}{x y:α}(h:FirstMin key l x)(hy:y∈l):key x<=key y:=by
 obtain⟨l1,l2,rfl,h1,h2⟩:=h
 grind
theorem FirstMin.uniq{key:α->Int}:∀{l:List α}{x y:α},FirstMin key l x->FirstMin key l y->x=y:=by
 intro l x y hx hy
 obtain⟨a1,a2,e1,p1,p2⟩:=hx
 obtain⟨b1,b2,e2,q1,q2⟩:=hy
 rw[e1]at e2
 rcases List.append_eq_append_iff.1 e2 with⟨c,h3,h4⟩|⟨c,h3,h4⟩
 ·cases c with
  |nil=>simp_all
  |cons z c=>
   grind
 ·cases c with
  |nil=>simp_all
  |cons z c=>
   grind
theorem FirstMin.one(key:α->Int)(x:α):FirstMin key [x] x:=⟨[],[],rfl,(λ_ hy=>absurd hy (R9)),(λ_ hy=>absurd hy (R9))⟩
theorem FirstMin.mid{key:α->Int}{l a b:List α}{x:α}(h:FirstMin key l x)(h1:∀y∈a,key x<key y)(h2:∀y∈b,key x<=key y):FirstMin key (a++l++b) x:=by
 obtain⟨l1,l2,rfl,p1,p2⟩:=h
 refine⟨a++l1,l2++b,by simp,λy hy=>?_,λy hy=>?_⟩
 all_goals grind
section
variable (st:Int->Int->Bool) (w:Int->Int->Int) (nodes:Nat) (to:Int)
def keyG:List Int->Int
 |[]=>0
 |[_]=>0
 |u::v::r=>w u v+keyG (v::r)
inductive PathG:Int->List Int->Prop
 |done:PathG to []
 |step {u v:Int}{r:List Int}(hu:u≠to) (hs:st u v=true) (hv:0<=v/\v<nodes) (h:PathG v r):PathG u (v::r)
end
variable {l:List Lk}
theorem Arcs8.ok{nodes:Nat}(h:Arcs8 nodes l):ArcsOk nodes l:=λa ha=>by
 obtain⟨h1,h2,h3⟩:=h a ha
 omega
theorem Arcs8.sub{nodes:Nat}{m:List Lk}(h:Arcs8 nodes l)(hm:∀a∈m,a∈l):Arcs8 nodes m:=λa ha=>h a (hm a ha)
section
variable {st:Int->Int->Bool}{w:Int->Int->Int}{l:List Lk}{nodes:Nat}{t:Int}
abbrev YvW(st:Int->Int->Bool)(nodes:Nat)(t u:Int)(ms:List Int):Prop:=PathG st nodes t u (ms++[t])
variable {u:Int}{p:List Int}
theorem PathG.mono{st2:Int->Int->Bool}(h:PathG st nodes t u p)(hs:∀x y,x=u\/x∈p->y∈p->st x y=true->st2 x y=true):PathG st2 nodes t u p:=by
 induction h with
 |done=>exact .done
 |@step u v r hu hst hv h ih=>
  refine .step hu (hs u v (.inl rfl) TN hst) hv (ih λx y hx hy hxy=>hs x y ?_ (TK _ hy) hxy)
  simp_all
theorem PathG.append{v:Int}{q:List Int}(h:PathG st nodes t u (p++v::q)):PathG st nodes t v q:=by
 induction p generalizing u with
 |nil=>cases h with|step _ _ _ h=>exact h
 |cons x p ih=>cases h with|step _ _ _ h=>exact ih h
end
end Go.Rt
namespace Go.Proofs
open Go.Shelf
def Tryz.sortCels_ren:Go.Shelf.Ren:=⟨λ|6=>125|15=>220|14=>219|28=>302|29=>303|20=>294|21=>295|22=>296|23=>297|24=>298|25=>299|26=>300|27=>301|46=>357|47=>358|48=>359|49=>360|50=>361|57=>403|n=>n,λ|22=>31|24=>162|25=>171|3=>3|39=>160|0=>0|53=>207|55=>209|4=>4|46=>308|45=>307|50=>104|5=>5|9=>9|66=>360|70=>364|76=>398|77=>399|n=>n,λ|n=>n⟩
theorem Tryz.sortCels:Go.Proofs.SlLaysF0.n6 Tryz.prog Tryz.sortCels_ren:={
 mixed:=by kernel_rfl
 f6:=⟨Tryz.f125.name,by decide,Tryz.func125.trans (TA some (by kernel_rfl))⟩
 f14:=⟨Tryz.f219.name,by decide,Tryz.func219.trans (TA some (by kernel_rfl))⟩
 f15:=Tryz.func220.trans (TA some (by kernel_rfl))
 f20:=⟨Tryz.f294.name,by decide,Tryz.func294.trans (TA some (by kernel_rfl))⟩
 f21:=⟨Tryz.f295.name,by decide,Tryz.func295.trans (TA some (by kernel_rfl))⟩
 f22:=⟨Tryz.f296.name,by decide,Tryz.func296.trans (TA some (by kernel_rfl))⟩
 f23:=⟨Tryz.f297.name,by decide,Tryz.func297.trans (TA some (by kernel_rfl))⟩
 f24:=⟨Tryz.f298.name,by decide,Tryz.func298.trans (TA some (by kernel_rfl))⟩
 f25:=⟨Tryz.f299.name,by decide,Tryz.func299.trans (TA some (by kernel_rfl))⟩
 f26:=⟨Tryz.f300.name,by decide,Tryz.func300.trans (TA some (by kernel_rfl))⟩
 f27:=⟨Tryz.f301.name,by decide,Tryz.func301.trans (TA some (by kernel_rfl))⟩
 f28:=Tryz.func302.trans (TA some (by kernel_rfl))
 f29:=Tryz.func303.trans (TA some (by kernel_rfl))
 f46:=⟨Tryz.f357.name,by decide,Tryz.func357.trans (TA some (by kernel_rfl))⟩
 f47:=Tryz.func358.trans (TA some (by kernel_rfl))
 f48:=Tryz.func359.trans (TA some (by kernel_rfl))
 f49:=⟨Tryz.f360.name,by decide,Tryz.func360.trans (TA some (by kernel_rfl))⟩
 f50:=⟨Tryz.f361.name,by decide,Tryz.func361.trans (TA some (by kernel_rfl))⟩
 f57:=⟨Tryz.f403.name,by decide,Tryz.func403.trans (TA some (by kernel_rfl))⟩
 t0:=Tryz.underlying0
 a0:=Tryz.isAgg0
 z0:=Tryz.sizeOf0
 v0:=Tryz.zeroValue0
 t3:=Tryz.underlying3
 a3:=Tryz.isAgg3
 z3:=Tryz.sizeOf3
 v3:=Tryz.zeroValue3
 t4:=Tryz.underlying4
 a4:=Tryz.isAgg4
 z4:=Tryz.sizeOf4
 v4:=Tryz.zeroValue4
 t5:=Tryz.underlying5
 a5:=Tryz.isAgg5
 z5:=Tryz.sizeOf5
 v5:=Tryz.zeroValue5
 t9:=Tryz.underlying9
 a9:=Tryz.isAgg9
 z9:=Tryz.sizeOf9
 v9:=Tryz.zeroValue9
 t22:=Tryz.underlying31
 a22:=Tryz.isAgg31
 z22:=Tryz.sizeOf31
 v22:=Tryz.zeroValue31
 t25:=Tryz.underlying171
 a25:=Tryz.isAgg171
 z25:=Tryz.sizeOf171
 v25:=Tryz.zeroValue171
 t39:=Tryz.underlying160
 a39:=Tryz.isAgg160
 z39:=Tryz.sizeOf160
 v39:=Tryz.zeroValue160
 t45:=Tryz.underlying307
 a45:=Tryz.isAgg307
 z45:=Tryz.sizeOf307
 v45:=Tryz.zeroValue307
 t46:=Tryz.underlying308
 a46:=Tryz.isAgg308
 z46:=Tryz.sizeOf308
 v46:=Tryz.zeroValue308
 t50:=Tryz.underlying104
 a50:=Tryz.isAgg104
 z50:=Tryz.sizeOf104
 v50:=Tryz.zeroValue104
 t53:=Tryz.underlying207
 a53:=Tryz.isAgg207
 z53:=Tryz.sizeOf207
 v53:=Tryz.zeroValue207
 t55:=Tryz.underlying209
 a55:=Tryz.isAgg209
 z55:=Tryz.sizeOf209
 v55:=Tryz.zeroValue209
 t66:=Tryz.underlying360
 a66:=Tryz.isAgg360
 z66:=Tryz.sizeOf360
 v66:=Tryz.zeroValue360
 t70:=Tryz.underlying364
 a70:=Tryz.isAgg364
 z70:=Tryz.sizeOf364
 v70:=Tryz.zeroValue364
 t76:=Tryz.underlying398
 a76:=Tryz.isAgg398
 z76:=Tryz.sizeOf398
 v76:=Tryz.zeroValue398
 t77:=Tryz.underlying399
 a77:=Tryz.isAgg399
 z77:=Tryz.sizeOf399
 v77:=Tryz.zeroValue399}
end Go.Proofs
