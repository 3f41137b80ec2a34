/- Lemmas for the claim, part 2. -/
import Derived.Shelf.Strings.Builder1
import Derived.Shelf.Small.Bits
import Derived.Shelf.Small.Wraps
import Derived.Shelf.Strings.BuilderF
import Derived.Shelf.Strings.BuilderK
import Derived.Shelf.Strconv.Itoa0
import Derived.Shelf.Strconv.Itoa1
import Derived.Shelf.LaysM
import Derived.Shelf.Strconv.Itoa2
import Derived.Shelf.Strconv.Itoa3
import Derived.Shelf.Strings.Prefix
import Derived.Shelf.Bits.Mul64
import Derived.Shelf.Strings.BuilderCap
import Derived.Shelf.Slices.Turned
import Derived.Shelf.Slices.Equal
import Derived.Ground.Names2Prog
import Derived.Shelf.Slices.Clone
import Derived.Shelf.Slices.SearchI
import Derived.Shelf.Slices.Empties2
import Derived.Test.YtaholidehobiiaaGreatDoorProg
import Derived.Sort.OwnSortedInts
import Derived.Laws.CopyRow
import Derived.Lib.AppendZeros
import Derived.RangeFuncFrom
import Derived.RangeFuncNested
import Derived.RangeFuncLeaves
import Derived.Lib.OthersKept
import Derived.Test.YtaholidehobiiaaGreatDoorQ1
set_option maxRecDepth 100000
set_option maxHeartbeats 8000000
namespace Go.Nw
variable {x y a b:Int}
theorem YoG:cmpI x y<0↔x<y:=by grind [cmpI]
theorem Yew:cmpI x y=0↔x=y:=by grind [cmpI]
theorem UQ{a b:Lk}:cmpL a b<0↔a.1<b.1\/(a.1=b.1/\a.2.1<b.2.1):=by
 grind [YoG,Yew,cmpL]
theorem UR{a b:Lk}:cmpL a b=0↔a.1=b.1/\a.2.1=b.2.1:=by
 grind [Yew,cmpL]
structure OkL(n:Net)(i:Nat):Prop where
 f0:0<=(lnk n i).1
 f1:(lnk n i).1<n.nodes
 t0:0<=(lnk n i).2.1
 t1:(lnk n i).2.1<n.nodes
 ne:(lnk n i).1≠(lnk n i).2.1
 l0:0<=(lnk n i).2.2
 l1:(lnk n i).2.2<=7
 ord:0<i->cmpL (lnk n (i-1)) (lnk n i)<0
 m0:0<=mar n i
 m1:mar n i<=powr n (lnk n i).1 (lnk n i).2.1
variable {n:Net}{i:Nat}
theorem Yq7(h:OZ n i=0):OkL n i:=by
 unfold OZ at h
 by_cases h1:¬(0<=(lnk n i).1/\(lnk n i).1<n.nodes)\/¬(0<=(lnk n i).2.1/\(lnk n i).2.1<n.nodes)\/(lnk n i).1=(lnk n i).2.1\/(lnk n i).2.2<0\/7<(lnk n i).2.2
 ·omega
 by_cases h2:0<i/\0<=cmpL (lnk n (i-1)) (lnk n i)
 ·omega
 by_cases h3:mar n i<0\/powr n (lnk n i).1 (lnk n i).2.1<mar n i
 ·omega
 constructor<;>omega
structure Ok(n:Net):Prop where
 n0:2<=n.nodes
 n1:n.nodes<=32
 p0:(n.power.length:Int)=n.nodes
 p1:∀r∈n.power,(r.length:Int)=n.nodes
 p2:∀r∈n.power,∀p∈r,0<=p/\p<=68719476736
 z0:0<=n.noise
 z1:n.noise<=68719476736
 t0:1000<=n.thr
 t1:n.thr<=100000
 k0:n.links.length<=128
 k1:n.margin.length=n.links.length
 lk:∀i,i<n.links.length->OkL n i
theorem Yig{n:Net}:∀(r i:Nat),V2 n r i=0->∀j,i<=j->j<i+r->OkL n j
 |0,_,_,j,h1,h2=>by omega
 |r+1,i,h,j,h1,h2=>by
  unfold V2 at h
  by_cases h0:OZ n i=0
  ·rw[Tm h0]at h
   by_cases e:i=j
   ·grind [Yq7]
   ·exact Yig r (i+1) h j (by omega) (by omega)
  omega
theorem YM(h:Yq n=0):Ok n:=by
 unfold Yq at h
 by_cases h1:n.nodes<2\/32<n.nodes
 ·omega
 rw[Td h1]at h
 by_cases h2:WC n≠0
 ·omega
 rw[Td h2]at h
 by_cases h3:n.noise<0\/68719476736<n.noise\/n.thr<1000\/100000<n.thr
 ·omega
 rw[Td h3]at h
 by_cases h4:128<n.links.length
 ·omega
 rw[Td h4]at h
 by_cases h5:n.margin.length≠n.links.length
 ·omega
 rw[Td h5]at h
 obtain⟨t1,t2,t3⟩:=YiV (Classical.not_not.1 h2)
 exact⟨by omega,by omega,t1,t2,t3,by omega,by omega,by omega,by omega,by omega,Classical.not_not.1 h5,λi hi=>Yig _ _ h i (Tu _) (by omega)⟩
theorem YdD(h:Ok n):∀(i j:Nat),i<j->j<n.links.length->cmpL (lnk n i) (lnk n j)<0:=by
 intro i j
 induction j with
 |zero=>omega
 |succ j ih=>
  intro h1 h2
  have h3:=(h.lk (j+1) h2).ord (by omega)
  rw[SR]at h3
  by_cases e:i=j
  ·simp_all
  ·rw[UQ]at*
   omega
def Ybp(a b:Int)(l:Lk):Bool:=decide (l.1=a)&&decide (l.2.1=b)
def Yw(n:Net)(a b:Int):Int:=Yn (Ybp a b) n.links 0
theorem QS{α:Type}{p:α->Bool}:∀{l:List α}{k:Int},(∀a∈l,p a=false)->Yn p l k= -1
 |[],_,_=>rfl
 |a::l,k,h=>by
  rw[Yn,h a TA,Td (by simp)]
  exact QS λb hb=>h b (TB _ hb)
theorem Yc2{α:Type}{p:α->Bool}:∀{l:List α}{k:Int}{i:Nat}{a:α},l[i]? =some a->p a=true->(∀j b,j<i->l[j]? =some b->p b=false)->Yn p l k=k+i
 |[],_,_,_,h,_,_=>by simp at h
 |b::l,k,0,a,h,hp,_=>by
  simp_all [Yn]
 |b::l,k,i+1,a,h,hp,hn=>by
  have hb:=hn 0 b (by omega) (by simp)
  rw[Yn,Td (by simp_all),Yc2 (i:=i) (a:=a) (by simp_all) hp λj c hj hc=>hn (j+1) c (by omega) (by simp_all)]
  omega
theorem Qf{α:Type}{p:α->Bool}:∀{l:List α}{k:Int},0<=k->Yn p l k= -1\/(k<=Yn p l k/\Yn p l k<k+l.length)
 |[],_,_=>.inl rfl
 |a::l,k,h=>by
  unfold Yn
  by_cases hp:p a=true
  ·grind
  ·rcases @Qf _ p l (k+1) (by omega)with h1|h1
   all_goals grind
theorem QT{α:Type}{p:α->Bool}:∀{l:List α}{k:Int}{i:Nat},0<=k->Yn p l k=k+i->∃a,l[i]? =some a/\p a=true
 |[],k,i,h0,h=>by grind [Yn]
 |a::l,k,i,h0,h=>by
  unfold Yn at h
  by_cases hp:p a=true
  ·grind
  ·cases i with
   |zero=>
    grind [Qf]
   |succ i=>
    obtain⟨b,h1,h2⟩:=QT (p:=p) (i:=i) (l:=l) (k:=k+1) (by omega) (by omega)
    simp_all
theorem VA{l:Lk}(h:n.links[i]? =some l):lnk n i=l:=by grind [lnk]
theorem Ygc{z:Int}(h:n.margin[i]? =some z):mar n i=z:=by grind [mar]
theorem QY(n:Net)(h:i<n.links.length):n.links[i]? =some (lnk n i):=by grind [lnk]
theorem YhO(h:Ok n){c:Int}{k:Nat}(hk:k<=n.links.length)(h1:∀j,j<k->cmpL (lnk n j) (a,b,c)<0)(h2:∀j,k<=j->j<n.links.length->0<=cmpL (lnk n j) (a,b,c)):
 Yw n a b=if k<n.links.length/\cmpL (lnk n k) (a,b,c)=0 then(k:Int)else -1:=by
 unfold Yw
 have hlow:∀j l,j<k->n.links[j]? =some l->Ybp a b l=false:=by grind [VA,UQ,Ybp]
 by_cases hc:k<n.links.length/\cmpL (lnk n k) (a,b,c)=0
 ·rw[Tm hc,Yc2 (QY n hc.1) (by grind [UR,Ybp]) hlow]
  omega
 ·rw[Td hc]
  refine QS λl hl=>?_
  obtain⟨j,hj,rfl⟩:=List.mem_iff_getElem.1 hl
  by_cases hjk:j<k
  ·exact hlow j _ hjk (Ta hj)
  ·have e:lnk n j=n.links[j]:=VA (Ta hj)
   have h3:cmpL (lnk n j) (a,b,c)≠0:=by
    by_cases ejk:j=k
    ·grind
    ·intro e0
     have h4:=YdD h k j (by omega) hj
     have h5:=h2 k (TL _) (by omega)
     rw[UR]at e0
     have h6:¬cmpL (lnk n k) (a,b,c)<0:=by omega
     simp_all [UQ]
   simp_all [UR,Ybp]
def Z4(n:Net)(s d:Int):Bool:=decide (n.thr*(n.noise+d)<=s*1000)
def ZD(n:Net)(i:Nat):Bool:=decide (0<=Yw n (lnk n i).2.1 (lnk n i).1)&&(Z4 n (mar n i) 0&&Z4 n (mar n (Yw n (lnk n i).2.1 (lnk n i).1).toNat) 0)
theorem YqX(h:Ok n){d:Int}(h0:0<=d)(h1:d<=8796093022208): -9223372036854775808<=n.thr*(n.noise+d)/\n.thr*(n.noise+d)<=9223372036854775807:=by
 have h2:=h.t0;have h3:=h.t1;have h4:=h.z0;have h5:=h.z1
 have h6:0<=n.thr*(n.noise+d):=Int.mul_nonneg (by omega) (by omega)
 have h7:n.thr*(n.noise+d)<=100000*(n.noise+d):=SX h3 (by omega)
 omega
theorem Yj0(h:Ok n)(hi:i<n.links.length):0<=mar n i/\mar n i<=68719476736:=by
 have hl:=h.lk i hi
 refine⟨hl.m0,Int.le_trans hl.m1 ?_⟩
 unfold powr
 have e1:(lnk n i).1.toNat<n.power.length:=by have:=h.p0;have:=hl.f1;have:=hl.f0;omega
 rw[show n.power.getD (lnk n i).1.toNat []=n.power[(lnk n i).1.toNat] by simp_all]
 have hm:=List.getElem_mem e1
 have e2:(lnk n i).2.1.toNat<(n.power[(lnk n i).1.toNat]).length:=by have:=h.p1 _ hm;have:=hl.t1;have:=hl.t0;omega
 rw[show(n.power[(lnk n i).1.toNat]).getD (lnk n i).2.1.toNat 0=(n.power[(lnk n i).1.toNat])[(lnk n i).2.1.toNat] by simp_all]
 exact(h.p2 _ hm _ (List.getElem_mem e2)).2
theorem ZA(h:0<=Yw n a b):(Yw n a b).toNat<n.links.length:=by
 rcases @Qf _ (Ybp a b) n.links 0 (by omega)with h1|h1<;>unfold Yw at h⊢<;>omega
theorem UW(h:0<=Yw n a b):(lnk n (Yw n a b).toNat).1=a/\(lnk n (Yw n a b).toNat).2.1=b:=by
 obtain⟨l,h1,h2⟩:=@QT _ (Ybp a b) n.links 0 (Yw n a b).toNat (by omega) (by grind [Yw])
 grind [VA,Ybp]
end Go.Nw
namespace Go.Proofs.YtaholidehobiiaaGreatDoor
open Go.RowKit Go.Eng Go.Nw
abbrev netB(g:Nat)(n:NetM):HP:=blk g (.cells #[.int .i64 n.nodes,.slice n.pA n.rows.length n.pcap,.int .i64 n.noise,.int .i64 n.thr,.slice n.lA n.links.length n.lcap,.slice n.mA n.margin.length n.mcap] 26 (0,0))
def Xn:List Int->Int
 |[]=>0
 |a::l=>if a≠0 then a else Xn l
theorem Yf3(l:List Int){k:Nat}{a:Int}(h:l[k]? =some a):Xn (l.drop k)=if a≠0 then a else Xn (l.drop (k+1)):=by
 obtain⟨hk,rfl⟩:=Ti.1 h
 rw[Rx hk,Xn]
variable {B:Nat}{w0 w:World}{H:List HP}
theorem YlL(l:List Int)(hlen:l.length<=1000){A:Option Addr}{cap:Nat}(hr:Rd B w0 H A (l.flatMap numF))(hw:St B w0 H w):
 Calls Tryz.prog 139 [.slice A l.length cap].toArray w (Post B w0 λv K=>v=.int .i64 (Xn l)/\K=H):=by
 refine Yc Tryz.func139 Tryz.ntmps139 rfl rfl hw ?_
 repeat'(first|refine zgb ?_|fail)
 refine Yi (λ(k:Nat)=>[(8,.int .i64 k),(7,.int .i64 l.length),(6,.slice A l.length cap),(3,.int .i64 0)]) (λ_=>H) (λk=>k<=l.length/\Xn l=Xn (l.drop k)) (λk=>l.length-k) 0 ⟨Tu _,by simp⟩ ?_ (λw hw=>hw) ?_
 ·exact zu
 rintro k ⟨hk,hi⟩ K hK
 by_cases hlt:k<l.length
 ·obtain⟨a,ha⟩:∃a,l[k]? =some a:=⟨_,Ta hlt⟩
  rw[Yf3 l ha]at hi
  repeat'(first|refine zgd ?_|(refine zge ?_ ?_<;>intro _<;>try exact zo)|fail)
  ·rename_i h
   rw[Tm h]at hi
   ((repeat apply Yl);apply Yd;exact rfl;exact rfl;refine⟨TU _ ?_,rfl⟩)
   rw[hi]
  ·rename_i h
   rw[Td (by omega)]at hi
   repeat'(first|fail)
   apply hK (k+1)
   ·exact⟨by omega,hi⟩
   ·omega
   ·exact zu
   ·exactλw hw=>hw
 ·repeat'(first|refine zgc ?_|(refine zge ?_ ?_<;>intro _<;>try exact zo)|fail)
  ((repeat apply Yl);apply Yd;exact rfl;exact rfl;refine⟨TU _ ?_,rfl⟩)
  rw[hi,TZ (by omega)];rfl
theorem Ys4(x y:Int):Xn [x,y]=if x=0 then y else x:=by
 simp only[Xn]
 by_cases h:x=0
 ·by_cases h2:y=0<;>simp[h,h2]
 ·simp[h]
theorem Vw(a b:Lk)(hw:St B w0 H w):Calls Tryz.prog 261 [lkV a,lkV b].toArray w (Post B w0 λv K=>v=.int .i64 (cmpL a b)/\K=H):=by
 refine Yc Tryz.func261 Tryz.ntmps261 rfl rfl hw ?_
 repeat'(first|refine zga ?_|(refine zgh ?_;intro _)|fail)
 apply YU [0,1,2,3,5,6,7,8,4,9,10,11,12] [] [true,true]
 kernel_rfl
 kernel_rfl
 exact zy
 (simp only[Yg,nthO];rfl)
 exact rfl
 repeat'(first|((first|apply Ya WJ|apply Yb WJ);exact za;exact rfl;exactλ_ hw=>(Uj _ _ hw))|(apply Yk;try exact zl)|refine zgd ?_|(refine zgh ?_;intro _)|fail)
 rename_i g
 first|apply Ya Ylc|apply Yb Ylc
 exact za
 exact rfl
 exactλ_ hw=>(YlL [cmpI a.1 b.1,cmpI a.2.1 b.2.1] (by simp) (Rd.blk (g:=g) (cs:=#[.int .i64 (cmpI a.1 b.1),.int .i64 (cmpI a.2.1 b.2.1)]) zm) hw)
 repeat'(first|(apply Yk;try exact zl)|refine zgd ?_|fail)
 ((repeat apply Yl);apply Yd;exact rfl;exact rfl;refine⟨TU _ ?_,rfl⟩)
 rw[Ys4];rfl
theorem QK(n:NetM)(g:Nat)(a:Int)(hm:netB g n∈H)(hw:St B w0 H w):
 Calls Tryz.prog 260 [.int .i64 a,.pointer (some ⟨g,0,none⟩)].toArray w (Post B w0 λv K=>v=.bool (decide (0<=a/\a<n.nodes))/\K=H):=by
 refine Yc Tryz.func260 Tryz.ntmps260 rfl rfl hw ?_
 repeat'(first|refine zgc ?_|(refine zgf ?_ ?_<;>intro _<;>try exact zo)|fail)
 ·apply Yd;exact rfl;exact rfl
  exact⟨by rw[Tc (by omega)],rfl⟩
 ·apply Yd;exact rfl;exact rfl
  exact⟨by rw[Tn (by omega)],rfl⟩
 ·apply Yd;exact rfl;exact rfl
  exact⟨by rw[Tn (by omega)],rfl⟩
theorem YiC{n:Net}{a b:Int}{r:List Int}{p:Int}(h1:n.power[a.toNat]? =some r)(h2:r[b.toNat]? =some p):powr n a b=p:=by simp[powr,List.getD,h1,h2]
variable {B:Nat}{w0 w:World}{H:List HP}
theorem Ycw(n:NetM)(i:Nat)(hin:n.In B w0 H)(hi:i<n.links.length)(hml:n.margin.length=n.links.length)(ht:WC n.net=0)(hw:St B w0 H w):
 Calls Tryz.prog 185 [n.val,.int .i64 i].toArray w (Post B w0 λv K=>v=.int .i64 (OZ n.net i)/\K=H):=by
 refine Yc Tryz.func185 Tryz.ntmps185 rfl rfl hw ?_
 obtain⟨hpw,hrw,hlk,hmg,hs1,hs2,hs3,hs4⟩:=hin
 obtain⟨t1,t2,t3⟩:=YiV ht
 obtain⟨l,hl⟩:∃l,n.links[i]? =some l:=⟨_,Ta hi⟩
 obtain⟨z,hz⟩:∃z,n.margin[i]? =some z:=⟨_,Ta (by omega)⟩
 have e1:lnk n.net i=l:=VA hl
 have e2:mar n.net i=z:=Ygc hz
 have e3:n.net.nodes=n.nodes:=rfl
 have e4:n.net.power.length=n.rows.length:=by simp[NetM.net]
 rw[e4,e3]at t1
 unfold OZ
 rw[e1,e2,e3]
 by_cases h1:0<=l.1/\l.1<n.nodes
 rotate_left
 ·skip
  repeat'(first|((first|apply VR (cs:=[_])|apply VP (cs:=[_]));exact rfl;exact Ylm;exact za;exact rfl;exactλ_ hw=>(QK n _ _ zm hw);all_goals(intro hB;(try simp only[Tq,Rl]at hB);try exact zo))|(apply zg29;(apply Ym;exact za;exact rfl))|refine zgd ?_|(refine zgh ?_;intro _)|fail)
  all_goals(((repeat apply Yl);apply Yd;exact rfl;exact rfl;refine⟨TU _ ?_,rfl⟩);(repeat(first|refine XW (by omega) ?_|refine XY (by omega) ?_));rfl)
 by_cases h2:0<=l.2.1/\l.2.1<n.nodes
 rotate_left
 ·skip
  repeat'(first|((first|apply VR (cs:=[_])|apply VP (cs:=[_]));exact rfl;exact Ylm;exact za;exact rfl;exactλ_ hw=>(QK n _ _ zm hw);all_goals(intro hB;(try simp only[Tq,Rl]at hB);try exact zo))|(apply zg29;(apply Ym;exact za;exact rfl))|refine zgd ?_|(refine zgh ?_;intro _)|fail)
  all_goals(((repeat apply Yl);apply Yd;exact rfl;exact rfl;refine⟨TU _ ?_,rfl⟩);(repeat(first|refine XW (by omega) ?_|refine XY (by omega) ?_));rfl)
 obtain⟨r,hr⟩:∃r,n.rows[l.1.toNat]? =some r:=⟨_,Ta (by omega)⟩
 have hrm:r∈n.rows:=Tf hr
 have hrr:=hrw r hrm
 have hrs:=hs2 r hrm
 have hrl:(r.xs.length:Int)=n.nodes:=t2 r.xs (TG.2 ⟨r,hrm,rfl⟩)
 obtain⟨p,hp⟩:∃p,r.xs[l.2.1.toNat]? =some p:=⟨_,Ta (by omega)⟩
 rw[YiC (n:=n.net) (r:=r.xs) (by simp[NetM.net,hr]) hp]
 by_cases h0:0<i
 ·obtain⟨q,hq⟩:∃q,n.links[((i:Int)-1).toNat]? =some q:=⟨_,Ta (by omega)⟩
  rw[show lnk n.net (i-1)=q from VA (by rw[show i-1=((i:Int)-1).toNat by omega];exact hq)]
  repeat'(first|((first|apply VR (cs:=[_])|apply VP (cs:=[_]));exact rfl;exact Ylm;exact za;exact rfl;exactλ_ hw=>(QK n _ _ zm hw);all_goals(intro hB;(try simp only[Tq,Rl]at hB);try exact zo))|((first|apply Ya YeL|apply Yb YeL);exact za;exact rfl;exactλ_ hw=>(Vw q l hw))|(apply zg28;first|refine zs83 ?_|refine zs84 ?_)|(apply zg29;(apply Ym;exact za;exact rfl))|refine zgd ?_|(refine zgf ?_ ?_<;>intro _<;>try exact zo)|(refine zgh ?_;intro _)|fail)
  all_goals(((repeat apply Yl);apply Yd;exact rfl;exact rfl;refine⟨TU _ ?_,rfl⟩);(repeat(first|refine XW (by omega) ?_|refine XY (by omega) ?_));rfl)
 ·skip
  repeat'(first|((first|apply VR (cs:=[_])|apply VP (cs:=[_]));exact rfl;exact Ylm;exact za;exact rfl;exactλ_ hw=>(QK n _ _ zm hw);all_goals(intro hB;(try simp only[Tq,Rl]at hB);try exact zo))|((first|apply Ya YeL|apply Yb YeL);exact za;exact rfl;exactλ_ hw=>(Vw _ _ hw))|(apply zg28;first|refine zs83 ?_|refine zs84 ?_)|(apply zg29;(apply Ym;exact za;exact rfl))|refine zgd ?_|(refine zgf ?_ ?_<;>intro _<;>try exact zo)|(refine zgh ?_;intro _)|fail)
  all_goals(((repeat apply Yl);apply Yd;exact rfl;exact rfl;refine⟨TU _ ?_,rfl⟩);(repeat(first|refine XW (by omega) ?_|refine XY (by omega) ?_));rfl)
theorem YY(n:NetM)(hin:n.In B w0 H)(hw:St B w0 H w):
 Calls Tryz.prog 82 [n.val].toArray w (Post B w0 λv K=>v=.int .i64 (Yq n.net)/\K=H):=by
 refine Yc Tryz.func82 Tryz.ntmps82 rfl rfl hw ?_
 have e3:n.net.nodes=n.nodes:=rfl
 have e5:n.net.noise=n.noise:=rfl
 have e6:n.net.thr=n.thr:=rfl
 have e7:n.net.links=n.links:=rfl
 have e8:n.net.margin=n.margin:=rfl
 have hs1:=hin.s1
 have hs3:=hin.s3
 have hs4:=hin.s4
 unfold Yq
 rw[e3,e5,e6,e7,e8]
 (apply Xt;apply Y0;apply YR;exact rfl;exact rfl;intro g)
 repeat'(first|((first|apply Ya YrR|apply Yb YrR);exact za;exact rfl;exactλ_ hw=>(YbO n hin.cons hw))|refine zgd ?_|(refine zgf ?_ ?_<;>intro _<;>try exact zo)|fail)
 any_goals(((repeat apply Yl);apply Yd;exact rfl;exact rfl;refine⟨TU _ ?_,rfl⟩);(repeat(first|refine XW (by omega) ?_|refine XY (by omega) ?_));rfl)
 have ht:WC n.net=0:=by assumption
 refine Yi (λ(k:Nat)=>[(54,.int .i64 k),(53,.int .i64 n.links.length),(1,.pointer (some ⟨g,0,none⟩))]) (λ_=>netB g n::H) (λk=>k<=n.links.length/\V2 n.net n.links.length 0=V2 n.net (n.links.length-k) k) (λk=>n.links.length-k) 0 ⟨Tu _,rfl⟩ ?_ (λw hw=>hw) ?_
 ·exact zu
 rintro k ⟨hk,hi⟩ K hK
 by_cases hlt:k<n.links.length
 ·skip
  repeat'(first|((first|apply Ya YrS|apply Yb YrS);exact za;exact rfl;exactλ_ hw=>(Ycw n k hin.cons hlt (by omega) ht hw))|refine zgd ?_|(refine zge ?_ ?_<;>intro _<;>try exact zo)|fail)
  ·((repeat apply Yl);apply Yd;exact rfl;exact rfl;refine⟨TU _ ?_,rfl⟩)
   (repeat(first|refine XW (by omega) ?_|refine XY (by omega) ?_))
   rw[hi];exact(Yif n.net hlt (by assumption)).symm
  ·apply hK (k+1)
   ·exact⟨by omega,by rw[hi];exact Yie n.net hlt (by assumption)⟩
   ·omega
   ·exact zu
   ·exactλw hw=>hw
 ·repeat'(first|refine zgc ?_|(refine zge ?_ ?_<;>intro _<;>try exact zo)|fail)
  ((repeat apply Yl);apply Yd;exact rfl;exact rfl;refine⟨TU _ ?_,rfl⟩)
  (repeat(first|refine XW (by omega) ?_|refine XY (by omega) ?_))
  rw[hi,show n.links.length-k=0 by omega];rfl
variable {B:Nat}{w0 w:World}{H:List HP}
theorem YiN(n:NetM)(t:Lk)(hin:n.In B w0 H)(hok:Ok n.net)(hw:St B w0 H w):
 Calls Tryz.prog 299 [.slice n.lA n.links.length n.lcap,lkV t,.func (.func 261) #[] #[]].toArray w (Post B w0 λv K=>∃k:Nat,
  v=.tuple #[.int .i64 k,.bool (decide (k<n.links.length/\cmpL (lnk n.net k) t=0))]/\k<=n.links.length/\(∀j,j<k->cmpL (lnk n.net j) t<0)/\(∀j,k<=j->j<n.links.length->0<=cmpL (lnk n.net j) t)/\K=H):=by
 refine Yc Tryz.func299 Tryz.ntmps299 rfl rfl hw ?_
 obtain⟨hpw,hrw,hlk,hmg,hs1,hs2,hs3,hs4⟩:=hin
 have hl8:n.links.length<=128:=hok.k0
 (apply Xt;apply Y0;apply YR;exact rfl;exact rfl;intro g)
 repeat'(first|refine zgb ?_|fail)
 refine Yca (λ(lo hi:Nat)=>[(9,.int .i64 lo),(10,.int .i64 hi),(8,.int .i64 n.links.length),(0,.slice n.lA n.links.length n.lcap),(2,.func (.func 261) #[] #[]),(4,.pointer (some ⟨g,0,none⟩))]) (λ_ _=>blk g (.cells #[.int .i64 t.1,.int .i64 t.2.1,.int .i64 t.2.2] 140 (0,0))::H)
  (λlo hi=>lo<=hi/\hi<=n.links.length/\(∀j,j<lo->cmpL (lnk n.net j) t<0)/\(∀j,hi<=j->j<n.links.length->0<=cmpL (lnk n.net j) t)) (λlo hi=>hi-lo) 0 n.links.length ⟨by omega,by omega,λj hj=>by omega,λj h1 h2=>by omega⟩ ?_ (λw hw=>hw) ?_
 ·exact zu
 rintro lo hi ⟨h1,h2,h3,h4⟩ K hK
 by_cases hlt:lo<hi
 ·obtain⟨b,hb⟩:∃b,n.links[(((lo:Int)+hi)/2).toNat]? =some b:=⟨_,Ta (by omega)⟩
  have hm:(((lo:Int)+hi)/2).toNat=(lo+hi)/2:=by omega
  have eb:lnk n.net ((lo+hi)/2)=b:=by rw[<-hm];exact VA hb
  repeat'(first|((first|apply Yz (cs:=[])|apply Y4 (cs:=[]));exact rfl;exact YeL;exact za;exact rfl;exactλ_ hw=>(Vw b t hw))|(apply zg28;refine zs84 ?_)|refine zgd ?_|(refine zge ?_ ?_<;>intro _<;>try exact zo)|fail)
  ·rename_i hc
   apply hK ((lo+hi)/2+1) hi
   ·refine⟨by omega,by omega,λj hj=>?_,h4⟩
    by_cases e:j=(lo+hi)/2
    ·rw[e,eb];exact hc
    ·have h5:=YdD hok j ((lo+hi)/2) (by omega) (by show _<n.links.length;omega)
     rw[eb]at h5
     rw[UQ]at*
     omega
   ·omega
   ·exact zu
   ·exactλw hw=>hw
  ·rename_i hc
   apply hK lo ((lo+hi)/2)
   ·refine⟨by omega,by omega,h3,λj hj hjl=>?_⟩
    by_cases e:j=(lo+hi)/2
    ·rw[e,eb];exact hc
    ·have h5:=YdD hok ((lo+hi)/2) j (by omega) hjl
     rw[eb]at h5
     have h6:¬cmpL b t<0:=by omega
     have h7:¬cmpL (lnk n.net j) t<0:=by
      rw[UQ]at*
      omega
     omega
   ·omega
   ·exact zu
   ·exactλw hw=>hw
 ·obtain rfl:lo=hi:=by omega
  by_cases hl:lo<n.links.length
  ·obtain⟨b,hb⟩:∃b,n.links[lo]? =some b:=⟨_,Ta hl⟩
   have eb:lnk n.net lo=b:=VA hb
   repeat'(first|((first|apply Yz (cs:=[])|apply Y4 (cs:=[]));exact rfl;exact YeL;exact za;exact rfl;exactλ_ hw=>(Vw b t hw))|(apply zg28;refine zs84 ?_)|refine zgd ?_|(refine zge ?_ ?_<;>intro _<;>try exact zo)|fail)
   all_goals(apply Yl;apply Yp;(iterate 3 exact rfl);refine⟨lo,?_,h2,h3,h4,rfl⟩;rw[eb])
   ·rw[Tc ⟨hl,by assumption⟩]
   ·rw[Tn λhc=>absurd hc.2 (by assumption)]
  ·repeat'(first|(apply zg28;refine zs84 ?_)|refine zgd ?_|(refine zge ?_ ?_<;>intro _<;>try exact zo)|fail)
   apply Yl;apply Yp;(iterate 3 exact rfl)
   refine⟨lo,?_,h2,h3,h4,rfl⟩
   rw[Tn λhc=>hl hc.1]
theorem YaD(n:NetM)(a b:Int)(hin:n.In B w0 H)(hok:Ok n.net)(hw:St B w0 H w):
 Calls Tryz.prog 232 [n.val,.int .i64 a,.int .i64 b].toArray w (Post B w0 λv K=>v=.int .i64 (Yw n.net a b)/\K=H):=by
 refine Yc Tryz.func232 Tryz.ntmps232 rfl rfl hw ?_
 (apply Xt;apply Y0;apply YR;exact rfl;exact rfl;intro g)
 repeat'(first|refine zgd ?_|fail)
 apply Yh _ YtT
 exact za
 exact rfl
 exactλ_ hw=>(YiN n (a,b,0) hin.cons hok (hw))
 rintro _ _ ⟨k,rfl,hk,h1,h2,rfl⟩
 have hf:=YhO hok hk h1 h2
 rw[hf]
 by_cases hc:k<n.links.length/\cmpL (lnk n.net k) (a,b,0)=0
 ·rw[Tc hc]
  repeat'(first|refine zgd ?_|fail)
  ((repeat apply Yl);apply Yd;exact rfl;exact rfl;refine⟨TU _ ?_,rfl⟩)
  exact(Tm hc).symm
 ·rw[Tn hc]
  repeat'(first|refine zgd ?_|fail)
  ((repeat apply Yl);apply Yd;exact rfl;exact rfl;refine⟨TU _ ?_,rfl⟩)
  exact(Td hc).symm
def Zd(n:Net)(a b:Int):Int:=if Yq n≠0 then -1 else Yw n a b
theorem XZ(n:NetM)(a b:Int)(hin:n.In B w0 H)(hw:St B w0 H w):
 Calls Tryz.prog 136 [n.val,.int .i64 a,.int .i64 b].toArray w (Post B w0 λv K=>v=.int .i64 (Zd n.net a b)/\K=H):=by
 refine Yc Tryz.func136 Tryz.ntmps136 rfl rfl hw ?_
 unfold Zd
 repeat'(first|((first|apply Ya en82|apply Yb en82);exact za;exact rfl;exactλ_ hw=>(YY n hin.cons hw))|((first|apply Ya YeK|apply Yb YeK);exact za;exact rfl;exactλ_ hw=>(YaD n _ _ hin.cons (YM (by assumption)) hw))|refine zgb ?_|(refine zge ?_ ?_<;>intro _<;>try exact zo)|(refine zgh ?_;intro _)|fail)
 all_goals(((repeat apply Yl);apply Yd;exact rfl;exact rfl;refine⟨TU _ ?_,rfl⟩);(repeat(first|refine XW (by omega) ?_|refine XY (by omega) ?_));rfl)
theorem Yc0(n:NetM)(s d:Int)(hok:Ok n.net)(hs:0<=s/\s<=8796093022208)(hd:0<=d/\d<=8796093022208)(hw:St B w0 H w):
 Calls Tryz.prog 266 [n.val,.int .i64 s,.int .i64 d].toArray w (Post B w0 λv K=>v=.bool (Z4 n.net s d)/\K=H):=by
 refine Yc Tryz.func266 Tryz.ntmps266 rfl rfl hw ?_
 have hb: -9223372036854775808<=n.thr*(n.noise+d)/\n.thr*(n.noise+d)<=9223372036854775807:=YqX hok hd.1 hd.2
 have hz0:0<=n.noise:=hok.z0
 have hz1:n.noise<=68719476736:=hok.z1
 unfold Z4
 show VC Tryz.prog _ B w0 _ (bodyPost Tryz.prog _ (Post B w0 λv K=>v=.bool (decide (n.thr*(n.noise+d)<=s*1000))/\K=H)) _ _
 repeat'(first|refine zgd ?_|(refine zgf ?_ ?_<;>intro _<;>try exact zo)|(refine zgh ?_;intro _)|fail)
 ·(repeat apply Yl);apply Yd;exact rfl;exact rfl
  exact⟨by rw[Tc (by assumption)],rfl⟩
 ·(repeat apply Yl);apply Yd;exact rfl;exact rfl
  exact⟨by rw[Tn (by omega)],rfl⟩
def Zl(n:Net)(s d:Int):Bool:=decide (Yq n=0)&&(decide (0<=s/\0<=d/\s<=8796093022208/\d<=8796093022208)&&Z4 n s d)
theorem O7(n:NetM)(s d:Int)(hin:n.In B w0 H)(hw:St B w0 H w):
 Calls Tryz.prog 190 [n.val,.int .i64 s,.int .i64 d].toArray w (Post B w0 λv K=>v=.bool (Zl n.net s d)/\K=H):=by
 refine Yc Tryz.func190 Tryz.ntmps190 rfl rfl hw ?_
 unfold Zl
 by_cases h0:Yq n.net=0
 rotate_left
 ·rw[Tn h0]
  repeat'(first|((first|apply Ya en82|apply Yb en82);exact za;exact rfl;exactλ_ hw=>(YY n hin.cons hw))|refine zgc ?_|(refine zge ?_ ?_<;>intro _<;>try exact zo)|(refine zgh ?_;intro _)|fail)
  (repeat apply Yl);apply Yd;exact rfl;exact rfl
  exact⟨rfl,rfl⟩
 rw[Tc h0]
 by_cases h1:0<=s/\0<=d/\s<=8796093022208/\d<=8796093022208
 rotate_left
 ·rw[Tn h1]
  repeat'(first|((first|apply Ya en82|apply Yb en82);exact za;exact rfl;exactλ_ hw=>(YY n hin.cons hw))|refine zgc ?_|(refine zgf ?_ ?_<;>intro _<;>try exact zo)|(refine zgh ?_;intro _)|fail)
  all_goals((repeat apply Yl);apply Yd;exact rfl;exact rfl;exact⟨rfl,rfl⟩)
 rw[Tc h1]
 repeat'(first|((first|apply Ya en82|apply Yb en82);exact za;exact rfl;exactλ_ hw=>(YY n hin.cons hw))|((first|apply Ya Ylo|apply Yb Ylo);exact za;exact rfl;exactλ_ hw=>(Yc0 n _ _ (YM h0) (by omega) (by omega) hw))|refine zgc ?_|(refine zgf ?_ ?_<;>intro _<;>try exact zo)|(refine zgh ?_;intro _)|fail)
 all_goals((repeat apply Yl);apply Yd;exact rfl;exact rfl;exact⟨rfl,rfl⟩)
theorem Yi1(n:NetM)(i:Nat)(hin:n.In B w0 H)(hok:Ok n.net)(hi:i<n.links.length)(hw:St B w0 H w):
 Calls Tryz.prog 263 [n.val,.int .i64 i].toArray w (Post B w0 λv K=>v=.bool (ZD n.net i)/\K=H):=by
 refine Yc Tryz.func263 Tryz.ntmps263 rfl rfl hw ?_
 obtain⟨hpw,hrw,hlk,hmg,hs1,hs2,hs3,hs4⟩:=id hin
 have hml:n.margin.length=n.links.length:=hok.k1
 obtain⟨l,hl⟩:∃l,n.links[i]? =some l:=⟨_,Ta hi⟩
 obtain⟨z,hz⟩:∃z,n.margin[i]? =some z:=⟨_,Ta (by omega)⟩
 have e1:lnk n.net i=l:=VA hl
 have e2:mar n.net i=z:=Ygc hz
 have hzb:=Yj0 hok hi
 unfold ZD
 rw[e2]at hzb
 rw[e1,e2]
 by_cases hb:0<=Yw n.net l.2.1 l.1
 ·have hlt:(Yw n.net l.2.1 l.1).toNat<n.links.length:=ZA hb
  obtain⟨y,hy⟩:∃y,n.margin[(Yw n.net l.2.1 l.1).toNat]? =some y:=⟨_,Ta (by omega)⟩
  have e3:mar n.net (Yw n.net l.2.1 l.1).toNat=y:=Ygc hy
  have hyb:=Yj0 hok hlt
  rw[e3]at hyb
  rw[e3,Tc hb]
  repeat'(first|((first|apply Ya YeK|apply Yb YeK);exact za;exact rfl;exactλ_ hw=>(YaD n _ _ hin.cons hok hw))|((first|apply Jh Ylo|apply Jg Ylo);exact za;exact rfl;exactλ_ hw=>(Yc0 n _ _ hok (by omega) (by omega) hw);all_goals(intro hB;(try simp only[Tq,Rl]at hB);try exact zo))|(apply zg28;refine zs84 ?_)|refine zgd ?_|(refine zgf ?_ ?_<;>intro _<;>try exact zo)|(refine zgh ?_;intro _)|fail)
  all_goals((repeat apply Yl);apply Yd;exact rfl;exact rfl;refine⟨?_,rfl⟩;simp_all)
 ·rw[Tn hb]
  repeat'(first|((first|apply Ya YeK|apply Yb YeK);exact za;exact rfl;exactλ_ hw=>(YaD n _ _ hin.cons hok hw))|(apply zg28;refine zs84 ?_)|refine zgd ?_|(refine zgf ?_ ?_<;>intro _<;>try exact zo)|(refine zgh ?_;intro _)|fail)
  all_goals((repeat apply Yl);apply Yd;exact rfl;exact rfl;exact⟨rfl,rfl⟩)
def J3(n:Net)(i:Int):Bool:=decide (Yq n=0)&&(decide (0<=i/\i<n.links.length)&&ZD n i.toNat)
theorem Uf(n:NetM)(i:Int)(hin:n.In B w0 H)(hw:St B w0 H w):
 Calls Tryz.prog 187 [n.val,.int .i64 i].toArray w (Post B w0 λv K=>v=.bool (J3 n.net i)/\K=H):=by
 refine Yc Tryz.func187 Tryz.ntmps187 rfl rfl hw ?_
 have hs3:=hin.s3
 have e7:n.net.links=n.links:=rfl
 unfold J3
 rw[e7]
 by_cases h0:Yq n.net=0
 rotate_left
 ·rw[Tn h0]
  repeat'(first|((first|apply Ya en82|apply Yb en82);exact za;exact rfl;exactλ_ hw=>(YY n hin.cons hw))|refine zgc ?_|(refine zge ?_ ?_<;>intro _<;>try exact zo)|(refine zgh ?_;intro _)|fail)
  all_goals((repeat apply Yl);apply Yd;exact rfl;exact rfl;exact⟨rfl,rfl⟩)
 rw[Tc h0]
 by_cases h1:0<=i/\i<n.links.length
 rotate_left
 ·rw[Tn h1]
  repeat'(first|((first|apply Ya en82|apply Yb en82);exact za;exact rfl;exactλ_ hw=>(YY n hin.cons hw))|refine zgc ?_|(refine zgf ?_ ?_<;>intro _<;>try exact zo)|(refine zgh ?_;intro _)|fail)
  all_goals((repeat apply Yl);apply Yd;exact rfl;exact rfl;exact⟨rfl,rfl⟩)
 rw[Tc h1]
 obtain⟨k,rfl⟩:∃k:Nat,i=k:=⟨i.toNat,by omega⟩
 repeat'(first|((first|apply Ya en82|apply Yb en82);exact za;exact rfl;exactλ_ hw=>(YY n hin.cons hw))|((first|apply Ya Yr1|apply Yb Yr1);exact za;exact rfl;exactλ_ hw=>(Yi1 n _ hin.cons (YM h0) (by omega) hw))|refine zgc ?_|(refine zgf ?_ ?_<;>intro _<;>try exact zo)|(refine zgh ?_;intro _)|fail)
 all_goals((repeat apply Yl);apply Yd;exact rfl;exact rfl;exact⟨rfl,rfl⟩)
def YA(n:Net)(a b:Int):Bool:=decide (0<=Yw n a b)&&(decide (0<=Yw n b a)&&(Z4 n (mar n (Yw n a b).toNat) 0&&Z4 n (mar n (Yw n b a).toNat) 0))
variable {n:Net}{i:Nat}
theorem OE(h:Ok n)(hi:i<n.links.length):Yw n (lnk n i).1 (lnk n i).2.1=i:=by
 have h1:∀j,j<i->cmpL (lnk n j) ((lnk n i).1,(lnk n i).2.1,(lnk n i).2.2)<0:=λj hj=>YdD h j i hj hi
 have h2:∀j,i<=j->j<n.links.length->0<=cmpL (lnk n j) ((lnk n i).1,(lnk n i).2.1,(lnk n i).2.2):=λj hj hl=>by
  by_cases e:i=j
  ·subst e
   have:cmpL (lnk n i) ((lnk n i).1,(lnk n i).2.1,(lnk n i).2.2)=0:=UR.2 ⟨rfl,rfl⟩
   omega
  ·have h3:=YdD h i j (by omega) hl
   have h4:¬cmpL (lnk n j) ((lnk n i).1,(lnk n i).2.1,(lnk n i).2.2)<0:=by
    rw[UQ]at*
    simp only
    omega
   omega
 rw[YhO h (Nat.le_of_lt hi) h1 h2,Tm ⟨hi,UR.2 ⟨rfl,rfl⟩⟩]
theorem UB(h:Ok n)(hi:i<n.links.length):ZD n i=YA n (lnk n i).1 (lnk n i).2.1:=by
 unfold ZD YA
 rw[OE h hi]
 simp
end Go.Proofs.YtaholidehobiiaaGreatDoor
namespace Go.Nw
theorem nodup_len:∀(N:Nat) (l:List Int),l.Nodup->(∀x∈l,0<=x/\x<N)->l.length<=N
 |0,l,_,h=>by
  cases l with
  |nil=>simp
  |cons a l=>grind [TA]
 |N+1,l,hn,h=>by
  have h1:=nodup_len N (l.erase (N:Int)) (hn.erase _) (λx hx=>by
   grind)
  grind
end Go.Nw
namespace Go.Proofs.YtaholidehobiiaaGreatDoor
open Go.RowKit Go.Eng Go.Nw
def Yx(c:Cel):Int:=c.2.2.1
def toC(c:Cel):Int:=c.2.2.2.1
def Xy(c:Cel):Int:=c.2.2.2.2
def YC(a b:Cel):Bool:=decide (Yx a=Yx b\/Yx a=toC b\/toC a=Yx b\/toC a=toC b)
theorem J1(a b:Cel):YC a b=YC b a:=by
 unfold YC
 rw[decide_eq_decide]
 omega
def VX(n:Net)(l:List Flw)(s:Sch)(i:Nat):Int:=
 if ZC s (Yo s i)=false then 2
 else if YA n (Yx (Yo s i)) (toC (Yo s i))=false\/Z8 l (Xy (Yo s i))<0 then 7
 else if 0<i/\Y8 (Yo s (i-1)) (Yo s i)=false then 5 else 0
def Jc(s:Sch)(i:Nat):Bool:=(List.range i).any λk=>decide ((Yo s k).1=(Yo s i).1)&&YC (Yo s i) (Yo s k)
def Xq(c d:Cel):Bool:=decide (d.1=c.1/\d.2.1=c.2.1)
def YF(s:Sch)(i:Nat):List Cel:=s.cells.filter (Xq (Yo s i))
def YI(s:Sch)(i:Nat):Nat:=((s.cells.take i).filter (Xq (Yo s i))).length
def celL(l:List Cel)(i:Nat):Cel:=l.getD i (0,0,0,0,0)
def powN(n:Net)(a b:Int):Int:=if insE a n.nodes=true/\insE b n.nodes=true then powr n a b else 0
def Yu(n:Net)(l:List Cel)(j:Nat)(node:Int):Nat->Int
 |0=>0
 |k+1=>Yu n l j node k+if k=j then 0 else powN n (Yx (celL l k)) node+powN n (toC (celL l k)) node
def UD(n:Net)(c:Cel):Bool:=!(insE (Yx c) n.nodes)||!(insE (toC c) n.nodes)
def UU(n:Net)(l:List Cel)(i node:Int):Int:=
 if Yq n≠0\/i<0\/l.length<=i\/insE node n.nodes=false\/l.any (UD n)=true then 0 else Yu n l i.toNat node l.length
def Z7(n:Net)(s:Sch)(i:Nat):Bool:=
 !(Zl n (mar n (Yw n (Yx (Yo s i)) (toC (Yo s i))).toNat) (UU n (YF s i) (YI s i) (toC (Yo s i))))||!(Zl n (mar n (Yw n (toC (Yo s i)) (Yx (Yo s i))).toNat) (UU n (YF s i) (YI s i) (Yx (Yo s i))))
def Zy(n:Net)(l:List Flw)(s:Sch):Int:=
 if Yq n≠0 then 1 else if(YE n.nodes l).2≠0 then 1 else if ZO s=false then 2
 else if(l.any λf=>decide (s.len.tmod f.2.2.2.1≠0))=true then 11 else if 512<s.cells.length then 8 else 0
def JT(n:Net)(l:List Flw)(s:Sch):Int×Int:=YH (VX n l s) s.cells.length 0
def Ud(s:Sch):Int×Int:=YH (λi=>if Jc s i=true then 6 else 0) s.cells.length 0
def YeA(n:Net)(s:Sch):Int×Int:=YH (λi=>if Z7 n s i=true then 16 else 0) s.cells.length 0
def schE(n:Net)(l:List Flw)(s:Sch):Int×Int:=
 if Zy n l s≠0 then(-1,Zy n l s)else if(JT n l s).2≠0 then JT n l s else if(Ud s).2≠0 then Ud s else YeA n s
def Ygr(n:Net)(l:List Cel)(i:Nat):Bool:=
 !(YA n (Yx (celL l i)) (toC (celL l i)))||((List.range l.length).any λk=>decide (k≠i)&&YC (celL l i) (celL l k))
   ||(!(Z4 n (mar n (Yw n (Yx (celL l i)) (toC (celL l i))).toNat) (Yu n l i (toC (celL l i)) l.length))||!(Z4 n (mar n (Yw n (toC (celL l i)) (Yx (celL l i))).toNat) (Yu n l i (Yx (celL l i)) l.length)))
variable {n:Net}
theorem Xu(h:Ok n){u v:Int}(hg:YA n u v=true):(0<=u/\u<n.nodes)/\(0<=v/\v<n.nodes)/\u≠v/\0<=Yw n u v/\0<=Yw n v u:=by
 unfold YA at hg
 simp only[To,Tq]at hg
 obtain⟨h1,h2,_⟩:=hg
 obtain⟨k1,k2⟩:=UW h1
 have:=h.lk _ (ZA h1)
 have a1:=this.f0;have a2:=this.f1;have a3:=this.t0;have a4:=this.t1;have a5:=this.ne
 rw[k1]at a1 a2 a5
 rw[k2]at a3 a4 a5
 exact⟨⟨a1,a2⟩,⟨a3,a4⟩,a5,h1,h2⟩
theorem Yi2(h:Yq n=0)(a b:Int):J3 n (Zd n a b)=YA n a b:=by
 have hok:=YM h
 unfold J3 Zd
 rw[Td (by omega),Tc h,RS]
 by_cases h0:0<=Yw n a b
 ·have hl:=ZA h0
  rw[UB hok hl,(UW h0).1,(UW h0).2,Tc (by omega),RS]
 ·rw[Tn (by omega),SI]
  unfold YA
  rw[Tn h0,SI]
variable {s:Sch}{i:Nat}
theorem YdA(h:i<s.cells.length):(YF s i)[YI s i]? =some (Yo s i):=by
 have h1:=Y2 h
 obtain⟨h2,h3⟩:=Ti.1 h1
 have hsp:s.cells=s.cells.take i++Yo s i::s.cells.drop (i+1):=by
  rw[<-h3,List.getElem_cons_drop,SC]
 unfold YF YI
 have hp:Xq (Yo s i) (Yo s i)=true:=by unfold Xq;simp
 have hf:s.cells.filter (Xq (Yo s i))=(s.cells.take i).filter (Xq (Yo s i))++Yo s i::(s.cells.drop (i+1)).filter (Xq (Yo s i)):=by
  conv=>lhs;rw[hsp]
  rw[Rj,Su,Tm hp]
 rw[hf,Ro (TL _),Nb]
 rfl
structure Fine(n:Net)(s:Sch):Prop where
 good:∀c∈s.cells,YA n (Yx c) (toC c)=true
 once:s.cells.Pairwise λa b=>a.1=b.1->YC a b=false
theorem YqU{l:List Flw}(h1:(JT n l s).2=0)(h2:(Ud s).2=0):Fine n s:=by
 have k1:=YL.1 h1
 have k2:=YL.1 h2
 constructor
 ·intro c hc
  obtain⟨i,hi⟩:=T9.1 hc
  have hl:=(Ti.1 hi).1
  have:=k1 i (Tu _) (by omega)
  unfold VX at this
  rw[XF hi]at this
  cases hg:YA n (Yx c) (toC c)with
  |true=>rfl
  |false=>
   rw[hg]at this
   split at this
   ·omega
   ·rw[Tm (.inl rfl)]at this;omega
 ·refine RO.2 λi j hi hj hij hs=>?_
  have:=k2 j (Tu _) (by omega)
  have e1:Yo s i=s.cells[i]:=XF (Ta hi)
  have e2:Yo s j=s.cells[j]:=XF (Ta hj)
  cases ht:YC s.cells[i] s.cells[j]with
  |false=>rfl
  |true=>
   have hb:Jc s j=true:=by
    unfold Jc
    rw[Rk]
    refine⟨i,TO.2 hij,?_⟩
    rw[e1,e2,Tc hs,RS,J1]
    exact ht
   simp only[hb,NF]at this
   omega
theorem Ys5(h:Ok n){a b:Int}(ha:0<=a/\a<n.nodes)(hb:0<=b/\b<n.nodes):0<=powr n a b/\powr n a b<=68719476736:=by
 have hp:=h.p0
 obtain⟨r,hr⟩:∃r,n.power[a.toNat]? =some r:=⟨_,Ta (by omega)⟩
 have hrm:=Tf hr
 have hl:=h.p1 r hrm
 obtain⟨p,hpe⟩:∃p,r[b.toNat]? =some p:=⟨_,Ta (by omega)⟩
 have:=h.p2 r hrm p (Tf hpe)
 have e1:n.power.getD a.toNat []=r:=by rw[Tt,hr];rfl
 have e2:r.getD b.toNat 0=p:=by rw[Tt,hpe];rfl
 unfold powr
 rw[e1,e2]
 exact this
theorem Ww(h:Ok n)(a b:Int):0<=powN n a b/\powN n a b<=68719476736:=by
 unfold powN
 split
 ·rename_i hc
  unfold insE at hc
  simp only[Tq]at hc
  exact Ys5 h hc.1 hc.2
 ·omega
theorem YfX{n:Net}(h:Ok n)(l:List Cel)(j:Nat)(node:Int):∀k:Nat,0<=Yu n l j node k/\Yu n l j node k<=(k:Int)*137438953472
 |0=>by simp[Yu]
 |k+1=>by
  have h1:=YfX h l j node k
  have h2:=Ww h (Yx (celL l k)) node
  have h3:=Ww h (toC (celL l k)) node
  unfold Yu
  split<;>omega
theorem YnD(h:Ok n)(hf:Fine n s)(i:Nat):(YF s i).length<=16:=by
 have hsub:(YF s i).Sublist s.cells:=NB
 have hpw:(YF s i).Pairwise λa b=>YC a b=false:=by
  refine(hf.once.sublist hsub).imp_of_mem λ{a b} ha hb hab=>hab ?_
  have h1:=(Rr.1 ha).2
  have h2:=(Rr.1 hb).2
  unfold Xq at h1 h2
  simp only[Tq]at h1 h2
  rw[h1.1,h2.1]
 have hnd:((YF s i).flatMap λc=>[Yx c,toC c]).Nodup:=by
  refine List.pairwise_flatMap.2 ⟨λc hc=>?_,hpw.imp λ{a b} hab x hx y hy=>?_⟩
  ·have:=Xu h (hf.good c (hsub.subset hc))
   simp[this.2.2.1]
  ·unfold YC at hab
   have hab:=of_decide_eq_false hab
   simp only[TN,R7,N2]at hx hy
   omega
 have hlen:=Go.Nw.nodup_len n.nodes.toNat _ hnd (λx hx=>by
  obtain⟨c,hc,hx⟩:=RN.1 hx
  have:=Xu h (hf.good c (hsub.subset hc))
  have:=h.n0
  simp only[TN,R7,N2]at hx
  omega)
 have h2:((YF s i).flatMap λc=>[Yx c,toC c]).length=(YF s i).length*2:=by
  induction YF s i with
  |nil=>rfl
  |cons c l ih=>rw[TR,Tj,ih];simp only[TS,RD];omega
 have:=h.n1
 omega
theorem YhH(hck:Yq n=0)(hf:Fine n s)(hi:i<s.cells.length):Z7 n s i=Ygr n (YF s i) (YI s i):=by
 have hok:=YM hck
 have hat:=YdA hi
 have hlt:=(Ti.1 hat).1
 have hc:celL (YF s i) (YI s i)=Yo s i:=by unfold celL;rw[Tt,hat];rfl
 have hsub:(YF s i).Sublist s.cells:=NB
 have hg:=hf.good _ (JQ hi)
 have hgn:=Xu hok hg
 have hle:=YnD hok hf i
 have hpw:(YF s i).Pairwise λa b=>YC a b=false:=by
  refine(hf.once.sublist hsub).imp_of_mem λ{a b} ha hb hab=>hab ?_
  have h1:=(Rr.1 ha).2
  have h2:=(Rr.1 hb).2
  unfold Xq at h1 h2
  simp only[Tq]at h1 h2
  rw[h1.1,h2.1]
 have hto:((List.range (YF s i).length).any λk=>decide (k≠YI s i)&&YC (celL (YF s i) (YI s i)) (celL (YF s i) k))=false:=by
  rw[RY]
  intro k hk
  have hk:=TO.1 hk
  by_cases e:k=YI s i
  ·rw[Tn (λh=>h e)];simp
  ·have hpk:=RO.1 hpw
   have e1:celL (YF s i) k=(YF s i)[k]:=by unfold celL;rw[Tt,Ta hk];rfl
   have e2:celL (YF s i) (YI s i)=(YF s i)[YI s i]:=by unfold celL;rw[Tt,Ta hlt];rfl
   rw[Tc e,RS,e1,e2]
   rcases Nat.lt_or_gt_of_ne e with h|h
   ·rw[J1,hpk k _ hk hlt h];simp
   ·rw[hpk _ k hlt hk h];simp
 have hno:(YF s i).any (UD n)=false:=by
  rw[RY]
  intro c hcm
  have:=Xu hok (hf.good c (hsub.subset hcm))
  unfold UD insE
  rw[Tc this.1,Tc this.2.1]
  simp
 have hde:∀node,0<=node->node<n.nodes->UU n (YF s i) (YI s i) node=Yu n (YF s i) (YI s i) node (YF s i).length:=λnode h0 h1=>by
  unfold UU
  rw[Td]
  ·rfl
  ·rintro(h|h|h|h|h)
   ·exact h hck
   ·omega
   ·omega
   ·unfold insE at h
    have:=of_decide_eq_false h
    omega
   ·rw[hno]at h;cases h
 have hhe:∀(a b node:Int),0<=Yw n a b->Zl n (mar n (Yw n a b).toNat) (Yu n (YF s i) (YI s i) node (YF s i).length)=Z4 n (mar n (Yw n a b).toNat) (Yu n (YF s i) (YI s i) node (YF s i).length):=λa b node h0=>by
  have h1:=Yj0 hok (ZA h0)
  have h2:=YfX hok (YF s i) (YI s i) node (YF s i).length
  unfold Zl
  rw[Tc hck,Tc (by omega)]
  rfl
 unfold Z7 Ygr
 rw[hc]at hto⊢
 rw[hto,hg,hde _ hgn.2.1.1 hgn.2.1.2,hde _ hgn.1.1 hgn.1.2,hhe _ _ _ hgn.2.2.2.1,hhe _ _ _ hgn.2.2.2.2]
 rfl
def ltB(c:Cel)(x:Cel):Bool:=Y8 x c
def posE(l:List Cel)(c:Cel):Nat:=(l.takeWhile (ltB c)).length
structure Pos(l:List Cel)(c:Cel)(k:Nat):Prop where
 le:k<=l.length
 lo:∀i x,i<k->l[i]? =some x->Y8 x c=true
 hi:∀i x,k<=i->l[i]? =some x->Y8 x c=false
abbrev Ord(l:List Cel):Prop:=l.Pairwise λa b=>Y8 a b=true
variable {l:List Cel}{x c:Cel}
theorem Ygh(h:Ord l){i j:Nat}{y:Cel}(hx:l[i]? =some x)(hy:l[j]? =some y)(hij:i<j):Y8 x y=true:=by
 obtain⟨h1,rfl⟩:=Ti.1 hx
 obtain⟨h2,rfl⟩:=Ti.1 hy
 exact RO.1 h i j h1 h2 hij
theorem Yan{α:Type}{p:α->Bool}:∀{l:List α}{i:Nat}{x:α},i<(l.takeWhile p).length->l[i]? =some x->p x=true
 |[],_,_,h,_=>by simp at h
 |a::l,i,x,h,hx=>by
  rw[NC]at h
  cases hp:p a with
  |false=>rw[hp]at h;simp at h
  |true=>
   rw[hp,Tm rfl]at h
   cases i with
   |zero=>
    obtain rfl:a=x:=by simpa using hx
    exact hp
   |succ i=>exact Yan (l:=l) (i:=i) (by simpa using h) (by simpa using hx)
theorem Yal{α:Type}{p:α->Bool}:∀{l:List α}{x:α},l[(l.takeWhile p).length]? =some x->p x=false
 |[],_,h=>by simp at h
 |a::l,x,h=>by
  rw[NC]at h
  cases hp:p a with
  |false=>
   rw[hp]at h
   obtain rfl:a=x:=by simpa using h
   exact hp
  |true=>
   rw[hp,Tm rfl]at h
   exact Yal (l:=l) (by simpa using h)
theorem Yam{α:Type}{p:α->Bool}:∀l:List α,(l.takeWhile p).length<=l.length
 |[]=>TL _
 |a::l=>by
  rw[NC]
  split
  ·have:=Yam (p:=p) l;simp only[TS];omega
  ·simp
theorem Ygn(h:Ord l)(c:Cel):Pos l c (posE l c):=by
 refine⟨Yam l,λi x hi hx=>show ltB c x=true from Yan hi hx,λi x hi hx=>?_⟩
 unfold posE at hi
 obtain⟨y,hy⟩:∃y,l[(l.takeWhile (ltB c)).length]? =some y:=⟨_,Ta (Nat.lt_of_le_of_lt hi (Ti.1 hx).1)⟩
 have h1:Y8 y c=false:=show ltB c y=false from Yal hy
 rcases Nat.eq_or_lt_of_le hi with e|hlt
 ·rw[e,hx]at hy
  injection hy with hy;subst hy;exact h1
 ·have h2:=Ygh h hy hx hlt
  cases h3:Y8 x c with
  |false=>rfl
  |true=>rw[Jk h2 h3]at h1;cases h1
variable {k:Nat}
theorem Pos.eq{m:Nat}(h1:Pos l c k)(h2:Pos l c m):k=m:=by
 rcases N1 k m with h|h|h
 ·obtain⟨x,hx⟩:∃x,l[k]? =some x:=⟨_,Ta (by have:=h2.le;omega)⟩
  have:=h1.hi k x (TL _) hx
  rw[h2.lo k x h hx]at this;cases this
 ·exact h
 ·obtain⟨x,hx⟩:∃x,l[m]? =some x:=⟨_,Ta (by have:=h1.le;omega)⟩
  have:=h2.hi m x (TL _) hx
  rw[h1.lo m x h hx]at this;cases this
theorem Pos.posE(h:Ord l)(hk:Pos l c k):k=posE l c:=hk.eq (Ygn h c)
theorem Yro(h:Ord l)(hk:Pos l c k):l[k]? =some c↔c∈l:=by
 constructor
 ·exact Tf
 ·intro hm
  obtain⟨i,hi⟩:=T9.1 hm
  rcases N1 i k with h1|h1|h1
  ·have:=hk.lo i c h1 hi
   rw[JS]at this;cases this
  ·subst h1;exact hi
  ·obtain⟨x,hx⟩:∃x,l[k]? =some x:=⟨_,Ta (by have:=(Ti.1 hi).1;omega)⟩
   have h2:=hk.hi k x (TL _) hx
   rw[Ygh h hx hi h1]at h2;cases h2
def insC(l:List Cel)(c:Cel):List Cel:=l.take (posE l c)++c::l.drop (posE l c)
def Zs:Sch:=⟨0,0,[]⟩
def atE(s:Sch)(slot:Int):List Cel:=if Xz s=false\/slot<0 then []else s.cells.filter λc=>decide (c.1=slot.tmod s.len)
def movC(d:Int)(c:Cel):Cel:=(c.1+d,c.2)
def repC(s:Sch)(k:Nat):List Cel:=(List.range k).flatMap λi:Nat=>s.cells.map (movC ((i:Int)*s.len))
theorem Yh5(l:List Cel)(c:Cel):(insC l c).Perm (c::l):=by
 unfold insC
 refine List.perm_middle.trans ?_
 rw[SC]
theorem OH:x∈insC l c↔x=c\/x∈l:=by
 rw[(Yh5 l c).mem_iff,TN]
theorem Yq5(h:Ord l)(hc:c∉l):Ord (insC l c):=by
 have hp:=Ygn h c
 unfold insC
 have hsp:Ord (l.take (posE l c)++l.drop (posE l c)):=by rw[SC];exact h
 obtain⟨h1,h2,h3⟩:=N3.1 hsp
 have hlo:∀x∈l.take (posE l c),Y8 x c=true:=λx hx=>by
  obtain⟨i,hi⟩:=T9.1 hx
  have hil:=(Ti.1 hi).1
  rw[TD]at hil
  rw[SL (by omega)]at hi
  exact hp.lo i x (by omega) hi
 have hhi:∀x∈l.drop (posE l c),Y8 c x=true:=λx hx=>by
  obtain⟨i,hi⟩:=T9.1 hx
  rw[RB]at hi
  have h4:=hp.hi _ x (Nat.le_add_right _ _) hi
  cases h5:Y8 c x with
  |true=>rfl
  |false=>exact absurd (Tf hi) (by rw[QI h4 h5];exact hc)
 refine N3.2 ⟨h1,.cons hhi h2,λx hx y hy=>?_⟩
 rcases TN.1 hy with rfl|hy
 ·exact hlo x hx
 ·exact h3 x hx y hy
theorem Yfd(h:Ord l):l.Nodup:=h.imp λ{a b} hab e=>by subst e;rw[JS]at hab;cases hab
variable {l:List Flw}
theorem Yo8{id:Int}(h:0<=Z8 l id):∃f∈l,f.1=id:=by
 unfold Z8 at h
 have:=(Vz (λf:Flw=>decide (f.1=id)) l 0 (SD _)).1 h
 obtain⟨f,hf,hp⟩:=Rk.1 this
 exact⟨f,hf,Rm hp⟩
theorem YeV{nodes:Int}(h:(YE nodes l).2=0):∀f∈l,0<=f.1/\f.1<=255/\1<=f.2.2.2.1/\f.2.2.2.1<=512:=by
 intro f hf
 obtain⟨i,hi⟩:=T9.1 hf
 have hl:=(Ti.1 hi).1
 unfold YE at h
 split at h
 ·cases h
 split at h
 ·cases h
 have:=YL.1 h i (Tu _) (by omega)
 unfold Xo at this
 have e:Y9 l i=f:=by unfold Y9;rw[Tt,hi];rfl
 rw[e]at this
 split at this
 ·rename_i h1;exact absurd this h1
 ·rename_i h1
  have h2:XD nodes f=0:=RL.1 h1
  unfold XD at h2
  split at h2
  ·cases h2
  split at h2
  ·cases h2
  omega
structure Val(n:Net)(l:List Flw)(s:Sch):Prop where
 whole:Zy n l s=0
 cells:(JT n l s).2=0
 twice:(Ud s).2=0
 dist:(YeA n s).2=0
variable {n:Net}{s:Sch}
theorem Jb:(schE n l s).2=0↔Val n l s:=by
 unfold schE
 by_cases h1:Zy n l s≠0
 ·rw[Tm h1]
  exact⟨λh=>absurd h h1,λh=>absurd h.whole h1⟩
 rw[Td h1]
 by_cases h2:(JT n l s).2≠0
 ·rw[Tm h2]
  exact⟨λh=>absurd h h2,λh=>absurd h.cells h2⟩
 rw[Td h2]
 by_cases h3:(Ud s).2≠0
 ·rw[Tm h3]
  exact⟨λh=>absurd h h3,λh=>absurd h.twice h3⟩
 rw[Td h3]
 exact⟨λh=>⟨RL.1 h1,RL.1 h2,RL.1 h3,h⟩,λh=>h.dist⟩
theorem OA(h:Zy n l s=0):Yq n=0/\(YE n.nodes l).2=0/\ZO s=true/\(∀f∈l,s.len.tmod f.2.2.2.1=0)/\s.cells.length<=512:=by
 unfold Zy at h
 by_cases h1:Yq n=0
 rotate_left
 ·rw[Tm h1]at h;cases h
 rw[Td (λe=>e h1)]at h
 by_cases h2:(YE n.nodes l).2=0
 rotate_left
 ·rw[Tm h2]at h;cases h
 rw[Td (λe=>e h2)]at h
 cases h3:ZO s with
 |false=>rw[h3,Tm rfl]at h;cases h
 |true=>
  rw[h3,Td (by decide)]at h
  split at h
  ·cases h
  rename_i h4
  split at h
  ·cases h
  refine⟨h1,h2,rfl,λf hf=>?_,by omega⟩
  have:=RY.1 (S7.2 h4) f hf
  simpa using this
theorem Val.frm(h:Val n l s):Frm s:=by
 obtain⟨h1,h2,h3,h4,h5⟩:=OA h.whole
 have hok:=YM h1
 have k1:=YL.1 h.cells
 have hids:=YeV h2
 have hn:=hok.n1
 have hcell:∀i,i<s.cells.length->ZC s (Yo s i)=true/\YA n (Yx (Yo s i)) (toC (Yo s i))=true/\0<=Z8 l (Xy (Yo s i))/\(0<i->Y8 (Yo s (i-1)) (Yo s i)=true):=λi hi=>by
  have:=k1 i (Tu _) (by omega)
  unfold VX at this
  cases hp:ZC s (Yo s i)with
  |false=>rw[hp,Tm rfl]at this;cases this
  |true=>
   rw[hp,Td (by decide)]at this
   split at this
   ·cases this
   rename_i h6
   split at this
   ·cases this
   rename_i h7
   refine⟨rfl,?_,?_,λh0=>?_⟩
   ·cases hg:YA n (Yx (Yo s i)) (toC (Yo s i))with
    |true=>rfl
    |false=>exact absurd (.inl hg) h6
   ·exact Int.not_lt.1 λhlt=>h6 (.inr hlt)
   ·cases hc:Y8 (Yo s (i-1)) (Yo s i)with
    |true=>rfl
    |false=>exact absurd ⟨h0,hc⟩ h7
 refine⟨h3,h5,λc hc=>?_,?_⟩
 ·obtain⟨i,hi⟩:=T9.1 hc
  obtain⟨a1,a2,a3,_⟩:=hcell i (Ti.1 hi).1
  rw[XF hi]at a1 a2 a3
  have hg:=Xu hok a2
  obtain⟨f,hf,hfe⟩:=Yo8 a3
  have hid:=hids f hf
  unfold Yx toC Xy at*
  unfold ZT insE
  rw[a1,Tc (by omega),Tc (by omega),Tc (by omega)]
  rfl
 ·refine Yab (lt:=Y8) (λh1 h2=>Jk h1 h2) λi a b ha hb=>?_
  have:=(hcell (i+1) (Ti.1 hb).1).2.2.2 (by omega)
  rw[SR,XF ha,XF hb]at this
  exact this
def cpN(n:Net)(node:Int)(d:Cel):Int:=powN n (Yx d) node+powN n (toC d) node
def sumC(n:Net)(node:Int)(l:List Cel):Int:=(l.map (cpN n node)).sum
theorem YiU(n:Net)(node:Int):sumC n node []=0:=rfl
theorem XR(n:Net)(node:Int)(d:Cel)(l:List Cel):sumC n node (d::l)=cpN n node d+sumC n node l:=by unfold sumC;rw[Re,NJ]
theorem YbF(n:Net)(node:Int):∀l m:List Cel,sumC n node (l++m)=sumC n node l+sumC n node m
 |[],m=>by rw[TK,YiU];omega
 |d::l,m=>by rw[TC,XR,XR,YbF n node l m];omega
variable {n:Net}
theorem Yp4(h:Ok n)(node:Int){l m:List Cel}(hs:l.Sublist m):sumC n node l<=sumC n node m:=by
 induction hs with
 |slnil=>exact SD _
 |@cons l m d _ ih=>
  rw[XR]
  have h1:=Ww h (Yx d) node
  have h2:=Ww h (toC d) node
  unfold cpN
  omega
 |cons_cons d _ ih=>rw[XR,XR];omega
theorem YcG{n:Net}{l:List Cel}(hnd:l.Nodup){j:Nat}{c:Cel}(hj:l[j]? =some c)(node:Int):∀k,k<=l.length->Yu n l j node k=sumC n node ((l.take k).filter λd=>decide (d≠c))
 |0,_=>rfl
 |k+1,hk=>by
  obtain⟨d,hd⟩:∃d,l[k]? =some d:=⟨_,Ta hk⟩
  have hc:celL l k=d:=by unfold celL;rw[Tt,hd];rfl
  unfold Yu
  rw[YcG hnd hj node k (by omega),TF,hd,Rj,YbF,hc]
  congr 1
  by_cases e:k=j
  ·subst e
   rw[hj]at hd
   obtain rfl:=Tz hd
   rw[Tm rfl]
   simp[sumC]
  ·have hne:d≠c:=λh=>by
    subst h
    obtain⟨h1,h2⟩:=Ti.1 hd
    obtain⟨h3,h4⟩:=Ti.1 hj
    have hp:=RO.1 hnd
    rcases Nat.lt_or_gt_of_ne e with h|h
    ·exact hp k j h1 h3 h (by rw[h2,h4])
    ·exact hp j k h3 h1 h (by rw[h2,h4])
   rw[Td e]
   simp only[RI,Su,Tc hne,NF,List.filter_nil]
   rw[XR,YiU]
   unfold cpN
   omega
def Um(n:Net)(l:List Cel)(c:Cel)(node:Int):Int:=sumC n node (l.filter λd=>Xq c d&&decide (d≠c))
def Vi(n:Net)(l:List Cel)(c:Cel):Bool:=Z4 n (mar n (Yw n (Yx c) (toC c)).toNat) (Um n l c (toC c))&&Z4 n (mar n (Yw n (toC c) (Yx c)).toNat) (Um n l c (Yx c))
variable {s:Sch}
theorem YcE(hck:Yq n=0)(hf:Fine n s)(ho:Ord s.cells){i:Nat}(hi:i<s.cells.length):Z7 n s i=!(Vi n s.cells (Yo s i)):=by
 have hok:=YM hck
 rw[YhH hck hf hi]
 have hnd:=Yfd ho
 have hat:=YdA hi
 have hsub:(YF s i).Sublist s.cells:=NB
 have hnds:=hnd.sublist hsub
 have hc:celL (YF s i) (YI s i)=Yo s i:=by unfold celL;rw[Tt,hat];rfl
 have hd:∀node,Yu n (YF s i) (YI s i) node (YF s i).length=Um n s.cells (Yo s i) node:=λnode=>by
  rw[YcG hnds hat node _ (TL _),TY]
  unfold Um YF
  rw[NR]
  congr 1
  refine Ni λx _=>?_
  exact Bool.and_comm _ _
 have hg:=hf.good _ (JQ hi)
 have hr:=YhH hck hf hi
 have hto:((List.range (YF s i).length).any λk=>decide (k≠YI s i)&&YC (celL (YF s i) (YI s i)) (celL (YF s i) k))=false:=by
  have hpw:(YF s i).Pairwise λa b=>YC a b=false:=by
   refine(hf.once.sublist hsub).imp_of_mem λ{a b} ha hb hab=>hab ?_
   have h1:=(Rr.1 ha).2
   have h2:=(Rr.1 hb).2
   unfold Xq at h1 h2
   simp only[Tq]at h1 h2
   rw[h1.1,h2.1]
  have hlt:=(Ti.1 hat).1
  rw[RY]
  intro k hk
  have hk:=TO.1 hk
  by_cases e:k=YI s i
  ·rw[Tn (λh=>h e)];simp
  ·have hpk:=RO.1 hpw
   have e1:celL (YF s i) k=(YF s i)[k]:=by unfold celL;rw[Tt,Ta hk];rfl
   have e2:celL (YF s i) (YI s i)=(YF s i)[YI s i]:=by unfold celL;rw[Tt,Ta hlt];rfl
   rw[Tc e,RS,e1,e2]
   rcases Nat.lt_or_gt_of_ne e with h|h
   ·rw[J1,hpk k _ hk hlt h];simp
   ·rw[hpk _ k hlt hk h];simp
 unfold Ygr
 rw[hto,hc,hg,hd,hd]
 unfold Vi
 simp
structure Sem(n:Net)(l:List Flw)(s:Sch):Prop where
 ck:Yq n=0
 fl:(YE n.nodes l).2=0
 per:∀f∈l,s.len.tmod f.2.2.2.1=0
 frm:Frm s
 good:∀c∈s.cells,YA n (Yx c) (toC c)=true/\0<=Z8 l (Xy c)
 once:s.cells.Pairwise λa b=>a.1=b.1->YC a b=false
 clear:∀c∈s.cells,Vi n s.cells c=true
variable {l:List Flw}
theorem YkE(h1:Yq n=0)(h2:(YE n.nodes l).2=0)(h3:ZO s=true)(h4:∀f∈l,s.len.tmod f.2.2.2.1=0)(h5:s.cells.length<=512):Zy n l s=0:=by
 unfold Zy
 rw[Td (λh=>h h1),Td (λh=>h h2),h3,Td (by decide),Td,Td (by omega)]
 rw[Bool.not_eq_true,RY]
 intro f hf
 rw[Tq]
 exactλh=>h (h4 f hf)
theorem Yjs(hf:Frm s)(hg:∀c∈s.cells,YA n (Yx c) (toC c)=true/\0<=Z8 l (Xy c)):(JT n l s).2=0:=by
 refine YL.2 λk _ hk=>?_
 have hk:k<s.cells.length:=by omega
 have hm:=JQ hk
 have hfo:=hf.formed _ hm
 unfold ZT at hfo
 simp only[To]at hfo
 obtain⟨g1,g2⟩:=hg _ hm
 unfold VX
 rw[hfo.1.1.1,Td (by decide),g1,Td (by rintro(h|h);cases h;omega),Td]
 rintro⟨h1,h2⟩
 have:=YfQ (TI.2 λi hi=>by
  have h:=ZJ.2 hf
  unfold Xz at h
  simp only[To]at h
  exact TI.1 h.2 i hi) hk
 unfold Vm at this
 simp only[To,Sj,Tq]at this
 rcases this.2 with h3|h3
 ·omega
 ·rw[h2]at h3;cases h3
theorem YkD(h:s.cells.Pairwise λa b=>a.1=b.1->YC a b=false):(Ud s).2=0:=by
 refine YL.2 λk _ hk=>?_
 have hk:k<s.cells.length:=by omega
 have hb:Jc s k=false:=by
  unfold Jc
  rw[RY]
  intro i hi
  have hi:=TO.1 hi
  have e1:Yo s i=s.cells[i]'(by omega):=XF (Ta _)
  have e2:Yo s k=s.cells[k]:=XF (Ta hk)
  have:=RO.1 h i k (by omega) hk hi
  rw[<-e1,<-e2]at this
  by_cases he:(Yo s i).1=(Yo s k).1
  ·rw[J1,this he];simp
  ·rw[Tn he];simp
 simp only[hb]
 rfl
theorem VD:Val n l s↔Sem n l s:=by
 constructor
 ·intro h
  obtain⟨h1,h2,h3,h4,h5⟩:=OA h.whole
  have hf:=h.frm
  have hfine:=YqU h.cells h.twice
  have k1:=YL.1 h.cells
  have k3:=YL.1 h.dist
  refine⟨h1,h2,h4,hf,λc hc=>⟨hfine.good c hc,?_⟩,hfine.once,λc hc=>?_⟩
  ·obtain⟨i,hi⟩:=T9.1 hc
   have:=k1 i (Tu _) (by have:=(Ti.1 hi).1;omega)
   unfold VX at this
   rw[XF hi]at this
   split at this
   ·cases this
   split at this
   ·cases this
   rename_i h6
   exact Int.not_lt.1 λhlt=>h6 (.inr hlt)
  ·obtain⟨i,hi⟩:=T9.1 hc
   have hl:=(Ti.1 hi).1
   have:=k3 i (Tu _) (by omega)
   simp only[YcE h1 hfine hf.ord hl]at this
   rw[XF hi]at this
   cases hcl:Vi n s.cells c with
   |true=>rfl
   |false=>rw[hcl]at this;simp at this
 ·intro h
  refine⟨YkE h.ck h.fl h.frm.sized h.per h.frm.few,Yjs h.frm h.good,YkD h.once,YL.2 λk _ hk=>?_⟩
  have hk:k<s.cells.length:=by omega
  simp only[YcE h.ck ⟨λc hc=>(h.good c hc).1,h.once⟩ h.frm.ord hk,h.clear _ (JQ hk)]
  rfl
theorem YcZ(h:Ok n){s d e:Int}(he:e<=d)(hd:Z4 n s d=true):Z4 n s e=true:=by
 unfold Z4 at hd⊢
 have h1:=Rm hd
 have h2:=h.t0
 have h3:n.thr*(n.noise+e)<=n.thr*(n.noise+d):=Ny (by omega) (by omega)
 exact Tc (by omega)
theorem Sem.sub{t:Sch}(h:Sem n l s)(h1:t.len=s.len)(h2:t.off=s.off)(hs:t.cells.Sublist s.cells):Sem n l t:=by
 have hok:=YM h.ck
 have hlen:=hs.length_le
 have hfew:=h.frm.few
 refine⟨h.ck,h.fl,by rw[h1];exact h.per,⟨?_,by omega,λc hc=>?_,h.frm.ord.sublist hs⟩,λc hc=>h.good c (hs.subset hc),h.once.sublist hs,λc hc=>?_⟩
 ·have:=h.frm.sized
  unfold ZO at this⊢
  rw[h1,h2];exact this
 ·have:=h.frm.formed c (hs.subset hc)
  unfold ZT ZC at this⊢
  rw[h1,h2];exact this
 ·have:=h.clear c (hs.subset hc)
  unfold Vi at this⊢
  simp only[To]at this⊢
  have hd:∀node,Um n t.cells c node<=Um n s.cells c node:=λnode=>Yp4 hok node (hs.filter _)
  exact⟨YcZ hok (hd _) this.1,YcZ hok (hd _) this.2⟩
def Yn2(n:Net)(l:List Flw)(s:Sch):Prop:=∀c∈s.cells,YA n (Yx c) (toC c)=true/\0<=Z8 l (Xy c)
def Yn4(s:Sch):Prop:=s.cells.Pairwise λa b=>a.1=b.1->YC a b=false
def Yja(n:Net)(s:Sch):Prop:=∀c∈s.cells,Vi n s.cells c=true
theorem YpO(s:Sch)(k:Nat):repC s (k+1)=repC s k++s.cells.map (movC ((k:Int)*s.len)):=by
 unfold repC
 rw[RA,TV]
 simp
variable {s t:Sch}{k i j:Nat}
theorem Yb2{x:Cel}:x∈repC s k↔∃i,i<k/\∃c∈s.cells,x=movC ((i:Int)*s.len) c:=by
 unfold repC
 simp only[RN,TO,TG]
 constructor
 ·rintro⟨i,hi,c,hc,rfl⟩;exact⟨i,hi,c,hc,rfl⟩
 ·rintro⟨i,hi,c,hc,rfl⟩;exact⟨i,hi,c,hc,rfl⟩
theorem Yil{L:Int}(hL:0<=L)(h:i<j):(i:Int)*L+L<=(j:Int)*L:=by
 have h1:((i:Int)+1)*L<=(j:Int)*L:=SX (by omega) hL
 rw[Int.add_mul]at h1
 omega
variable {c:Cel}
theorem YlW(hf:Frm s)(hc:c∈s.cells):0<=c.1/\c.1<s.len:=by
 have:=hf.formed c hc
 unfold ZT ZC insE at this
 simp only[To,Tq]at this
 exact this.1.1.1.1
theorem Yfs(hf:Frm s){d:Cel}(hc:c∈s.cells)(hd:d∈s.cells)(h:c.1+(i:Int)*s.len=d.1+(j:Int)*s.len):i=j/\c.1=d.1:=by
 have h1:=YlW hf hc
 have h2:=YlW hf hd
 rcases N1 i j with h3|h3|h3
 ·have:=Yil (L:=s.len) (by omega) h3;omega
 ·subst h3;exact⟨rfl,by omega⟩
 ·have:=Yil (L:=s.len) (by omega) h3;omega
structure Rep(s t:Sch)(k:Nat):Prop where
 k1:1<=k
 frm:Frm s
 len:t.len=s.len*k
 off:t.off=s.off
 cells:t.cells=repC s k
 l512:s.len*k<=512
 c512:s.cells.length*k<=512
theorem Ydo{s:Sch}{p q:Cel->Bool}{j0:Nat}(hq:∀d∈s.cells,p (movC ((j0:Int)*s.len) d)=q d):∀{m:Nat},(∀j,j<m->j≠j0->∀d∈s.cells,p (movC ((j:Int)*s.len) d)=false)->(repC s m).filter p=if j0<m then(s.cells.filter q).map (movC ((j0:Int)*s.len))else []
 |0,_=>by simp[repC]
 |m+1,h=>by
  rw[YpO,Rj,Ydo hq λj hj=>h j (by omega),List.filter_map]
  by_cases e:m=j0
  ·subst e
   rw[Td (by omega),Tm (by omega),TK]
   congr 1
   exact Ni λd hd=>hq d hd
  ·have hz:s.cells.filter (p∘movC ((m:Int)*s.len))=[]:=by
    rw[List.filter_eq_nil_iff]
    intro d hd
    show¬p (movC ((m:Int)*s.len) d)=true
    rw[h m (by omega) e d hd];simp
   rw[hz,N5,TM]
   by_cases h2:j0<m
   ·rw[Tm h2,Tm (by omega)]
   ·rw[Td h2,Td (by omega)]
theorem Yrx(n:Net)(node d:Int)(l:List Cel):sumC n node (l.map (movC d))=sumC n node l:=by
 unfold sumC
 rw[NS]
 rfl
theorem Rep.dist(h:Rep s t k)(n:Net)(hi:i<k)(hc:c∈s.cells)(node:Int):Um n t.cells (movC ((i:Int)*s.len) c) node=Um n s.cells c node:=by
 unfold Um
 rw[h.cells,Ydo (j0:=i) (q:=λd=>Xq c d&&decide (d≠c)),Tm hi,Yrx]
 ·intro d hd
  have h2:(movC ((i:Int)*s.len) d≠movC ((i:Int)*s.len) c)↔d≠c:=by
   constructor
   ·intro h3 e;subst e;exact h3 rfl
   ·intro h3 e
    apply h3
    obtain⟨d1,d2⟩:=d
    obtain⟨c1,c2⟩:=c
    unfold movC at e
    injection e with e1 e2
    simp only at e1 e2
    subst e2
    have:d1=c1:=by omega
    rw[this]
  show(Xq _ _&&decide _)=(Xq _ _&&decide _)
  rw[decide_eq_decide.2 h2]
  congr 1
  unfold Xq movC
  rw[decide_eq_decide]
  simp only
  omega
 ·intro j hj hne d hd
  have:Xq (movC ((i:Int)*s.len) c) (movC ((j:Int)*s.len) d)=false:=by
   unfold Xq movC
   refine Tn ?_
   rintro⟨h3,_⟩
   exact hne (Yfs h.frm hd hc h3).1
  rw[this];rfl
theorem Rep.good(h:Rep s t k)(n:Net)(l:List Flw):Yn2 n l t↔Yn2 n l s:=by
 unfold Yn2
 rw[h.cells]
 constructor
 ·intro hg c hc
  exact hg (movC (((0:Nat):Int)*s.len) c) (Yb2.2 ⟨0,h.k1,c,hc,rfl⟩)
 ·intro hg x hx
  obtain⟨i,_,c,hc,rfl⟩:=Yb2.1 hx
  exact hg c hc
theorem Rep.once(h:Rep s t k):Yn4 t↔Yn4 s:=by
 unfold Yn4
 rw[h.cells]
 unfold repC
 rw[List.pairwise_flatMap]
 constructor
 ·rintro⟨h1,_⟩
  have:=h1 0 (TO.2 h.k1)
  rw[Md]at this
  exact this.imp λ{a b} hab e=>hab (by simp only[movC];omega)
 ·intro ho
  refine⟨λi _=>?_,?_⟩
  ·rw[Md]
   exact ho.imp λ{a b} hab e=>hab (by simp only[movC]at e;omega)
  ·refine List.pairwise_lt_range.imp λ{i j} hij x hx y hy e=>?_
   obtain⟨a,ha,rfl⟩:=TG.1 hx
   obtain⟨b,hb,rfl⟩:=TG.1 hy
   have:=(Yfs h.frm ha hb e).1
   omega
theorem Rep.clear(h:Rep s t k)(n:Net):Yja n t↔Yja n s:=by
 have hc:∀i,i<k->∀c∈s.cells,Vi n t.cells (movC ((i:Int)*s.len) c)=Vi n s.cells c:=λi hi c hc=>by
  unfold Vi
  have e1:Yx (movC ((i:Int)*s.len) c)=Yx c:=rfl
  have e2:toC (movC ((i:Int)*s.len) c)=toC c:=rfl
  rw[e1,e2,h.dist n hi hc,h.dist n hi hc]
 unfold Yja
 constructor
 ·intro hg c hcm
  rw[<-hc 0 h.k1 c hcm]
  exact hg _ (by rw[h.cells];exact Yb2.2 ⟨0,h.k1,c,hcm,rfl⟩)
 ·intro hg x hx
  rw[h.cells]at hx
  obtain⟨i,hi,c,hcm,rfl⟩:=Yb2.1 hx
  rw[hc i hi c hcm]
  exact hg c hcm
def ZB(n:Net)(l:List Cel)(i:Nat):Bool:=
 !(J3 n (Zd n (Yx (celL l i)) (toC (celL l i))))||((List.range l.length).any λk=>decide (k≠i)&&YC (celL l i) (celL l k))
   ||(!(Zl n (mar n (Yw n (Yx (celL l i)) (toC (celL l i))).toNat) (Yu n l i (toC (celL l i)) l.length))||!(Zl n (mar n (Yw n (toC (celL l i)) (Yx (celL l i))).toNat) (Yu n l i (Yx (celL l i)) l.length)))
def Jz(n:Net)(l:List Cel):Bool:=decide (Yq n=0)&&(List.range l.length).all λi=>!(ZB n l i)
def atP(slot off:Int)(c:Cel):Bool:=decide (c.1=slot/\c.2.1=off)
end Go.Proofs.YtaholidehobiiaaGreatDoor
namespace Go.Rt
open Go.Nw
def YK:Int:=1073741824
def Yf(far:List Int)(v:Int):Int:=far.getD v.toNat 0
def ArcsOk(nodes:Nat)(l:List Lk):Prop:=∀a∈l,(0<=a.1/\a.1<nodes)/\(0<=a.2.1/\a.2.1<nodes)/\(1<=a.2.2/\a.2.2<=1000000)
structure Dist(nodes:Nat)(l:List Lk)(to:Int)(far:List Int):Prop where
 len:far.length=nodes
 to0:Yf far to=0
 range:∀v:Int,0<=v->v<nodes->0<=Yf far v/\Yf far v<=YK
 tight:∀v:Int,0<=v->v<nodes->v≠to->Yf far v<YK->∃a∈l,a.1=v/\Yf far a.2.1+a.2.2<=Yf far v
 least:∀a∈l,Yf far a.2.1<YK->Yf far a.1<=Yf far a.2.1+a.2.2
structure DInv(nodes:Nat)(l:List Lk)(to:Int)(far:List Int)(q:List (Int×Int))(v:Int)(rest:List Lk):Prop where
 len:far.length=nodes
 to0:Yf far to=0
 range:∀v:Int,0<=v->v<nodes->0<=Yf far v/\Yf far v<=YK
 tight:∀v:Int,0<=v->v<nodes->v≠to->Yf far v<YK->∃a∈l,a.1=v/\Yf far a.2.1+a.2.2<=Yf far v
 pend:∀a∈l,Yf far a.2.1<YK->Yf far a.1<=Yf far a.2.1+a.2.2\/(a.2.1,Yf far a.2.1)∈q\/(a.2.1=v/\a∈rest)
 items:∀x∈q,(0<=x.1/\x.1<nodes)/\Yf far x.1<=x.2/\x.2<YK
def JJ(far:List Int)(q:List (Int×Int)):Nat:=2*(far.map Int.toNat).sum+q.length
variable {far:List Int}{i x to v:Int}
theorem Zk(h:i.toNat<far.length):Yf (far.set i.toNat x) i=x:=by
 grind [Yf]
theorem Xx{j:Int}(h:i.toNat≠j.toNat):Yf (far.set i.toNat x) j=Yf far j:=by
 grind [Yf]
theorem XP(h:i.toNat<far.length):far[i.toNat]? =some (Yf far i):=by
 grind [Yf]
theorem Yry{i:Nat}(h:i<far.length)(h0:0<=x)(hx:x<far.getD i 0):((far.set i x).map Int.toNat).sum+1<=(far.map Int.toNat).sum:=by
 induction far generalizing i with
 |nil=>simp at h
 |cons a l ih=>
  cases i with
  |zero=>
   grind
  |succ i=>
   grind
variable {nodes:Nat}{l rest:List Lk}
theorem Yjy(hl:ArcsOk nodes l)(h0:0<=to)(h1:to<nodes):DInv nodes l to ((List.replicate nodes YK).set to.toNat 0) [(to,0)] 0 []:=by
 have hlen:to.toNat<(List.replicate nodes YK).length:=by simp_all
 have hself:=Zk (far:=List.replicate nodes YK) (i:=to) (x:=0) hlen
 have hrep:∀v:Int,0<=v->v<nodes->Yf (List.replicate nodes YK) v=YK:=by
  simp_all [Yf]
 have hoth:∀v:Int,0<=v->v<nodes->v≠to->Yf ((List.replicate nodes YK).set to.toNat 0) v=YK:=by
  grind [Xx]
 refine⟨by simp,hself,?_,?_,?_,?_⟩
 ·intro v hv hv2
  by_cases e:v=to
  ·subst e;rw[hself];exact⟨SD _,by decide⟩
  ·rw[hoth v hv hv2 e];exact⟨by decide,SD _⟩
 ·simp_all
 ·intro a ha hlt
  obtain⟨_,⟨h3,h4⟩,_⟩:=hl a ha
  grind
 ·intro x hx
  obtain rfl:x=(to,0):=by simp_all
  exact⟨⟨h0,h1⟩,by simp_all,show(0:Int)<1073741824 by decide⟩
variable {q q':List (Int×Int)}
theorem YmF{x:Int×Int}(h:DInv nodes l to far q 0 [])(hp:(x::q').Perm q)(hx:Yf far x.1<x.2):DInv nodes l to far q' 0 []:=by
 refine⟨h.len,h.to0,h.range,h.tight,?_,λy hy=>h.items y (hp.mem_iff.1 (TB _ hy))⟩
 intro a ha hlt
 rcases h.pend a ha hlt with h1|h1|⟨_,h1⟩
 all_goals grind
theorem YmE{x:Int×Int}(h:DInv nodes l to far q 0 [])(hp:(x::q').Perm q):DInv nodes l to far q' x.1 l:=by
 refine⟨h.len,h.to0,h.range,h.tight,?_,λy hy=>h.items y (hp.mem_iff.1 (TB _ hy))⟩
 intro a ha hlt
 rcases h.pend a ha hlt with h1|h1|⟨_,h1⟩
 all_goals grind
theorem YoM(h:DInv nodes l to far q v []):DInv nodes l to far q 0 []:=by
 refine⟨h.len,h.to0,h.range,h.tight,λa ha hlt=>?_,h.items⟩
 rcases h.pend a ha hlt with h1|h1|⟨_,h1⟩
 all_goals simp_all
theorem YmD(h:DInv nodes l to far [] 0 []):Dist nodes l to far:=by
 refine⟨h.len,h.to0,h.range,h.tight,λa ha hlt=>?_⟩
 rcases h.pend a ha hlt with h1|h1|⟨_,h1⟩
 all_goals simp_all
variable {a:Lk}
theorem YqR(h:DInv nodes l to far q v (a::rest))(hn:¬(a.2.1=v/\Yf far v+a.2.2<Yf far a.1)):DInv nodes l to far q v rest:=by
 refine⟨h.len,h.to0,h.range,h.tight,?_,h.items⟩
 intro b hb hlt
 rcases h.pend b hb hlt with h1|h1|⟨h1,h2⟩
 all_goals grind
theorem YoN{d:Int}(hl:ArcsOk nodes l)(hv:0<=v/\v<nodes)(hd:Yf far v=d)(hal:a∈l)(h:DInv nodes l to far q v (a::rest))(h1:a.2.1=v)(h2:d+a.2.2<Yf far a.1)(hp:q'.Perm ((a.1,d+a.2.2)::q)):
 DInv nodes l to (far.set a.1.toNat (d+a.2.2)) q' v rest/\Yf (far.set a.1.toNat (d+a.2.2)) v=d/\JJ (far.set a.1.toNat (d+a.2.2)) q'+1<=JJ far q:=by
 obtain⟨⟨a1,a2⟩,_,⟨a5,a6⟩⟩:=hl a hal
 have hlen:=h.len
 have hlt:a.1.toNat<far.length:=by omega
 have hself:=Zk (far:=far) (i:=a.1) (x:=d+a.2.2) hlt
 obtain⟨r1,r2⟩:=h.range v hv.1 hv.2
 obtain⟨r3,r4⟩:=h.range a.1 a1 a2
 have hoth:∀u:Int,0<=u->u≠a.1->Yf (far.set a.1.toNat (d+a.2.2)) u=Yf far u:=by grind [Xx]
 have hle:∀u:Int,0<=u->Yf (far.set a.1.toNat (d+a.2.2)) u<=Yf far u:=by
  grind
 have hto:Yf (far.set a.1.toNat (d+a.2.2)) to=0:=by
  by_cases e:to.toNat=a.1.toNat
  ·have:Yf far a.1=0:=by
    have h5:=h.to0
    grind [Yf]
   omega
  ·rw[Xx (λh=>e h.symm)];exact h.to0
 refine⟨⟨by simp_all,hto,?_,?_,?_,?_⟩,by grind,?_⟩
 ·intro u hu hu2
  by_cases e:u=a.1
  ·grind
  ·rw[hoth u hu e];exact h.range u hu hu2
 ·intro u hu hu2 hut hul
  by_cases e:u=a.1
  ·grind
  ·rw[hoth u hu e]at hul⊢
   obtain⟨b,hb,hb1,hb2⟩:=h.tight u hu hu2 hut hul
   have:=hle b.2.1 (hl b hb).2.1.1
   grind
 ·intro b hb hbl
  obtain⟨⟨b1,b2⟩,⟨b3,b4⟩,_⟩:=hl b hb
  by_cases e:b.2.1=a.1
  ·grind
  ·rw[hoth _ b3 e]at hbl⊢
   rcases h.pend b hb hbl with h3|h3|⟨h3,h4⟩
   all_goals grind
 ·intro x hx
  rcases TN.1 (hp.mem_iff.1 hx)with rfl|hx
  ·grind
  ·obtain⟨h3,h4,h5⟩:=h.items x hx
   grind
 ·have h3:=Yry (x:=d+a.2.2) hlt (by omega) (by grind [Yf])
  grind [List.Perm.length_eq,JJ,TS]
end Go.Rt
namespace Go.Proofs
open Go.Shelf
def Tryz.lays169_ren:Go.Shelf.Ren:=⟨λ|169=>117|n=>n,λ|70=>160|9=>9|0=>0|72=>163|37=>161|127=>240|3=>3|5=>5|n=>n,λ|n=>n⟩
theorem Tryz.lays169:Go.Proofs.Lays.n169 Tryz.prog Tryz.lays169_ren:={
 mixed:=by kernel_rfl
 f169:=Tryz.func117.trans (TU some (by kernel_rfl))
 t0:=Tryz.underlying0
 a0:=Tryz.isAgg0
 z0:=Tryz.sizeOf0
 v0:=Tryz.zeroValue0
 t3:=Tryz.underlying3
 a3:=Tryz.isAgg3
 z3:=Tryz.sizeOf3
 v3:=Tryz.zeroValue3
 t9:=Tryz.underlying9
 a9:=Tryz.isAgg9
 z9:=Tryz.sizeOf9
 v9:=Tryz.zeroValue9
 t37:=Tryz.underlying161
 a37:=Tryz.isAgg161
 z37:=Tryz.sizeOf161
 v37:=Tryz.zeroValue161
 t70:=Tryz.underlying160
 a70:=Tryz.isAgg160
 z70:=Tryz.sizeOf160
 v70:=Tryz.zeroValue160
 t72:=Tryz.underlying163
 a72:=Tryz.isAgg163
 z72:=Tryz.sizeOf163
 v72:=Tryz.zeroValue163
 t127:=Tryz.underlying240
 a127:=Tryz.isAgg240
 z127:=Tryz.sizeOf240
 v127:=Tryz.zeroValue240}
theorem Tryz.Builder_Extra_169:Builder.Extra Tryz.prog Tryz.lays169_ren:={
 sizeBuilder:=by kernel_rfl
 liesBuilder:=by kernel_rfl
 t5:=Tryz.underlying5
 a5:=Tryz.isAgg5
 z5:=Tryz.sizeOf5
 v5:=Tryz.zeroValue5
 infoByte:=by kernel_rfl
 cellsByte:=by kernel_rfl
 sizeByte:=by kernel_rfl
 neB5:=by decide}
open Go.RowKit in
theorem Tryz.Builder_String_any(B b:Nat)(l:List UInt8)(w:World)(h:Lib.IsBuilder 163 5 B b (Lib.byteCells l) w)(hBw:B<=w.heap.size):
 Calls Tryz.prog 117 #[.pointer (some ⟨b,0,none⟩)] w λe w'=>e=.returned (.string ⟨l.toArray⟩)/\Below B w w':=Any.Builder_String_any Tryz.lays169 Tryz.Builder_Extra_169 B b l w h hBw
def Tryz.lays122_ren:Go.Shelf.Ren:=⟨λ|122=>140|215=>235|n=>n,λ|3=>3|4=>4|n=>n,λ|n=>n⟩
theorem Tryz.lays122:Go.Proofs.Lays.n122 Tryz.prog Tryz.lays122_ren:={
 mixed:=by kernel_rfl
 f122:=Tryz.func140.trans (TU some (by kernel_rfl))
 f215:=Tryz.func235.trans (TU some (by kernel_rfl))
 t3:=Tryz.underlying3
 a3:=Tryz.isAgg3
 z3:=Tryz.sizeOf3
 v3:=Tryz.zeroValue3
 t4:=Tryz.underlying4
 a4:=Tryz.isAgg4
 z4:=Tryz.sizeOf4
 v4:=Tryz.zeroValue4}
open Go.RowKit in
theorem Tryz.cmp_Compare_int(x y:Int)(w:World):
 Calls Tryz.prog 140 #[.int .i64 x,.int .i64 y] w λe w'=>e=.returned (.int .i64 (Lib.compareInt x y))/\w'=w:=Any.cmp_Compare_int Tryz.lays122 x y w
def Tryz.laysM171_ren:Go.Shelf.Ren:=⟨λ|171=>211|243=>282|246=>348|283=>403|284=>404|285=>405|286=>406|129=>309|317=>429|318=>430|319=>431|320=>432|337=>440|338=>441|n=>n,λ|3=>3|9=>9|2=>2|4=>4|171=>420|0=>0|53=>244|37=>161|5=>5|173=>422|212=>453|51=>242|20=>20|213=>454|46=>231|232=>462|233=>463|n=>n,λ|17=>0|18=>1|19=>2|n=>n⟩
theorem Tryz.laysM171:Go.Proofs.LaysM.n171 Tryz.prog Tryz.laysM171_ren:={
 mixed:=by kernel_rfl
 f129:=Tryz.func309.trans (TU some (by kernel_rfl))
 f171:=Tryz.func211.trans (TU some (by kernel_rfl))
 f243:=Tryz.func282.trans (TU some (by kernel_rfl))
 f246:=Tryz.func348.trans (TU some (by kernel_rfl))
 f283:=Tryz.func403.trans (TU some (by kernel_rfl))
 f284:=Tryz.func404.trans (TU some (by kernel_rfl))
 f285:=Tryz.func405.trans (TU some (by kernel_rfl))
 f286:=Tryz.func406.trans (TU some (by kernel_rfl))
 f317:=Tryz.func429.trans (TU some (by kernel_rfl))
 f318:=Tryz.func430.trans (TU some (by kernel_rfl))
 f319:=Tryz.func431.trans (TU some (by kernel_rfl))
 f320:=Tryz.func432.trans (TU some (by kernel_rfl))
 f337:=Tryz.func440.trans (TU some (by kernel_rfl))
 f338:=Tryz.func441.trans (TU some (by kernel_rfl))
 t0:=Tryz.underlying0
 a0:=Tryz.isAgg0
 z0:=Tryz.sizeOf0
 v0:=Tryz.zeroValue0
 t2:=Tryz.underlying2
 a2:=Tryz.isAgg2
 z2:=Tryz.sizeOf2
 v2:=Tryz.zeroValue2
 t3:=Tryz.underlying3
 a3:=Tryz.isAgg3
 z3:=Tryz.sizeOf3
 v3:=Tryz.zeroValue3
 t4:=Tryz.underlying4
 a4:=Tryz.isAgg4
 z4:=Tryz.sizeOf4
 v4:=Tryz.zeroValue4
 t5:=Tryz.underlying5
 a5:=Tryz.isAgg5
 z5:=Tryz.sizeOf5
 v5:=Tryz.zeroValue5
 t9:=Tryz.underlying9
 a9:=Tryz.isAgg9
 z9:=Tryz.sizeOf9
 v9:=Tryz.zeroValue9
 t20:=Tryz.underlying20
 a20:=Tryz.isAgg20
 z20:=Tryz.sizeOf20
 v20:=Tryz.zeroValue20
 t37:=Tryz.underlying161
 a37:=Tryz.isAgg161
 z37:=Tryz.sizeOf161
 v37:=Tryz.zeroValue161
 t46:=Tryz.underlying231
 a46:=Tryz.isAgg231
 z46:=Tryz.sizeOf231
 v46:=Tryz.zeroValue231
 t51:=Tryz.underlying242
 a51:=Tryz.isAgg242
 z51:=Tryz.sizeOf242
 v51:=Tryz.zeroValue242
 t53:=Tryz.underlying244
 a53:=Tryz.isAgg244
 z53:=Tryz.sizeOf244
 v53:=Tryz.zeroValue244
 t171:=Tryz.underlying420
 a171:=Tryz.isAgg420
 z171:=Tryz.sizeOf420
 v171:=Tryz.zeroValue420
 t173:=Tryz.underlying422
 a173:=Tryz.isAgg422
 z173:=Tryz.sizeOf422
 v173:=Tryz.zeroValue422
 t212:=Tryz.underlying453
 a212:=Tryz.isAgg453
 z212:=Tryz.sizeOf453
 v212:=Tryz.zeroValue453
 t213:=Tryz.underlying454
 a213:=Tryz.isAgg454
 z213:=Tryz.sizeOf454
 t232:=Tryz.underlying462
 a232:=Tryz.isAgg462
 z232:=Tryz.sizeOf462
 v232:=Tryz.zeroValue462
 t233:=Tryz.underlying463
 a233:=Tryz.isAgg463
 z233:=Tryz.sizeOf463
 v233:=Tryz.zeroValue463
 g17:=by kernel_rfl
 g18:=by kernel_rfl
 g19:=by kernel_rfl
 i0:=by kernel_rfl
 i2:=by kernel_rfl
 i3:=by kernel_rfl
 i4:=by kernel_rfl
 i5:=by kernel_rfl
 i9:=by kernel_rfl
 i20:=by kernel_rfl
 i37:=by kernel_rfl
 i46:=by kernel_rfl
 i51:=by kernel_rfl
 i53:=by kernel_rfl
 i171:=by kernel_rfl
 i173:=by kernel_rfl
 i212:=by kernel_rfl
 i232:=by kernel_rfl
 i233:=by kernel_rfl
 m17:=by kernel_rfl
 m18:=by kernel_rfl
 m19:=by kernel_rfl}
open Go.RowKit Go.Sort Go.Lib in
theorem Tryz.strconv_Itoa(n:Int)(h0: -9223372036854775808<=n)(h1:n<=9223372036854775807)(w:World)(htab:Lib.TabIs Tryz.prog w "internal/strconv.uint64pow10" .u64 Lib.pow10Tab):
 Calls Tryz.prog 211 #[.int .i64 n] w λe w'=>e=.returned (.string ⟨(Lib.itoa n).toArray⟩)/\∃k os,w'=grow (w.drewN k) os:=Any.strconv_Itoa Tryz.laysM171 n h0 h1 w htab
def Tryz.lays212_ren:Go.Shelf.Ren:=⟨λ|212=>425|263=>437|264=>438|n=>n,λ|46=>231|51=>242|146=>457|53=>244|148=>459|n=>n,λ|n=>n⟩
theorem Tryz.lays212:Go.Proofs.Lays.n212 Tryz.prog Tryz.lays212_ren:={
 mixed:=by kernel_rfl
 f212:=Tryz.func425.trans (TU some (by kernel_rfl))
 f263:=Tryz.func437.trans (TU some (by kernel_rfl))
 f264:=Tryz.func438.trans (TU some (by kernel_rfl))
 t46:=Tryz.underlying231
 a46:=Tryz.isAgg231
 z46:=Tryz.sizeOf231
 v46:=Tryz.zeroValue231
 t51:=Tryz.underlying242
 a51:=Tryz.isAgg242
 z51:=Tryz.sizeOf242
 v51:=Tryz.zeroValue242
 t53:=Tryz.underlying244
 a53:=Tryz.isAgg244
 z53:=Tryz.sizeOf244
 v53:=Tryz.zeroValue244
 t146:=Tryz.underlying457
 a146:=Tryz.isAgg457
 z146:=Tryz.sizeOf457
 v146:=Tryz.zeroValue457
 t148:=Tryz.underlying459
 a148:=Tryz.isAgg459
 z148:=Tryz.sizeOf459
 v148:=Tryz.zeroValue459}
open Go.RowKit Go.Lib in
theorem Tryz.bits_Mul(x y:Nat)(hx:x<18446744073709551616)(hy:y<18446744073709551616)(w:World):
 Calls Tryz.prog 425 #[.int .u64 x,.int .u64 y] w λe w'=>e=.returned (.tuple #[.int .u64 ((x*y/18446744073709551616:Nat):Int),.int .u64 ((x*y%18446744073709551616:Nat):Int)])/\w'=w:=Any.bits_Mul Tryz.lays212 x y hx hy w
end Go.Proofs
namespace Go.Proofs.YtaholidehobiiaaGreatDoor
open Go.RowKit Go.Eng Go.Nw
abbrev ints(A:Option Addr)(cap:Nat)(l:List Int):HP:=sl 3 1 A l.length cap (l.flatMap numF)
theorem Ym2(A:Option Addr)(cap:Nat)(l:List Int)(z:Int):sl 3 1 A (l.length+1) cap (l.flatMap numF++#[Value.int .i64 z].toList)=ints A cap (l++[z]):=by simp[ints,List.flatMap_append,numF]
variable {A:Option Addr}{cap B:Nat}{w0 w:World}{H:List HP}
theorem YjP(l:List Int)(v:Int)(hlen:l.length<=9223372036854775807)(hr:Rd B w0 H A (l.flatMap numF))(hw:St B w0 H w):
 Calls Tryz.prog 247 [.slice A l.length cap,.int .i64 v].toArray w (Post B w0 λu K=>u=.int .i64 (Yn (λx=>decide (v=x)) l 0)/\K=H):=by
 refine Yc Tryz.func247 Tryz.ntmps247 rfl rfl hw ?_
 repeat'(first|refine zgb ?_|fail)
 refine Yi (λ(k:Nat)=>[(8,.int .i64 k),(7,.int .i64 l.length),(0,.slice A l.length cap),(1,.int .i64 v)]) (λ_=>H) (λk=>k<=l.length/\Yn (λx=>decide (v=x)) l 0=Yn (λx=>decide (v=x)) (l.drop k) k) (λk=>l.length-k) 0 ⟨Tu _,by simp⟩ ?_ (λw hw=>hw) ?_
 ·exact zu
 rintro k ⟨hk,hi⟩ K hK
 by_cases hlt:k<l.length
 ·obtain⟨a,ha⟩:∃a,l[k]? =some a:=⟨_,Ta hlt⟩
  rw[JA _ l ha]at hi
  repeat'(first|refine zgd ?_|(refine zge ?_ ?_<;>intro _<;>try exact zo)|fail)
  ·rename_i h
   rw[Tm (Tc h)]at hi
   ((repeat apply Yl);apply Yd;exact rfl;exact rfl;refine⟨TU _ ?_,rfl⟩)
   rw[hi]
  ·rename_i h
   rw[Td (by simp[h])]at hi
   repeat'(first|fail)
   apply hK (k+1)
   ·exact⟨by omega,hi⟩
   ·omega
   ·exact zu
   ·exactλw hw=>hw
 ·repeat'(first|refine zgc ?_|(refine zge ?_ ?_<;>intro _<;>try exact zo)|fail)
  ((repeat apply Yl);apply Yd;exact rfl;exact rfl;refine⟨TU _ ?_,rfl⟩)
  rw[hi,TZ (by omega)];rfl
theorem Yd5(l:List Int)(v:Int)(hlen:l.length<=9223372036854775807)(hr:Rd B w0 H A (l.flatMap numF))(hw:St B w0 H w):
 Calls Tryz.prog 157 [.slice A l.length cap,.int .i64 v].toArray w (Post B w0 λu K=>u=.bool (decide (v∈l))/\K=H):=by
 refine Yc Tryz.func157 Tryz.ntmps157 rfl rfl hw ?_
 have hia:=Vz (λx=>decide (v=x)) l 0 (by omega)
 have hmm:l.any (λx=>decide (v=x))=true↔v∈l:=by simp[List.any_eq_true]
 repeat'(first|((first|apply Ya YrY|apply Yb YrY);exact za;exact rfl;exactλ_ hw=>(YjP l v hlen hr hw))|refine zga ?_|(refine zgf ?_ ?_<;>intro _<;>try exact zo)|fail)
 all_goals(apply Yd;exact rfl;exact rfl)
 ·rename_i h;exact⟨by rw[Tc (hmm.1 (hia.1 h))],rfl⟩
 ·rename_i h
  exact⟨by rw[Tn λe=>by have:=hia.2 (hmm.2 e);omega],rfl⟩
theorem ON{l:List Int}{k:Nat}{a:Int}(h:l[k]? =some a):l.take (k+1)=l.take k++[a]:=by rw[TF,h];rfl
end Go.Proofs.YtaholidehobiiaaGreatDoor
namespace Go.Eng
open Go.RowKit
section
variable {P:Program}{B:Nat}{w0:World}{H:List HP}
variable {f:Nat}{xs:Array Value}{w:World}
theorem Yav{x y:Value}(e:x=y)(h:∀w,St B w0 H w->Calls P f xs w (Post B w0 λu K=>u=x/\K=H))(hw:St B w0 H w):Calls P f xs w (Post B w0 λu K=>u=y/\K=H):=e▸h w hw
theorem Yjp{Φ Ψ:Value->List HP->Prop}(h:∀w,St B w0 H w->Calls P f xs w (Post B w0 Φ))(e:∀v K,Φ v K->Ψ v K)(hw:St B w0 H w):Calls P f xs w (Post B w0 Ψ):=
 (h w hw).mono (by rintro r w' ⟨v,K,rfl,hs,hf⟩;exact⟨v,K,rfl,hs,e v K hf⟩)
end
end Go.Eng
namespace Go.Proofs.YtaholidehobiiaaGreatDoor
open Go.RowKit Go.Eng Go.Nw
variable {B:Nat}{w0:World}{H:List HP}
theorem NetM.In.mono{K:List HP}{n:NetM}(h:n.In B w0 H)(hH:∀w,St B w0 K w->St B w0 H w):n.In B w0 K:=
 ⟨h.pw.mono hH,λr hr=>(h.rw_ r hr).mono hH,h.lk.mono hH,h.mg.mono hH,h.s1,h.s2,h.s3,h.s4⟩
def fewE(n:Net):Bool:=decide ((∀r∈n.power,r.length<=40)/\n.power.length<=8/\n.links.length<=60/\n.margin.length<=60)
theorem Yo6(n:NetM){w:World}(hin:n.In B w0 H)(hw:St B w0 H w):
 Calls Tryz.prog 57 [n.val].toArray w (Post B w0 λv K=>v=.bool (fewE n.net)/\K=H):=by
 refine Yc Tryz.func57 Tryz.ntmps57 rfl rfl hw ?_
 obtain⟨hpw,hrw,hlk,hmg,hs1,hs2,hs3,hs4⟩:=id hin
 have e1:(∀r∈n.net.power,r.length<=40)↔∀r∈n.rows,r.xs.length<=40:=by simp[NetM.net]
 have e2:n.net.power.length=n.rows.length:=by simp[NetM.net]
 have e3:n.net.links=n.links:=rfl
 have e4:n.net.margin=n.margin:=rfl
 unfold fewE
 rw[e2,e3,e4]
 (apply Xt;apply Y0;apply YR;exact rfl;exact rfl;intro g)
 repeat'(first|refine zgb ?_|fail)
 refine Yi (λ(a:Nat)=>[(3,.int .i64 a),(1,.pointer (some ⟨g,0,none⟩))]) (λ_=>netB g n::H) (λa=>a<=n.rows.length/\∀j r,j<a->n.rows[j]? =some r->r.xs.length<=40) (λa=>n.rows.length-a) 0 ⟨Tu _,by intro j r hj;omega⟩ ?_ (λw hw=>hw) ?_
 ·exact zu
 rintro a ⟨ha,hai⟩ K hK
 by_cases hlt:a<n.rows.length
 ·obtain⟨r,hr⟩:∃r,n.rows[a]? =some r:=⟨_,Ta hlt⟩
  have hs2r:=hs2 r (Tf hr)
  repeat'(first|refine zgd ?_|(refine zgf ?_ ?_<;>intro _<;>try exact zo)|fail)
  ·rename_i h
   apply Yl;apply Yd;exact rfl;exact rfl
   exact⟨by rw[Tn λhc=>by have:=e1.1 hc.1 r (Tf hr);omega],rfl⟩
  ·rename_i h
   apply hK (a+1)
   ·refine⟨by omega,λj q hj hq=>?_⟩
    by_cases e:j=a
    ·subst e;rw[hr]at hq;rw[<-Tz hq];omega
    ·exact hai j q (by omega) hq
   ·omega
   ·exact zu
   ·exactλw hw=>hw
 obtain rfl:a=n.rows.length:=by omega
 have hall:∀r∈n.rows,r.xs.length<=40:=λr hr=>by
  obtain⟨j,hj⟩:=List.getElem?_of_mem hr
  exact hai j r (Ti.1 hj).1 hj
 repeat'(first|refine zgc ?_|(refine zgf ?_ ?_<;>intro _<;>try exact zo)|fail)
 ·apply Yl;apply Yd;exact rfl;exact rfl
  exact⟨by rw[Tc ⟨e1.2 hall,by omega,by omega,by omega⟩],rfl⟩
 all_goals(apply Yl;apply Yd;exact rfl;exact rfl;exact⟨by rw[Tn λhc=>by omega],rfl⟩)
open Go.RowKit Go.Eng Go.Nw Go.Rt
variable {n:Net}
theorem YgJ(h:Yq n=0)(a b:Int):J3 n (Zd n a b)=YA n a b:=by
 have hok:=YM h
 unfold J3 Zd
 rw[Td (by simp[h]),Tc h,RS]
 by_cases h1:0<=Yw n a b
 ·have h2:=ZA h1
  rw[Tc ⟨h1,by omega⟩,RS,UB hok h2]
  obtain⟨e1,e2⟩:=UW h1
  rw[e1,e2]
 ·rw[Tn (λh=>h1 h.1),SI]
  unfold YA
  rw[Tn h1,SI]
def WX(n:Net)(i:Nat):Lk:=((lnk n i).1,(lnk n i).2.1,(lnk n i).2.2+1)
def Zw(n:Net)(k:Nat):List Lk:=(List.range k).flatMap λi=>if ZD n i=true then [WX n i]else []
def YS(n:Net):List Lk:=Zw n n.links.length
variable {k:Nat}
theorem O8(h:ZD n k=true):Zw n (k+1)=Zw n k++[WX n k]:=by
 simp[Zw,List.range_succ,List.flatMap_append,h]
theorem Yas(h:ZD n k=false):Zw n (k+1)=Zw n k:=by
 simp[Zw,List.range_succ,List.flatMap_append,h]
theorem Wh(n:Net):∀k,(Zw n k).length<=k
 |0=>by simp[Zw]
 |k+1=>by
  have:=Wh n k
  cases h:ZD n k
  ·rw[Yas h];omega
  ·rw[O8 h,Tj,TP];omega
theorem Oj{a:Lk}:a∈Zw n k↔∃i,i<k/\ZD n i=true/\WX n i=a:=by
 unfold Zw
 rw[RN]
 constructor
 ·rintro⟨i,hi,h⟩
  cases hu:ZD n i
  ·rw[hu]at h;simp at h
  ·rw[hu]at h
   rw[Tm rfl,TJ]at h
   exact⟨i,TO.1 hi,hu,h.symm⟩
 ·rintro⟨i,hi,hu,rfl⟩
  exact⟨i,TO.2 hi,by simp[hu]⟩
theorem YkW(h:Ok n){nodes:Nat}(hn:n.nodes=nodes):ArcsOk nodes (YS n):=by
 intro a ha
 obtain⟨i,hi,_,rfl⟩:=Oj.1 ha
 have hl:=h.lk i hi
 have h1:=hl.f0;have h2:=hl.f1;have h3:=hl.t0;have h4:=hl.t1;have h5:=hl.l0;have h6:=hl.l1
 unfold WX
 simp only
 omega
def offE(n:Net)(a:Int):Bool:=decide (a<0\/n.nodes<=a)
def Z1(n:Net)(s t:Int):Int:=if Yq n≠0 then 1 else if offE n s=true\/offE n t=true\/s=t then 2 else 0
def Qt(r:List Int):Bool:=(List.range r.length).any λi=>(r.take i).contains (r.getD i 0)
def Vt(n:Net)(r:List Int):Bool:=(List.range (r.length-1)).any λi=>!YA n (r.getD i 0) (r.getD (i+1) 0)
def VZ(n:Net)(s t:Int)(r:List Int):Int:=
 if r.length<2 then 9 else if 9<r.length then 8 else if r.any (offE n)=true then 2 else if r.getD 0 0≠s\/r.getD (r.length-1) 0≠t then 11
 else if Qt r=true then 6 else if Vt n r=true then 17 else 0
def QZ(n:Net)(a b:Int):Int:=(lnk n (Yw n a b).toNat).2.2
def Wk(n:Net)(r:List Int):Nat->Int
 |0=>0
 |k+1=>Wk n r k+(QZ n (r.getD k 0) (r.getD (k+1) 0)+1)
def YoI(n:Net)(r:List Int):Int:=Wk n r (r.length-1)
def YgN(n:Net)(r:List Int):Int×Int:=
 if Yq n≠0 then(0,1)else
  let e:=VZ n (r.getD 0 0) (r.getD (r.length-1) 0) r
  if e≠0 then(0,e)else(YoI n r,0)
def Zv(n:Net)(s t:Int)(r:List Int):Int:=if Z1 n s t≠0 then Z1 n s t else VZ n s t r
theorem Yco{p:Nat->Bool}:(List.range (k+1)).any p=((List.range k).any p||p k):=by
 rw[RA,SV];simp
theorem Zc{l:List Int}{i:Nat}(h:i<l.length):l[i]? =some (l.getD i 0):=by
 rw[Tt,Ta h];rfl
theorem Q0(h:Ok n)(a b:Int):0<=QZ n a b/\QZ n a b<=7:=by
 unfold QZ
 by_cases hi:(Yw n a b).toNat<n.links.length
 ·have:=h.lk _ hi
  exact⟨this.l0,this.l1⟩
 ·rw[show lnk n (Yw n a b).toNat=(0,0,0) by simp[lnk,List.getD,List.getElem?_eq_none (Nat.le_of_not_lt hi)]]
  decide
theorem Yez{n:Net}(h:Ok n)(r:List Int):∀k,0<=Wk n r k/\Wk n r k<=8*k
 |0=>by simp[Wk]
 |k+1=>by
  have h1:=Yez h r k
  have h2:=Q0 h (r.getD k 0) (r.getD (k+1) 0)
  unfold Wk
  omega
def onP(id a b:Int)(c:Cel):Bool:=decide (Xy c=id/\Yx c=a/\toC c=b)
def XN(s:Sch)(id:Int)(l:Lk):List Cel:=s.cells.filter (onP id l.1 l.2.1)
def XE(len a:Int):List Cel->Nat->List (Cel×Int)
 |[],_=>[]
 |c::cs,k=>if c.1=a.tmod len/\k≠0 then(c,a)::XE len a cs (k-1)else XE len a cs k
def hopP(len:Int)(cs:List Cel):Nat->Nat->Int->List (Cel×Int)
 |0,_,_=>[]
 |f+1,k,a=>XE len a cs k++hopP len cs f (k-(XE len a cs k).length) (a+1)
def XI(x:List (Cel×Int))(a:Int):Int:=match x.getLast? with|some z=>z.2+1|none=>a
def Xg(l:Lk):Nat:=(l.2.2+1).toNat
def runP(len:Int)(C:Lk->List Cel)(endd:Int):List Lk->Int->List (Cel×Int)
 |[],_=>[]
 |l::ls,a=>if(hopP len (C l) (endd-a).toNat (Xg l) a).length<Xg l then hopP len (C l) (endd-a).toNat (Xg l) a
  else hopP len (C l) (endd-a).toNat (Xg l) a++runP len C endd ls (XI (hopP len (C l) (endd-a).toNat (Xg l) a) a)
def X0(ls:List Lk):Nat:=(ls.map Xg).sum
theorem Ot(len a:Int):∀(cs:List Cel) (k:Nat),(XE len a cs k).length<=k
 |[],k=>Tu _
 |c::cs,k=>by
  unfold XE
  split
  ·rename_i h
   have:=Ot len a cs (k-1)
   rw[TS];omega
  ·exact Ot len a cs k
theorem Ou{len a:Int}:∀{cs:List Cel}{k:Nat}{z:Cel×Int},z∈XE len a cs k->z.2=a
 |[],k,z,h=>by cases h
 |c::cs,k,z,h=>by
  unfold XE at h
  split at h
  ·rcases TN.1 h with rfl|h
   ·rfl
   ·exact Ou h
  ·exact Ou h
theorem YnE(len a:Int):∀cs:List Cel,XE len a cs 0=[]:=λcs=>RJ (Nat.le_zero.1 (Ot len a cs 0))
theorem YbX(len:Int)(cs:List Cel):∀(f k:Nat) (a:Int),(hopP len cs f k a).length<=k
 |0,k,a=>Tu _
 |f+1,k,a=>by
  unfold hopP
  have h1:=Ot len a cs k
  have h2:=YbX len cs f (k-(XE len a cs k).length) (a+1)
  rw[Tj];omega
theorem Yh1(len:Int)(cs:List Cel)(f:Nat)(a:Int):hopP len cs f 0 a=[]:=RJ (Nat.le_zero.1 (YbX len cs f 0 a))
theorem YlC{len:Int}{cs:List Cel}:∀{f k:Nat}{a:Int}{z:Cel×Int},z∈hopP len cs f k a->a<=z.2/\z.2<a+f
 |0,k,a,z,h=>by cases h
 |f+1,k,a,z,h=>by
  unfold hopP at h
  rcases TT.1 h with h|h
  ·have:=Ou h;omega
  ·have:=YlC h;omega
theorem Ygv(len:Int)(C:Lk->List Cel)(endd:Int):∀(ls:List Lk) (a:Int),(runP len C endd ls a).length<=X0 ls
 |[],a=>Tu _
 |l::ls,a=>by
  have h1:=YbX len (C l) (endd-a).toNat (Xg l) a
  have h2:=Ygv len C endd ls (XI (hopP len (C l) (endd-a).toNat (Xg l) a) a)
  have h3:X0 (l::ls)=Xg l+X0 ls:=by unfold X0;rw[Re,NJ]
  unfold runP
  split
  ·omega
  ·rw[Tj];omega
variable {x:List (Cel×Int)}{a b len endd at_:Int}
theorem Yoz(h:∀z∈x,a<=z.2/\z.2<b)(hab:a<=b):a<=XI x a/\XI x a<=b:=by
 unfold XI
 cases hx:x.getLast? with
 |none=>exact⟨SD _,hab⟩
 |some z=>
  have:=h z (List.mem_of_getLast? hx)
  simp only
  omega
theorem Ygx{len:Int}{C:Lk->List Cel}{endd:Int}:∀{ls:List Lk}{a:Int}{z:Cel×Int},a<=endd->z∈runP len C endd ls a->a<=z.2/\z.2<endd
 |[],a,z,_,h=>by cases h
 |l::ls,a,z,hae,h=>by
  have hb:∀z∈hopP len (C l) (endd-a).toNat (Xg l) a,a<=z.2/\z.2<endd:=λz hz=>by
   have:=YlC hz;omega
  unfold runP at h
  split at h
  ·exact hb z h
  ·rcases TT.1 h with h|h
   ·exact hb z h
   ·have h1:=Yoz hb hae
    have:=Ygx h1.2 h
    omega
def WS(len:Int)(C:Lk->List Cel)(endd:Int)(cs:List Cel)(ls:List Lk)(f k:Nat)(a at_:Int):List (Cel×Int):=
 if(hopP len cs f k a).length<k then hopP len cs f k a else hopP len cs f k a++runP len C endd ls (XI (hopP len cs f k a) at_)
theorem YpY(len:Int)(C:Lk->List Cel)(endd:Int)(l:Lk)(ls:List Lk)(a:Int):runP len C endd (l::ls) a=WS len C endd (C l) ls (endd-a).toNat (Xg l) a a:=rfl
theorem YnN(len:Int)(C:Lk->List Cel)(endd:Int)(cs:List Cel)(ls:List Lk)(f:Nat)(a at_:Int):WS len C endd cs ls f 0 a at_=runP len C endd ls at_:=by
 unfold WS
 rw[Yh1,Td (Sv _)]
 rfl
variable {C:Lk->List Cel}{cs cs':List Cel}{ls:List Lk}{k f:Nat}
theorem Yp7(hk:k≠0):WS len C endd cs ls 0 k a at_=[]:=by
 unfold WS
 rw[Tm (by simp[hopP];omega)]
 rfl
theorem Ymk{y:List (Cel×Int)}(hy:∀z∈y,z.2+1=b):XI (y++x) a=XI x (if y=[]then a else b):=by
 unfold XI
 cases hx:x.getLast? with
 |some z=>rw[List.getLast?_append,hx];rfl
 |none=>
  obtain rfl:=List.getLast?_eq_none_iff.1 hx
  rw[TM]
  cases hy2:y.getLast? with
  |none=>
   obtain rfl:=List.getLast?_eq_none_iff.1 hy2
   rfl
  |some z=>
   have hne:y≠[]:=λe=>by rw[e]at hy2;cases hy2
   rw[Td hne]
   exact hy z (List.mem_of_getLast? hy2)
theorem YnO(len:Int)(C:Lk->List Cel)(endd:Int)(cs:List Cel)(ls:List Lk)(f k:Nat)(a at_:Int):
 WS len C endd cs ls (f+1) k a at_=XE len a cs k++WS len C endd cs ls f (k-(XE len a cs k).length) (a+1) (if XE len a cs k=[]then at_ else a+1):=by
 have hl:=Ot len a cs k
 have h1:hopP len cs (f+1) k a=XE len a cs k++hopP len cs f (k-(XE len a cs k).length) (a+1):=rfl
 unfold WS
 rw[h1,Tj]
 by_cases h2:(hopP len cs f (k-(XE len a cs k).length) (a+1)).length<k-(XE len a cs k).length
 ·rw[Tm h2,Tm (by omega)]
 ·rw[Td h2,Td (by omega),Ymk (b:=a+1) (λz hz=>by rw[Ou hz]),TX]
def O1(len:Int)(C:Lk->List Cel)(endd:Int)(cs cs':List Cel)(ls:List Lk)(f k:Nat)(a at_:Int):List (Cel×Int):=
 XE len a cs' k++WS len C endd cs ls f (k-(XE len a cs' k).length) (a+1) (if XE len a cs' k=[]then at_ else a+1)
theorem YpQ(len:Int)(C:Lk->List Cel)(endd:Int)(cs:List Cel)(ls:List Lk)(f k:Nat)(a at_:Int):O1 len C endd cs cs ls f k a at_=WS len C endd cs ls (f+1) k a at_:=(YnO ..).symm
theorem YpT(len:Int)(C:Lk->List Cel)(endd:Int)(cs:List Cel)(ls:List Lk)(f k:Nat)(a at_:Int):O1 len C endd cs [] ls f k a at_=WS len C endd cs ls f k (a+1) at_:=by
 simp[O1,XE]
variable {c:Cel}
theorem YpU(h:c.1=a.tmod len)(hk:k≠0):
 O1 len C endd cs (c::cs') ls f k a at_=(c,a)::O1 len C endd cs cs' ls f (k-1) a (a+1):=by
 have h1:XE len a (c::cs') k=(c,a)::XE len a cs' (k-1):=by rw[XE,Tm ⟨h,hk⟩]
 unfold O1
 rw[h1,TS,Td (List.cons_ne_nil _ _),show k-((XE len a cs' (k-1)).length+1)=k-1-(XE len a cs' (k-1)).length by omega]
 simp
theorem Yrr(h:¬(c.1=a.tmod len/\k≠0)):
 O1 len C endd cs (c::cs') ls f k a at_=O1 len C endd cs cs' ls f k a at_:=by
 unfold O1
 rw[XE,Td h]
def runR(len:Int)(C:Lk->List Cel)(endd:Int):List Lk->Int->Option (List Int)
 |[],_=>some []
 |l::ls,a=>if(hopP len (C l) (endd-a).toNat (Xg l) a).length<Xg l then none
  else(runR len C endd ls (XI (hopP len (C l) (endd-a).toNat (Xg l) a) a)).map λy=>(hopP len (C l) (endd-a).toNat (Xg l) a).map Prod.snd++y
theorem Ygw(len:Int)(C:Lk->List Cel)(endd:Int):∀(ls:List Lk) (a:Int),runR len C endd ls a=if(runP len C endd ls a).length<X0 ls then none else some ((runP len C endd ls a).map Prod.snd)
 |[],a=>rfl
 |l::ls,a=>by
  have h3:X0 (l::ls)=Xg l+X0 ls:=by unfold X0;rw[Re,NJ]
  have hl:=YbX len (C l) (endd-a).toNat (Xg l) a
  unfold runR runP
  by_cases h:(hopP len (C l) (endd-a).toNat (Xg l) a).length<Xg l
  ·rw[Tm h,Tm h,Tm (by omega)]
  ·rw[Td h,Td h,Ygw len C endd ls]
   by_cases h4:(runP len C endd ls (XI (hopP len (C l) (endd-a).toNat (Xg l) a) a)).length<X0 ls
   ·rw[Tm h4,Tm (by rw[Tj];omega)];rfl
   ·rw[Td h4,Td (by rw[Tj];omega)];simp
def ZK(n:Net)(r:List Int)(i:Nat):Lk:=lnk n (Yw n (r.getD i 0) (r.getD (i+1) 0)).toNat
def Yr(n:Net)(r:List Int):List Lk:=(List.range (r.length-1)).map (ZK n r)
def Ua(n:Net)(s:Sch)(f:Flw)(r:List Int)(release:Int):Option (List Int):=runR s.len (XN s f.1) (release+f.2.2.2.1) (Yr n r) release
def JB(l:List Int):Int:=l.getD (l.length-1) 0
def UN(S:Int->Option (List Int))(len period:Int):Nat->Int->Int×Int×List Int->Option (Int×Int×List Int)
 |0,_,b=>some b
 |k+1,rel,b=>if len<=rel then some b else match S rel with
  |none=>none
  |some l=>UN S len period k (rel+period) (if b.1<JB l-rel+1 then(JB l-rel+1,rel,l.map λz=>z-rel)else b)
def ZG(n:Net)(s:Sch)(f:Flw)(r:List Int):Option (Int×Int×List Int):=UN (Ua n s f r) s.len f.2.2.2.1 s.len.toNat f.2.2.2.2.1 (0,0,[])
def wayE(n:Net)(s:Sch)(f:Flw)(r:List Int):Int:=
 if Yq n≠0\/Xz s=false\/XD n.nodes f≠0 then 1 else if s.len.tmod f.2.2.2.1≠0 then 11 else Zv n f.2.1 f.2.2.1 r
def YV(n:Net)(s:Sch)(f:Flw)(r:List Int):(Int×Int×List Int)×Int:=
 if wayE n s f r≠0 then((0,0,[]),wayE n s f r)else match ZG n s f r with
  |none=>((0,0,[]),15)
  |some b=>(b,0)
abbrev Rqs:=Flw×List (List Int)
structure Clm where
 flow:Int
 routes:List (List Int)
 bounds:List Int
 worst:List Int
 slots:List (List Int)
deriving DecidableEq
def Yun:Clm:=⟨0,[],[],[],[]⟩
def YB(q:List Rqs):List Flw:=q.map Prod.fst
def YlZ:Rqs:=((0,0,0,0,0,0),[])
def rqAt(q:List Rqs)(i:Nat):Rqs:=q.getD i YlZ
def rtAt(l:List (List Int))(k:Nat):List Int:=l.getD k []
def rtsE(n:Net)(x:Rqs):Int:=
 if x.2.length=0 then 14 else if 2<x.2.length then 8
 else if(YH (λk=>Zv n x.1.2.1 x.1.2.2.1 (rtAt x.2 k)) x.2.length 0).2≠0 then(YH (λk=>Zv n x.1.2.1 x.1.2.2.1 (rtAt x.2 k)) x.2.length 0).2
 else if x.2.length=2/\rtAt x.2 0=rtAt x.2 1 then 6 else 0
def rqsE(n:Net)(q:List Rqs):Int×Int:=
 if Yq n≠0 then(-1,1)else if(YE n.nodes (YB q)).2≠0 then YE n.nodes (YB q)
 else YH (λi=>rtsE n (rqAt q i)) q.length 0
def badR(n:Net)(s:Sch)(f:Flw)(r:List Int):Bool:=decide ((YV n s f r).2≠0\/f.2.2.2.2.2<(YV n s f r).1.1)
def YhA(n:Net)(s:Sch)(x:Rqs)(l:List (List Int)):Clm:=
 ⟨x.1.1,l,l.map λr=>(YV n s x.1 r).1.1,l.map λr=>(YV n s x.1 r).1.2.1,l.map λr=>(YV n s x.1 r).1.2.2⟩
def JC(n:Net)(s:Sch)(x:Rqs):Bool:=x.2.any (badR n s x.1)
def clmE(n:Net)(s:Sch)(x:Rqs):Clm:=YhA n s x x.2
def YT(n:Net)(q:List Rqs)(s:Sch):List Clm×(Int×Int):=
 if(rqsE n q).2≠0 then([],rqsE n q)else if(schE n (YB q) s).2≠0 then([],(-1,1))
 else if(YH (λi=>if JC n s (rqAt q i)=true then 15 else 0) q.length 0).2≠0 then([],YH (λi=>if JC n s (rqAt q i)=true then 15 else 0) q.length 0)
 else(q.map (clmE n s),(-1,0))
def UP(c:List Clm)(i:Nat):Clm:=c.getD i Yun
def chkE(n:Net)(q:List Rqs)(s:Sch)(c:List Clm):Int×Int:=
 if(YT n q s).2.2≠0 then(YT n q s).2 else if c.length≠(YT n q s).1.length then(-1,11)
 else YH (λi=>if UP c i=UP (YT n q s).1 i then 0 else 20) c.length 0
def minI:List Int->Int
 |[]=>0
 |a::l=>l.foldl (λx y=>if y<x then y else x) a
def maxI:List Int->Int
 |[]=>0
 |a::l=>l.foldl (λx y=>if x<y then y else x) a
def bndE(c:List Clm)(id:Int):Int×Bool:=
 match c.find? (λx=>decide (x.flow=id)&&decide (0<x.bounds.length))with
 |none=>(0,false)
 |some x=>(minI x.bounds,true)
def admB(c:List Clm)(f:Flw):Bool:=
 match c.find? (λx=>decide (x.flow=f.1))with
 |none=>false
 |some x=>decide (0<x.bounds.length)&&decide (maxI x.bounds<=f.2.2.2.2.2)
def YjW(n:Net)(s:Sch)(f:Flw)(l:List (List Int)):Int×Int:=
 if l.length=0 then(0,14)else
 if(YH (λk=>wayE n s f (rtAt l k)) l.length 0).2≠0 then(0,(YH (λk=>wayE n s f (rtAt l k)) l.length 0).2)
 else if(l.foldl (λa r=>match ZG n s f r with|none=>a|some b=>if a=0\/b.1<a then b.1 else a) (0:Int))=0 then(0,15)
 else(l.foldl (λa r=>match ZG n s f r with|none=>a|some b=>if a=0\/b.1<a then b.1 else a) (0:Int),0)
variable {n:Net}{s:Sch}{f:Flw}{r:List Int}
theorem YgL(h:wayE n s f r=0):Yq n=0/\Xz s=true/\XD n.nodes f=0/\s.len.tmod f.2.2.2.1=0/\Zv n f.2.1 f.2.2.1 r=0:=by
 unfold wayE at h
 split at h
 ·cases h
 rename_i h1
 split at h
 ·cases h
 rename_i h2
 refine⟨Np λe=>h1 (.inl e),?_,Np λe=>h1 (.inr (.inr e)),RL.1 h2,h⟩
 cases hf:Xz s with
 |true=>rfl
 |false=>exact absurd (.inr (.inl hf)) h1
theorem Yag(h:(YV n s f r).2=0):wayE n s f r=0/\∃b,ZG n s f r=some b/\YV n s f r=(b,0):=by
 unfold YV at h⊢
 by_cases h1:wayE n s f r=0
 ·rw[Td (λe=>e h1)]at h⊢
  cases hb:ZG n s f r with
  |none=>rw[hb]at h;cases h
  |some b=>exact⟨h1,b,rfl,rfl⟩
 ·rw[Tm h1]at h
  exact absurd h h1
variable {q:List Rqs}{i:Nat}
theorem ZV(h:i<q.length):q[i]? =some (rqAt q i):=by
 unfold rqAt;rw[Tt,Ta h];rfl
theorem Yah(h:i<q.length):rqAt q i∈q:=Tf (ZV h)
variable {x:Rqs}
theorem Ydf(h:x∈q):∃i,i<q.length/\rqAt q i=x:=by
 obtain⟨i,hi⟩:=T9.1 h
 have hl:=(Ti.1 hi).1
 exact⟨i,hl,Tz ((ZV hl).symm.trans hi)⟩
variable {l:List (List Int)}
theorem YaU(h:i<l.length):l[i]? =some (rtAt l i):=by
 unfold rtAt;rw[Tt,Ta h];rfl
theorem YiK(h:i<l.length):rtAt l i∈l:=Tf (YaU h)
def Oy(n:Net)(s:Sch)(x:Rqs):Bool:=decide (x.2.length=1\/x.2.length=2/\rtAt x.2 0≠rtAt x.2 1)&&!(JC n s x)
theorem Yf9(h:JC n s x=false)(hr:r∈x.2):(YV n s x.1 r).2=0/\(YV n s x.1 r).1.1<=x.1.2.2.2.2.2:=by
 unfold JC at h
 rw[RY]at h
 have:=h r hr
 unfold badR at this
 rw[Tq]at this
 omega
theorem Ys8(h:Oy n s x=true):rtsE n x=0:=by
 unfold Oy at h
 rw[To,Tq]at h
 have hl:=h.2
 simp only[Si]at hl
 have hc:(YH (λk=>Zv n x.1.2.1 x.1.2.2.1 (rtAt x.2 k)) x.2.length 0).2=0:=YL.2 λk _ hk=>
  (YgL (Yag (Yf9 hl (YiK (l:=x.2) (i:=k) (by omega))).1).1).2.2.2.2
 unfold rtsE
 rw[Td (by omega),Td (by omega),Td (λe=>e hc)]
 rw[Td]
 rintro⟨h1,h2⟩
 rcases h.1 with h3|h3
 ·omega
 ·exact h3.2 h2
theorem Yai(h:rtsE n x=0):x.2.length=1\/x.2.length=2/\rtAt x.2 0≠rtAt x.2 1:=by
 unfold rtsE at h
 split at h
 ·cases h
 split at h
 ·cases h
 split at h
 ·exact absurd h (by assumption)
 split at h
 ·cases h
 rename_i h1 h2 h3 h4
 by_cases h5:x.2.length=1
 ·exact .inl h5
 ·exact .inr ⟨by omega,λe=>h4 ⟨by omega,e⟩⟩
theorem ZH:(YT n q s).2.2=0↔(schE n (YB q) s).2=0/\∀x∈q,Oy n s x=true:=by
 constructor
 ·intro h
  unfold YT at h
  by_cases h1:(rqsE n q).2=0
  rotate_left
  ·rw[Tm h1]at h;exact absurd h h1
  rw[Td (λe=>e h1)]at h
  by_cases h2:(schE n (YB q) s).2=0
  rotate_left
  ·rw[Tm h2]at h;cases h
  rw[Td (λe=>e h2)]at h
  by_cases h3:(YH (λi=>if JC n s (rqAt q i)=true then 15 else 0) q.length 0).2=0
  rotate_left
  ·rw[Tm h3]at h;exact absurd h h3
  refine⟨h2,λx hx=>?_⟩
  obtain⟨i,hi,rfl⟩:=Ydf hx
  have h4:=YL.1 h3 i (Tu _) (by omega)
  have hl:JC n s (rqAt q i)=false:=by
   cases hb:JC n s (rqAt q i)with
   |false=>rfl
   |true=>simp only[hb,Tm]at h4;cases h4
  have h5:rtsE n (rqAt q i)=0:=by
   have hw:=OA (Jb.1 h2).whole
   unfold rqsE at h1
   rw[Td (λe=>e hw.1),Td (λe=>e hw.2.1)]at h1
   exact YL.1 h1 i (Tu _) (by omega)
  unfold Oy
  rw[hl,Tc (Yai h5)];rfl
 ·rintro⟨h2,h3⟩
  have hw:=OA (Jb.1 h2).whole
  have h1:(rqsE n q).2=0:=by
   unfold rqsE
   rw[Td (λe=>e hw.1),Td (λe=>e hw.2.1)]
   exact YL.2 λi _ hi=>Ys8 (h3 _ (Yah (by omega)))
  have h4:(YH (λi=>if JC n s (rqAt q i)=true then 15 else 0) q.length 0).2=0:=YL.2 λi _ hi=>by
   have:=h3 _ (Yah (q:=q) (i:=i) (by omega))
   unfold Oy at this
   rw[To]at this
   have hl:=this.2
   simp only[Si]at hl
   rw[Td (by rw[hl];decide)]
  unfold YT
  rw[Td (λe=>e h1),Td (λe=>e h2),Td (λe=>e h4)]
theorem Yk1(h:(YT n q s).2.2=0):YT n q s=(q.map (clmE n s),(-1,0)):=by
 unfold YT at h⊢
 split
 ·rename_i h1;rw[Tm h1]at h;exact absurd h h1
 rename_i h1
 rw[Td h1]at h
 split
 ·rename_i h2;rw[Tm h2]at h;cases h
 rename_i h2
 rw[Td h2]at h
 split
 ·rename_i h3;rw[Tm h3]at h;exact absurd h h3
 rfl
variable {X:List Cel}
theorem OC{Y:List Cel}{k:Nat}(h:k<X.length):celL (X++Y) k=celL X k:=by
 unfold celL;rw[Tt,Tt,Sl h]
theorem Ycu(X:List Cel)(c:Cel):celL (X++[c]) X.length=c:=by
 unfold celL;rw[Tt,Ro (TL _)];simp
theorem JR(X:List Cel)(c:Cel)(k:Nat):celL (c::X) (k+1)=celL X k:=by
 unfold celL;simp
theorem Yaw(X:List Cel)(c:Cel):celL (c::X) 0=c:=rfl
theorem Qc(n:Net)(X Y:List Cel)(j:Nat)(node:Int):∀k,k<=X.length->Yu n (X++Y) j node k=Yu n X j node k
 |0,_=>rfl
 |k+1,h=>by rw[Yu,Yu,Qc n X Y j node k (by omega),OC (by omega)]
theorem YaA(n:Net)(X:List Cel)(c:Cel)(i:Nat)(node:Int):∀k,Yu n (c::X) (i+1) node (k+1)=(powN n (Yx c) node+powN n (toC c) node)+Yu n X i node k
 |0=>by rw[Yu,Yu,Yu,Td (by omega),Yaw];omega
 |k+1=>by
  rw[Yu,YaA n X c i node k,Yu,JR]
  by_cases h:k=i
  ·rw[Tm h,Tm (by omega)];omega
  ·rw[Td h,Td (by omega)];omega
theorem Qb(n:Net)(X:List Cel)(c:Cel)(node:Int)(j:Nat):∀k,k<=j->Yu n (c::X) 0 node (k+1)=Yu n X j node k
 |0,_=>by rw[Yu,Yu,Yu,Tm rfl];omega
 |k+1,h=>by
  rw[Yu,Qb n X c node j k (by omega),Yu,JR,Td (by omega),Td (by omega)]
theorem Ymp(X:List Cel)(c:Cel)(i:Nat)(hi:i<X.length)(T:Cel->Bool):((List.range (X++[c]).length).any λk=>decide (k≠i)&&T (celL (X++[c]) k))=(((List.range X.length).any λk=>decide (k≠i)&&T (celL X k))||T c):=by
 rw[Tj,TP,RA,SV]
 congr 1
 ·rw[NI,Rk,Rk]
  constructor
  ·rintro⟨k,hk,h⟩;refine⟨k,hk,?_⟩;rw[OC (TO.1 hk)]at h;exact h
  ·rintro⟨k,hk,h⟩;refine⟨k,hk,?_⟩;rw[OC (TO.1 hk)];exact h
 ·rw[MA,List.any_nil,MC,Ycu,Tc (show X.length≠i by omega),RS]
theorem Ymn(X:List Cel)(c:Cel)(i:Nat)(T:Cel->Bool):((List.range (c::X).length).any λk=>decide (k≠i+1)&&T (celL (c::X) k))=(T c||(List.range X.length).any λk=>decide (k≠i)&&T (celL X k)):=by
 rw[TS,Nj,MA,MD,Yaw,Tc (show 0≠i+1 by omega),RS]
 congr 1
 rw[NI,Rk,Rk]
 constructor
 ·rintro⟨k,hk,h⟩;refine⟨k,hk,?_⟩;simp only[Function.comp,JR]at h;simpa using h
 ·rintro⟨k,hk,h⟩;refine⟨k,hk,?_⟩;simp only[Function.comp,JR];simpa using h
theorem Ymo(X:List Cel)(c:Cel)(T:Cel->Bool):((List.range (X++[c]).length).any λk=>decide (k≠X.length)&&T (celL (X++[c]) k))=(List.range X.length).any λk=>T (celL X k):=by
 rw[Tj,TP,RA,SV,MA,List.any_nil,MC,show decide (X.length≠X.length)=false by simp,SI,MC]
 rw[NI,Rk,Rk]
 constructor
 ·rintro⟨k,hk,h⟩;refine⟨k,hk,?_⟩;rw[OC (TO.1 hk),To]at h;exact h.2
 ·rintro⟨k,hk,h⟩
  refine⟨k,hk,?_⟩
  have:=TO.1 hk
  rw[OC this,To]
  exact⟨Tc (by omega),h⟩
theorem Ymm(X:List Cel)(c:Cel)(T:Cel->Bool):((List.range (c::X).length).any λk=>decide (k≠0)&&T (celL (c::X) k))=(List.range X.length).any λk=>T (celL X k):=by
 rw[TS,Nj,MA,MD,show decide ((0:Nat)≠0)=false by simp,SI,ND]
 rw[NI,Rk,Rk]
 constructor
 ·rintro⟨k,hk,h⟩;refine⟨k,hk,?_⟩;simp only[Function.comp,JR]at h;simpa using h
 ·rintro⟨k,hk,h⟩;refine⟨k,hk,?_⟩;simp only[Function.comp,JR];simpa using h
variable {c c':Cel}
theorem Ow{d:Cel}(hf:Yx c=Yx c')(ht:toC c=toC c'):YC c d=YC c' d/\YC d c=YC d c':=by
 unfold YC;rw[hf,ht];exact⟨rfl,rfl⟩
theorem YeB(n:Net)(X:List Cel)(c:Cel)(i:Nat)(hi:i<X.length)(node:Int):Yu n (X++[c]) i node (X++[c]).length=Yu n X i node X.length+(powN n (Yx c) node+powN n (toC c) node):=by
 rw[Tj,TP,Yu,Qc n X [c] i node _ (TL _),Td (by omega),Ycu]
theorem YcF(n:Net)(X:List Cel)(c:Cel)(node:Int):Yu n (X++[c]) X.length node (X++[c]).length=Yu n X X.length node X.length:=by
 rw[Tj,TP,Yu,Qc n X [c] _ node _ (TL _),Tm rfl];omega
theorem YcX{n:Net}(hf:Yx c=Yx c')(ht:toC c=toC c'):Jz n (X++[c])=Jz n (c'::X):=by
 have h1:∀i,i<X.length->ZB n (X++[c]) i=ZB n (c'::X) (i+1):=λi hi=>by
  unfold ZB
  rw[OC hi,JR,Ymp X c i hi,Ymn,YeB n X c i hi,YeB n X c i hi,TS,YaA,YaA,(Ow hf ht).2,hf,ht,Bool.or_comm (YC _ c')]
  rw[Int.add_comm (Yu n X i (toC _) _),Int.add_comm (Yu n X i (Yx _) _)]
 have h2:ZB n (X++[c]) X.length=ZB n (c'::X) 0:=by
  unfold ZB
  rw[Ycu,Yaw,Ymo,Ymm,YcF,YcF,TS,Qb n X c' _ X.length _ (TL _),Qb n X c' _ X.length _ (TL _),hf,ht]
  have:(λk=>YC c (celL X k))=λk=>YC c' (celL X k):=funext λk=>(Ow hf ht).1
  rw[this]
 unfold Jz
 congr 1
 rw[Tj,TP,RA,List.all_append,TS,Nj,NV,List.all_nil,Bool.and_true,NV,List.all_map,h2,Bool.and_comm]
 congr 1
 rw[NI,TI,TI]
 constructor
 ·intro h i hi;have:=h i hi;rw[h1 i (TO.1 hi)]at this;exact this
 ·intro h i hi;rw[h1 i (TO.1 hi)];exact h i hi
def fitE(n:Net)(l:List Cel)(slot o a b:Int):Bool:=!(l.any λd=>decide (d.1=slot)&&YC d (0,0,a,b,0))&&Jz n (l.filter (atP slot o)++[(0,0,a,b,0)])
def hasC(l:List Cel)(slot a b id:Int):Bool:=l.any λd=>decide (d.1=slot/\Yx d=a/\toC d=b/\Xy d=id)
def JI(n:Net)(s:Sch)(a b id slot:Int):Option Sch:=
 if hasC s.cells slot a b id=true then some s else((List.range s.off.toNat).find? λo:Nat=>fitE n s.cells slot o a b).map λo:Nat=>⟨s.len,s.off,insC s.cells (slot,(o:Int),a,b,id)⟩
def hopA(n:Net)(a b id:Int):Nat->Nat->Sch->Int->Option (Sch×Int)
 |_,0,s,z=>some (s,z)
 |0,_+1,_,_=>none
 |f+1,k+1,s,z=>match JI n s a b id (z.tmod s.len)with
  |some t=>hopA n a b id f k t (z+1)
  |none=>hopA n a b id f (k+1) s (z+1)
def relA(n:Net)(id endd:Int):List Lk->Sch->Int->Option Sch
 |[],s,_=>some s
 |l::ls,s,z=>match hopA n l.1 l.2.1 id (endd-z).toNat (Xg l) s z with
  |none=>none
  |some (t,y)=>relA n id endd ls t y
def Yaf(n:Net)(f:Flw)(ls:List Lk):Nat->Sch->Int->Option Sch
 |0,s,_=>some s
 |k+1,s,z=>if z<s.len then match relA n f.1 (z+f.2.2.2.2.2) ls s z with
  |none=>none
  |some t=>Yaf n f ls k t (z+f.2.2.2.1)
  else some s
def JH(n:Net)(f:Flw):List (List Int)->Sch->Option Sch
 |[],s=>some s
 |r::rs,s=>match Yaf n f (Yr n r) s.len.toNat s f.2.2.2.2.1 with
  |none=>none
  |some t=>JH n f rs t
end Go.Proofs.YtaholidehobiiaaGreatDoor
namespace Go.Eng
open Go.RowKit
section
variable {P:Program}{n:Shp}{B:Nat}{w0:World}{ops:Array Oper}{Q:Exit->Act->World->Prop}{rest:List Oper}{env:Env}{H:List HP}{d:Nat}{ty:TypeId}{pos:String}{after:Array Edge}{x y:Operand}
theorem YhT{α:Type}{f:α->List Value}(hq:∀a,(f a).length=1){v:Value}:∀(l:List α) (i:Nat) (a:α),f a=[v]->i<l.length->(l.flatMap f).set i v=(l.set i a).flatMap f
 |[],i,a,_,h=>by simp at h
 |b::l,0,a,hv,_=>by
  rw[TR,Nv,TR,hv]
  match hb:f b,hq b with
  |[u],_=>rfl
 |b::l,i+1,a,hv,h=>by
  rw[TR,NT,TR]
  have h1:=hq b
  rw[NX _ _ (by omega),h1,SR,YhT hq l i a hv (by simpa using h)]
variable {t e:Nat}
theorem XB(T:Tab P){α:Type}{f:α->List Value}{l:List α}{i k cap:Nat}{a:α}{v:Value}{A:Option Addr}{K:List HP}(hx:evo env x=some (sptr A (i*1)))(hy:evo env y=some v)(h1:v.oneCell'=true)
 (hu:Upd (sl e 1 A k cap (l.flatMap f)) (sl e 1 A k cap ((l.set i a).flatMap f)) H K) (hv:f a=[v]) (hq:∀a,(f a).length=1) (ht:look T.sc t=some ()) (hi:i<l.length)
 (h:VL P none n B w0 ops Q rest env K):VL P none n B w0 ops Q (⟨none,.store t x y,ty,pos,after,none⟩::rest) env H:=by
 rw[NE]at hx
 refine Ya4 (e:=e) (size:=1) (k:=k) (cap:=cap) T hx hy h1 ?_ ht (by rw[Xa hq,NE];exact hi) h
 rw[YhT hq l i a hv hi]
 exact hu
theorem Xe(T:Tab P){size bytes:Nat}(ht:look T.sl t=some (e,size,bytes))(hn:Nat.ble (d+1) n.k=true)
 (h:∀g,VL P none n B w0 ops Q rest ((d,.slice (some ⟨g,0,none⟩) 0 0)::env) (sl e size (some ⟨g,0,none⟩) 0 0 []::H)):VL P none n B w0 ops Q (⟨some d,.buildSlice t 0 #[],ty,pos,after,none⟩::rest) env H:=by
 obtain⟨hut,inf,z',hinf,_⟩:=YG (T.slic ht)
 refine OQ (parts:=[]) (ps:=[]) (cs:=#[]) (e:=e) Yfg (λw=>?_) hn λg=>XL _ (λw hw=>hw.blk_sl (cs:=[]) (by simp) (by omega)) (h g)
 simp[Instr.buildSlice,run_underlying hut,sizeOf,typeInfo,hinf,Instr.fill,newRow]
 rw[show Array.range 0=#[] from Array.eq_empty_of_size_eq_zero (by simp),Array.map_empty]
variable {A:HP}{L M:List HP}
theorem Yns{L':List HP}(h:Rem A L L')(h2:Perm L' M):Perm L (A::M):=Perm.trans h (Perm.cons A h2)
theorem Perm.dropK(p:Perm L M):Perm (A::L) M:=.trans (.drop A L) p
end
section
variable {P:Program}{m:Mode}{n:Shp}{B:Nat}{w0:World}{ops:Array Oper}{Q:Exit->Act->World->Prop}{rest:List Oper}{env:Env}{H:List HP}{d:Nat}{ty:TypeId}{pos:String}{after:Array Edge}{x y:Operand}
theorem XG{α:Type}{f:α->List Value}{q:Nat}(hq:∀a,(f a).length=q):∀(l:List α) (k:Nat),(l.take k).flatMap f=(l.flatMap f).take (k*q)
 |[],k=>by simp
 |a::l,0=>by simp
 |a::l,k+1=>by
  have e1:(k+1)*q=q+k*q:=by rw[RX];omega
  have h1:(f a).take (q+k*q)=f a:=TQ (by rw[hq];omega)
  rw[NL,TR,TR,XG hq l k,e1,Nx,hq,h1,NM]
theorem UX{α:Type}{f:α->List Value}{q:Nat}(hq:∀a,(f a).length=q):∀(l:List α) (k:Nat),(l.drop k).flatMap f=(l.flatMap f).drop (k*q)
 |[],k=>by simp
 |a::l,0=>by simp
 |a::l,k+1=>by
  have e1:(k+1)*q=q+k*q:=by rw[RX];omega
  have h1:(f a).drop (q+k*q)=[]:=TZ (by rw[hq];omega)
  rw[List.drop_succ_cons,TR,UX hq l k,e1,List.drop_append,hq,h1,NM,TK]
theorem YhV{α:Type}{f:α->List Value}{q:Nat}(hq:∀a,(f a).length=q){v:Value}{o:Nat}(ho:o<q):∀(l:List α) (i:Nat) (b b':α),l[i]? =some b->f b'=(f b).set o v->(l.flatMap f).set (i*q+o) v=(l.set i b').flatMap f
 |[],i,b,b',h,_=>by simp at h
 |a::l,0,b,b',h,hv=>by
  obtain rfl:a=b:=by simpa using h
  rw[TR,Nv,TR,hv,N4,Ry,List.set_append_left _ _ (by rw[hq];exact ho)]
 |a::l,i+1,b,b',h,hv=>by
  have h1:=hq a
  rw[TR,NT,TR,NX _ _ (by rw[h1,RX];omega),h1,<-YhV hq ho l i b b' (by simpa using h) hv]
  congr 2
  rw[RX];omega
variable {α:Type}
theorem YcS{f:α->List Value}(h1:∀a,Ju (f a)=true)(l:List α):∀v∈l.flatMap f,v.oneCell'=true:=by
 intro v hv
 obtain⟨a,_,ha⟩:=RN.1 hv
 exact ZF (h1 a) v ha
def subA(A:Option Addr)(o cap size:Nat):Option Addr:=if cap=o then A else A.map λa=>a.add (o*size)
variable {q cap o k t e size bytes l h mm n' g k' c i:Nat}{A:Option Addr}
theorem Rd.sub{f:α->List Value}{l:List α}(hq:∀a,(f a).length=q)(hr:Rd B w0 H A (l.flatMap f))(hc:l.length<=cap):Rd B w0 H (subA A o cap q) (((l.drop o).take k).flatMap f):=by
 intro w hw j v hv
 rw[XG hq,UX hq]at hv
 have hv2:((l.flatMap f).drop (o*q))[j]? =some v:=by
  rw[SE]at hv
  by_cases hj:j<k*q
  ·rw[Tm hj]at hv;exact hv
  ·rw[Td hj]at hv;cases hv
 rw[RB]at hv2
 obtain⟨g,oo,rfl,h2⟩:=hr w hw _ _ hv2
 unfold subA
 by_cases hco:cap=o
 ·exfalso
  have h3:=(Ti.1 hv2).1
  rw[Xa hq]at h3
  have h4:l.length*q<=o*q:=Rq q (by omega)
  omega
 ·rw[Td hco]
  exact⟨g,oo+o*q,by rw[RH,Addr.add_lit],by rw[NW];exact h2⟩
theorem Rd.take{f:α->List Value}{l:List α}(k:Nat)(hq:∀a,(f a).length=q)(hr:Rd B w0 H A (l.flatMap f)):Rd B w0 H A ((l.take k).flatMap f):=by
 intro w hw j v hv
 rw[XG hq,SE]at hv
 by_cases hj:j<k*q
 ·rw[Tm hj]at hv;exact hr w hw j v hv
 ·rw[Td hj]at hv;cases hv
variable {w:World}{mx:Option Value}
theorem Ykt(T:Tab P){lo hi:Option Value}(ht:look T.sl t=some (e,size,bytes))(hb:(Instr.sliceBounds true k cap lo hi mx).run P w=.ok (l,h,mm) w):
 (Instr.slice t (.slice A k cap) lo hi mx).run P w=.ok (.slice (if mm=l then A else A.map (·.add (l*size))) (h-l) (mm-l)) w:=by
 obtain⟨hut,inf,z',hinf,_,_,hsi,_⟩:=YG (T.slic ht)
 simp[Instr.slice,run_underlying hut,hb,sizeOf,typeInfo,hinf,hsi]
theorem ZW(T:Tab P){lo hi:Option Value}(ht:look T.sl t=some (e,size,bytes))(hb:(Instr.sliceBounds true k cap lo hi mx).run P w=.ok (l,h,mm) w):
 (Instr.sliceAt t (.slice A k cap) lo hi mx).run P w=.ok (.slice (if mm=l then A else A.map (·.add (l*size))) (h-l) (mm-l)) w:=by
 obtain⟨hut,_⟩:=YG (T.slic ht)
 simp[Instr.sliceAt,run_underlying hut,Ykt T (A:=A) ht hb]
variable {lo hi:Operand}{ki kj:IntKind}{z u:Int}
theorem XS(T:Tab P)(hx:evo env x=some (.slice A k cap))(hl:evo env lo=some (.int ki z))(ht:look T.sl t=some (e,size,bytes))(hn:Nat.ble (d+1) n.k=true)(hb:0<=z/\z<=k)(hn':k-z.toNat=n')
 (h:VL P m n B w0 ops Q rest ((d,.slice (subA A z.toNat cap size) n' (cap-z.toNat))::env) H):VL P m n B w0 ops Q (⟨some d,.slice t x (some lo) none none,ty,pos,after,none⟩::rest) env H:=by
 subst hn'
 refine Yy rfl rfl hn rfl (λf w ha _=>?_) h
 have hb2:(Instr.sliceBounds true k cap (some (.int ki z)) none none).run P w=.ok (z.toNat,k,cap) w:=by simp[Instr.sliceBounds,Instr.sliceBound,asIntOf,hb]
 have hr:=ZW T (A:=A) ht hb2
 simp only[execOp,ha.eval hx,RH,ha.eval hl,Mc]
 simp[hr,subA]
variable {xs:List Value}
theorem Ya3(T:Tab P)(hx:evo env x=some (.slice A k cap))(hl:evo env hi=some (.int ki z))(hm:sl e size A k cap xs∈H)(ht:look T.sl t=some (e,size,bytes))(hn:Nat.ble (d+1) n.k=true)(hb:0<=z/\z<=k)
 (h:VL P m n B w0 ops Q rest ((d,.slice A z.toNat cap)::env) H):VL P m n B w0 ops Q (⟨some d,.slice t x none (some hi) none,ty,pos,after,none⟩::rest) env H:=by
 refine Yy rfl rfl hn rfl (λf w ha hw=>?_) h
 have hown:=hw.sl hm
 have hkc:k<=cap:=by
  rcases hown.2 with⟨e1,e2⟩|⟨g,c,cur,e1,_,_,e4,_⟩
  ·omega
  ·injection e1 with _ _ e3;omega
 have hA:(if cap=0 then A else A.map (·.add (0*size)))=A:=by
  rcases hown.2 with⟨e1,e2⟩|⟨g,c,cur,e1,_⟩
  ·injection e1 with e1 _ _;subst e1;simp
  ·injection e1 with e1 _ _;subst e1;simp[Addr.add_lit]
 have hb2:(Instr.sliceBounds true k cap none (some (.int ki z)) none).run P w=.ok (0,z.toNat,cap) w:=by
  have:z<=cap:=by omega
  simp[Instr.sliceBounds,Instr.sliceBound,asIntOf,hb.1,this]
 have hr:=ZW T (A:=A) ht hb2
 rw[hA]at hr
 simp only[execOp,ha.eval hx,RH,ha.eval hl,Mc]
 simp[hr]
theorem X7(T:Tab P){l:List α}(hx:evo env x=some (.slice A l.length cap))(hl:evo env hi=some (.int ki z))(ht:look T.sl t=some (e,size,bytes))(hn:Nat.ble (d+1) n.k=true)(hb:0<=z/\z<=l.length)(hc:l.length<=cap)(hn':z.toNat=n')
 (h:VL P m n B w0 ops Q rest ((d,.slice (subA A 0 cap size) n' cap)::env) H):VL P m n B w0 ops Q (⟨some d,.slice t x none (some hi) none,ty,pos,after,none⟩::rest) env H:=by
 subst hn'
 refine Yy rfl rfl hn rfl (λf w ha hw=>?_) h
 have hb2:(Instr.sliceBounds true l.length cap none (some (.int ki z)) none).run P w=.ok (0,z.toNat,cap) w:=by
  have:z<=cap:=by omega
  simp[Instr.sliceBounds,Instr.sliceBound,asIntOf,hb.1,this]
 have hr:=ZW T (A:=A) ht hb2
 simp only[execOp,ha.eval hx,RH,ha.eval hl,Mc]
 simp[hr,subA]
theorem WW(T:Tab P)(hx:evo env x=some (.slice A k cap))(hl:evo env lo=some (.int ki z))(hh:evo env hi=some (.int kj u))(ht:look T.sl t=some (e,size,bytes))(hn:Nat.ble (d+1) n.k=true)(hb:0<=z/\z<=u/\u<=cap)(hn':u.toNat-z.toNat=n')
 (h:VL P m n B w0 ops Q rest ((d,.slice (subA A z.toNat cap size) n' (cap-z.toNat))::env) H):VL P m n B w0 ops Q (⟨some d,.slice t x (some lo) (some hi) none,ty,pos,after,none⟩::rest) env H:=by
 subst hn'
 refine Yy rfl rfl hn rfl (λf w ha _=>?_) h
 have hb2:(Instr.sliceBounds true k cap (some (.int ki z)) (some (.int kj u)) none).run P w=.ok (z.toNat,u.toNat,cap) w:=by
  have h1:0<=u:=by omega
  have h3:z<=max u 0:=by omega
  simp[Instr.sliceBounds,Instr.sliceBound,asIntOf,hb.1,hb.2.2,h1,h3]
 have hr:=ZW T (A:=A) ht hb2
 simp only[execOp,ha.eval hx,RH,ha.eval hl,ha.eval hh,Mc]
 simp[hr,subA]
theorem Ymg(T:Tab P){mx:Operand}{kk:IntKind}{v:Int}(hx:evo env x=some (.slice A k cap))(hl:evo env lo=some (.int ki z))(hh:evo env hi=some (.int kj u))(hv:evo env mx=some (.int kk v))(ht:look T.sl t=some (e,size,bytes))(hn:Nat.ble (d+1) n.k=true)(hb:0<=z/\z<=u/\u<=v/\v<=cap)
 (h:VL P m n B w0 ops Q rest ((d,.slice (if v.toNat=z.toNat then A else A.map (·.add (z.toNat*size))) (u.toNat-z.toNat) (v.toNat-z.toNat))::env) H):VL P m n B w0 ops Q (⟨some d,.slice t x (some lo) (some hi) (some mx),ty,pos,after,none⟩::rest) env H:=by
 refine Yy rfl rfl hn rfl (λf w ha _=>?_) h
 have hb2:(Instr.sliceBounds true k cap (some (.int ki z)) (some (.int kj u)) (some (.int kk v))).run P w=.ok (z.toNat,u.toNat,v.toNat) w:=by
  have h1:0<=u:=by omega
  have h3:z<=max u 0:=by omega
  have h4:0<=v:=by omega
  have h6:u<=max v 0:=by omega
  simp[Instr.sliceBounds,Instr.sliceBound,asIntOf,hb.1,hb.2.2,h1,h3,h4,h6]
 have hr:=ZW T (A:=A) ht hb2
 simp only[execOp,ha.eval hx,RH,ha.eval hl,ha.eval hh,ha.eval hv]
 simp[hr]
theorem YgB{b:Nat}{cs:Array Value}(h:b≠g):(w.setRow g cs).heap[b]? =w.heap[b]? :=by
 simp[World.setRow,Array.getElem?_modify,Ne.symm h]
variable {K:List HP}
theorem St.storeRow{xs' vs:List Value}{cur:Array Value}(hw:St B w0 H w)(hu:Upd (Eng.sl e size A k cap xs) (Eng.sl e size A k' cap xs') H K)(hA:A=some ⟨g,0,none⟩)
 (hb:w.heap[g]? =some (.cells cur e (0,0))) (hcur:cur.size=cap*size) (hk':k'<=cap) (hcm:cap<=maxLen) (hov:o+vs.length<=cur.size) (hx':(cur.toList.take o++vs++cur.toList.drop (o+vs.length)).take (k'*size)=xs') (hxl:xs'.length=k'*size):
 St B w0 K (w.setRow g (cur.toList.take o++vs++cur.toList.drop (o+vs.length)).toArray):=by
 refine hw.upd hu rfl rfl rfl (by simp[World.setRow]) λS1 ⟨hown,hS⟩=>⟨⟨⟨hxl,.inr ⟨g,cap,_,by rw[hA],Tu _,setRow_heap w g cur _ e _ hb,hk',hcm,?_,by simpa using hx'⟩⟩,hS⟩,λb hb' _=>YgB λe=>hb' (by rw[e];exact hS _ hA)⟩
 simp only[List.size_toArray,Tj,TD,Rf,S5]
 omega
theorem Ja(h:w.ownsRow 0 e size (.slice A k cap) k xs):(A=none/\k=0/\cap=0/\xs=[])\/∃g cur,A=some ⟨g,0,none⟩/\w.heap[g]? =some (.cells cur e (0,0))/\k<=cap/\cap<=maxLen/\cur.size=cap*size/\cur.toList.take (k*size)=xs/\xs.length=k*size:=by
 obtain⟨h1,h2⟩:=h
 rcases h2 with⟨e1,e2⟩|⟨g,c,cur,e1,_,e3,e4,e5,e6,e7⟩
 ·injection e1 with a1 a2 a3
  exact .inl ⟨a1,e2,a3,RJ (by rw[h1,e2];simp)⟩
 ·injection e1 with a1 a2 a3
  subst a3
  exact .inr ⟨g,cur,a1,e3,e4,e5,e6,e7,h1⟩
theorem St.shrink(hw:St B w0 H w)(hk:k'<=k)(hu:Upd (Eng.sl e size A k cap xs) (Eng.sl e size A k' cap (xs.take (k'*size))) H K):St B w0 K w:=by
 refine hw.upd hu rfl rfl rfl (TL _) λS1 ⟨hown,hS⟩=>⟨⟨?_,hS⟩,λ_ _ _=>rfl⟩
 rcases Ja hown with⟨rfl,rfl,rfl,rfl⟩|⟨g,cur,rfl,h1,h2,h3,h4,h5,h6⟩
 ·obtain rfl:k'=0:=by omega
  exact⟨by simp,.inl ⟨rfl,rfl⟩⟩
 ·have hm:k'*size<=k*size:=Rq _ hk
  refine⟨by rw[TD,h6];omega,.inr ⟨g,cap,cur,rfl,Tu _,h1,by omega,h3,h4,?_⟩⟩
  rw[<-h5,Nk,SG hm]
theorem XA(T:Tab P){f:α->List Value}{l2:List α}{A2:Option Addr}{K:Option Addr->Nat->List HP}
 (hx:evo env x=some (.slice A k cap)) (ht:look T.sl t=some (e,size,bytes)) (hy:evo env y=some (.slice A2 l2.length c)) (hr:Rd B w0 H A2 (l2.flatMap f)) (hq:∀a,(f a).length=size) (h1:∀a,Ju (f a)=true) (hn:Nat.ble (d+1) n.k=true)
 (hu:∀A' cap',Upd (sl e size A k cap xs) (sl e size A' (k+l2.length) cap' (xs++l2.flatMap f)) H (K A' cap')) (hby:(k+l2.length)*bytes<=140737488355328)
 (h:∀A' cap',VL P none n B w0 ops Q rest ((d,.slice A' (k+l2.length) cap')::env) (K A' cap')):
 VL P none n B w0 ops Q (⟨some d,.call ⟨.builtin .append,#[x,y],#[t,t]⟩,ty,pos,after,none⟩::rest) env H:=by
 obtain⟨hut,i,z,hi,hz,hzs,hsi,hbi,hs0,hb0⟩:=YG (T.slic ht)
 refine XH (λv K'=>∃A' cap',v=.slice A' (k+l2.length) cap'/\K'=K A' cap') rfl rfl hn (λa w ha hw=>?_) (by rintro _ _ ⟨A',cap',rfl,rfl⟩;exact h A' cap')
 have hmem:sl e size A k cap xs∈H:=by
  obtain⟨L1,L2,rfl,_⟩:=hu none 0
  simp
 have hown:=hw.sl hmem
 have h63:k+l2.length<=maxLen:=by
  have:k+l2.length<=(k+l2.length)*bytes:=Nat.le_mul_of_pos_right _ hb0
  simp only[maxLen];omega
 cases A2 with
 |none=>
  have hl0:l2=[]:=by
   cases l2 with
   |nil=>rfl
   |cons b l=>
    have hb:=hq b
    obtain⟨v,hv⟩:∃v,(f b)[0]? =some v:=⟨_,Ta (by omega)⟩
    obtain⟨g,o,e1,_⟩:=hr w hw 0 v (by rw[TR,Sl (by omega)];exact hv)
    cases e1
  subst hl0
  have hkc:k<=cap:=by
   rcases Ja hown with⟨_,e1,e2,_⟩|⟨_,_,_,_,e1,_⟩<;>omega
  refine⟨.slice A k cap,K A cap,w,?_,?_,A,cap,by simp,rfl⟩
  ·cases A with
   |none=>simp[execOp,resolve,invoke,builtin,ha.eval hx,ha.eval hy,Builtin.append_,run_underlying hut,sizeOf,typeInfo,hi,Builtin.lenOf,hkc,Builtin.firstCells]
   |some a0=>simp[execOp,resolve,invoke,builtin,ha.eval hx,ha.eval hy,Builtin.append_,run_underlying hut,sizeOf,typeInfo,hi,Builtin.lenOf,hkc,Builtin.firstCells,storeCells]
  ·have:=hu A cap
   simp only[RD,SQ,SZ,TM]at this
   exact hw.upd this rfl rfl rfl (TL _) λS1 hS=>⟨hS,λ_ _ _=>rfl⟩
 |some a2=>
  obtain⟨v',w',hrun,hown',hgrow,_,hat⟩:=run_append_own_at (P:=P) w 0 t ty e i z size bytes hut hi hz hsi hbi hzs hs0 (.slice A k cap) k xs hown a2 l2.length c (l2.flatMap f) (Xa hq l2)
   (λj u hj=>by
    obtain⟨g,o,e1,e2⟩:=hr w hw j u hj
    injection e1 with e1
    rw[e1,Addr.add_lit];exact e2) (YcS h1 l2) h63 hby (Tu _)
  have hshape:∃A' cap',v'=.slice A' (k+l2.length) cap':=by
   rcases hown'.2 with⟨e1,e2⟩|⟨g',c',_,e1,_⟩
   ·exact⟨none,0,by rw[e1,e2]⟩
   ·exact⟨_,_,e1⟩
  obtain⟨A',cap',rfl⟩:=hshape
  refine⟨_,K A' cap',w',by simp[execOp,resolve,invoke,builtin,ha.eval hx,ha.eval hy,hrun],?_,A',cap',rfl,rfl⟩
  refine hw.updN (hu A' cap') hgrow.os hgrow.tape hgrow.output hgrow.size λS1 ⟨_,hS⟩=>⟨⟨λb=>Value.ownBlock (.slice A' (k+l2.length) cap')=some b,⟨hown',?_⟩,λb hb=>?_⟩,λb hb hlt=>hgrow.block b hlt (λe=>hb ?_)⟩
  ·rintro a rfl;rfl
  ·rcases hat with e|e
   ·rw[e]at hb
    cases A with
    |none=>cases hb
    |some a=>left;have:=hS a rfl;simp only[Value.ownBlock,Ru]at hb;rwa [<-hb]
   ·rw[e]at hb
    right
    simp only[Ru]at hb
    subst hb
    refine⟨TL _,?_⟩
    rcases Ja hown' with⟨rfl,_⟩|⟨g',cur',rfl,h5,_⟩
    ·simp[Value.ownBlock]at e
    ·simp only[Value.ownBlock,Ru]at e
     rw[<-e]
     exact(R9.1 h5).1
  ·cases A with
   |none=>simp[Value.ownBlock]at e
   |some a=>have:=hS a rfl;simp only[Value.ownBlock,Ru]at e;rwa [e]
theorem Qy(T:Tab P)(T2:Tab2 P){z:Value}(hx:evo env x=some (.slice (subA A o cap size) mm c))(hm:sl e size A k cap xs∈H)(ht:look T.sl t=some (e,size,bytes))(hz:look T2.zt e=some z)(hz1:Ju z.cells.toList=true)(hb:k<=o/\o+mm<=cap)
 (h:VL P none n B w0 ops Q rest env H):VL P none n B w0 ops Q (⟨none,.call ⟨.builtin .clear,#[x],#[t]⟩,ty,pos,after,none⟩::rest) env H:=by
 obtain⟨hut,i,z',hi,hz',hzs,hsi,hbi,hs0,hb0⟩:=YG (T.slic ht)
 have hzz:z'=z:=by
  have h2:=Oh T2.zt_ok hz
  unfold Yaq at h2
  rw[hi]at h2
  exact Tz (hz'.symm.trans h2)
 subst hzz
 refine Yon (v:=.tuple #[]) rfl rfl (λa w ha hw=>?_) h
 rcases Ja (hw.sl hm)with⟨rfl,rfl,rfl,rfl⟩|⟨g,cur,rfl,h1,h2,h3,h4,h5,h6⟩
 ·obtain rfl:mm=0:=by omega
  refine⟨w,?_,hw⟩
  have:subA none o 0 size=none:=by unfold subA;split<;>rfl
  rw[this]at hx
  simp[execOp,resolve,invoke,builtin,ha.eval hx,Builtin.clear_,run_underlying hut]
 ·by_cases hm0:mm=0
  ·subst hm0
   refine⟨w,?_,hw⟩
   cases hsa:subA (some ⟨g,0,none⟩) o cap size with
   |none=>rw[hsa]at hx;simp[execOp,resolve,invoke,builtin,ha.eval hx,Builtin.clear_,run_underlying hut]
   |some b=>rw[hsa]at hx;simp[execOp,resolve,invoke,builtin,ha.eval hx,Builtin.clear_,run_underlying hut]
  ·have hsa:subA (some ⟨g,0,none⟩) o cap size=some ⟨g,o*size,none⟩:=by
    unfold subA
    rw[Td (by omega),RH,Addr.add_lit,Ry]
   rw[hsa]at hx
   have hlen:(Builtin.zeroCells z'.cells mm).toList.length=mm*size:=by simp[Builtin.zeroCells,hzs]
   have hone:∀v∈(Builtin.zeroCells z'.cells mm).toList,v.oneCell'=true:=by
    intro v hv
    simp only[Builtin.zeroCells,Array.toList_map,TG]at hv
    obtain⟨j,_,rfl⟩:=hv
    have hlt:j%z'.cells.size<z'.cells.size:=Nat.mod_lt _ (by omega)
    rw[getElem!_pos z'.cells (j%z'.cells.size) hlt]
    exact ZF hz1 _ (by simp)
   have hov:o*size+(Builtin.zeroCells z'.cells mm).toList.length<=cur.size:=by
    rw[hlen,h4,<-RX];exact Rq _ hb.2
   have hrun:=run_storeCells_at (P:=P) g (o*size) e (Builtin.zeroCells z'.cells mm).toList 0 cur w h1 (by rw[SQ];exact hov) hone
   rw[SQ]at hrun
   obtain⟨L1,L2,hL⟩:∃L1 L2,H=L1++sl e size (some ⟨g,0,none⟩) k cap xs::L2:=List.append_of_mem hm
   refine⟨_,?_,hw.storeRow (k':=k) (xs':=xs) ⟨L1,L2,hL,hL⟩ rfl h1 h4 h2 h3 hov ?_ h6⟩
   ·have hzv:(zeroValue e).run P w=.ok z' w:=YdT (by unfold Yaq;rw[hi];exact hz') w
    obtain⟨m',rfl⟩:∃m',mm=m'+1:=⟨mm-1,by omega⟩
    simp[execOp,resolve,invoke,builtin,ha.eval hx,Builtin.clear_,run_underlying hut,hzv,hrun]
   ·have hko:k*size<=o*size:=Rq _ hb.1
    have hoc:o*size<=cur.toList.length:=by simp;omega
    rw[TX,List.take_append_of_le_length (by rw[TD];omega),Nk,SG hko]
    exact h5
theorem YfD(T:Tab P){j:Nat}(hx:evo env x=some (.slice A i cap))(hy:evo env y=some (.slice (subA A j cap size) mm c))(ht:look T.sl t=some (e,size,bytes))(hn:Nat.ble (d+1) n.k=true)
 (hu:Upd (sl e size A k cap xs) (sl e size A (i+mm) cap (xs.take (i*size)++xs.drop (j*size))) H K) (h1:∀v∈xs,v.oneCell'=true) (hb:i<=j/\j<=k/\mm=k-j/\0<k)
 (h:VL P none n B w0 ops Q rest ((d,.slice A (i+mm) cap)::env) K):
 VL P none n B w0 ops Q (⟨some d,.call ⟨.builtin .append,#[x,y],#[t,t]⟩,ty,pos,after,none⟩::rest) env H:=by
 obtain⟨hut,inf,z,hi,hz,hzs,hsi,hbi,hs0,hb0⟩:=YG (T.slic ht)
 refine XH (λv K'=>v=.slice A (i+mm) cap/\K'=K) rfl rfl hn (λa w ha hw=>?_) (by rintro _ _ ⟨rfl,rfl⟩;exact h)
 have hmem:sl e size A k cap xs∈H:=by
  obtain⟨L1,L2,rfl,_⟩:=hu
  simp
 rcases Ja (hw.sl hmem)with⟨rfl,e1,_⟩|⟨g,cur,rfl,g1,g2,g3,g4,g5,g6⟩
 ·omega
 have hdl:(xs.drop (j*size)).length=mm*size:=by rw[Rf,g6,hb.2.2.1,Nat.sub_mul]
 have hij:i*size<=j*size:=Rq _ hb.1
 have hjk:j*size<=k*size:=Rq _ hb.2.1
 have hkc:k*size<=cap*size:=Rq _ g2
 have hov:i*size+(xs.drop (j*size)).length<=cur.size:=by rw[Rf,g6,g4];omega
 have hrun:=run_storeCells_at (P:=P) g (i*size) e (xs.drop (j*size)) 0 cur w g1 (by rw[SQ];exact hov) (λv hv=>h1 v (List.mem_of_mem_drop hv))
 rw[SQ]at hrun
 refine⟨_,K,_,?_,hw.storeRow (k':=i+mm) (o:=i*size) (vs:=xs.drop (j*size)) hu rfl g1 g4 (by omega) g3 hov ?_ ?_,rfl,rfl⟩
 ·have hf:(Builtin.firstCells size mm (.slice (subA (some ⟨g,0,none⟩) j cap size) mm c)).run P w=.ok (xs.drop (j*size)).toArray w:=by
   by_cases hcj:cap=j
   ·have hm0:mm=0:=by omega
    have hnil:xs.drop (j*size)=[]:=RJ (by rw[hdl,hm0];simp)
    unfold subA
    rw[Tm hcj,hnil]
    exact run_firstCells_some (P:=P) (w:=w) size mm _ mm c [] (by simp[hm0]) (by simp)
   ·unfold subA
    rw[Td hcj,RH,Addr.add_lit,Ry]
    refine run_firstCells_some (P:=P) (w:=w) size mm _ mm c _ hdl λq v hq=>?_
    rw[RB]at hq
    have h7:=(Ti.1 hq).1
    rw[Addr.add_lit]
    simp only[World.cell?,g1]
    rw[<-g5,SE]at hq
    by_cases hlt:j*size+q<k*size
    ·rw[Tm hlt]at hq
     simpa using hq
    ·rw[Td hlt]at hq;cases hq
  have hneed:i+mm<=cap:=by omega
  have hadd:(⟨g,0,none⟩:Addr).add (i*size)=⟨g,i*size,none⟩:=by rw[Addr.add_lit,Ry]
  simp[execOp,resolve,invoke,builtin,ha.eval hx,ha.eval hy,Builtin.append_,run_underlying hut,sizeOf,typeInfo,hi,hsi,Builtin.lenOf,hneed,hf,hadd,hrun]
 ·have hxt:xs.take (i*size)=cur.toList.take (i*size):=by rw[<-g5,Nk,SG (by omega)]
  rw[hxt]
  apply List.take_left'
  rw[Tj,TD,S5,hdl,RX]
  omega
 ·rw[Tj,TD,hdl,RX,g6]
  omega
theorem VS(T:Tab P){f:α->List Value}{l:List α}{b b':α}{v:Value}(hx:evo env x=some (sptr A (i*q+o)))(hy:evo env y=some v)(h1:v.oneCell'=true)
 (hu:Upd (sl e q A k cap (l.flatMap f)) (sl e q A k cap ((l.set i b').flatMap f)) H K) (hb:l[i]? =some b) (hv:f b'=(f b).set o v) (hq:∀a,(f a).length=q) (ho:Nat.blt o q=true) (ht:look T.sc t=some ())
 (h:VL P none n B w0 ops Q rest env K):VL P none n B w0 ops Q (⟨none,.store t x y,ty,pos,after,none⟩::rest) env H:=by
 have ho':o<q:=by simpa using ho
 have hi:=(Ti.1 hb).1
 refine Ya4 (xs:=l.flatMap f) (e:=e) (size:=q) (k:=k) (cap:=cap) T hx hy h1 ?_ ht ?_ h
 ·rw[YhV hq ho' l i b b' hb hv];exact hu
 ·rw[Xa hq]
  have:(i+1)*q<=l.length*q:=Rq _ hi
  rw[RX]at this
  omega
end
open Go.ChangeMaps (setBlock)
section
variable {P:Program}{m:Mode}{n:Shp}{B:Nat}{w0:World}{ops:Array Oper}{Q:Exit->Act->World->Prop}{rest:List Oper}{env:Env}{H:List HP}{d:Nat}{ty:TypeId}{pos:String}{after:Array Edge}{x y:Operand}
theorem Ymc{t kt et g clock:Nat}{es:Ents}{u:Operand}{k:Int}{v:Value}{K:List HP}(hx:evo env x=some (.map (some g)))(hy:evo env y=some (.int .i64 k))(hv:evo env u=some v)(ht:mapT P t kt et=true)
 (hu:Upd (blk g (mobj es clock)) (blk g (mobj (es++[(k,v,clock)]) (clock+1))) H K) (hk:mget es k=none)
 (h:VL P none n B w0 ops Q rest env K):VL P none n B w0 ops Q (⟨none,.insert t x y u,ty,pos,after,none⟩::rest) env H:=by
 obtain⟨h1,h2⟩:=ZU ht
 refine J5 rfl rfl (λa w ha hw=>⟨setBlock w g (mobj (es++[(k,v,clock)]) (clock+1)),?_,hw.setBlock hu⟩) h
 have hb:w.heap[g]? =some (mobj es clock):=by
  obtain⟨L1,L2,rfl,_⟩:=hu
  exact(hw.blk (by simp)).1
 have hb':=hb
 unfold mobj at hb
 simp[execOp,ha.eval hx,ha.eval hy,ha.eval hv,Instr.mapUpdate,run_underlying h1,getObj,Sem.run,hb,Zm _ h2,MapKept.run_findKey h2 (Wn 0 hk),MapKept.run_setObj_map _ hb,setBlock,mobj,toE]
def isSl(P:Program)(t:TypeId):Bool:=match P.underlying t with|some (.slice _)=>true|_=>false
theorem Ym4{t:TypeId}(h:isSl P t=true):∃e,P.underlying t=some (.slice e):=by
 unfold isSl at h
 split at h
 ·rename_i e hu;exact⟨e,hu⟩
 ·cases h
theorem YW{xt yt:TypeId}{A:Option Addr}{k cap:Nat}(hx:evo env x=some (.slice A k cap))(hn:Nat.ble (d+1) n.k=true)(hu:isSl P xt=true)
 (h:VL P m n B w0 ops Q rest ((d,.bool A.isNone)::env) H):VL P m n B w0 ops Q (⟨some d,.binOp .eql xt x (.const (.slice none 0 0)) yt,ty,pos,after,none⟩::rest) env H:=by
 obtain⟨e,hu⟩:=Ym4 hu
 refine Y7 hx (y:=.const (.slice none 0 0)) rfl hn (λw=>by simp[eqGuard]) (λw=>?_) h
 simp only[binOp,Op.equal]
 rw[Sem.run_bind,show Op.maxDepth=9999+1 from rfl]
 unfold Op.equalIn
 cases A<;>simp[run_underlying hu]
theorem YhU{α:Type}{f:α->List Value}{q:Nat}(hq:∀a,(f a).length=q):∀(l:List α) (i:Nat) (a:α),i<l.length->(l.flatMap f).take (i*q)++f a++(l.flatMap f).drop (i*q+q)=(l.set i a).flatMap f
 |[],i,a,h=>by simp at h
 |b::l,0,a,_=>by
  rw[N4,Nl,TK,Ry,TR,List.drop_left' (hq b),Nv,TR]
 |b::l,i+1,a,h=>by
  have e1:(i+1)*q=q+i*q:=by rw[RX];omega
  have e2:q+i*q+q=q+(i*q+q):=by omega
  have ih:=YhU hq l i a (by simpa using h)
  have hb:=hq b
  rw[NT,TR,TR,<-ih,e1,e2,Nx,List.drop_append,hb,TQ (by omega),TZ (by omega),NM,NM,TK]
  simp[List.append_assoc]
variable {t e k cap size:Nat}{A:Option Addr}
theorem XV(T:Tab P){α:Type}{f:α->List Value}{l:List α}{i q:Nat}{a:α}{vs:List Value}{K:List HP}(hx:evo env x=some (sptr A (i*q)))(hy:evo env y=some (.agg vs.toArray))(hv:f a=vs)
 (hu:Upd (sl e q A k cap (l.flatMap f)) (sl e q A k cap ((l.set i a).flatMap f)) H K) (hq:∀a,(f a).length=q) (h1:Ju vs=true) (ht:look T.ag t=some q) (hq0:Nat.blt 0 q=true) (hi:i<l.length)
 (h:VL P none n B w0 ops Q rest env K):VL P none n B w0 ops Q (⟨none,.store t x y,ty,pos,after,none⟩::rest) env H:=by
 subst hv
 have hmem:sl e q A k cap (l.flatMap f)∈H:=by
  obtain⟨L1,L2,rfl,_⟩:=hu
  simp
 have hq0':0<q:=by simpa using hq0
 refine J5 rfl rfl (λac w ha hw=>?_) h
 have hown:=hw.sl hmem
 rcases Ja hown with⟨_,rfl,_,e4⟩|⟨g,cur,rfl,g1,g2,g3,g4,g5,g6⟩
 ·have:=TU List.length e4
  rw[Xa hq]at this
  have h5:0<l.length*q:=Nat.mul_pos (by omega) hq0'
  simp at this
  omega
 ·have hil:i*q+q<=l.length*q:=by
   have:(i+1)*q<=l.length*q:=Rq _ hi
   rw[RX]at this;omega
  rw[Xa hq]at g6
  have hkc:k*q<=cap*q:=Rq _ g2
  have hov:i*q+(f a).length<=cur.size:=by rw[hq,g4];omega
  have hrun:=run_storeCells_at (P:=P) g (i*q) e (f a) 0 cur w g1 (by rw[SQ];exact hov) (ZF h1)
  rw[SQ]at hrun
  refine⟨_,?_,hw.storeRow (k':=k) (o:=i*q) (vs:=f a) hu rfl g1 g4 g2 g3 hov ?_ ?_⟩
  ·rw[show sptr (some (⟨g,0,none⟩:Addr)) (i*q)=.pointer (some ⟨g,i*q,none⟩) by simp[sptr,Addr.add_lit]]at hx
   simp[execOp,ha.eval hx,ha.eval hy,Instr.storeAt,Instr.sureAddr,storeVar,Value.cells,Zn (JP (T.aggs ht)),hq,hrun]
  ·have hX:(cur.toList.take (i*q)++f a).length=i*q+q:=by rw[Tj,TD,S5,hq];omega
   rw[<-YhU hq l i a hi,<-g5,hq,Nx,hX,TQ (by omega),Nk,SG (by omega),List.drop_take]
  ·rw[Xa hq,Rh];exact g6
theorem YdV(T:Tab P){bytes:Nat}{a:Addr}{ki:IntKind}{i:Int}(hx:evo env x=some (.slice (some a) k cap))(hy:evo env y=some (.int ki i))(ht:look T.sl t=some (e,size,bytes))(hn:Nat.ble (d+1) n.k=true)(hi:0<=i/\i<k)
 (h:VL P m n B w0 ops Q rest ((d,sptr (some a) (i.toNat*size))::env) H):VL P m n B w0 ops Q (⟨some d,.indexAddr t x y,ty,pos,after,none⟩::rest) env H:=by
 obtain⟨hut,inf,z',hinf,_,_,hsi,_⟩:=YG (T.slic ht)
 refine Yy rfl rfl hn rfl (λf w ha _=>?_) h
 simp[execOp,ha.eval hx,ha.eval hy,Instr.indexAt,asIntOf,run_underlying hut,hi,sizeOf,typeInfo,hinf,hsi,sptr]
theorem YfK{l:List Oper}{xs:List Value}(hm:sl e size A k cap xs∈H)(hk:0<k)(h:∀g,A=some ⟨g,0,none⟩->VL P none n B w0 ops Q l env H):VL P none n B w0 ops Q l env H:=by
 refine⟨λa ha w hw=>?_⟩
 rcases Ja (hw.sl hm)with⟨_,e1,_⟩|⟨g,_,rfl,_⟩
 ·omega
 ·exact(h g rfl).run a ha w hw
end
section
variable {P:Program}{n:Shp}{B:Nat}{w0:World}{ops:Array Oper}{Q:Exit->Act->World->Prop}{rest:List Oper}{env:Env}{H:List HP}
def Vl(ops:Array Oper):List Nat->Array Bool->Bool
 |[],listed=>(Region.ready .any ops listed).isEmpty
 |i::rest,listed=>decide (Region.ready .any ops listed=[i])&&Vl ops rest (listed.setIfInBounds i true)
def Ygj(ops:Array Oper)(last:List Nat):List Nat->Array Bool->Bool
 |[],listed=>Vl ops last listed
 |i::rest,listed=>
  (match ops[i]? with
   |some o=>if eff o then decide (Region.ready .any ops listed=[i])else(Region.ready .any ops listed).contains i&&Region.free .any ops listed i
   |none=>false)&&Ygj ops last rest (listed.setIfInBounds i true)
def Yc9(ops:Array Oper)(last:List Nat):Bool:=
 last.all λj=>decide (j<ops.size)&&(List.range ops.size).all λi=>last.contains i||(match ops[i]? with|some o=>eff o|none=>false)||ancB ops ops.size j i
theorem JX{last:List Nat}(h:Yc9 ops last=true):(∀j,last.contains j=true->∃o,ops[j]? =some o)/\∀i oi,ops[i]? =some oi->eff oi=false->last.contains i=false->∀j,last.contains j=true->∃f,ancB ops f j i=true:=by
 refine⟨λj hj=>?_,λi oi hi he hil j hj=>?_⟩
 ·have h1:=TI.1 h j (by simpa using hj)
  simp only[To,Tq]at h1
  exact⟨_,SK h1.1⟩
 ·have h1:=TI.1 h j (by simpa using hj)
  simp only[To]at h1
  have hlt:i<ops.size:=(R9.1 hi).1
  have h2:=TI.1 h1.2 i (TO.2 hlt)
  rw[hi,hil]at h2
  simp only[he,ND]at h2
  exact⟨_,h2⟩
theorem Jp{S:World->Prop}{last:List Nat}(l:List Oper)(hl:ops=l.toArray)(hef:∀j,last.contains j=true->∃o,ops[j]? =some o)(hlo:¬LetsOut Q):
 ∀(o2:List Nat) (listed:Array Bool) (a:Act) (w:World),(∀j∈o2,last.contains j=true)->Vl ops o2 listed=true->wpList P ops Q (Yg l o2) a w->Zf P ops Q S last o2.length listed a w
 |[],listed,a,w,_,hB,h=>⟨by simpa [Vl]using hB,h⟩
 |i::rest,listed,a,w,hin,hB,h=>by
  simp only[Vl,To,Tq]at hB
  obtain⟨h1,h2⟩:=hB
  obtain⟨o,ho⟩:=hef i (hin i (by simp))
  have hget:nthO l i=o:=Xh hl ho
  simp only[Yg,hget]at h
  unfold wpList at h
  refine⟨λh0=>(by rw[h1]at h0;cases h0),λk hk=>?_⟩
  rw[h1]at hk
  obtain rfl:k=i:=by simpa using hk
  unfold wpOp
  simp only[ho]
  have hc:last.contains k=true:=hin k (by simp)
  by_cases hw:Region.wanted o (yielded ops a.tmps)=true
  ·rw[Tm hw]at h⊢
   rcases h with h|⟨_,h⟩
   ·exact .inl (Oper.wp_mono (λa' w' h'=>⟨λhf=>(by rw[hc]at hf;cases hf),Jp l hl hef hlo rest _ a' w' (λj hj=>hin j (by simp[hj])) h2 h'⟩) h)
   ·exact(hlo h).elim
  ·rw[Td hw]at h⊢
   exact⟨λhf=>(by rw[hc]at hf;cases hf),Jp l hl hef hlo rest _ _ w (λj hj=>hin j (by simp[hj])) h2 h⟩
theorem Uu{S:World->Prop}{last:List Nat}(hs:Region.noSelect ops=true)(hQ:∀c (a:Act) (w:World),¬Q (.panic c) a w)(hlo:¬LetsOut Q)(l:List Oper)(hl:ops=l.toArray)(hlast:Yc9 ops last=true):
 ∀(o1:List Nat) (listed:Array Bool) (a:Act) (w:World),Closed ops listed->(∀j∈o1,last.contains j=false)->Ygj ops last o1 listed=true->S w->Ys P ops (Jd P ops Q (Yg l last)) S (Yg l o1) a w->
  Zf P ops Q S last (o1++last).length listed a w
 |[],listed,a,w,_,_,hB,_,h=>Jp l hl (JX hlast).1 hlo last listed a w (λj hj=>by simpa using hj) hB h
 |i::rest,listed,a,w,hcl,hno,hB,hS,h=>by
  simp only[Ygj,To]at hB
  obtain⟨h1,h2⟩:=hB
  have hno':∀j∈rest,last.contains j=false:=λj hj=>hno j (by simp[hj])
  cases ho:ops[i]? with
  |none=>rw[ho]at h1;cases h1
  |some o=>
   rw[ho]at h1
   have hget:nthO l i=o:=Xh hl ho
   simp only[Yg,hget]at h
   by_cases he:eff o=true
   ·simp only[he,NF,Tq]at h1
    unfold Ys at h
    rw[Tm he]at h
    refine⟨λh0=>(by rw[h1]at h0;cases h0),λk hk=>?_⟩
    have hk':=hk
    rw[h1]at hk
    obtain rfl:k=i:=by simpa using hk
    unfold wpOp
    simp only[ho]
    by_cases hw:Region.wanted o (yielded ops a.tmps)=true
    ·rw[Tm hw]at h⊢
     refine .inl (Oper.wp_mono_noQ' (λc a w h=>by cases h) (Oper.wp_mono (λa' w' h'=>⟨λ_=>h'.1,Uu hs hQ hlo l hl hlast rest _ a' w' (hcl.set hk') hno' h2 h'.1 h'.2⟩) h))
    ·rw[Td hw]at h⊢
     exact⟨λ_=>hS,Uu hs hQ hlo l hl hlast rest _ _ w (hcl.set hk') hno' h2 hS h⟩
   ·simp only[he]at h1
    simp only[SA,N8,To]at h1
    unfold Ys at h
    rw[Td he]at h
    obtain⟨v,hy,h3⟩:=h
    have hr:i∈Region.ready .any ops listed:=by simpa using h1.1
    exact JK ho (Region.noSelect_spec hs) hQ ((JX hlast).2 i o ho (by simpa using he) (hno i (by simp))) (hno i (by simp)) _ listed a w hcl (Region.free_spec ho h1.2) hr hy hS (Uu hs hQ hlo l hl hlast rest _ _ w (hcl.set hr) hno' h2 hS h3)
theorem YgR{id:Nat}{l:List Oper}(o1 last:List Nat)(mask:List Bool){Hc F:List HP}(hm:P.follows .mixedOrders=true)
 (hB:(Region.noSelect l.toArray&&decide ((o1++last).length=l.toArray.size)&&Yc9 l.toArray last&&(o1.all λj=>!last.contains j)&&Ygj l.toArray last o1 (Array.replicate l.toArray.size false))=true)
 (hsp:Split mask H Hc F) {l1 l2:List Oper}(hl1:Yg l o1=l1) (hl2:Yg l last=l2) (h:VL P (some (some F)) n B w0 l.toArray (Jd P l.toArray (Only Q) l2) l1 env Hc):VC P n B w0 (.region id l.toArray true) Q env H:=by
 simp only[To,Tq]at hB
 obtain⟨⟨⟨⟨h1,h2⟩,h3⟩,h4⟩,h5⟩:=hB
 refine⟨λa w ha hw=>ZQ (Q:=Only Q) ?_ λe a w h=>by cases e<;>first|exact h|cases h⟩
 have hst:St B w0 (Hc++F) w.drew:=(hw.perm (XK hsp)).drew
 have hr:Ys P l.toArray (Jd P l.toArray (Only Q) l2) (St B w0 Hc) l1 a w.drew:=h.run a ha w.drew hst
 rw[<-hl1,<-hl2]at hr
 have:=Uu (S:=St B w0 Hc) h1 (λc a w h=>h) (by rintro⟨_,_,h⟩;exact h) l rfl h3 o1 _ a w.drew (XU _ _) (λj hj=>by simpa using TI.1 h4 j hj) h5 hst.prefix_ hr
 rw[h2]at this
 exact VE hm (ZP _ _ _ _ this)
end
section
variable {P:Program}{m:Mode}{n:Shp}{B d:Nat}{w0:World}{ops:Array Oper}{Q:Exit->Act->World->Prop}{rest:List Oper}{env:Env}{H:List HP}{ty:TypeId}{pos:String}{after:Array Edge}
def Q6(P:Program)(t:TypeId):Bool:=match P.underlying t with|some (.interface _)=>false|some _=>true|none=>false
variable {t elem:TypeId}{x:Operand}{v v0 r:Value}
theorem Wd(hx:evo env x=some v)(hu:Q6 P t=true)(hn:Nat.ble (d+1) n.k=true)
 (h:VL P none n B w0 ops Q rest ((d,.iface t v)::env) H):VL P none n B w0 ops Q (⟨some d,.makeInterface t x,ty,pos,after,none⟩::rest) env H:=by
 refine Yem rfl rfl hn (λa w ha hw=>⟨w,?_,hw⟩) h
 unfold Q6 at hu
 cases ht:P.underlying t with
 |none=>rw[ht]at hu;cases hu
 |some u=>
  rw[ht]at hu
  cases u<;>first|(cases hu;done)|simp[execOp,ha.eval hx,Instr.makeInterface,run_underlying ht]
theorem WV{xt:TypeId}(hx:evo env x=some (.iface t v))(hu:Q6 P t=true)(hn:Nat.ble (d+1) n.k=true)
 (h:VL P none n B w0 ops Q rest ((d,.tuple #[v,.bool true])::env) H):VL P none n B w0 ops Q (⟨some d,.typeAssert x xt t true,ty,pos,after,none⟩::rest) env H:=by
 refine Yem rfl rfl hn (λa w ha hw=>⟨w,?_,hw⟩) h
 unfold Q6 at hu
 cases ht:P.underlying t with
 |none=>rw[ht]at hu;cases hu
 |some u=>
  rw[ht]at hu
  cases u<;>first|(cases hu;done)|simp[execOp,ha.eval hx,Instr.typeAssert,run_underlying ht]
theorem Yip(x t:TypeId)(a:Addr)(s u:String):Builtin.ssaWrapNilChk_ #[x] t #[.pointer (some a),strVal s,strVal u]=pure (.pointer (some a)):=rfl
variable {k f:Nat}{name:String}{a:Addr}{w:World}
theorem Ydw{info:TypeInfo}{mm:Method}(hi:P.info? t=some info)(hf:info.methods.find? (λx=>x.name==name)=some mm)(hp:mm.path=#[])(hfu:mm.func=some (f,false))(hu:P.underlying t=some (.pointer elem)):
 (method (k+1) t (.pointer (some a)) name).run P w=((loadVar elem a).run P w).andThen λv w=>.ok (f,v) w:=by
 simp[method,typeInfo,hi,hf,hp,follow,hfu,receiverAt,Place.get,run_underlying hu,Yip,asAddr]
def Ysp(P:Program)(t:TypeId)(name:String)(f:Nat)(elem:TypeId):Bool:=
 match P.info? t with
 |some info=>(match info.methods.find? (λx=>x.name==name)with|some mm=>mm.path==#[]&&mm.func==some (f,false)|none=>false)&&(match P.underlying t with|some (.pointer e)=>e==elem|_=>false)
 |none=>false
theorem YaW(h:Ysp P t name f elem=true):
 (method (k+1) t (.pointer (some a)) name).run P w=((loadVar elem a).run P w).andThen λv w=>.ok (f,v) w:=by
 unfold Ysp at h
 cases hi:P.info? t with
 |none=>rw[hi]at h;cases h
 |some info=>
  rw[hi]at h
  simp only[To]at h
  obtain⟨h1,h2⟩:=h
  cases hf:info.methods.find? (λx=>x.name==name)with
  |none=>rw[hf]at h1;cases h1
  |some mm=>
   rw[hf]at h1
   simp only[To,Nc]at h1
   cases hu:P.underlying t with
   |none=>rw[hu]at h2;cases h2
   |some d=>
    rw[hu]at h2
    cases d<;>first|(cases h2;done)|skip
    simp only[Nc]at h2
    subst h2
    exact Ydw hi hf h1.1 h1.2 hu
variable {args:List Operand}{tys:Array TypeId}{vs:List Value}
theorem Ji(Φ:Value->List HP->Prop)(hx:evo env x=some (.iface t v0))
 (hm:∀w,St B w0 H w->(method (P.types.size+Made.depth) t v0 name).run P w=.ok (f,r) w)
 (hc:∀xs w,(callFunc f xs).run P w=.ok (.enter f xs) w) (hargs:Args env args vs) (hn:Nat.ble (d+1) n.k=true)
 (hcall:∀w,St B w0 H w->Calls P f (r::vs).toArray w (Post B w0 Φ))
 (h:∀v H',Φ v H'->VL P none n B w0 ops Q rest ((d,v)::env) H'):
 VL P none n B w0 ops Q (⟨some d,.call ⟨.invoke x name,args.toArray,tys⟩,ty,pos,after,none⟩::rest) env H:=by
 refine⟨λa ha w hw=>wpList_plain rfl λK hK=>?_⟩
 unfold Oper.wp
 have hmap:args.toArray.map a.eval=vs.toArray:=by rw[SY,Uw ha _ _ hargs]
 have hrun:(execOp a.eval ⟨some d,.call ⟨.invoke x name,args.toArray,tys⟩,ty,pos,after,none⟩).run P w=.ok (.enter f (r::vs).toArray) w:=by
  simp only[execOp,resolve,ha.eval hx,hmap,Sem.run_bind,Sem.run_pure,Result.andThen_ok,invoke]
  have e1:(#[Value.iface t v0]++vs.toArray)[0]? =some (.iface t v0):=by simp
  have e2:(#[Value.iface t v0]++vs.toArray).extract 1 (#[Value.iface t v0]++vs.toArray).size=vs.toArray:=by simp
  have e3:#[r]++vs.toArray=(r::vs).toArray:=by simp
  simp only[e1,e2,callMethod,Sem.run_bind,run_program,hm w hw,Result.andThen_ok,e3,hc]
 rw[hrun,Oper.upon_enter]
 refine(hcall w hw).mono ?_
 rintro e w' ⟨v,H',rfl,hst,hΦ⟩
 exact hK _ _ ((h v H' hΦ).run _ (ha.put (T0 hn) v) _ hst)
theorem Xf(hx:evo env x=some (.iface t v0))
 (hm:∀w,St B w0 H w->(method (P.types.size+Made.depth) t v0 name).run P w=.ok (f,r) w)
 (hc:∀xs w,(callFunc f xs).run P w=.ok (.enter f xs) w) (hargs:Args env args vs) (hn:Nat.ble (d+1) n.k=true)
 (hcall:∀w,St B w0 H w->Calls P f (r::vs).toArray w (Post B w0 λu K=>u=v/\K=H))
 (h:VL P none n B w0 ops Q rest ((d,v)::env) H):
 VL P none n B w0 ops Q (⟨some d,.call ⟨.invoke x name,args.toArray,tys⟩,ty,pos,after,none⟩::rest) env H:=
 Ji _ hx hm hc hargs hn hcall (by rintro _ _ ⟨rfl,rfl⟩;exact h)
end
section
variable {P:Program}{n:Shp}{B:Nat}{w0:World}{ops:Array Oper}{Q:Exit->Act->World->Prop}{rest:List Oper}{env:Env}{H:List HP}
variable {S:World->Prop}{last:List Nat}{i:Nat}{oi:Oper}{v:Value}
theorem Yej(hi:ops[i]? =some oi)(hsel:∀(j:Nat) (o:Oper) cs b,ops[j]? =some o->o.op≠.select cs b)
 (hQ:∀c (a:Act) (w:World),¬Q (.panic c) a w) (hil:last.contains i=true):
 ∀(fuel:Nat) (listed:Array Bool) (a:Act) (w:World),Closed ops listed->
  (∀j oj,ops[j]? =some oj->j≠i->listed.getD j true=false->(∀e∈oj.after,Region.binds .any e=true->e.on≠i)->oi.apart ops oj=true)->
  i∈Region.ready .any ops listed->YieldsIf P ops (λ_=>True) oi v a->
  Zf P ops Q S last fuel (listed.setIfInBounds i true) (a.put oi.dst v) w->Zf P ops Q S last (fuel+1) listed a w:=by
 intro fuel
 have hno:¬last.contains i=false:=by rw[hil];intro h;cases h
 induction fuel with
 |zero=>
  intro listed a w _ _ hr hy H
  refine⟨λh=>(by rw[h]at hr;cases hr),λj hj=>?_⟩
  by_cases hji:j=i
  ·subst hji;exact hy.wpOp hi trivial ⟨λh=>absurd h hno,H⟩
  ·have:=ready_mono hj hji
   rw[H.1]at this
   cases this
 |succ fuel ih=>
  intro listed a w hcl hfree hr hy H
  refine⟨λh=>(by rw[h]at hr;cases hr),λj hj=>?_⟩
  by_cases hji:j=i
  ·subst hji;exact hy.wpOp hi trivial ⟨λh=>absurd h hno,H⟩
  ·have h1:=H.2 j (ready_mono hj hji)
   obtain⟨hjun,oj,hoj,hall⟩:=mem_ready.1 hj
   have hun:=(mem_ready.1 hr).1
   have hun':listed.getD i false=false:=by
    rcases SB i listed.size with h'|h'
    ·simp[h']at hun⊢;exact hun
    ·simp[Array.getElem?_eq_none h']at hun
   have hnot:∀e∈oj.after,Region.binds .any e=true->e.on≠i:=λe he hb heq=>by
    have h2:=hall e he hb
    rw[heq,hun']at h2
    cases h2
   have h2:=wpOp_putIf hoj (hfree j oj hoj hji hjun hnot) (λcs b=>hsel i oi cs b hi) (λcs b=>hsel j oj cs b hoj) (λc a w h=>(hQ c _ w h).elim) hy h1
   have hfree':∀k ok,ops[k]? =some ok->k≠i->(listed.setIfInBounds j true).getD k true=false->
    (∀e∈ok.after,Region.binds .any e=true->e.on≠i)->oi.apart ops ok=true:=λk ok hk hki hu hno=>by
    refine hfree k ok hk hki ?_ hno
    by_cases hjk:j=k
    ·subst hjk;exact hjun
    ·rw[getD_set_ne true hjk]at hu;exact hu
   refine wpOp_mono (λa' w' h3=>⟨h3.2.1,ih (listed.setIfInBounds j true) a' w' (hcl.set hj) hfree' (ready_mono hr (NZ hji)) h3.1 ?_⟩) h2
   rw[S8 _ _ hji]
   exact h3.2.2
theorem Yei(hi:ops[i]? =some oi)(hsel:∀(j:Nat) (o:Oper) cs b,ops[j]? =some o->o.op≠.select cs b)
 (hQ:∀c (a:Act) (w:World),¬Q (.panic c) a w) (hil:last.contains i=false):
 ∀(fuel:Nat) (listed:Array Bool) (a:Act) (w:World),Closed ops listed->(∀j,last.contains j=true->listed.getD j false=true\/∃f,ancB ops f j i=true)->
  (∀j oj,ops[j]? =some oj->j≠i->listed.getD j true=false->(∀e∈oj.after,Region.binds .any e=true->e.on≠i)->oi.apart ops oj=true)->
  i∈Region.ready .any ops listed->YieldsIf P ops S oi v a->S w->
  Zf P ops Q S last fuel (listed.setIfInBounds i true) (a.put oi.dst v) w->Zf P ops Q S last (fuel+1) listed a w:=by
 intro fuel
 induction fuel with
 |zero=>
  intro listed a w _ _ _ hr hy hS H
  refine⟨λh=>(by rw[h]at hr;cases hr),λj hj=>?_⟩
  by_cases hji:j=i
  ·subst hji;exact hy.wpOp hi hS ⟨λ_=>hS,H⟩
  ·have:=ready_mono hj hji
   rw[H.1]at this
   cases this
 |succ fuel ih=>
  intro listed a w hcl hlast hfree hr hy hS H
  refine⟨λh=>(by rw[h]at hr;cases hr),λj hj=>?_⟩
  by_cases hji:j=i
  ·subst hji;exact hy.wpOp hi hS ⟨λ_=>hS,H⟩
  ·have h1:=H.2 j (ready_mono hj hji)
   obtain⟨hjun,oj,hoj,hall⟩:=mem_ready.1 hj
   have hun:=(mem_ready.1 hr).1
   have hun':listed.getD i false=false:=by
    rcases SB i listed.size with h'|h'
    ·simp[h']at hun⊢;exact hun
    ·simp[Array.getElem?_eq_none h']at hun
   have hnl:last.contains j=false:=by
    cases hc:last.contains j with
    |false=>rfl
    |true=>
     rcases hlast j hc with h4|⟨f,hf⟩
     ·have h5:listed.getD j true=true:=by
       rcases SB j listed.size with h'|h'
       ·simp[h']at h4⊢;exact h4
       ·simp[Array.getElem?_eq_none h']
      rw[h5]at hjun;cases hjun
     ·have:=VW hcl f j i (λok hk e he hb=>by
       obtain rfl:ok=oj:=Tz (hk.symm.trans hoj)
       exact hall e he hb) hf
      rw[hun']at this
      cases this
   have hnot:∀e∈oj.after,Region.binds .any e=true->e.on≠i:=λe he hb heq=>by
    have h2:=hall e he hb
    rw[heq,hun']at h2
    cases h2
   have h2:=wpOp_putIf hoj (hfree j oj hoj hji hjun hnot) (λcs b=>hsel i oi cs b hi) (λcs b=>hsel j oj cs b hoj) (λc a w h=>(hQ c _ w h).elim) hy h1
   have hfree':∀k ok,ops[k]? =some ok->k≠i->(listed.setIfInBounds j true).getD k true=false->
    (∀e∈ok.after,Region.binds .any e=true->e.on≠i)->oi.apart ops ok=true:=λk ok hk hki hu hno=>by
    refine hfree k ok hk hki ?_ hno
    by_cases hjk:j=k
    ·subst hjk;exact hjun
    ·rw[getD_set_ne true hjk]at hu;exact hu
   refine wpOp_mono (λa' w' h3=>⟨λ_=>h3.2.1 hnl,ih (listed.setIfInBounds j true) a' w' (hcl.set hj) (λk hk=>?_) hfree' (ready_mono hr (NZ hji)) h3.1 (h3.2.1 hnl) ?_⟩) h2
   ·rcases hlast k hk with h4|h4
    ·left
     by_cases hjk:j=k
     ·subst hjk
      rcases SB j listed.size with h'|h'
      ·simp[h']
      ·simp[Array.getElem?_eq_none h']at hjun
     ·rw[getD_set_ne false hjk];exact h4
    ·exact .inr h4
   ·rw[S8 _ _ hji]
    exact h3.2.2
def YjS(o:Oper):Bool:=match o.op with|.move _=>true|.extract _ _=>true|_=>false
theorem Ynj{o:Oper}{a:Act}{w:World}(hm:YjS o=true)(hy:YieldsIf P ops S o v a)(hS:S w):YieldsIf P ops (λ_=>True) o v a:=by
 rcases hy with⟨h1,h2⟩|h
 ·refine .inl ⟨h1,λw' _=>?_⟩
  have h3:=h2 w hS
  unfold YjS at hm
  cases hop:o.op<;>rw[hop]at hm<;>first|(cases hm;done)|skip
  ·rename_i x
   simp only[execOp,hop,Sem.run_pure]at h3⊢
   injection h3 with h3 h4
   rw[h3]
  ·rename_i x k
   simp only[execOp,hop,Instr.extract]at h3⊢
   revert h3
   split
   ·rename_i vs _
    cases hk:vs[k]? with
    |none=>simp
    |some u=>simp
   ·intro h3
    simp at h3
 ·exact .inr h
def Ygi(ops:Array Oper)(last tail:List Nat):List Nat->Array Bool->Bool
 |[],listed=>Vl ops tail listed
 |i::rest,listed=>
  (match ops[i]? with
   |some o=>
    if last.contains i then YjS o&&!eff o&&(Region.ready .any ops listed).contains i&&Region.free .any ops listed i
    else if eff o then decide (Region.ready .any ops listed=[i])
    else(Region.ready .any ops listed).contains i&&Region.free .any ops listed i&&last.all λj=>listed.getD j false||ancB ops ops.size j i
   |none=>false)&&Ygi ops last tail rest (listed.setIfInBounds i true)
theorem Vb{S:World->Prop}{last tail:List Nat}(hs:Region.noSelect ops=true)(hQ:∀c (a:Act) (w:World),¬Q (.panic c) a w)(hlo:¬LetsOut Q)(l:List Oper)(hl:ops=l.toArray)(htl:∀j∈tail,last.contains j=true)(hex:∀j,last.contains j=true->∃o,ops[j]? =some o):
 ∀(o1:List Nat) (listed:Array Bool) (a:Act) (w:World),Closed ops listed->Ygi ops last tail o1 listed=true->S w->Ys P ops (Jd P ops Q (Yg l tail)) S (Yg l o1) a w->
  Zf P ops Q S last (o1++tail).length listed a w
 |[],listed,a,w,_,hB,_,h=>Jp l hl hex hlo tail listed a w htl hB h
 |i::rest,listed,a,w,hcl,hB,hS,h=>by
  simp only[Ygi,To]at hB
  obtain⟨h1,h2⟩:=hB
  cases ho:ops[i]? with
  |none=>rw[ho]at h1;cases h1
  |some o=>
   rw[ho]at h1
   have hget:nthO l i=o:=Xh hl ho
   simp only[Yg,hget]at h
   by_cases hla:last.contains i=true
   ·simp only[hla,NF,To,Si]at h1
    obtain⟨⟨⟨h1,he⟩,h3⟩,h4⟩:=h1
    unfold Ys at h
    rw[Td (by rw[he];simp)]at h
    obtain⟨v,hy,h5⟩:=h
    have hr:i∈Region.ready .any ops listed:=by simpa using h3
    exact Yej ho (Region.noSelect_spec hs) hQ hla _ listed a w hcl (Region.free_spec ho h4) hr (Ynj h1 hy hS) (Vb hs hQ hlo l hl htl hex rest _ _ w (hcl.set hr) h2 hS h5)
   ·have hla':last.contains i=false:=S7.2 hla
    simp only[hla',SA,N8]at h1
    by_cases he:eff o=true
    ·simp only[he,NF,Tq]at h1
     unfold Ys at h
     rw[Tm he]at h
     refine⟨λh0=>(by rw[h1]at h0;cases h0),λk hk=>?_⟩
     have hk':=hk
     rw[h1]at hk
     obtain rfl:k=i:=by simpa using hk
     unfold wpOp
     simp only[ho]
     by_cases hw:Region.wanted o (yielded ops a.tmps)=true
     ·rw[Tm hw]at h⊢
      refine .inl (Oper.wp_mono_noQ' (λc a w h=>by cases h) (Oper.wp_mono (λa' w' h'=>⟨λ_=>h'.1,Vb hs hQ hlo l hl htl hex rest _ a' w' (hcl.set hk') h2 h'.1 h'.2⟩) h))
     ·rw[Td hw]at h⊢
      exact⟨λ_=>hS,Vb hs hQ hlo l hl htl hex rest _ _ w (hcl.set hk') h2 hS h⟩
    ·simp only[he,SA,N8,To]at h1
     obtain⟨⟨h3,h4⟩,h6⟩:=h1
     unfold Ys at h
     rw[Td he]at h
     obtain⟨v,hy,h5⟩:=h
     have hr:i∈Region.ready .any ops listed:=by simpa using h3
     refine Yei ho (Region.noSelect_spec hs) hQ hla' _ listed a w hcl (λj hj=>?_) (Region.free_spec ho h4) hr hy hS (Vb hs hQ hlo l hl htl hex rest _ _ w (hcl.set hr) h2 hS h5)
     have h7:=TI.1 h6 j (by simpa using hj)
     simp only[Sj]at h7
     rcases h7 with h7|h7
     ·exact .inl h7
     ·exact .inr ⟨_,h7⟩
theorem UI{id:Nat}{l:List Oper}(o1 last tail:List Nat)(mask:List Bool){Hc F:List HP}(hm:P.follows .mixedOrders=true)
 (hB:(Region.noSelect l.toArray&&decide ((o1++tail).length=l.toArray.size)&&(tail.all λj=>last.contains j)&&(last.all λj=>decide (j<l.toArray.size))&&Ygi l.toArray last tail o1 (Array.replicate l.toArray.size false))=true)
 (hsp:Split mask H Hc F) {l1 l2:List Oper}(hl1:Yg l o1=l1) (hl2:Yg l tail=l2) (h:VL P (some (some F)) n B w0 l.toArray (Jd P l.toArray (Only Q) l2) l1 env Hc):VC P n B w0 (.region id l.toArray true) Q env H:=by
 simp only[To,Tq]at hB
 obtain⟨⟨⟨⟨h1,h2⟩,h3⟩,h4⟩,h5⟩:=hB
 refine⟨λa w ha hw=>ZQ (Q:=Only Q) ?_ λe a w h=>by cases e<;>first|exact h|cases h⟩
 have hst:St B w0 (Hc++F) w.drew:=(hw.perm (XK hsp)).drew
 have hr:Ys P l.toArray (Jd P l.toArray (Only Q) l2) (St B w0 Hc) l1 a w.drew:=h.run a ha w.drew hst
 rw[<-hl1,<-hl2]at hr
 have:=Vb (S:=St B w0 Hc) h1 (λc a w h=>h) (by rintro⟨_,_,h⟩;exact h) l rfl (λj hj=>TI.1 h3 j hj) (λj hj=>⟨_,SK (by
  have:=TI.1 h4 j (by simpa using hj)
  simpa using this)⟩) o1 _ a w.drew (XU _ _) h5 hst.prefix_ hr
 rw[h2]at this
 exact VE hm (ZP _ _ _ _ this)
end
section
variable {P:Program}{m:Mode}{n:Shp}{B d:Nat}{w0:World}{ops:Array Oper}{Q:Exit->Act->World->Prop}{rest:List Oper}{env:Env}{H:List HP}{ty:TypeId}{pos:String}{after:Array Edge}
theorem YiO{α:Type}(l cs:List α)(o k:Nat)(h:o+cs.length<=k)(hk:k<=l.length):(l.take o++cs++l.drop (o+cs.length)).take k=(l.take k).take o++cs++(l.take k).drop (o+cs.length):=by
 have hA:(l.take o++cs).length=o+cs.length:=by rw[Tj,TD];omega
 rw[Nx,hA,TQ (by omega),Nk,SG (by omega),List.drop_take]
variable {g o cap:Nat}
theorem YnM(h:cap≠o):subA (some ⟨g,0,none⟩) o cap 1=some ⟨g,o,none⟩:=by
 unfold subA
 rw[Td h,RH,Addr.add_lit,Ry,NE]
theorem YkN(T:Tab P){t e bytes k kd cd mm c2:Nat}{x y:Operand}{A2:Option Addr}{xs ys:List Value}{K:List HP}(hx:evo env x=some (.slice (some ⟨g,o,none⟩) kd cd))(hy:evo env y=some (.slice A2 mm c2))(hr:Rd B w0 H A2 ys)
 (hu:Upd (sl e 1 (some ⟨g,0,none⟩) k cap xs) (sl e 1 (some ⟨g,0,none⟩) k cap (xs.take o++ys.take (min mm kd)++xs.drop (o+min mm kd))) H K) (ht:look T.sl t=some (e,1,bytes)) (hn:Nat.ble (d+1) n.k=true) (h1:∀v∈ys,v.oneCell'=true) (hb:o+kd<=k/\min mm kd<=ys.length/\0<min mm kd)
 (h:VL P none n B w0 ops Q rest ((d,.int .i64 (min mm kd:Nat))::env) K):
 VL P none n B w0 ops Q (⟨some d,.call ⟨.builtin .copy,#[x,y],#[t,t]⟩,ty,pos,after,none⟩::rest) env H:=by
 obtain⟨hut,inf,z,hi,hz,hzs,hsi,hbi,hs0,hb0⟩:=YG (T.slic ht)
 refine XH (λv K'=>v=.int .i64 (min mm kd:Nat)/\K'=K) rfl rfl hn (λa w ha hw=>?_) (by rintro _ _ ⟨rfl,rfl⟩;exact h)
 have hmem:sl e 1 (some ⟨g,0,none⟩) k cap xs∈H:=by
  obtain⟨L1,L2,rfl,_⟩:=hu
  simp
 rcases Ja (hw.sl hmem)with⟨e0,_⟩|⟨g',cur,e0,g1,g2,g3,g4,g5,g6⟩
 ·cases e0
 injection e0 with e0
 injection e0 with e0
 subst e0
 rw[NE]at g4 g5 g6
 have hcl:(ys.take (min mm kd)).length=min mm kd:=by rw[TD];omega
 have hsome:∃a2,A2=some a2/\∀j v,(ys.take (min mm kd))[j]? =some v->w.cell? (a2.add j)=some v:=by
  have h0:ys[0]? =some (ys[0]'(by omega)):=Ta (by omega)
  obtain⟨g2',o2,rfl,_⟩:=hr w hw 0 _ h0
  refine⟨_,rfl,λj v hj=>?_⟩
  rw[SE]at hj
  by_cases hjm:j<min mm kd
  ·rw[Tm hjm]at hj
   obtain⟨g3',o3,e3,hc⟩:=hr w hw j v hj
   injection e3 with e3
   injection e3 with e3 e4
   subst e3 e4
   rw[Addr.add_lit];exact hc
  ·rw[Td hjm]at hj;cases hj
 obtain⟨a2,rfl,hsrc⟩:=hsome
 have hrun:=run_copy_row (P:=P) w t t ty e g o kd cd a2 mm c2 cur e (ys.take (min mm kd)) hut (by rw[hi];simp[hsi]) g1 hcl hsrc (by rw[hcl];omega) (λv hv=>h1 v (SU hv))
 refine⟨_,K,_,?_,hw.storeRow (k':=k) (o:=o) (vs:=ys.take (min mm kd)) hu rfl g1 (by rw[NE];exact g4) g2 g3 (by rw[hcl];omega) ?_ ?_,rfl,rfl⟩
 ·simp only[execOp,resolve,invoke,builtin]
  have hmap:#[x,y].map a.eval=#[.slice (some ⟨g,o,none⟩) kd cd,.slice (some a2) mm c2]:=by simp[ha.eval hx,ha.eval hy]
  simp only[hmap,Sem.run_bind,Sem.run_pure,Result.andThen_ok]
  rw[hrun]
  simp[goInt,hcl]
 ·rw[hcl,NE,<-g5]
  have:=YiO cur.toList (ys.take (min mm kd)) o k (by rw[hcl];omega) (by rw[S5];omega)
  rw[hcl]at this
  exact this
 ·rw[Tj,Tj,hcl,TD,Rf]
  omega
end
section
variable {P:Program}{n:Shp}{B:Nat}{w0:World}{ops:Array Oper}{Q:Exit->Act->World->Prop}{rest:List Oper}{env:Env}{H:List HP}
def OP(P:Program)(ops:Array Oper)(Q:Exit->Act->World->Prop)(S:World->Prop)(l:List Oper):Exit->Act->World->Prop
 |.normal,a,w=>S w/\Ys P ops Q S l a w
 |e,a,w=>Q e a w
theorem Yow{F H':List HP}{Hc:List HP}(hp:Pull Hc H' F)(h:VL P (some (some F)) n B w0 ops Q rest env Hc):VQ n B w0 (OP P ops Q (St B w0 Hc) rest) .normal env H':=
 ⟨λa w ha hw=>⟨(hw.perm hp).prefix_,h.run a ha w (hw.perm hp)⟩⟩
variable {S S2:World->Prop}{l:List Oper}
theorem Oper.wp_tailH{o:Oper}{a:Act}{w:World}{K:Act->World->Prop}(h:o.wp P a w K (OP P ops Q S l)):o.wp P a w K Q:=by
 unfold Oper.wp at h⊢
 generalize(execOp a.eval o).run P w=r at*
 cases r with
 |ok nx w'=>
  cases nx<;>simp only[Oper.upon]at h⊢<;>first
   |exact h
   |(refine Calls.mono h λe w'' he=>?_
     cases e with
     |returned u=>exact he
     |panicked c=>exact he
     |outgrown=>obtain⟨a',w',h'⟩:=he;exact⟨a',w',h'⟩)
 |halt x w'=>
  cases x<;>simp only[Oper.upon]at h⊢
  exact h
def WH(P:Program)(ops:Array Oper)(Q:Exit->Act->World->Prop)(S S2:World->Prop)(last:List Nat):Nat->Array Bool->Act->World->Prop
 |0,listed,a,w=>Region.ready .any ops listed=[]/\Q .normal a w
 |fuel+1,listed,a,w=>
  (Region.ready .any ops listed=[]->Q .normal a w)/\
  ∀i∈Region.ready .any ops listed,wpOp P ops Q i (λa' w'=>((last.contains i=false->S w')/\S2 w')/\WH P ops Q S S2 last fuel (listed.setIfInBounds i true) a' w') a w
theorem YdS{S S2:World->Prop}{last:List Nat}:∀(fuel:Nat) (listed:Array Bool) (a:Act) (w:World),WH P ops Q S S2 last fuel listed a w->wpAny P .any ops Q fuel listed a w
 |0,_,_,_,h=>h
 |fuel+1,_,_,_,h=>⟨h.1,λi hi=>wpOp_mono (λa' w' h'=>YdS fuel _ a' w' h'.2) (h.2 i hi)⟩
variable {last:List Nat}{i:Nat}{oi:Oper}{v:Value}
theorem Yi6(hi:ops[i]? =some oi)(hsel:∀(j:Nat) (o:Oper) cs b,ops[j]? =some o->o.op≠.select cs b)
 (hQ:∀c (a:Act) (w:World),¬Q (.panic c) a w) (hil:last.contains i=true):
 ∀(fuel:Nat) (listed:Array Bool) (a:Act) (w:World),Closed ops listed->
  (∀j oj,ops[j]? =some oj->j≠i->listed.getD j true=false->(∀e∈oj.after,Region.binds .any e=true->e.on≠i)->oi.apart ops oj=true)->
  i∈Region.ready .any ops listed->YieldsIf P ops S2 oi v a->S2 w->
  WH P ops Q S S2 last fuel (listed.setIfInBounds i true) (a.put oi.dst v) w->WH P ops Q S S2 last (fuel+1) listed a w:=by
 intro fuel
 have hno:¬last.contains i=false:=by rw[hil];intro h;cases h
 induction fuel with
 |zero=>
  intro listed a w _ _ hr hy hS H
  refine⟨λh=>(by rw[h]at hr;cases hr),λj hj=>?_⟩
  by_cases hji:j=i
  ·subst hji;exact hy.wpOp hi hS ⟨⟨λh=>absurd h hno,hS⟩,H⟩
  ·have:=ready_mono hj hji
   rw[H.1]at this
   cases this
 |succ fuel ih=>
  intro listed a w hcl hfree hr hy hS H
  refine⟨λh=>(by rw[h]at hr;cases hr),λj hj=>?_⟩
  by_cases hji:j=i
  ·subst hji;exact hy.wpOp hi hS ⟨⟨λh=>absurd h hno,hS⟩,H⟩
  ·have h1:=H.2 j (ready_mono hj hji)
   obtain⟨hjun,oj,hoj,hall⟩:=mem_ready.1 hj
   have hun:=(mem_ready.1 hr).1
   have hun':listed.getD i false=false:=by
    rcases SB i listed.size with h'|h'
    ·simp[h']at hun⊢;exact hun
    ·simp[Array.getElem?_eq_none h']at hun
   have hnot:∀e∈oj.after,Region.binds .any e=true->e.on≠i:=λe he hb heq=>by
    have h2:=hall e he hb
    rw[heq,hun']at h2
    cases h2
   have h2:=wpOp_putIf hoj (hfree j oj hoj hji hjun hnot) (λcs b=>hsel i oi cs b hi) (λcs b=>hsel j oj cs b hoj) (λc a w h=>(hQ c _ w h).elim) hy h1
   have hfree':∀k ok,ops[k]? =some ok->k≠i->(listed.setIfInBounds j true).getD k true=false->
    (∀e∈ok.after,Region.binds .any e=true->e.on≠i)->oi.apart ops ok=true:=λk ok hk hki hu hno=>by
    refine hfree k ok hk hki ?_ hno
    by_cases hjk:j=k
    ·subst hjk;exact hjun
    ·rw[getD_set_ne true hjk]at hu;exact hu
   refine wpOp_mono (λa' w' h3=>⟨h3.2.1,ih (listed.setIfInBounds j true) a' w' (hcl.set hj) hfree' (ready_mono hr (NZ hji)) h3.1 h3.2.1.2 ?_⟩) h2
   rw[S8 _ _ hji]
   exact h3.2.2
theorem YgM(hSS:∀w,S w->S2 w)(hi:ops[i]? =some oi)(hsel:∀(j:Nat) (o:Oper) cs b,ops[j]? =some o->o.op≠.select cs b)
 (hQ:∀c (a:Act) (w:World),¬Q (.panic c) a w) (hil:last.contains i=false):
 ∀(fuel:Nat) (listed:Array Bool) (a:Act) (w:World),Closed ops listed->(∀j,last.contains j=true->listed.getD j false=true\/∃f,ancB ops f j i=true)->
  (∀j oj,ops[j]? =some oj->j≠i->listed.getD j true=false->(∀e∈oj.after,Region.binds .any e=true->e.on≠i)->oi.apart ops oj=true)->
  i∈Region.ready .any ops listed->YieldsIf P ops S oi v a->S w->
  WH P ops Q S S2 last fuel (listed.setIfInBounds i true) (a.put oi.dst v) w->WH P ops Q S S2 last (fuel+1) listed a w:=by
 intro fuel
 induction fuel with
 |zero=>
  intro listed a w _ _ _ hr hy hS H
  refine⟨λh=>(by rw[h]at hr;cases hr),λj hj=>?_⟩
  by_cases hji:j=i
  ·subst hji;exact hy.wpOp hi hS ⟨⟨λ_=>hS,hSS _ hS⟩,H⟩
  ·have:=ready_mono hj hji
   rw[H.1]at this
   cases this
 |succ fuel ih=>
  intro listed a w hcl hlast hfree hr hy hS H
  refine⟨λh=>(by rw[h]at hr;cases hr),λj hj=>?_⟩
  by_cases hji:j=i
  ·subst hji;exact hy.wpOp hi hS ⟨⟨λ_=>hS,hSS _ hS⟩,H⟩
  ·have h1:=H.2 j (ready_mono hj hji)
   obtain⟨hjun,oj,hoj,hall⟩:=mem_ready.1 hj
   have hun:=(mem_ready.1 hr).1
   have hun':listed.getD i false=false:=by
    rcases SB i listed.size with h'|h'
    ·simp[h']at hun⊢;exact hun
    ·simp[Array.getElem?_eq_none h']at hun
   have hnl:last.contains j=false:=by
    cases hc:last.contains j with
    |false=>rfl
    |true=>
     rcases hlast j hc with h4|⟨f,hf⟩
     ·have h5:listed.getD j true=true:=by
       rcases SB j listed.size with h'|h'
       ·simp[h']at h4⊢;exact h4
       ·simp[Array.getElem?_eq_none h']
      rw[h5]at hjun;cases hjun
     ·have:=VW hcl f j i (λok hk e he hb=>by
       obtain rfl:ok=oj:=Tz (hk.symm.trans hoj)
       exact hall e he hb) hf
      rw[hun']at this
      cases this
   have hnot:∀e∈oj.after,Region.binds .any e=true->e.on≠i:=λe he hb heq=>by
    have h2:=hall e he hb
    rw[heq,hun']at h2
    cases h2
   have h2:=wpOp_putIf hoj (hfree j oj hoj hji hjun hnot) (λcs b=>hsel i oi cs b hi) (λcs b=>hsel j oj cs b hoj) (λc a w h=>(hQ c _ w h).elim) hy h1
   have hfree':∀k ok,ops[k]? =some ok->k≠i->(listed.setIfInBounds j true).getD k true=false->
    (∀e∈ok.after,Region.binds .any e=true->e.on≠i)->oi.apart ops ok=true:=λk ok hk hki hu hno=>by
    refine hfree k ok hk hki ?_ hno
    by_cases hjk:j=k
    ·subst hjk;exact hjun
    ·rw[getD_set_ne true hjk]at hu;exact hu
   refine wpOp_mono (λa' w' h3=>⟨h3.2.1,ih (listed.setIfInBounds j true) a' w' (hcl.set hj) (λk hk=>?_) hfree' (ready_mono hr (NZ hji)) h3.1 (h3.2.1.1 hnl) ?_⟩) h2
   ·rcases hlast k hk with h4|h4
    ·left
     by_cases hjk:j=k
     ·subst hjk
      rcases SB j listed.size with h'|h'
      ·simp[h']
      ·simp[Array.getElem?_eq_none h']at hjun
     ·rw[getD_set_ne false hjk];exact h4
    ·exact .inr h4
   ·rw[S8 _ _ hji]
    exact h3.2.2
theorem UA{S S2:World->Prop}{last:List Nat}(l:List Oper)(hl:ops=l.toArray)(hef:∀j,last.contains j=true->∃o,ops[j]? =some o):
 ∀(o2:List Nat) (listed:Array Bool) (a:Act) (w:World),(∀j∈o2,last.contains j=true)->Vl ops o2 listed=true->S2 w->Ys P ops Q S2 (Yg l o2) a w->WH P ops Q S S2 last o2.length listed a w
 |[],listed,a,w,_,hB,_,h=>⟨by simpa [Vl]using hB,h⟩
 |i::rest,listed,a,w,hin,hB,hS,h=>by
  simp only[Vl,To,Tq]at hB
  obtain⟨h1,h2⟩:=hB
  obtain⟨o,ho⟩:=hef i (hin i (by simp))
  have hget:nthO l i=o:=Xh hl ho
  simp only[Yg,hget]at h
  unfold Ys at h
  refine⟨λh0=>(by rw[h1]at h0;cases h0),λk hk=>?_⟩
  rw[h1]at hk
  obtain rfl:k=i:=by simpa using hk
  have hc:last.contains k=true:=hin k (by simp)
  have hf:¬last.contains k=false:=by rw[hc];intro h;cases h
  have hin':∀j∈rest,last.contains j=true:=λj hj=>hin j (by simp[hj])
  by_cases he:eff o=true
  ·rw[Tm he]at h
   unfold wpOp
   simp only[ho]
   by_cases hw:Region.wanted o (yielded ops a.tmps)=true
   ·rw[Tm hw]at h⊢
    exact .inl (Oper.wp_mono (λa' w' h'=>⟨⟨λh=>absurd h hf,h'.1⟩,UA l hl hef rest _ a' w' hin' h2 h'.1 h'.2⟩) h)
   ·rw[Td hw]at h⊢
    exact⟨⟨λh=>absurd h hf,hS⟩,UA l hl hef rest _ _ w hin' h2 hS h⟩
  ·rw[Td he]at h
   obtain⟨v,hy,h3⟩:=h
   exact hy.wpOp ho hS ⟨⟨λh=>absurd h hf,hS⟩,UA l hl hef rest _ _ w hin' h2 hS h3⟩
def Yb0(ops:Array Oper)(last tail:List Nat):List Nat->Array Bool->Bool
 |[],listed=>Vl ops tail listed
 |i::rest,listed=>
  (match ops[i]? with
   |some o=>
    !last.contains i&&(if eff o then decide (Region.ready .any ops listed=[i])
    else(Region.ready .any ops listed).contains i&&Region.free .any ops listed i&&last.all λj=>listed.getD j false||ancB ops ops.size j i)
   |none=>false)&&Yb0 ops last tail rest (listed.setIfInBounds i true)
def Ygk(ops:Array Oper)(last tail o1:List Nat):List Nat->Array Bool->Bool
 |[],listed=>Yb0 ops last tail o1 listed
 |i::rest,listed=>
  (match ops[i]? with
   |some o=>last.contains i&&!eff o&&(Region.ready .any ops listed).contains i&&Region.free .any ops listed i
   |none=>false)&&Ygk ops last tail o1 rest (listed.setIfInBounds i true)
theorem Vy{S S2:World->Prop}(hSS:∀w,S w->S2 w){last tail:List Nat}(hs:Region.noSelect ops=true)(hQ:∀c (a:Act) (w:World),¬Q (.panic c) a w)(l:List Oper)(hl:ops=l.toArray)(htl:∀j∈tail,last.contains j=true)(hex:∀j,last.contains j=true->∃o,ops[j]? =some o):
 ∀(o1:List Nat) (listed:Array Bool) (a:Act) (w:World),Closed ops listed->Yb0 ops last tail o1 listed=true->S w->Ys P ops (OP P ops Q S2 (Yg l tail)) S (Yg l o1) a w->
  WH P ops Q S S2 last (o1++tail).length listed a w
 |[],listed,a,w,_,hB,hS,h=>by
  have h':S2 w/\Ys P ops Q S2 (Yg l tail) a w:=h
  exact UA l hl hex tail listed a w htl hB h'.1 h'.2
 |i::rest,listed,a,w,hcl,hB,hS,h=>by
  simp only[Yb0,To]at hB
  obtain⟨h1,h2⟩:=hB
  cases ho:ops[i]? with
  |none=>rw[ho]at h1;cases h1
  |some o=>
   rw[ho]at h1
   have hget:nthO l i=o:=Xh hl ho
   simp only[Yg,hget]at h
   simp only[To,Si]at h1
   obtain⟨hla',h1⟩:=h1
   by_cases he:eff o=true
   ·simp only[he,NF,Tq]at h1
    unfold Ys at h
    rw[Tm he]at h
    refine⟨λh0=>(by rw[h1]at h0;cases h0),λk hk=>?_⟩
    have hk':=hk
    rw[h1]at hk
    obtain rfl:k=i:=by simpa using hk
    unfold wpOp
    simp only[ho]
    by_cases hw:Region.wanted o (yielded ops a.tmps)=true
    ·rw[Tm hw]at h⊢
     refine .inl (Oper.wp_tailH (Oper.wp_mono (λa' w' h'=>⟨⟨λ_=>h'.1,hSS _ h'.1⟩,Vy hSS hs hQ l hl htl hex rest _ a' w' (hcl.set hk') h2 h'.1 h'.2⟩) h))
    ·rw[Td hw]at h⊢
     exact⟨⟨λ_=>hS,hSS _ hS⟩,Vy hSS hs hQ l hl htl hex rest _ _ w (hcl.set hk') h2 hS h⟩
   ·simp only[he,SA,N8,To]at h1
    obtain⟨⟨h3,h4⟩,h6⟩:=h1
    unfold Ys at h
    rw[Td he]at h
    obtain⟨v,hy,h5⟩:=h
    have hr:i∈Region.ready .any ops listed:=by simpa using h3
    refine YgM hSS ho (Region.noSelect_spec hs) hQ hla' _ listed a w hcl (λj hj=>?_) (Region.free_spec ho h4) hr hy hS (Vy hSS hs hQ l hl htl hex rest _ _ w (hcl.set hr) h2 hS h5)
    have h7:=TI.1 h6 j (by simpa using hj)
    simp only[Sj]at h7
    rcases h7 with h7|h7
    ·exact .inl h7
    ·exact .inr ⟨_,h7⟩
theorem Ybn{S S2:World->Prop}(hSS:∀w,S w->S2 w){last tail o1:List Nat}(hs:Region.noSelect ops=true)(hQ:∀c (a:Act) (w:World),¬Q (.panic c) a w)(l:List Oper)(hl:ops=l.toArray)(htl:∀j∈tail,last.contains j=true)(hex:∀j,last.contains j=true->∃o,ops[j]? =some o):
 ∀(oA:List Nat) (listed:Array Bool) (a:Act) (w:World),Closed ops listed->Ygk ops last tail o1 oA listed=true->S2 w->Ys P ops (OP P ops (OP P ops Q S2 (Yg l tail)) S (Yg l o1)) S2 (Yg l oA) a w->
  WH P ops Q S S2 last (oA++(o1++tail)).length listed a w
 |[],listed,a,w,hcl,hB,_,h=>by
  have h':S w/\Ys P ops (OP P ops Q S2 (Yg l tail)) S (Yg l o1) a w:=h
  exact Vy hSS hs hQ l hl htl hex o1 listed a w hcl hB h'.1 h'.2
 |i::rest,listed,a,w,hcl,hB,hS,h=>by
  simp only[Ygk,To]at hB
  obtain⟨h1,h2⟩:=hB
  cases ho:ops[i]? with
  |none=>rw[ho]at h1;cases h1
  |some o=>
   rw[ho]at h1
   have hget:nthO l i=o:=Xh hl ho
   simp only[Yg,hget]at h
   simp only[To,Si]at h1
   obtain⟨⟨⟨hla,he⟩,h3⟩,h4⟩:=h1
   unfold Ys at h
   rw[Td (by rw[he];simp)]at h
   obtain⟨v,hy,h5⟩:=h
   have hr:i∈Region.ready .any ops listed:=by simpa using h3
   exact Yi6 ho (Region.noSelect_spec hs) hQ hla _ listed a w hcl (Region.free_spec ho h4) hr hy hS (Ybn hSS hs hQ l hl htl hex rest _ _ w (hcl.set hr) h2 hS h5)
theorem Yoa{id:Nat}(oA o1 tail:List Nat)(maskA maskB:List Bool){HA FA HB FB:List HP}(hm:P.follows .mixedOrders=true)
 (hB:(Region.noSelect l.toArray&&decide ((oA++(o1++tail)).length=l.toArray.size)&&((oA++tail).all λj=>decide (j<l.toArray.size))&&Ygk l.toArray (oA++tail) tail o1 oA (Array.replicate l.toArray.size false))=true)
 (hspA:Split maskA H HA FA) (_hspB:Split maskB H HB FB) (hsub:∀w,St B w0 HB w->St B w0 HA w) {lA l1 l2:List Oper}(hlA:Yg l oA=lA) (hl1:Yg l o1=l1) (hl2:Yg l tail=l2)
 (h:VL P (some (some FA)) n B w0 l.toArray (OP P l.toArray (OP P l.toArray (Only Q) (St B w0 HA) l2) (St B w0 HB) l1) lA env HA):VC P n B w0 (.region id l.toArray true) Q env H:=by
 simp only[To,Tq]at hB
 obtain⟨⟨⟨h1,h2⟩,h4⟩,h5⟩:=hB
 refine⟨λa w ha hw=>ZQ (Q:=Only Q) ?_ λe a w h=>by cases e<;>first|exact h|cases h⟩
 have hst:St B w0 (HA++FA) w.drew:=(hw.perm (XK hspA)).drew
 have hr:=h.run a ha w.drew hst
 have hr':Ys P l.toArray (OP P l.toArray (OP P l.toArray (Only Q) (St B w0 HA) l2) (St B w0 HB) l1) (St B w0 HA) lA a w.drew:=hr
 rw[<-hlA,<-hl1,<-hl2]at hr'
 have:=Ybn (S:=St B w0 HB) (S2:=St B w0 HA) hsub (last:=oA++tail) h1 (λc a w h=>h) l rfl (λj hj=>by simp[hj]) (λj hj=>⟨_,SK (by
  have:=TI.1 h4 j (by simpa using hj)
  simpa using this)⟩) oA _ a w.drew (XU _ _) h5 hst.prefix_ hr'
 rw[h2]at this
 exact VE hm (YdS _ _ _ _ this)
end
inductive OU where
 |done
 |n1 (i:Nat) (t:OU)
 |n2 (i:Nat) (t:OU) (j:Nat) (u:OU)
 |n3 (i:Nat) (t:OU) (j:Nat) (u:OU) (k:Nat) (v:OU)
section
variable {P:Program}{n:Shp}{B:Nat}{w0:World}{Q:Exit->Act->World->Prop}{env:Env}{H:List HP}{ops:Array Oper}
def X6(P:Program)(ops:Array Oper)(l:List Oper)(Q:Exit->Act->World->Prop)(S:World->Prop):OU->Act->World->Prop
 |.done,a,w=>Q .normal a w
 |.n1 i t,a,w=>Ys P ops (λe a w=>match e with|.normal=>X6 P ops l Q S t a w|_=>False) S [nthO l i] a w
 |.n2 i t j u,a,w=>Ys P ops (λe a w=>match e with|.normal=>X6 P ops l Q S t a w|_=>False) S [nthO l i] a w/\Ys P ops (λe a w=>match e with|.normal=>X6 P ops l Q S u a w|_=>False) S [nthO l j] a w
 |.n3 i t j u k v,a,w=>Ys P ops (λe a w=>match e with|.normal=>X6 P ops l Q S t a w|_=>False) S [nthO l i] a w/\Ys P ops (λe a w=>match e with|.normal=>X6 P ops l Q S u a w|_=>False) S [nthO l j] a w/\Ys P ops (λe a w=>match e with|.normal=>X6 P ops l Q S v a w|_=>False) S [nthO l k] a w
def Ub(ops:Array Oper)(last:List Nat):OU->Array Bool->Nat->Bool
 |.done,listed,0=>Vl ops last listed
 |.done,_,_+1=>false
 |.n1 i t,listed,k+1=>!last.contains i&&(match ops[i]? with
  |some o=>if eff o then decide (Region.ready .any ops listed=[i])else(Region.ready .any ops listed).contains i&&Region.free .any ops listed i
  |none=>false)&&Ub ops last t (listed.setIfInBounds i true) k
 |.n2 i t j u,listed,k+1=>!last.contains i&&!last.contains j&&Uv ops i&&Uv ops j&&((Region.ready .any ops listed).all λx=>x==i||x==j)&&!(Region.ready .any ops listed).isEmpty&&Ub ops last t (listed.setIfInBounds i true) k&&Ub ops last u (listed.setIfInBounds j true) k
 |.n3 i t j u q v,listed,k+1=>!last.contains i&&!last.contains j&&!last.contains q&&Uv ops i&&Uv ops j&&Uv ops q&&((Region.ready .any ops listed).all λx=>x==i||x==j||x==q)&&!(Region.ready .any ops listed).isEmpty&&Ub ops last t (listed.setIfInBounds i true) k&&Ub ops last u (listed.setIfInBounds j true) k&&Ub ops last v (listed.setIfInBounds q true) k
 |.n1 _ _,_,0=>false
 |.n2 _ _ _ _,_,0=>false
 |.n3 _ _ _ _ _ _,_,0=>false
theorem Zh{S:World->Prop}{last:List Nat}(hs:Region.noSelect ops=true)(hQ:∀c (a:Act) (w:World),¬Q (.panic c) a w)(hlo:¬LetsOut Q)(l:List Oper)(hl:ops=l.toArray)(hlast:Yc9 ops last=true):
 ∀(t:OU) (k:Nat) (listed:Array Bool) (a:Act) (w:World),Closed ops listed->Ub ops last t listed k=true->S w->X6 P ops l (Jd P ops Q (Yg l last)) S t a w->
  Zf P ops Q S last (k+last.length) listed a w
 |.done,0,listed,a,w,_,hB,_,h=>by
  have:=Jp (S:=S) l hl (JX hlast).1 hlo last listed a w (λj hj=>by simpa using hj) hB h
  rw[Ry]
  exact this
 |.done,_+1,_,_,_,_,hB,_,_=>by cases hB
 |.n1 _ _,0,_,_,_,_,hB,_,_=>by cases hB
 |.n2 _ _ _ _,0,_,_,_,_,hB,_,_=>by cases hB
 |.n3 _ _ _ _ _ _,0,_,_,_,_,hB,_,_=>by cases hB
 |.n1 i t,k+1,listed,a,w,hcl,hB,hS,h=>by
  simp only[Ub,To]at hB
  obtain⟨⟨h0,h1⟩,h2⟩:=hB
  have hno:last.contains i=false:=by simpa using h0
  cases ho:ops[i]? with
  |none=>rw[ho]at h1;cases h1
  |some o=>
   rw[ho]at h1
   have hget:=Xh hl ho
   unfold X6 at h
   rw[hget]at h
   rw[Nh]
   by_cases he:eff o=true
   ·simp only[he,NF,Tq]at h1
    refine⟨λh0=>(by rw[h1]at h0;cases h0),λj hj=>?_⟩
    have hj':=hj
    rw[h1]at hj
    obtain rfl:j=i:=by simpa using hj
    exact Jx ho he hno (λe a w hne=>by cases e<;>simp_all) hS h λa w hS' h'=>Zh hs hQ hlo l hl hlast t k _ a w (hcl.set hj') h2 hS' h'
   ·simp only[he]at h1
    simp only[SA,N8,To]at h1
    unfold Ys at h
    rw[Td he]at h
    obtain⟨v,hy,h3⟩:=h
    have hr:i∈Region.ready .any ops listed:=by simpa using h1.1
    exact JK ho (Region.noSelect_spec hs) hQ ((JX hlast).2 i o ho (by simpa using he) hno) hno _ listed a w hcl (Region.free_spec ho h1.2) hr hy hS (Zh hs hQ hlo l hl hlast t k _ _ w (hcl.set hr) h2 hS h3)
 |.n2 i t j u,k+1,listed,a,w,hcl,hB,hS,h=>by
  simp only[Ub,To]at hB
  obtain⟨⟨⟨⟨⟨⟨⟨b1,b2⟩,b3⟩,b4⟩,b5⟩,b6⟩,b7⟩,b8⟩:=hB
  have hi:last.contains i=false:=by simpa using b1
  have hj:last.contains j=false:=by simpa using b2
  unfold X6 at h
  rw[Nh]
  refine⟨λh0=>(by rw[h0]at b6;cases b6),λx hx=>?_⟩
  have h5:=TI.1 b5 x hx
  simp only[Sj,Nc]at h5
  rcases h5 with rfl|rfl
  ·unfold Uv at b3
   cases ho:ops[x]? with
   |none=>rw[ho]at b3;cases b3
   |some o=>
    rw[ho]at b3
    have hg:=h.1
    rw[Xh hl ho]at hg
    exact Jx ho b3 hi (λe a w hne=>by cases e<;>simp_all) hS hg λa w hS' h'=>Zh hs hQ hlo l hl hlast t k _ a w (hcl.set hx) b7 hS' h'
  ·unfold Uv at b4
   cases ho:ops[x]? with
   |none=>rw[ho]at b4;cases b4
   |some o=>
    rw[ho]at b4
    have hg:=h.2
    rw[Xh hl ho]at hg
    exact Jx ho b4 hj (λe a w hne=>by cases e<;>simp_all) hS hg λa w hS' h'=>Zh hs hQ hlo l hl hlast u k _ a w (hcl.set hx) b8 hS' h'
 |.n3 i t j u q v,k+1,listed,a,w,hcl,hB,hS,h=>by
  simp only[Ub,To]at hB
  obtain⟨⟨⟨⟨⟨⟨⟨⟨⟨⟨b1,b2⟩,b2q⟩,b3⟩,b4⟩,b4q⟩,b5⟩,b6⟩,b7⟩,b8⟩,b9⟩:=hB
  have hi:last.contains i=false:=by simpa using b1
  have hj:last.contains j=false:=by simpa using b2
  have hq:last.contains q=false:=by simpa using b2q
  unfold X6 at h
  rw[Nh]
  refine⟨λh0=>(by rw[h0]at b6;cases b6),λx hx=>?_⟩
  have h5:=TI.1 b5 x hx
  simp only[Sj,Nc]at h5
  rcases h5 with(rfl|rfl)|rfl
  ·unfold Uv at b3
   cases ho:ops[x]? with
   |none=>rw[ho]at b3;cases b3
   |some o=>
    rw[ho]at b3
    have hg:=h.1
    rw[Xh hl ho]at hg
    exact Jx ho b3 hi (λe a w hne=>by cases e<;>simp_all) hS hg λa w hS' h'=>Zh hs hQ hlo l hl hlast t k _ a w (hcl.set hx) b7 hS' h'
  ·unfold Uv at b4
   cases ho:ops[x]? with
   |none=>rw[ho]at b4;cases b4
   |some o=>
    rw[ho]at b4
    have hg:=h.2.1
    rw[Xh hl ho]at hg
    exact Jx ho b4 hj (λe a w hne=>by cases e<;>simp_all) hS hg λa w hS' h'=>Zh hs hQ hlo l hl hlast u k _ a w (hcl.set hx) b8 hS' h'
  ·unfold Uv at b4q
   cases ho:ops[x]? with
   |none=>rw[ho]at b4q;cases b4q
   |some o=>
    rw[ho]at b4q
    have hg:=h.2.2
    rw[Xh hl ho]at hg
    exact Jx ho b4q hq (λe a w hne=>by cases e<;>simp_all) hS hg λa w hS' h'=>Zh hs hQ hlo l hl hlast v k _ a w (hcl.set hx) b9 hS' h'
structure VU(P:Program)(n:Shp)(B:Nat)(w0:World)(ops:Array Oper)(l:List Oper)(Q:Exit->Act->World->Prop)(t:OU)(env:Env)(H F:List HP):Prop where
 run:∀a,Fits n a env->∀w,St B w0 (H++F) w->X6 P ops l Q (St B w0 H) t a w
def Jq(P:Program)(B:Nat)(w0:World)(ops:Array Oper)(l:List Oper)(Q:Exit->Act->World->Prop)(Hc:List HP)(t:OU):Exit->Act->World->Prop
 |.normal,a,w=>X6 P ops l Q (St B w0 Hc) t a w
 |_,_,_=>False
variable {l:List Oper}
theorem VN{t:OU}:Jq P B w0 ops l Q H t=λe a w=>match e with|.normal=>X6 P ops l Q (St B w0 H) t a w|_=>False:=by
 funext e a w
 cases e<;>rfl
variable {F Hc:List HP}
theorem YqF{HF:List HP}(happ:App H F HF)(h:VQ n B w0 Q .normal env HF):VU P n B w0 ops l Q .done env H F:=
 ⟨λa ha w hw=>by rw[<-Wg happ]at hw;exact h.run a w ha hw⟩
variable {i j:Nat}{o o':Oper}
theorem YkS{t:OU}(ho:nthO l i=o)(h:VL P (some (some F)) n B w0 ops (Jq P B w0 ops l Q H t) [o] env H):VU P n B w0 ops l Q (.n1 i t) env H F:=by
 refine⟨λa ha w hw=>?_⟩
 have h1:Ys P ops (Jq P B w0 ops l Q H t) (St B w0 H) [o] a w:=h.run a ha w hw
 unfold X6
 rw[ho,<-VN]
 exact h1
variable {u:OU}
theorem YkT{t:OU}(ho:nthO l i=o)(ho':nthO l j=o')(h:VL P (some (some F)) n B w0 ops (Jq P B w0 ops l Q H t) [o] env H)
 (h':VL P (some (some F)) n B w0 ops (Jq P B w0 ops l Q H u) [o'] env H):VU P n B w0 ops l Q (.n2 i t j u) env H F:=by
 refine⟨λa ha w hw=>?_⟩
 have h1:Ys P ops (Jq P B w0 ops l Q H t) (St B w0 H) [o] a w:=h.run a ha w hw
 have h2:Ys P ops (Jq P B w0 ops l Q H u) (St B w0 H) [o'] a w:=h'.run a ha w hw
 unfold X6
 rw[ho,ho',<-VN,<-VN]
 exact⟨h1,h2⟩
theorem YrG{q:Nat}{t v:OU}{o2:Oper}(ho:nthO l i=o)(ho':nthO l j=o')(ho2:nthO l q=o2)(h:VL P (some (some F)) n B w0 ops (Jq P B w0 ops l Q H t) [o] env H)
 (h':VL P (some (some F)) n B w0 ops (Jq P B w0 ops l Q H u) [o'] env H) (h2:VL P (some (some F)) n B w0 ops (Jq P B w0 ops l Q H v) [o2] env H):VU P n B w0 ops l Q (.n3 i t j u q v) env H F:=by
 refine⟨λa ha w hw=>?_⟩
 have h1:Ys P ops (Jq P B w0 ops l Q H t) (St B w0 H) [o] a w:=h.run a ha w hw
 have h2':Ys P ops (Jq P B w0 ops l Q H u) (St B w0 H) [o'] a w:=h'.run a ha w hw
 have h3:Ys P ops (Jq P B w0 ops l Q H v) (St B w0 H) [o2] a w:=h2.run a ha w hw
 unfold X6
 rw[ho,ho',ho2,<-VN,<-VN,<-VN]
 exact⟨h1,h2',h3⟩
theorem QD{H':List HP}{t:OU}(hp:Pull Hc H' F)(h:VU P n B w0 ops l Q t env Hc F):VQ n B w0 (Jq P B w0 ops l Q Hc t) .normal env H':=
 ⟨λa w ha hw=>h.run a ha w (hw.perm hp)⟩
theorem Qx{id:Nat}(t:OU)(last:List Nat)(mask:List Bool)(hm:P.follows .mixedOrders=true)
 (hB:(Region.noSelect l.toArray&&decide (last.length<=l.toArray.size)&&Yc9 l.toArray last&&Ub l.toArray last t (Array.replicate l.toArray.size false) (l.toArray.size-last.length))=true)
 (hsp:Split mask H Hc F) {l2:List Oper}(hl2:Yg l last=l2) (h:VU P n B w0 l.toArray l (Jd P l.toArray (Only Q) l2) t env Hc F):VC P n B w0 (.region id l.toArray true) Q env H:=by
 simp only[To,Tq]at hB
 obtain⟨⟨⟨h1,h2⟩,h3⟩,h5⟩:=hB
 refine⟨λa w ha hw=>ZQ (Q:=Only Q) ?_ λe a w h=>by cases e<;>first|exact h|cases h⟩
 have hst:St B w0 (Hc++F) w.drew:=(hw.perm (XK hsp)).drew
 have hr:=h.run a ha w.drew hst
 rw[<-hl2]at hr
 have:=Zh (S:=St B w0 Hc) h1 (λc a w h=>h) (by rintro⟨_,_,h⟩;exact h) l rfl h3 t _ _ a w.drew (XU _ _) h5 hst.prefix_ hr
 rw[Nat.sub_add_cancel h2]at this
 exact VE hm (ZP _ _ _ _ this)
end
def MB(es:Ents)(f:Int->Bool):Prop:=∀k,mget es k=if f k=true then some (.bool true)else none
structure MOk(es:Ents)(clock:Nat):Prop where
 nd:(es.map λe=>e.2.2).Nodup
 kn:(es.map λe=>e.1).Nodup
 lt:∀e∈es,e.2.2<clock
theorem MB.nil:MB [] (λ_=>false):=λ_=>rfl
variable {c:Nat}
theorem MOk.nil:MOk [] c:=⟨List.nodup_nil,List.nodup_nil,λ_ h=>by cases h⟩
theorem Ybw(es l:Ents)(k:Int):mget (es++l) k=(mget es k).or (mget l k):=by
 unfold mget
 rw[List.find?_append]
 cases es.find? (λe=>e.1==k)<;>rfl
variable {es:Ents}{f:Int->Bool}
theorem MB.ext{g:Int->Bool}(h:MB es f)(e:∀v,f v=g v):MB es g:=λk=>by rw[<-e k];exact h k
variable {k:Int}
theorem MB.put(h:MB es f)(hk:f k=false):MB (es++[(k,.bool true,c)]) (λv=>decide (v=k)||f v):=λv=>by
 rw[Ybw,h v]
 by_cases hv:v=k
 ·subst hv
  rw[hk]
  simp[mget]
 ·have:(k==v)=false:=by simpa using NZ hv
  cases hf:f v<;>simp[mget,hv,this,hf]
theorem MB.mem(h:MB es f){e:Int×Value×Nat}(he:e∈es):f e.1=true:=by
 have hk:=h e.1
 cases hf:f e.1 with
 |true=>rfl
 |false=>
  rw[hf,Td (by decide)]at hk
  unfold mget at hk
  cases hx:es.find? (λx=>x.1==e.1)with
  |none=>have:=NU.1 hx e he;simp at this
  |some x=>rw[hx]at hk;cases hk
variable {v:Value}
theorem MOk.put(h:MOk es c)(hf:MB es f)(hk:f k=false):MOk (es++[(k,v,c)]) (c+1):=by
 refine⟨?_,?_,λe he=>?_⟩
 ·rw[T8]
  refine Ri.2 ⟨h.nd,by simp,λa ha b hb=>?_⟩
  obtain⟨e,he,rfl⟩:=TG.1 ha
  obtain rfl:b=c:=by simpa using hb
  have:=h.lt e he
  omega
 ·rw[T8]
  refine Ri.2 ⟨h.kn,by simp,λa ha b hb=>?_⟩
  obtain⟨e,he,rfl⟩:=TG.1 ha
  obtain rfl:b=k:=by simpa using hb
  intro e2
  have:=hf.mem he
  rw[e2,hk]at this
  cases this
 ·rcases TT.1 he with he|he
  ·have:=h.lt e he;omega
  ·obtain rfl:=TJ.1 he
   exact Nat.lt_succ_self _
theorem MB.at_(h:MB es f)(hk:f k=true):∃e∈es,e.1=k:=by
 have h1:=h k
 rw[hk,Tm rfl]at h1
 unfold mget at h1
 cases hx:es.find? (λx=>x.1==k)with
 |none=>rw[hx]at h1;cases h1
 |some x=>exact⟨x,List.mem_of_find?_eq_some hx,by simpa using List.find?_some hx⟩
theorem Upd.same{A:HP}:∀{L:List HP},A∈L->Upd A A L L
 |_::_,.head _=>Upd.here _
 |X::_,.tail _ h=>(Upd.same h).there X
section
variable {P:Program}{m:Mode}{n:Shp}{B:Nat}{w0:World}{ops:Array Oper}{Q:Exit->Act->World->Prop}{rest:List Oper}{env:Env}{H:List HP}{d:Nat}{ty:TypeId}{pos:String}{after:Array Edge}{x y u:Operand}
theorem YsE{xt:TypeId}{a:Int}(hx:evo env x=some (.int .i64 a))(hn:Nat.ble (d+1) n.k=true)(hb: -9223372036854775808<= -a/\ -a<=9223372036854775807)(h:VL P m n B w0 ops Q rest ((d,.int .i64 (-a))::env) H):
 VL P m n B w0 ops Q (⟨some d,.unOp .neg xt x,ty,pos,after,none⟩::rest) env H:=
 Yy rfl rfl hn rfl (λa' w ha _=>by
  have h0:(Op.intArith .sub .i64 0 a).run P w=.ok (.int .i64 (-a)) w:=by
   show Result.ok (Value.int .i64 (IntKind.i64.wrap (0-a))) w=_
   rw[Int.zero_sub,IntWalk.i64_in _ hb]
  simp[execOp,ha.eval hx,Op.unary,h0]) h
variable {t kt et g clock:Nat}{es:Ents}{f:Int->Bool}{k:Int}
theorem J9{b:Bool}(hx:evo env x=some (.map (some g)))(hy:evo env y=some (.int .i64 k))(hm:blk g (mobj es clock)∈H)(ht:mapT P t kt et=true)(hn:Nat.ble (d+1) n.k=true)(hz:Yaq P et=some (.bool false))(hf:MB es f)(hk:f k=b)
 (h:VL P m n B w0 ops Q rest ((d,.bool b)::env) H):VL P m n B w0 ops Q (⟨some d,.lookup t x y false,ty,pos,after,none⟩::rest) env H:=by
 have h1:=hf k
 cases b with
 |true=>rw[hk,Tm rfl]at h1;exact Yjf hx hy hm ht hn h1 h
 |false=>rw[hk,Td (by decide)]at h1;exact Yje hx hy hm ht hn h1 (YdT hz) h
variable {K:Ents->Nat->List HP}
theorem YkP(hx:evo env x=some (.map (some g)))(hy:evo env y=some (.int .i64 k))(hv:evo env u=some (.bool true))(ht:mapT P t kt et=true)(hu:∀es' c',Upd (blk g (mobj es clock)) (blk g (mobj es' c')) H (K es' c'))(hf:MB es f)(ho:MOk es clock)
 (h:∀es' c',MB es' (λv=>decide (v=k)||f v)->MOk es' c'->clock<=c'->(∀e∈es,e∈es')->VL P none n B w0 ops Q rest env (K es' c')):VL P none n B w0 ops Q (⟨none,.mapUpdate t x y u,ty,pos,after,none⟩::rest) env H:=by
 have h1:=hf k
 cases hk:f k with
 |true=>
  rw[hk,Tm rfl]at h1
  obtain⟨l1,b,l2,rfl,hl,_⟩:=Vx 0 h1
  exact Ymf hx hy hv ht (hu _ _) hl (h _ _ (hf.ext λv=>by by_cases e:v=k<;>simp[e,hk]) ho (TL _) λ_ he=>he)
 |false=>
  rw[hk,Td (by decide)]at h1
  exact Yme hx hy hv ht (hu _ _) h1 (h _ _ (hf.put hk) (ho.put hf hk) (Nat.le_succ _) λ_ he=>Ss _ he)
variable {v:Value}
theorem Ymd{b:Nat}{l1 l2:Ents}{v0:Value}{K:List HP}(hx:evo env x=some (.map (some g)))(hy:evo env y=some (.int .i64 k))(hv:evo env u=some v)(ht:mapT P t kt et=true)
 (hu:Upd (blk g (mobj (l1++(k,v0,b)::l2) clock)) (blk g (mobj (l1++(k,v,b)::l2) clock)) H K) (hk:∀e∈l1,e.1≠k)
 (h:VL P none n B w0 ops Q rest env K):VL P none n B w0 ops Q (⟨none,.insert t x y u,ty,pos,after,none⟩::rest) env H:=by
 obtain⟨h1,h2⟩:=ZU ht
 refine J5 rfl rfl (λa w ha hw=>⟨setBlock w g (mobj (l1++(k,v,b)::l2) clock),?_,hw.setBlock hu⟩) h
 have hb:w.heap[g]? =some (mobj (l1++(k,v0,b)::l2) clock):=by
  obtain⟨L1,L2,rfl,_⟩:=hu
  exact(hw.blk (by simp)).1
 unfold mobj at hb
 have hf:=Qd (l2:=l2) (v0:=v0) (b:=b) hk
 have hsz:(l1++(k,v0,b)::l2).map toE=l1.map toE++toE (k,v0,b)::l2.map toE:=by simp
 have hget:((List.map toE (l1++(k,v0,b)::l2)).toArray)[l1.length]? =some (toE (k,v0,b)):=by rw[hsz];simp
 have hmod:((List.map toE (l1++(k,v0,b)::l2)).toArray).modify l1.length (λe=>{e with key:=.int .i64 k,val:=v})=(List.map toE (l1++(k,v,b)::l2)).toArray:=by
  rw[hsz,List.modify_toArray,show l1.length=(l1.map toE).length by simp,Qi];simp[toE]
 have hks:(Instr.keyThatStays (.int .i64 k) (.int .i64 k)).run P w=.ok (.int .i64 k) w:=by
  unfold Instr.keyThatStays;simp[Instr.sameBits]
 have hkey:(Option.map (λx:MapEntry=>x.key) (some (toE (k,v0,b)))).getD (.int .i64 k)=.int .i64 k:=rfl
 have hrun:(Instr.mapUpdate t (.map (some g)) (.int .i64 k) v).run P w=.ok () (setBlock w g (mobj (l1++(k,v,b)::l2) clock)):=by
  simp only[Instr.mapUpdate,Sem.run_bind,run_underlying h1,getObj,Sem.run,hb,Zm _ h2,MapKept.run_findKey h2 hf,hget,hkey,hks,hmod,Result.andThen,MapKept.run_setObj_map _ hb,setBlock,mobj]
 simp[execOp,ha.eval hx,ha.eval hy,ha.eval hv,hrun]
theorem Yg9(hx:evo env x=some (.map none))(ht:mapT P t kt et=true)(hn:Nat.ble (d+1) n.k=true)
 (h:∀r,VL P none n B w0 ops Q rest ((d,.pointer (some ⟨r,0,none⟩))::env) (blk r (.mapIter none 0 #[] 0)::H)):VL P none n B w0 ops Q (⟨some d,.range t x,ty,pos,after,none⟩::rest) env H:=by
 obtain⟨h1,h2⟩:=ZU ht
 refine XH (λv K=>∃r,v=.pointer (some ⟨r,0,none⟩)/\K=blk r (.mapIter none 0 #[] 0)::H) rfl rfl hn (λa w ha hw=>?_) (by rintro _ _ ⟨g,rfl,rfl⟩;exact h g)
 refine⟨_,_,w.alloc (.mapIter none 0 #[] 0),?_,hw.alloc _,w.heap.size,rfl,rfl⟩
 simp[execOp,ha.eval hx,Instr.range,run_underlying h1,Sem.run,newObj]
theorem Yjg{r:Nat}(hx:evo env x=some (.pointer (some ⟨r,0,none⟩)))(hm:blk r (.mapIter none 0 #[] 0)∈H)(hn:Nat.ble (d+1) n.k=true)
 (h:VL P none n B w0 ops Q rest ((d,.tuple #[.bool false])::env) H):VL P none n B w0 ops Q (⟨some d,.next x false,ty,pos,after,none⟩::rest) env H:=by
 refine Yem rfl rfl hn (λa w ha hw=>⟨w,?_,hw⟩) h
 have hb:=(hw.blk hm).1
 simp[execOp,ha.eval hx,Instr.next,getObj,Sem.run,hb]
theorem Yqt(hx:evo env x=some (.map (some g)))(hy:evo env y=some (.int .i64 k))(hv:evo env u=some (.bool true))(ht:mapT P t kt et=true)(hu:∀es' c',Upd (blk g (mobj es clock)) (blk g (mobj es' c')) H (K es' c'))(hf:MB es f)(ho:MOk es clock)
 (h:∀es' c',MB es' (λv=>decide (v=k)||f v)->MOk es' c'->VL P none n B w0 ops Q rest env (K es' c')):VL P none n B w0 ops Q (⟨none,.insert t x y u,ty,pos,after,none⟩::rest) env H:=by
 have h1:=hf k
 cases hk:f k with
 |true=>
  rw[hk,Tm rfl]at h1
  obtain⟨l1,b,l2,rfl,hl,_⟩:=Vx 0 h1
  refine Ymd hx hy hv ht (hu _ _) hl (h _ _ (hf.ext λv=>by by_cases e:v=k<;>simp[e,hk]) ho)
 |false=>
  rw[hk,Td (by decide)]at h1
  exact Ymc hx hy hv ht (hu _ _) h1 (h _ _ (hf.put hk) (ho.put hf hk))
theorem YkO{K:Ents->List HP}(hx:evo env x=some (.map (some g)))(hy:evo env y=some (.int .i64 k))(ht:mapT P t kt et=true)(hu:∀es',Upd (blk g (mobj es clock)) (blk g (mobj es' clock)) H (K es'))(hf:MB es f)(ho:MOk es clock)(hk:f k=true)
 (h:∀es',MB es' (λv=>!decide (v=k)&&f v)->MOk es' clock->VL P none n B w0 ops Q rest env (K es')):VL P none n B w0 ops Q (⟨none,.call ⟨.builtin .delete,#[x,y],#[t,kt]⟩,ty,pos,after,none⟩::rest) env H:=by
 have h1:=hf k
 have hkn:=ho.kn
 rw[hk,Tm rfl]at h1
 obtain⟨l1,b,l2,rfl,hl,_⟩:=Vx 0 h1
 have hsub:(l1++l2).Sublist (l1++(k,.bool true,b)::l2):=List.Sublist.append (List.Sublist.refl _) (List.sublist_cons_self _ _)
 refine Ymb hx hy ht (hu _) hl (h _ (λv=>?_) ⟨ho.nd.sublist (hsub.map _),ho.kn.sublist (hsub.map _),λe he=>ho.lt e (hsub.subset he)⟩)
 have hv:=hf v
 rw[Ybw]at hv⊢
 by_cases e:v=k
 ·subst e
  rw[T8,Re,Ri,SH]at hkn
  have n1:mget l1 v=none:=by
   unfold mget
   rw[NU.2 λx hx=>by simpa using hl x hx];rfl
  have n2:mget l2 v=none:=by
   unfold mget
   rw[NU.2 λx hx=>by
    have:x.1≠v:=λe=>hkn.2.1.1 (TG.2 ⟨x,hx,e⟩)
    simpa using this];rfl
  rw[n1,n2]
  simp
 ·have hc:mget ((k,Value.bool true,b)::l2) v=mget l2 v:=by
   have:(k==v)=false:=by simpa using NZ e
   simp[mget,this]
  rw[hc]at hv
  rw[hv]
  simp[e]
def YjR(P:Program)(t:TypeId):Bool:=match P.underlying t with|some (.int _)=>true|_=>false
theorem Yh6{t:TypeId}(h:YjR P t=true):∃k,P.underlying t=some (.int k):=by
 unfold YjR at h
 split at h
 ·rename_i k hk;exact⟨k,hk⟩
 ·cases h
theorem YkL(T:Tab P){tx k c:Nat}{A:Option Addr}{es:Nat×Nat×Nat}(hx:evo env x=some (.slice A k c))(ht:look T.sl tx=some es)(hn:Nat.ble (d+1) n.k=true)(h:VL P m n B w0 ops Q rest ((d,.int .i64 c)::env) H):
 VL P m n B w0 ops Q (⟨some d,.call ⟨.builtin .cap,#[x],#[tx]⟩,ty,pos,after,none⟩::rest) env H:=by
 obtain⟨e,size,bytes⟩:=es
 obtain⟨hu,_⟩:=YG (T.slic ht)
 exact Yy rfl rfl hn rfl (λa w ha _=>by simp[execOp,resolve,invoke,builtin,ha.eval hx,Builtin.cap_,run_underlying hu];rfl) h
end
variable {w:World}{K:List HP}
theorem St.putObj{B:Nat}{w0:World}{H:List HP}{g:Nat}{o o':Obj}(h:St B w0 H w)(u:Upd (Eng.blk g o) (Eng.blk g o') H K):St B w0 K (w.putObj g o'):=by
 have hlt:g<w.heap.size:=by
  obtain⟨L1,L2,rfl,_⟩:=u
  exact(h.blk (g:=g) (o:=o) (by simp)).2.2
 refine h.upd u rfl rfl rfl (by simp[World.putObj]) λS1 ⟨h1,_⟩=>⟨⟨h1,World.putObj_heap_same hlt⟩,λb hb _=>World.putObj_heap_other λe=>hb (e▸h1)⟩
theorem YpH(X:HP)(Y M:List HP):Perm (Y++X::M) (X::(Y++M)):=by
 induction Y with
 |nil=>exact .refl _
 |cons A Y ih=>exact(ih.cons A).trans (.swap A X _)
theorem Ynr(X:HP)(Y M:List HP):Perm (X::(Y++M)) (Y++X::M):=by
 induction Y with
 |nil=>exact .refl _
 |cons A Y ih=>exact(Perm.swap X A _).trans (ih.cons A)
theorem Yiw(Y:List HP){L M:List HP}(p:Perm L M):Perm (Y++L) (Y++M):=by
 induction Y with
 |nil=>exact p
 |cons A Y ih=>exact ih.cons A
def Ycl(P:Program)(l:Nat)(args:List Value)(B:Nat)(w0:World)(H:List HP)(Φt Φf:List HP->Prop):Prop:=
 ∀w,St B w0 H w->YieldAt Fence.wide 0 P l args.toArray w λe w'=>
  (e=.returned (.bool true)/\∃K,Φt K/\St B w0 K w')\/(e=.returned (.bool false)/\∃K,Φf K/\St B w0 K w')
def Yb8(P:Program)(gf:Nat)(lb:List Value)(xs:List (List Value))(B:Nat)(w0:World)(HI:List HP):Prop:=
 ∀(l:Nat) (S:Nat->List HP->Prop) (X:List HP->Prop),
  (∀(i:Nat) (args:List Value),xs[i]? =some args->∀(Y L:List HP),S i L->
   Ycl P l args B w0 (Y++many L::HI) (λK=>∃L',S (i+1) L'/\K=Y++many L'::HI) (λK=>∃L',X L'/\K=Y++many L'::HI))->
  ∀L0,S 0 L0->∀w,St B w0 (many L0::HI) w->
   CallsIn Fence.wide 0 P gf (.func (.yield l) #[] #[]::lb).toArray w (Post B w0 λ_ K=>(∃L,S xs.length L/\K=many L::HI)\/∃L,X L/\K=many L::HI)
def jump:Exit->Option Code
 |.ret=>some .ret
 |.exit id=>some (.exit id)
 |_=>none
def YkI{α:Type}(B:Nat)(w0:World)(R:HP)(HI:List HP)(I:α->Prop)(HH:α->List HP)(X:Exit->List HP->Prop):Exit->Act->World->Prop
 |.normal,_,w=>∃y,I y/\St B w0 (R::(HH y++HI)) w
 |.ret,_,w=>∃K,X .ret K/\St B w0 (R::(K++HI)) w
 |.exit id,_,w=>∃K,X (.exit id) K/\St B w0 (R::(K++HI)) w
 |_,_,_=>False
def YkH{α:Type}(P:Program)(l B:Nat)(w0:World)(body:Code)(R:HP)(HI:List HP)(I:α->Prop)(HH:α->List HP)(X:Exit->List HP->Prop):Exit->Act->World->Prop
 |.normal,a,w=>∃K,St B w0 (R::K) w/\∀R' w',St B w0 (R'::K) w'->wpR P (some l) body (YkI B w0 R' HI I HH X) a w'
 |_,_,_=>False
def UG:List Nat->List Value->Env->Env
 |p::ps,v::vs,e=>UG ps vs ((p,v)::e)
 |_,_,e=>e
section
variable {P:Program}{B:Nat}{w0:World}{Q:Exit->Act->World->Prop}{env:Env}{H:List HP}{k:Nat}
variable {α:Type}{l gf n:Nat}{body c:Code}{R:HP}{HI K:List HP}{X:Exit->List HP->Prop}
theorem JO{I:α->Prop}{HH:α->List HP}(hr:Rem R H K)
 (h:∀R',VC P ⟨k,[],some l⟩ B w0 body (YkI B w0 R' HI I HH X) env (R'::K)):VQ ⟨k,[],some l⟩ B w0 (YkH P l B w0 body R HI I HH X) .normal env H:=
 ⟨λa _ ha hw=>⟨K,hw.perm hr,λR' w' hw'=>(h R').run a w' ha hw'⟩⟩
theorem Ug{n:Shp}{I:α->Prop}{HH:α->List HP}(y:α)(hI:I y)(hH:∀w,St B w0 H w->St B w0 (R::(HH y++HI)) w):
 VQ n B w0 (YkI B w0 R HI I HH X) .normal env H:=⟨λ_ w _ hw=>⟨y,hI,hH w hw⟩⟩
theorem QB{n:Shp}{I:α->Prop}{HH:α->List HP}(K:List HP)(hX:X .ret K)(hH:∀w,St B w0 H w->St B w0 (R::(K++HI)) w):
 VQ n B w0 (YkI B w0 R HI I HH X) .ret env H:=⟨λ_ w _ hw=>⟨K,hX,hH w hw⟩⟩
theorem YhS:∀(ps:List Nat) (vs:List Value) (t:Array Value) (e:Env),t.size=k->(∀s v,get e s=some v->t[s]? =some v)->ps.all (λp=>Nat.ble (p+1) k)=true->ps.length=vs.length->
 ((ps.zip vs).foldl (λt (x:Nat×Value)=>t.setIfInBounds x.1 x.2) t).size=k/\∀s v,get (UG ps vs e) s=some v->((ps.zip vs).foldl (λt (x:Nat×Value)=>t.setIfInBounds x.1 x.2) t)[s]? =some v
 |[],[],t,e,hs,hg,_,_=>⟨hs,hg⟩
 |p::ps,v::vs,t,e,hs,hg,hp,hl=>by
  simp only[NV,To]at hp
  have hlt:=T0 hp.1
  refine YhS ps vs (t.setIfInBounds p v) ((p,v)::e) (by simpa using hs) (λs u hu=>?_) hp.2 (by simpa using hl)
  by_cases e2:p=s
  ·subst e2
   rw[get,Tm rfl]at hu
   rw[<-hu,Array.getElem?_setIfInBounds,Tm rfl,Tm (by omega)]
  ·rw[get,Td e2]at hu
   rw[Array.getElem?_setIfInBounds_ne e2]
   exact hg s u hu
variable {ds:List Deferred}{lb:List Value}{xs:List (List Value)}
theorem Zj{g:Operand}{ps:List Nat}{assign:Code}(HI:List HP)(HH:α->List HP)(I:Nat->α->Prop)(X:Exit->List HP->Prop)(x0:α)
 (hg:evo env g=some (.func (.func gf) #[] lb.toArray)) (hc:∀xs w,(callFunc gf xs).run P w=.ok (.enter gf xs) w) (hiter:Yb8 P gf lb xs B w0 HI)
 (hps:ps.all (λp=>Nat.ble (p+1) k)=true) (hlen:∀args∈xs,args.length=ps.length) (hca:calm assign=true) (hcb:calm body=true)
 (hH:∀w,St B w0 H w->St B w0 (HH x0++HI) w) (h0:I 0 x0)
 (hround:∀(l i:Nat) (args:List Value) (R:HP) (x:α),xs[i]? =some args->I i x->VC P ⟨k,[],some l⟩ B w0 assign (YkH P l B w0 body R HI (I (i+1)) HH X) (UG ps args env) (R::(HH x++HI)))
 (hdone:∀D x,I xs.length x->VQ ⟨k,⟨.collected D,#[]⟩::ds,none⟩ B w0 Q .normal env (blk D (.deferred (some []))::(HH x++HI)))
 (hstop:∀D e K,X e K->(jump e).isSome=true->VQ ⟨k,⟨.collected D,#[]⟩::ds,none⟩ B w0 Q e env (blk D (.deferred (some []))::(K++HI))):
 VC P ⟨k,ds,none⟩ B w0 (.rangeFunc g ps.toArray assign body) Q env H:=by
 refine⟨λa w ha hw=>?_⟩
 show(Code.rangeFunc g ps.toArray assign body).wp P Q a w
 refine(wpIn_wide (n:=0)).1 (wpIn_rangeFunc ?_)
 intro fn _
 obtain⟨rec,hrec⟩:∃rec:LoopState->Option Code->Loop,rec=λst pe=>{state:=st,pending:=pe,fn,tmps:=a.tmps,params:=ps.toArray,assign,body,defers:=w.heap.size}:=⟨_,rfl⟩
 have hst:=((hH w hw).alloc (.deferred (some []))).alloc (.loop (rec .ready none))
 rw[World.size_alloc]at hst
 obtain⟨l,hl⟩:∃l,w.heap.size+1=l:=⟨_,rfl⟩
 obtain⟨D,hD⟩:∃D,w.heap.size=D:=⟨_,rfl⟩
 rw[hl,hD]at hst
 obtain⟨W1,hW1⟩:∃W1,(w.alloc (.deferred (some []))).alloc (.loop (rec .ready none))=W1:=⟨_,rfl⟩
 rw[hW1]at hst
 refine⟨l,[⟨.collected D,#[]⟩],W1,{target:=.fn (.func gf) lb.toArray,args:=#[.func (.yield l) #[] #[]]},W1,gf,(.func (.yield l) #[] #[]::lb).toArray,W1,?_,?_,?_,?_,λh=>by simp[Fence.wide]at h,?_⟩
 ·rw[<-hl,<-hD,<-hW1,hrec]
  exact run_enterLoop_outer _ _ _ _ _
 ·simp only[resolve,ha.eval hg]
  simp[go_sem]
 ·intro f' _;trivial
 ·simp[invoke,go_sem,hc]
 ·refine CallsIn.mono (hiter l (λi L=>∃x,I i x/\L=blk l (.loop (rec .ready none))::blk D (.deferred (some []))::HH x)
   (λL=>∃e K c,X e K/\jump e=some c/\L=blk l (.loop (rec .done (some c)))::blk D (.deferred (some []))::K) ?_ _ ⟨x0,h0,rfl⟩ _ (hst.perm (.close (blk l (.loop (rec .ready none))::blk D (.deferred (some []))::HH x0) HI))) ?_
  ·--one round
   rintro i args hx Y L ⟨x,hI,rfl⟩ W hW
   have hp1:∀(lp:Loop) (M:List HP),Perm (Y++many (blk l (.loop lp)::blk D (.deferred (some []))::M)::HI) (many (Y++[blk l (.loop lp),blk D (.deferred (some []))])::(M++HI)):=λlp M=>by
    refine(Yiw Y (.open_ _ _)).trans ?_
    have:Y++((blk l (.loop lp)::blk D (.deferred (some []))::M)++HI)=(Y++[blk l (.loop lp),blk D (.deferred (some []))])++(M++HI):=by simp
    rw[this]
    exact .close _ _
   have hp2:∀(lp:Loop) (M:List HP),Perm (many (Y++[blk l (.loop lp),blk D (.deferred (some []))])::(M++HI)) (Y++many (blk l (.loop lp)::blk D (.deferred (some []))::M)::HI):=λlp M=>by
    refine Perm.trans (.open_ _ _) ?_
    have:(Y++[blk l (.loop lp),blk D (.deferred (some []))])++(M++HI)=Y++((blk l (.loop lp)::blk D (.deferred (some []))::M)++HI):=by simp
    rw[this]
    exact Yiw Y (.close _ _)
   have hpf:∀(lp:Loop) (M:List HP),Perm (many (Y++[blk l (.loop lp),blk D (.deferred (some []))])::M) (blk l (.loop lp)::(Y++blk D (.deferred (some []))::M)):=λlp M=>by
    refine Perm.trans (.open_ _ _) ?_
    have:(Y++[blk l (.loop lp),blk D (.deferred (some []))])++M=Y++blk l (.loop lp)::(blk D (.deferred (some []))::M):=by simp
    rw[this]
    exact YpH _ _ _
   have hpb:∀(lp:Loop) (M:List HP),Perm (blk l (.loop lp)::(Y++blk D (.deferred (some []))::M)) (many (Y++[blk l (.loop lp),blk D (.deferred (some []))])::M):=λlp M=>by
    refine Perm.trans (Ynr _ _ _) ?_
    have:Y++blk l (.loop lp)::(blk D (.deferred (some []))::M)=(Y++[blk l (.loop lp),blk D (.deferred (some []))])++M:=by simp
    rw[this]
    exact .close _ _
   have hW1:=hW.perm (hp1 _ _)
   have hW2:=hW1.perm (hpf _ _)
   have hlp:=(hW2.blk TA).1
   have hal:=hlen args (Tf hx)
   have hy:=run_yield (P:=P) (args:=args.toArray) hlp (by rw[hrec];simp[hal])
   rw[hrec]at hy
   refine⟨fn,_,assign,body,hy,roundIn_of_wpIn trivial ?_⟩
   have hfit:=YhS ps args a.tmps env ha.size (λs v h=>ha.slot s v h) hps hal.symm
   have hz:(ps.toArray.zip args.toArray).foldl (λt (x:Nat×Value)=>t.setIfInBounds x.1 x.2) a.tmps=(ps.zip args).foldl (λt (x:Nat×Value)=>t.setIfInBounds x.1 x.2) a.tmps:=by
    rw[<-Array.foldl_toList];simp
   have hva:=(hround l i args (many (Y++[blk l (.loop (rec .ready none)),blk D (.deferred (some []))])) x hx hI).run
    {tmps:=(ps.toArray.zip args.toArray).foldl (λt (x:Nat×Value)=>t.setIfInBounds x.1 x.2) a.tmps,defers:=[]} W ⟨rfl,by rw[hz];exact hfit.1,λs v h=>by rw[hz];exact hfit.2 s v h⟩ hW1
   refine wpIn_mono (hva (by rintro⟨_,_,h⟩;exact h) hca) ?_
   intro e a1 w1 hq
   cases e with
   |normal=>
    obtain⟨K,hK,hbody⟩:=hq
    have hK2:=hK.perm (hpf _ _)
    have hlp2:=(hK2.blk TA).1
    refine⟨_,run_beginRound hlp2 (by rw[hrec]),?_⟩
    have hK3:=(hK2.putObj (o':=.loop {rec .ready none with state:=.busy}) (.here _)).perm (hpb _ _)
    have hvb:=hbody _ _ hK3
    refine wpIn_mono (hvb (by rintro⟨_,_,h⟩;exact h) hcb) ?_
    intro e a3 w3 hq3
    have fin:∀(jp:Option Code) (M:List HP),St B w0 (many (Y++[blk l (.loop {rec .ready none with state:=.busy}),blk D (.deferred (some []))])::(M++HI)) w3->
     ∃w4,(Instr.endRound l jp).run P w3=.ok (.bool jp.isNone) w4/\St B w0 (Y++many (blk l (.loop (rec (if jp.isNone then .ready else .done) jp))::blk D (.deferred (some []))::M)::HI) w4:=λjp M h3=>by
     have h4:=h3.perm (hpf _ _)
     have h5:=(h4.blk TA).1
     have h6:=run_endRound (P:=P) jp h5
     refine⟨_,h6,?_⟩
     have h7:=((h4.putObj (o':=.loop (rec (if jp.isNone then .ready else .done) jp)) (.here _)).perm (hpb _ _)).perm (hp2 _ _)
     rw[hrec]at h7⊢
     exact h7
    cases e with
    |normal=>
     obtain⟨y,hIy,h3⟩:=hq3
     obtain⟨w4,h5,h6⟩:=fin none _ h3
     exact⟨_,w4,h5,.inl ⟨rfl,_,⟨_,⟨y,hIy,rfl⟩,rfl⟩,h6⟩⟩
    |ret=>
     obtain⟨K3,hX3,h3⟩:=hq3
     obtain⟨w4,h5,h6⟩:=fin (some .ret) _ h3
     exact⟨_,w4,h5,.inr ⟨rfl,_,⟨_,⟨.ret,K3,.ret,hX3,rfl,rfl⟩,rfl⟩,h6⟩⟩
    |exit id=>
     obtain⟨K3,hX3,h3⟩:=hq3
     obtain⟨w4,h5,h6⟩:=fin (some (.exit id)) _ h3
     exact⟨_,w4,h5,.inr ⟨rfl,_,⟨_,⟨.exit id,K3,.exit id,hX3,rfl,rfl⟩,rfl⟩,h6⟩⟩
    |goto t=>exact hq3.elim
    |panic ch=>exact hq3.elim
    |outgrown=>exact hq3.elim
   |ret=>exact hq
   |exit id=>exact hq
   |goto t=>exact hq
   |panic ch=>exact hq
   |outgrown=>exact hq
  ·--behind the iterator
   rintro e W2 ⟨v,K,rfl,hst2,hK⟩
   have hpn:∀st pe,(rec st pe).pending=pe:=λst pe=>by rw[hrec]
   have hds:∀{M:List HP}{w':World},St B w0 M w'->Fits ⟨k,⟨.collected D,#[]⟩::ds,none⟩ {a with defers:=[⟨.collected D,#[]⟩]++a.defers} env:=λ_=>
    ⟨by rw[ha.defers];rfl,ha.size,ha.slot⟩
   rcases hK with⟨L,⟨x,hI,rfl⟩,rfl⟩|⟨L,⟨e,K,c,hX,hj,rfl⟩,rfl⟩
   ·have h1:=hst2.perm (.open_ _ _)
    have h2:=(h1.blk TA).1
    have h3:=run_endLoop (P:=P) h2 (by rw[hrec];simp)
    have h4:=(h1.putObj (o':=.loop {rec .ready none with state:=.exhausted}) (.here _)).tail
    refine⟨none,_,h3.trans (TU (λj=>Result.ok j _) (hpn _ _)),?_⟩
    exact(hdone D x hI).run _ _ (hds h4) h4
   ·have h1:=hst2.perm (.open_ _ _)
    have h2:=(h1.blk TA).1
    have h3:=run_endLoop (P:=P) h2 (by rw[hrec];simp)
    have h4:=(h1.putObj (o':=.loop {rec .done (some c)with state:=.exhausted}) (.here _)).tail
    refine⟨some c,_,h3.trans (TU (λj=>Result.ok j _) (hpn _ _)),?_⟩
    have h5:=(hstop D e K hX (by rw[hj];rfl)).run _ _ (hds h4) h4
    cases e with
    |ret=>obtain rfl:=Tz hj;exact wpIn_ret h5
    |exit id=>obtain rfl:=Tz hj;exact wpIn_exit h5
    |normal=>cases hj
    |goto t=>cases hj
    |panic ch=>cases hj
    |outgrown=>cases hj
variable {fn:Func}{w:World}
theorem Zi{f:FuncId}{args:List Value}{Φ:Value->List HP->Prop}(hf:P.funcs[f]? =some fn)(hn:fn.ntmps=n)(hb:fn.body=some c)
 (hle:Nat.ble args.length n=true) (hw:St B w0 H w) (h:VC P ⟨n,[],none⟩ B w0 c (bodyPostM Fence.wide 0 P fn (Post B w0 Φ)) (WY 0 args) H):Calls P f args.toArray w (Post B w0 Φ):=by
 refine(callsIn_wide (n:=0)).1 (callsIn_of_wp_marks hf hb trivial ((wpIn_wide (n:=0)).2 (h.run _ w ⟨rfl,?_,λt v ht=>?_⟩ hw)))
 ·have:=T0 hle;simp;omega
 ·obtain⟨_,h2⟩:=Qe args 0 t v ht
  rw[Nat.sub_zero]at h2
  have hlt:t<args.length:=by
   rcases SB t args.length with h|h
   ·exact h
   ·rw[RP h]at h2;cases h2
  rw[Array.getElem?_append_left (by simpa using hlt)]
  simpa using h2
theorem Yib{R:Ending->World->Prop}{a:Act}(h:bodyPost P fn R .ret a w):bodyPostM Fence.wide 0 P fn R .ret a w:=by
 obtain⟨h1,h2⟩:=h
 show LeavesInM Fence.wide 0 P fn a.tmps R a.defers .returning w
 rw[h1]
 exact h2
theorem VQ_m{R:Ending->World->Prop}(h:VQ ⟨n,[],none⟩ B w0 (bodyPost P fn R) .ret env H):VQ ⟨n,[],none⟩ B w0 (bodyPostM Fence.wide 0 P fn R) .ret env H:=
 ⟨λa w ha hw=>Yib (h.run a w ha hw)⟩
theorem ZR{D:Nat}{R:Ending->World->Prop}{H':List HP}(hr:Rem (blk D (.deferred (some []))) H H')(h:VQ ⟨n,ds,none⟩ B w0 (bodyPostM Fence.wide 0 P fn R) .ret env H'):
 VQ ⟨n,⟨.collected D,#[]⟩::ds,none⟩ B w0 (bodyPostM Fence.wide 0 P fn R) .ret env H:=by
 refine⟨λa w ha hw=>?_⟩
 show LeavesInM Fence.wide 0 P fn a.tmps R a.defers .returning w
 rw[ha.defers]
 have hw2:=hw.perm hr
 have hb:=(hw2.blk TA).1
 refine⟨by simp,.inl ⟨D,_,rfl,run_takeDeferred hb,?_⟩⟩
 have h3:=(hw2.putObj (o':=.deferred none) (.here _)).tail
 exact h.run {a with defers:=ds} _ ⟨rfl,ha.size,ha.slot⟩ h3
theorem Of{ops:Array Oper}(hlo:¬LetsOut Q):∀(os:List Oper) (a:Act) (w:World),wpList P ops Q os a w->wpListIn Fence.wide 0 P ops Q os a w
 |[],_,_,h=>h
 |o::os,a,w,h=>by
  unfold wpList at h
  unfold wpListIn
  split
  ·rename_i hw
   rw[Tm hw]at h
   rcases h with h|⟨_,h⟩
   ·refine⟨λf _=>trivial,?_⟩
    have h2:=Oper.wp_mono (λa w h=>Of hlo os a w h) h
    unfold Oper.wp at h2
    have hs:Oper.semAt Fence.wide.round a.eval o=execOp a.eval o:=Oper.semAt_none _ _
    rw[hs]
    generalize(execOp a.eval o).run P w=res at h2⊢
    cases res with
    |ok x w'=>
     cases x<;>simp only[Oper.upon,Oper.uponIn]at h2⊢<;>first
      |exact h2
      |(refine⟨λhd=>by simp[Fence.wide]at hd,?_⟩
        refine CallsIn.mono (callsIn_wide.2 h2) λe w'' he=>?_
        cases e<;>exact he)
      |(refine⟨λhd=>by simp[Fence.wide]at hd,λc cs _=>?_⟩
        obtain⟨v,w2,k1,k2⟩:=h2 c cs
        exact⟨v,w2,k1,stepsIn_wide.2 k2⟩)
      |exact h2.elim
    |halt x w'=>cases x<;>simp only[Oper.upon,Oper.uponIn]at h2⊢<;>first|exact h2|exact h2.elim
   ·exact(hlo h).elim
  ·rename_i hw
   rw[Td hw]at h
   exact⟨λf _=>trivial,Of hlo os _ w h⟩
def YQ(P:Program)(ops:Array Oper)(Q:Exit->Act->World->Prop)(l:List Oper):Exit->Act->World->Prop
 |.normal,a,w=>wpListIn Fence.wide 0 P ops Q l a w
 |e,a,w=>Q e a w
theorem Ydd{ops:Array Oper}{l:List Oper}(hlo:¬LetsOut Q):∀(os:List Oper) (a:Act) (w:World),wpList P ops (YQ P ops Q l) os a w->wpListIn Fence.wide 0 P ops Q (os++l) a w
 |[],_,_,h=>h
 |o::os,a,w,h=>by
  unfold wpList at h
  rw[TC]
  unfold wpListIn
  split
  ·rename_i hw
   rw[Tm hw]at h
   rcases h with h|⟨_,h⟩
   ·refine⟨λf _=>trivial,?_⟩
    have h2:=Oper.wp_mono (λa w h=>Ydd hlo os a w h) h
    unfold Oper.wp at h2
    have hs:Oper.semAt Fence.wide.round a.eval o=execOp a.eval o:=Oper.semAt_none _ _
    rw[hs]
    generalize(execOp a.eval o).run P w=res at h2⊢
    cases res with
    |ok x w'=>
     cases x<;>simp only[Oper.upon,Oper.uponIn]at h2⊢<;>first
      |exact h2
      |(refine⟨λhd=>by simp[Fence.wide]at hd,?_⟩
        refine CallsIn.mono (callsIn_wide.2 h2) λe w'' he=>?_
        cases e<;>exact he)
      |(refine⟨λhd=>by simp[Fence.wide]at hd,λc cs _=>?_⟩
        obtain⟨v,w2,k1,k2⟩:=h2 c cs
        exact⟨v,w2,k1,stepsIn_wide.2 k2⟩)
      |exact h2.elim
    |halt x w'=>cases x<;>simp only[Oper.upon,Oper.uponIn]at h2⊢<;>first|exact h2|exact h2.elim
   ·exact(hlo h).elim
  ·rename_i hw
   rw[Td hw]at h
   exact⟨λf _=>trivial,Ydd hlo os _ w h⟩
theorem Ycb{id:Nat}{l:List Oper}(k:Nat){l1 l2:List Oper}(h1:l.take k=l1)(h2:l.drop k=l2)(hlo:¬LetsOut Q)(h:VL P none ⟨n,ds,none⟩ B w0 l.toArray (YQ P l.toArray Q l2) l1 env H):
 VC P ⟨n,ds,none⟩ B w0 (.region id l.toArray false) Q env H:=by
 refine⟨λa w ha hw=>?_⟩
 refine(wpIn_wide (n:=0)).1 (wpIn_region_lit ?_)
 have:=Ydd hlo _ _ _ (h.run a ha w hw)
 rw[<-h1,<-h2,SC]at this
 exact this
variable {ops:Array Oper}{ty:TypeId}{pos:String}{after:Array Edge}{rest:List Oper}
theorem Yck{d:Nat}{x:Operand}{args:List Operand}{tys:Array TypeId}{gd:Option (Nat×Bool)}{vs:List Value}(Φt Φf:List HP->Prop)
 (hgd:∀a:Act,Fits ⟨n,ds,none⟩ a env->Region.wanted ⟨some d,.call ⟨.value x,args.toArray,tys⟩,ty,pos,after,gd⟩ (yielded ops a.tmps)=true)
 (hx:evo env x=some (.func (.yield l) #[] #[])) (hargs:Args env args vs) (hn:Nat.ble (d+1) n=true) (hlo:¬LetsOut Q) (hy:Ycl P l vs B w0 H Φt Φf)
 (ht:∀K,Φt K->VL P none ⟨n,ds,none⟩ B w0 ops Q rest ((d,.bool true)::env) K)
 (hf:∀K,Φf K->VL P none ⟨n,ds,none⟩ B w0 ops Q rest ((d,.bool false)::env) K):
 VQ ⟨n,ds,none⟩ B w0 (YQ P ops Q (⟨some d,.call ⟨.value x,args.toArray,tys⟩,ty,pos,after,gd⟩::rest)) .normal env H:=by
 refine⟨λa w ha hw=>?_⟩
 show wpListIn Fence.wide 0 P ops Q _ a w
 unfold wpListIn
 rw[Tm (hgd a ha)]
 refine⟨λf _=>trivial,?_⟩
 obtain⟨fn,tmps,assign,body,hrun,hround⟩:=hy w hw
 have hmap:args.toArray.map a.eval=vs.toArray:=by rw[SY,Uw ha _ _ hargs]
 have hs:Oper.semAt Fence.wide.round a.eval ⟨some d,.call ⟨.value x,args.toArray,tys⟩,ty,pos,after,gd⟩=execOp a.eval ⟨some d,.call ⟨.value x,args.toArray,tys⟩,ty,pos,after,gd⟩:=Oper.semAt_none _ _
 rw[hs]
 have hex:(execOp a.eval ⟨some d,.call ⟨.value x,args.toArray,tys⟩,ty,pos,after,gd⟩).run P w=.ok (.round l fn tmps assign body) w:=by
  simp only[execOp,resolve,ha.eval hx,hmap,Deferred.ofValue,Sem.run_bind,Sem.run_pure,Result.andThen_ok,invoke]
  simpa using hrun
 rw[hex,Oper.uponIn_round]
 refine⟨λhd=>by simp[Fence.wide]at hd,RoundIn.mono hround ?_⟩
 rintro e w' (⟨rfl,K',hΦ,hst⟩|⟨rfl,K',hΦ,hst⟩)
 ·exact Of hlo _ _ _ ((ht K' hΦ).run _ (ha.put (T0 hn) _) _ hst)
 ·exact Of hlo _ _ _ ((hf K' hΦ).run _ (ha.put (T0 hn) _) _ hst)
theorem Yhf{o:Oper}(hlo:¬LetsOut Q)(h:VL P none ⟨n,ds,none⟩ B w0 ops Q (o::rest) env H):VQ ⟨n,ds,none⟩ B w0 (YQ P ops Q (o::rest)) .normal env H:=
 ⟨λa w ha hw=>Of hlo _ _ _ (h.run a ha w hw)⟩
variable {dst:Option Tmp}{op:Op}
theorem YbJ:∀a:Act,Fits ⟨n,ds,none⟩ a env->Region.wanted ⟨dst,op,ty,pos,after,none⟩ (yielded ops a.tmps)=true:=λ_ _=>by simp[Region.wanted]
theorem YbK{j s:Nat}{b:Bool}{oj:Oper}(hj:ops[j]? =some oj)(hs:oj.dst=some s)(hv:get env s=some (.bool b)):
 ∀a:Act,Fits ⟨n,ds,none⟩ a env->Region.wanted ⟨dst,op,ty,pos,after,some (j,b)⟩ (yielded ops a.tmps)=true:=λa ha=>by simp[Region.wanted,yielded,hj,hs,ha.slot s _ hv]
theorem Yb9(hf:P.funcs[gf]? =some fn)(hn:fn.ntmps=n)(hb:fn.body=some c)(hle:Nat.ble (lb.length+1) n=true)
 (h:∀(l:Nat) (S:Nat->List HP->Prop) (X:List HP->Prop),
  (∀(i:Nat) (args:List Value),xs[i]? =some args->∀(Y L:List HP),S i L->
   Ycl P l args B w0 (Y++many L::HI) (λK=>∃L',S (i+1) L'/\K=Y++many L'::HI) (λK=>∃L',X L'/\K=Y++many L'::HI))->
  ∀L0,S 0 L0->VC P ⟨n,[],none⟩ B w0 c (bodyPost P fn (Post B w0 λ_ K=>(∃L,S xs.length L/\K=many L::HI)\/∃L,X L/\K=many L::HI)) (WY 0 (.func (.yield l) #[] #[]::lb)) (many L0::HI)):Yb8 P gf lb xs B w0 HI:=by
 intro l S X hy L0 h0 w hw
 exact callsIn_wide.2 (Yc (args:=.func (.yield l) #[] #[]::lb) hf hn hb hle hw (h l S X hy L0 h0))
end
section
variable {P:Program}{m:Mode}{n:Shp}{B:Nat}{w0:World}{ops:Array Oper}{Q:Exit->Act->World->Prop}{rest:List Oper}{env:Env}{H:List HP}{d:Nat}{ty:TypeId}{pos:String}{after:Array Edge}
theorem QA(T:Tab P){t g o k e size:Nat}{x:Operand}(hx:evo env x=some (.pointer (some ⟨g,o,none⟩)))(ht:look T.ar t=some (k,e,size))(hn:Nat.ble (d+1) n.k=true)
 (h:VL P m n B w0 ops Q rest ((d,.slice (some ⟨g,o,none⟩) k k)::env) H):
 VL P m n B w0 ops Q (⟨some d,.slice t x none none none,ty,pos,after,none⟩::rest) env H:=by
 obtain⟨inf,hu,hinf,hs⟩:=Yhm (T.arra ht)
 refine Yy rfl rfl hn rfl (λa w ha hw=>?_) h
 simp[execOp,ha.eval hx,Instr.sliceAt,Instr.sliceBounds,Instr.sureAddr,run_underlying hu,sizeOf,typeInfo,hinf,Addr.add_lit]
theorem Yhj:∀(L:List HP),App L [] L
 |[]=>rfl
 |_::L=>⟨rfl,Yhj L⟩
theorem Xv{id:Nat}{l:List Oper}(o1 last:List Nat)(hm:P.follows .mixedOrders=true)
 (hB:(Region.noSelect l.toArray&&decide ((o1++last).length=l.toArray.size)&&Ye6 l.toArray last&&(o1.all λj=>!last.contains j)&&Wt l.toArray (o1++last) (Array.replicate l.toArray.size false))=true)
 {l1 l2:List Oper}(hl1:Yg l o1=l1) (hl2:Yg l last=l2) (h:VL P (some (some [])) n B w0 l.toArray (Jd P l.toArray (Only Q) l2) l1 env H):VC P n B w0 (.region id l.toArray true) Q env H:=by
 simp only[To,Tq]at hB
 obtain⟨⟨⟨⟨h1,h2⟩,h3⟩,h4⟩,h5⟩:=hB
 refine⟨λa w ha hw=>ZQ (Q:=Only Q) ?_ λe a w h=>by cases e<;>first|exact h|cases h⟩
 have hst:St B w0 (H++[]) w.drew:=by rw[TM];exact hw.drew
 have hr:Ys P l.toArray (Jd P l.toArray (Only Q) l2) (St B w0 H) l1 a w.drew:=h.run a ha w.drew hst
 rw[<-hl1,<-hl2]at hr
 have:=V0 (S:=St B w0 H) h1 (λc a w h=>h) (by rintro⟨_,_,h⟩;exact h) l rfl h3 o1 _ a w.drew (XU _ _) (λj hj=>by simpa using TI.1 h4 j hj) h5 hst.prefix_ hr
 rw[h2]at this
 exact VE hm (ZP _ _ _ _ this)
end
section
variable {P:Program}{B:Nat}{w0 w:World}{H:List HP}
variable {f:Nat}{xs:Array Value}
theorem W3{Φ:Value->Prop}(hw:St B w0 H w)(h:Calls P f xs w (Post w.heap.size w λu _=>Φ u)):Calls P f xs w (Post B w0 λu K=>Φ u/\K=H):=
 h.mono λ_ _ ⟨u,_,e1,hst,hΦ⟩=>⟨u,H,e1,hw.grow hst.below,hΦ,rfl⟩
theorem Yjo{u:Value}(hw:St B w0 H w)(h:Calls P f xs w λe w'=>e=.returned u/\Below w.heap.size w w'):Calls P f xs w (Post B w0 λv K=>v=u/\K=H):=
 h.mono λ_ _ ⟨e1,hb⟩=>⟨u,H,e1,hw.grow hb,rfl,rfl⟩
variable {A:Option Addr}
theorem Rd.here{xs:List Value}(hr:Rd B w0 H A xs)(hw:St B w0 H w):Rd w.heap.size w [] A xs:=Rd.old λj v hv=>by
 obtain⟨g,o,e1,hc⟩:=hr w hw j v hv
 refine⟨g,o,e1,?_,hc⟩
 rcases SB g w.heap.size with h|h
 ·exact h
 ·simp[World.cell?,Array.getElem?_eq_none h]at hc
theorem Perm.openT(H:List HP):Perm [many H] H:=by
 have:=Perm.open_ H []
 rwa [TM]at this
theorem Perm.closeT(H:List HP):Perm H [many H]:=by
 have:=Perm.close H []
 rwa [TM]at this
theorem Rd.tail{xs:List Value}(h:Rd B w0 H A xs):Rd B w0 [many H] A xs:=h.mono λ_ hw=>hw.perm (.openT _)
end
end Go.Eng
