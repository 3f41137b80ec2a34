/- Lemmas. -/
import Derived.Lib.AppendZeros
import Derived.RangeFuncFrom
import Derived.RangeFuncNested
import Derived.RangeFuncLeaves
import Derived.Lib.OthersKept
import Derived.Lib.AppendStr
import Derived.Laws.Externs
import Derived.Laws.CopyRow
import Derived.Lib.AppendZerosOnto
import Derived.Lib.Overlaps
import Derived.Test.YtjommdkgfbhbdaaGreatDoorQ4
set_option maxRecDepth 100000
set_option maxHeartbeats 8000000
set_option linter.all false
namespace Go.Proofs.YtjommdkgfbhbdaaGreatDoor
open Go.RowKit Go.Eng Go.Nw
theorem Ydl{n:Net}{a b:Int}{r:List Int}{p:Int}(h1:n.power[a.toNat]? =some r)(h2:r[b.toNat]? =some p):powr n a b=p:=by grind [powr]
variable {B:Nat}{w0 w:World}{H:List HP}
theorem Ycd(n:NetM)(i:Nat)(hin:n.In B w0 H)(hi:i<n.links.length)(hml:n.margin.length=n.links.length)(ht:JJ n.net=0)(hw:St B w0 H w):
 CX B w0 282 [n.val,.int .i64 i] w λv K=>v=.int .i64 (Wm n.net i)/\K=H:=by
 refine Ya Tryz.func282 Tryz.ntmps282 rfl rfl hw ?_
 obtain⟨hpw,hrw,hlk,hmg,hs1,hs2,hs3,hs4⟩:=hin
 obtain⟨t1,t2,t3⟩:=YdG ht
 obtain⟨l,hl⟩:∃l,n.links[i]? =some l:=⟨_,Ta hi⟩
 obtain⟨z,hz⟩:∃z,n.margin[i]? =some z:=⟨_,Ta (by omega)⟩
 have e1:lnk n.net i=l:=Jp hl
 have e2:mar n.net i=z:=Oj hz
 have e3:n.net.nodes=n.nodes:=rfl
 have e4:n.net.power.length=n.rows.length:=by simp[NetM.net]
 rw[e4,e3]at t1
 unfold Wm
 rw[e1,e2,e3]
 by_cases h1:0<=l.1/\l.1<n.nodes
 rotate_left
 ·skip
  repeat'(first|((apply JA (cs:=[_]));exact rfl;exact Yls;exact za;exact rfl;exactλ_ hw=>(Qj n _ _ zm hw);all_goals(intro hB;(try simp only[Tm,Tv]at hB);try exact zo))|(apply zg29;(apply Yu;exact za;exact rfl))|refine zgd ?_|(refine zgh ?_;intro _)|fail)
  exact zc84
 by_cases h2:0<=l.2.1/\l.2.1<n.nodes
 rotate_left
 ·skip
  repeat'(first|((apply JA (cs:=[_]));exact rfl;exact Yls;exact za;exact rfl;exactλ_ hw=>(Qj n _ _ zm hw);all_goals(intro hB;(try simp only[Tm,Tv]at hB);try exact zo))|(apply zg29;(apply Yu;exact za;exact rfl))|refine zgd ?_|(refine zgh ?_;intro _)|fail)
  exact zc84
 obtain⟨r,hr⟩:∃r,n.rows[l.1.toNat]? =some r:=⟨_,Ta (by omega)⟩
 have hrm:r∈n.rows:=Tc hr
 have hrr:=hrw r hrm
 have hrs:=hs2 r hrm
 have hrl:(r.xs.length:Int)=n.nodes:=t2 r.xs (TG.2 ⟨r,hrm,rfl⟩)
 obtain⟨p,hp⟩:∃p,r.xs[l.2.1.toNat]? =some p:=⟨_,Ta (by omega)⟩
 rw[Ydl (n:=n.net) (r:=r.xs) (by simp[NetM.net,hr]) hp]
 by_cases h0:0<i
 ·obtain⟨q,hq⟩:∃q,n.links[((i:Int)-1).toNat]? =some q:=⟨_,Ta (by omega)⟩
  rw[show lnk n.net (i-1)=q from Jp YuU]
  repeat'(first|((first|apply JA (cs:=[_])|apply Yjs (cs:=[_]));exact rfl;exact Yls;exact za;exact rfl;exactλ_ hw=>(Qj n _ _ zm hw);all_goals(intro hB;(try simp only[Tm,Tv]at hB);try exact zo))|((apply Ym Yhz);exact za;exact rfl;exactλ_ hw=>(Va q l hw))|(apply zg28;first|refine zs83 ?_|refine zs84 ?_)|(apply zg29;(apply Yu;exact za;exact rfl))|refine zgd ?_|(refine zgf ?_ ?_<;>intro _<;>try exact zo)|(refine zgh ?_;intro _)|fail)
  all_goals(((repeat apply Yj);apply Yc;exact rfl;exact rfl;refine⟨TA _ ?_,rfl⟩);(repeat(first|refine Xs (by omega) ?_|refine Xt (by omega) ?_));rfl)
 ·skip
  repeat'(first|((apply JA (cs:=[_]));exact rfl;exact Yls;exact za;exact rfl;exactλ_ hw=>(Qj n _ _ zm hw);all_goals(intro hB;(try simp only[Tm,Tv]at hB);try exact zo))|((first|apply Yb Yhz|apply Ym Yhz);exact za;exact rfl;exactλ_ hw=>(Va _ _ hw))|(apply zg28;first|refine zs83 ?_|refine zs84 ?_)|(apply zg29;(apply Yu;exact za;exact rfl))|refine zgd ?_|(refine zgf ?_ ?_<;>intro _<;>try exact zo)|(refine zgh ?_;intro _)|fail)
  all_goals(((repeat apply Yj);apply Yc;exact rfl;exact rfl;refine⟨TA _ ?_,rfl⟩);(repeat(first|refine Xs (by omega) ?_|refine Xt (by omega) ?_));rfl)
theorem Xa(n:NetM)(hin:n.In B w0 H)(hw:St B w0 H w):
 CX B w0 209 [n.val] w λv K=>v=.int .i64 (Yo n.net)/\K=H:=by
 refine Ya Tryz.func209 Tryz.ntmps209 rfl rfl hw ?_
 have e3:n.net.nodes=n.nodes:=rfl
 have e5:n.net.noise=n.noise:=rfl
 have e6:n.net.thr=n.thr:=rfl
 have e7:n.net.links=n.links:=rfl
 have e8:n.net.margin=n.margin:=rfl
 have hs1:=hin.s1
 have hs3:=hin.s3
 have hs4:=hin.s4
 unfold Yo
 rw[e3,e5,e6,e7,e8]
 (apply Y5;apply YL;apply Yx;exact rfl;exact rfl;intro g)
 repeat'(first|((apply Yb Yw6);exact za;exact rfl;exactλ_ hw=>(Ybj n hin.cons hw))|refine zgd ?_|(refine zgf ?_ ?_<;>intro _<;>try exact zo)|fail)
 any_goals(((repeat apply Yj);apply Yc;exact rfl;exact rfl;refine⟨TA _ ?_,rfl⟩);(repeat(first|refine Xs (by omega) ?_|refine Xt (by omega) ?_));rfl)
 have ht:JJ n.net=0:=by assumption
 refine Ye (λ(k:Nat)=>[(54,.int .i64 k),(53,.int .i64 n.links.length),(1,.pointer (some ⟨g,0,none⟩))]) (λ_=>netB g n::H) (λk=>k<=n.links.length/\JE n.net n.links.length 0=JE n.net (n.links.length-k) k) (λk=>n.links.length-k) 0 ⟨Td _,rfl⟩ ?_ (λw hw=>hw) ?_
 ·exact zc1
 rintro k ⟨hk,hi⟩ K hK
 by_cases hlt:k<n.links.length
 ·skip
  repeat'(first|((apply Yb Yw7);exact za;exact rfl;exactλ_ hw=>(Ycd n k hin.cons hlt (by omega) ht hw))|refine zgd ?_|(refine zge ?_ ?_<;>intro _<;>try exact zo)|fail)
  ·exact zc61
  ·apply hK (k+1)
   ·exact YuF
   ·omega
   ·exact zc1
   exact zc18
 ·refine zX1 ?_<;>intros
  exact zc67
variable {B:Nat}{w0 w:World}{H:List HP}
theorem YiU(n:NetM)(t:Lk)(hin:n.In B w0 H)(hok:Ok n.net)(hw:St B w0 H w):
 CX B w0 395 [.slice n.lA n.links.length n.lcap,lkV t,.func (.func 343) #[] #[]] w λv K=>∃k:Nat,
  v=.tuple #[.int .i64 k,.bool (decide (k<n.links.length/\cmpL (lnk n.net k) t=0))]/\k<=n.links.length/\(∀j,j<k->cmpL (lnk n.net j) t<0)/\(∀j,k<=j->j<n.links.length->0<=cmpL (lnk n.net j) t)/\K=H:=by
 refine Ya Tryz.func395 Tryz.ntmps395 rfl rfl hw ?_
 obtain⟨hpw,hrw,hlk,hmg,hs1,hs2,hs3,hs4⟩:=hin
 have hl8:n.links.length<=128:=hok.k0
 (apply Y5;apply YL;apply Yx;exact rfl;exact rfl;intro g)
 refine zX9 ?_
 refine Wt (λ(lo hi:Nat)=>[(9,.int .i64 lo),(10,.int .i64 hi),(8,.int .i64 n.links.length),(0,.slice n.lA n.links.length n.lcap),(2,.func (.func 343) #[] #[]),(4,.pointer (some ⟨g,0,none⟩))]) (λ_ _=>blk g (.cells #[.int .i64 t.1,.int .i64 t.2.1,.int .i64 t.2.2] 164 (0,0))::H)
  (λlo hi=>lo<=hi/\hi<=n.links.length/\(∀j,j<lo->cmpL (lnk n.net j) t<0)/\(∀j,hi<=j->j<n.links.length->0<=cmpL (lnk n.net j) t)) (λlo hi=>hi-lo) 0 n.links.length ⟨by omega,by omega,λj hj=>by omega,λj h1 h2=>by omega⟩ ?_ (λw hw=>hw) ?_
 ·exact zc1
 rintro lo hi ⟨h1,h2,h3,h4⟩ K hK
 by_cases hlt:lo<hi
 ·obtain⟨b,hb⟩:∃b,n.links[(((lo:Int)+hi)/2).toNat]? =some b:=⟨_,Ta (by omega)⟩
  have hm:(((lo:Int)+hi)/2).toNat=(lo+hi)/2:=by omega
  have eb:lnk n.net ((lo+hi)/2)=b:=by rw[<-hm];exact Jp hb
  repeat'(first|((apply Zt (cs:=[]));exact rfl;exact Yhz;exact za;exact rfl;exactλ_ hw=>(Va b t hw))|(apply zg28;refine zs84 ?_)|refine zgd ?_|(refine zge ?_ ?_<;>intro _<;>try exact zo)|fail)
  ·rename_i hc
   apply hK ((lo+hi)/2+1) hi
   ·refine⟨by omega,by omega,λj hj=>?_,h4⟩
    by_cases e:j=(lo+hi)/2
    ·rw[e,eb];exact hc
    ·have h5:=YdE hok j ((lo+hi)/2) (by omega) (by show _<n.links.length;omega)
     rw[eb]at h5
     rw[Vq]at*
     omega
   ·omega
   ·exact zc1
   exact zc18
  ·rename_i hc
   apply hK lo ((lo+hi)/2)
   ·refine⟨by omega,by omega,h3,λj hj hjl=>?_⟩
    by_cases e:j=(lo+hi)/2
    ·rw[e,eb];exact hc
    ·have h5:=YdE hok ((lo+hi)/2) j (by omega) hjl
     rw[eb]at h5
     have h6:¬cmpL b t<0:=by omega
     have h7:¬cmpL (lnk n.net j) t<0:=by
      rw[Vq]at*
      omega
     omega
   ·omega
   ·exact zc1
   exact zc18
 ·obtain rfl:lo=hi:=by omega
  by_cases hl:lo<n.links.length
  ·obtain⟨b,hb⟩:∃b,n.links[lo]? =some b:=⟨_,Ta hl⟩
   have eb:lnk n.net lo=b:=Jp hb
   repeat'(first|((apply Zt (cs:=[]));exact rfl;exact Yhz;exact za;exact rfl;exactλ_ hw=>(Va b t hw))|(apply zg28;refine zs84 ?_)|refine zgd ?_|(refine zge ?_ ?_<;>intro _<;>try exact zo)|fail)
   all_goals(apply Yj;apply YJ;(iterate 3 exact rfl);refine⟨lo,?_,h2,h3,h4,rfl⟩;rw[eb])
   ·rw[Ti ⟨hl,by assumption⟩]
   ·rw[Tn λhc=>absurd hc.2 (by assumption)]
  ·refine zX18 ?_<;>intros
   apply Yj;apply YJ;(iterate 3 exact rfl)
   refine⟨lo,?_,h2,h3,h4,rfl⟩
   rw[Tn λhc=>hl hc.1]
theorem Yad(n:NetM)(a b:Int)(hin:n.In B w0 H)(hok:Ok n.net)(hw:St B w0 H w):
 CX B w0 347 [n.val,.int .i64 a,.int .i64 b] w λv K=>v=.int .i64 (Yv n.net a b)/\K=H:=by
 refine Ya Tryz.func347 Tryz.ntmps347 rfl rfl hw ?_
 (apply Y5;apply YL;apply Yx;exact rfl;exact rfl;intro g)
 refine zX3 ?_
 apply Yg _ YxH
 exact za
 exact rfl
 exactλ_ hw=>(YiU n (a,b,0) hin.cons hok (hw))
 rintro _ _ ⟨k,rfl,hk,h1,h2,rfl⟩
 have hf:=YhJ hok hk h1 h2
 rw[hf]
 by_cases hc:k<n.links.length/\cmpL (lnk n.net k) (a,b,0)=0
 ·rw[Ti hc]
  refine zX3 ?_
  ((repeat apply Yj);apply Yc;exact rfl;exact rfl;refine⟨TA _ ?_,rfl⟩)
  exact(To hc).symm
 ·rw[Tn hc]
  refine zX3 ?_
  ((repeat apply Yj);apply Yc;exact rfl;exact rfl;refine⟨TA _ ?_,rfl⟩)
  exact(Tf hc).symm
def Zb(n:Net)(a b:Int):Int:=if Yo n≠0 then -1 else Yv n a b
theorem Zl(n:NetM)(a b:Int)(hin:n.In B w0 H)(hw:St B w0 H w):
 CX B w0 287 [n.val,.int .i64 a,.int .i64 b] w λv K=>v=.int .i64 (Zb n.net a b)/\K=H:=by
 refine Ya Tryz.func287 Tryz.ntmps287 rfl rfl hw ?_
 unfold Zb
 repeat'(first|((apply Yb XQ);exact za;exact rfl;exactλ_ hw=>(Xa n hin.cons hw))|((apply Yb Yo4);exact za;exact rfl;exactλ_ hw=>(Yad n _ _ hin.cons (YP (by assumption)) hw))|refine zgb ?_|(refine zge ?_ ?_<;>intro _<;>try exact zo)|(refine zgh ?_;intro _)|fail)
 all_goals(((repeat apply Yj);apply Yc;exact rfl;exact rfl;refine⟨TA _ ?_,rfl⟩);(repeat(first|refine Xs (by omega) ?_|refine Xt (by omega) ?_));rfl)
theorem YcR(n:NetM)(s d:Int)(hok:Ok n.net)(hs:0<=s/\s<=8796093022208)(hd:0<=d/\d<=8796093022208)(hw:St B w0 H w):
 CX B w0 386 [n.val,.int .i64 s,.int .i64 d] w λv K=>v=.bool (XM n.net s d)/\K=H:=by
 refine Ya Tryz.func386 Tryz.ntmps386 rfl rfl hw ?_
 exact zc17
def Zk(n:Net)(s d:Int):Bool:=decide (Yo n=0)&&(decide (0<=s/\0<=d/\s<=8796093022208/\d<=8796093022208)&&XM n s d)
theorem OM(n:NetM)(s d:Int)(hin:n.In B w0 H)(hw:St B w0 H w):
 CX B w0 330 [n.val,.int .i64 s,.int .i64 d] w λv K=>v=.bool (Zk n.net s d)/\K=H:=by
 refine Ya Tryz.func330 Tryz.ntmps330 rfl rfl hw ?_
 unfold Zk
 by_cases h0:Yo n.net=0
 rotate_left
 ·rw[Tn h0]
  refine zX19 ?_<;>intros
  (repeat apply Yj);apply Yc;exact rfl;exact rfl
  simp_all
 rw[Ti h0]
 by_cases h1:0<=s/\0<=d/\s<=8796093022208/\d<=8796093022208
 rotate_left
 ·rw[Tn h1]
  repeat'(first|((apply Yb XQ);exact za;exact rfl;exactλ_ hw=>(Xa n hin.cons hw))|refine zgc ?_|(refine zgf ?_ ?_<;>intro _<;>try exact zo)|(refine zgh ?_;intro _)|fail)
  all_goals((repeat apply Yj);apply Yc;exact rfl;exact rfl;exact⟨rfl,rfl⟩)
 rw[Ti h1]
 repeat'(first|((apply Yb XQ);exact za;exact rfl;exactλ_ hw=>(Xa n hin.cons hw))|((apply Yb Ytq);exact za;exact rfl;exactλ_ hw=>(YcR n _ _ (YP h0) (by omega) (by omega) hw))|refine zgc ?_|(refine zgf ?_ ?_<;>intro _<;>try exact zo)|(refine zgh ?_;intro _)|fail)
 all_goals((repeat apply Yj);apply Yc;exact rfl;exact rfl;exact⟨rfl,rfl⟩)
theorem Yi7(n:NetM)(i:Nat)(hin:n.In B w0 H)(hok:Ok n.net)(hi:i<n.links.length)(hw:St B w0 H w):
 CX B w0 346 [n.val,.int .i64 i] w λv K=>v=.bool (Z4 n.net i)/\K=H:=by
 refine Ya Tryz.func346 Tryz.ntmps346 rfl rfl hw ?_
 obtain⟨hpw,hrw,hlk,hmg,hs1,hs2,hs3,hs4⟩:=id hin
 have hml:n.margin.length=n.links.length:=hok.k1
 obtain⟨l,hl⟩:∃l,n.links[i]? =some l:=⟨_,Ta hi⟩
 obtain⟨z,hz⟩:∃z,n.margin[i]? =some z:=⟨_,Ta (by omega)⟩
 have e1:lnk n.net i=l:=Jp hl
 have e2:mar n.net i=z:=Oj hz
 have hzb:=OW hok hi
 unfold Z4
 rw[e2]at hzb
 rw[e1,e2]
 by_cases hb:0<=Yv n.net l.2.1 l.1
 ·have hlt:(Yv n.net l.2.1 l.1).toNat<n.links.length:=XP hb
  obtain⟨y,hy⟩:∃y,n.margin[(Yv n.net l.2.1 l.1).toNat]? =some y:=⟨_,Ta (by omega)⟩
  have e3:mar n.net (Yv n.net l.2.1 l.1).toNat=y:=Oj hy
  have hyb:=OW hok hlt
  rw[e3]at hyb
  rw[e3,Ti hb]
  repeat'(first|((apply Ym Yo4);exact za;exact rfl;exactλ_ hw=>(Yad n _ _ hin.cons hok hw))|((apply ZM Ytq);exact za;exact rfl;exactλ_ hw=>(YcR n _ _ hok (by omega) (by omega) hw);all_goals(intro hB;(try simp only[Tm,Tv]at hB);try exact zo))|(apply zg28;refine zs84 ?_)|refine zgd ?_|(refine zgf ?_ ?_<;>intro _<;>try exact zo)|(refine zgh ?_;intro _)|fail)
  all_goals((repeat apply Yj);apply Yc;exact rfl;exact rfl;refine⟨?_,rfl⟩;simp_all)
 ·rw[Tn hb]
  repeat'(first|((apply Ym Yo4);exact za;exact rfl;exactλ_ hw=>(Yad n _ _ hin.cons hok hw))|(apply zg28;refine zs84 ?_)|refine zgd ?_|(refine zgf ?_ ?_<;>intro _<;>try exact zo)|(refine zgh ?_;intro _)|fail)
  all_goals((repeat apply Yj);exact zc3)
def JK(n:Net)(i:Int):Bool:=decide (Yo n=0)&&(decide (0<=i/\i<n.links.length)&&Z4 n i.toNat)
theorem VF(n:NetM)(i:Int)(hin:n.In B w0 H)(hw:St B w0 H w):
 CX B w0 286 [n.val,.int .i64 i] w λv K=>v=.bool (JK n.net i)/\K=H:=by
 refine Ya Tryz.func286 Tryz.ntmps286 rfl rfl hw ?_
 have hs3:=hin.s3
 have e7:n.net.links=n.links:=rfl
 unfold JK
 rw[e7]
 by_cases h0:Yo n.net=0
 rotate_left
 ·rw[Tn h0]
  refine zX19 ?_<;>intros
  all_goals((repeat apply Yj);exact zc3)
 rw[Ti h0]
 by_cases h1:0<=i/\i<n.links.length
 rotate_left
 ·rw[Tn h1]
  repeat'(first|((apply Yb XQ);exact za;exact rfl;exactλ_ hw=>(Xa n hin.cons hw))|refine zgc ?_|(refine zgf ?_ ?_<;>intro _<;>try exact zo)|(refine zgh ?_;intro _)|fail)
  all_goals((repeat apply Yj);apply Yc;exact rfl;exact rfl;exact⟨rfl,rfl⟩)
 rw[Ti h1]
 obtain⟨k,rfl⟩:∃k:Nat,i=k:=⟨i.toNat,by omega⟩
 repeat'(first|((apply Yb XQ);exact za;exact rfl;exactλ_ hw=>(Xa n hin.cons hw))|((apply Yb Yxt);exact za;exact rfl;exactλ_ hw=>(Yi7 n _ hin.cons (YP h0) (by omega) hw))|refine zgc ?_|(refine zgf ?_ ?_<;>intro _<;>try exact zo)|(refine zgh ?_;intro _)|fail)
 all_goals((repeat apply Yj);exact zc3)
variable {B k:Nat}{w0 w:World}{H:List HP}
theorem Qw(a lo hi:Int)(hw:St B w0 H w):
 CX B w0 222 [.int .i64 a,.int .i64 lo,.int .i64 hi] w λv K=>v=.bool (decide (lo<=a/\a<=hi))/\K=H:=by
 refine Ya Tryz.func222 Tryz.ntmps222 rfl rfl hw ?_
 repeat'(first|refine zgc ?_|(refine zgf ?_ ?_<;>intro _<;>try exact zo)|fail)
 ·exact zc25
 all_goals(apply Yc;exact rfl;exact rfl;exact⟨by rw[Tn (by omega)],rfl⟩)
variable {α:Type}
theorem Qf{p:α->Bool}{l:List α}{a:α}(h:l[k]? =some a):(l.take (k+1)).any p=((l.take k).any p||p a):=zc78
theorem Ybx{p:α->Bool}{l:List α}{a:α}(h:l[k]? =some a)(hp:p a=true):l.any p=true:=by grind
theorem YiO(n:NetM)(hnn:n.nodes<=1000000)(hin:n.In B w0 H)(hw:St B w0 H w):
 CX B w0 223 [n.val] w λv K=>v=.int .i64 (JJ n.net)/\K=H:=by
 refine Ya Tryz.func223 Tryz.ntmps223 rfl rfl hw ?_
 obtain⟨hpw,hrw,hlk,hmg,hs1,hs2,hs3,hs4⟩:=id hin
 have e1:n.net.power.length=n.rows.length:=by simp[NetM.net]
 have e2:n.net.nodes=n.nodes:=rfl
 unfold JJ
 rw[e1,e2,<-Qe,<-Qe n (λr=>r.any ZA)]
 by_cases hnl:(n.rows.length:Int)=n.nodes
 rotate_left
 ·refine zX22 ?_<;>intros
  ((repeat apply Yj);apply Yc;exact rfl;exact rfl;refine⟨TA _ ?_,rfl⟩)
  (repeat(first|refine Xs (by omega) ?_|refine Xt (by omega) ?_))
  rfl
 rw[Tf (by omega)]
 (apply Y5;apply YL;apply Yx;exact rfl;exact rfl;intro g)
 refine zX0 ?_<;>intros
 refine Ye (λ(a:Nat)=>[(3,.int .i64 a),(1,.pointer (some ⟨g,0,none⟩))]) (λ_=>netB g n::H) (λa=>a<=n.rows.length/\(n.rows.take a).any (λr=>wide n.nodes r.xs)=false) (λa=>n.rows.length-a) 0 ⟨Td _,by simp⟩ ?_ (λw hw=>hw) ?_
 ·exact zc1
 rintro a ⟨ha,hai⟩ K hK
 by_cases hlt:a<n.rows.length
 ·obtain⟨r,hr⟩:∃r,n.rows[a]? =some r:=⟨_,Ta hlt⟩
  have hs2r:=hs2 r (Tc hr)
  repeat'(first|refine zgd ?_|(refine zge ?_ ?_<;>intro _<;>try exact zo)|fail)
  ·rename_i h
   ((repeat apply Yj);apply Yc;exact rfl;exact rfl;refine⟨TA _ ?_,rfl⟩)
   rw[To (Ybx hr (Ti h))]
  ·rename_i h
   apply hK (a+1)
   ·exact⟨by omega,by rw[Qf hr,hai];exact Tn (by omega)⟩
   ·omega
   ·exact zc1
   exact zc18
 obtain rfl:a=n.rows.length:=by omega
 rw[TC]at hai
 rw[hai,Tf (by simp)]
 have hw2:∀r∈n.rows,(r.xs.length:Int)=n.nodes:=λr hr=>by
  have h1:=RG.1 hai r hr
  simp only[wide,Tm]at h1
  omega
 refine zX1 ?_<;>intros
 refine Ye (λ(a:Nat)=>[(4,.int .i64 a),(1,.pointer (some ⟨g,0,none⟩))]) (λ_=>netB g n::H) (λa=>a<=n.rows.length/\(n.rows.take a).any (λr=>r.xs.any ZA)=false) (λa=>n.rows.length-a) 0 ⟨Td _,by simp⟩ ?_ (λw hw=>hw) ?_
 ·exact zc1
 rintro a ⟨ha,hbi⟩ K hK
 by_cases hlt:a<n.rows.length
 rotate_left
 ·obtain rfl:a=n.rows.length:=by omega
  rw[TC]at hbi
  rw[hbi,Tf (by simp)]
  refine zX1 ?_<;>intros
  ((repeat apply Yj);apply Yc;exact rfl;exact rfl;refine⟨TA _ ?_,rfl⟩)
  rfl
 obtain⟨r,hr⟩:∃r,n.rows[a]? =some r:=⟨_,Ta hlt⟩
 have hrm:=Tc hr
 have hs2r:=hs2 r hrm
 have hrr:=hrw r hrm
 have hrl:=hw2 r hrm
 refine zX0 ?_<;>intros
 refine Ye (λ(b:Nat)=>[(5,.int .i64 b),(4,.int .i64 a),(1,.pointer (some ⟨g,0,none⟩))]) (λ_=>netB g n::H) (λb=>b<=r.xs.length/\(r.xs.take b).any ZA=false) (λb=>r.xs.length-b) 0 ⟨Td _,by simp⟩ ?_ (λw hw=>hw) ?_
 ·exact zc1
 rintro b ⟨hb,hci⟩ K2 hK2
 by_cases hltb:b<r.xs.length
 ·obtain⟨p,hp⟩:∃p,r.xs[b]? =some p:=⟨_,Ta hltb⟩
  repeat'(first|((apply YT Ycw);exact za;exact rfl;exactλ_ hw=>(Qw _ _ _ hw);all_goals(intro hB;(try simp only[Tm,Tv]at hB);try exact zo))|refine zgd ?_|(refine zge ?_ ?_<;>intro _<;>try exact zo)|fail)
  ·apply hK2 (b+1)
   ·exact⟨by omega,by rw[Qf hp,hci];exact Tn (by omega)⟩
   ·omega
   ·exact zc1
   exact zc18
  ·((repeat apply Yj);apply Yc;exact rfl;exact rfl;refine⟨TA _ ?_,rfl⟩)
   rw[To (Ybx hr (Ybx hp (Ti (by omega))))]
 ·obtain rfl:b=r.xs.length:=by omega
  rw[TC]at hci
  refine zX1 ?_<;>intros
  apply hK (a+1)
  ·exact⟨by omega,by rw[Qf hr,hbi];exact hci⟩
  ·omega
  ·exact zc1
  exact zc18
theorem YkF(n:NetM)(i:Nat)(hin:n.In B w0 H)(hi:i<n.links.length)(hml:n.margin.length=n.links.length)(ht:JJ n.net=0)(hnn:0<=n.nodes/\n.nodes<=1000000)(hw:St B w0 H w):
 CX B w0 224 [n.val,.int .i64 i] w λv K=>v=.int .i64 (Wm n.net i)/\K=H:=by
 refine Ya Tryz.func224 Tryz.ntmps224 rfl rfl hw ?_
 obtain⟨hpw,hrw,hlk,hmg,hs1,hs2,hs3,hs4⟩:=hin
 obtain⟨t1,t2,t3⟩:=YdG ht
 obtain⟨l,hl⟩:∃l,n.links[i]? =some l:=⟨_,Ta hi⟩
 obtain⟨z,hz⟩:∃z,n.margin[i]? =some z:=⟨_,Ta (by omega)⟩
 have e1:lnk n.net i=l:=Jp hl
 have e2:mar n.net i=z:=Oj hz
 have e3:n.net.nodes=n.nodes:=rfl
 have e4:n.net.power.length=n.rows.length:=by simp[NetM.net]
 rw[e4,e3]at t1
 unfold Wm
 rw[e1,e2,e3]
 by_cases h1:(0<=l.1/\l.1<n.nodes)/\(0<=l.2.1/\l.2.1<n.nodes)
 rotate_left
 ·skip
  repeat'(first|((apply YT Ycw);exact za;exact rfl;exactλ_ hw=>(Qw _ _ _ hw);all_goals(intro hB;(try simp only[Tm,Tv]at hB);try exact zo))|refine zgd ?_|(refine zgh ?_;intro _)|fail)
  all_goals(((repeat apply Yj);apply Yc;exact rfl;exact rfl;refine⟨TA _ ?_,rfl⟩);(repeat(first|refine Xs (by omega) ?_|refine Xt (by omega) ?_));rfl)
 obtain⟨r,hr⟩:∃r,n.rows[l.1.toNat]? =some r:=⟨_,Ta (by omega)⟩
 have hrm:r∈n.rows:=Tc hr
 have hrr:=hrw r hrm
 have hrs:=hs2 r hrm
 have hrl:(r.xs.length:Int)=n.nodes:=t2 r.xs (TG.2 ⟨r,hrm,rfl⟩)
 obtain⟨p,hp⟩:∃p,r.xs[l.2.1.toNat]? =some p:=⟨_,Ta (by omega)⟩
 rw[Ydl (n:=n.net) (r:=r.xs) (by simp[NetM.net,hr]) hp]
 by_cases h0:0<i
 ·obtain⟨q,hq⟩:∃q,n.links[((i:Int)-1).toNat]? =some q:=⟨_,Ta (by omega)⟩
  rw[show lnk n.net (i-1)=q from Jp YuU]
  have hcm:=@Vq q l
  repeat'(first|((first|apply YT Ycw|apply ZM Ycw);exact za;exact rfl;exactλ_ hw=>(Qw _ _ _ hw);all_goals(intro hB;(try simp only[Tm,Tv]at hB);try exact zo))|(apply zg28;first|refine zs83 ?_|refine zs84 ?_)|refine zgd ?_|(refine zgf ?_ ?_<;>intro _<;>try exact zo)|(refine zgh ?_;intro _)|fail)
  all_goals(((repeat apply Yj);apply Yc;exact rfl;exact rfl;refine⟨TA _ ?_,rfl⟩);(repeat(first|refine Xs (by omega) ?_|refine Xt (by omega) ?_));rfl)
 ·skip
  repeat'(first|((first|apply YT Ycw|apply ZM Ycw);exact za;exact rfl;exactλ_ hw=>(Qw _ _ _ hw);all_goals(intro hB;(try simp only[Tm,Tv]at hB);try exact zo))|(apply zg28;first|refine zs83 ?_|refine zs84 ?_)|refine zgd ?_|(refine zgf ?_ ?_<;>intro _<;>try exact zo)|(refine zgh ?_;intro _)|fail)
  all_goals(((repeat apply Yj);apply Yc;exact rfl;exact rfl;refine⟨TA _ ?_,rfl⟩);(repeat(first|refine Xs (by omega) ?_|refine Xt (by omega) ?_));rfl)
theorem JX(n:NetM)(hin:n.In B w0 H)(hw:St B w0 H w):
 CX B w0 133 [n.val] w λv K=>v=.int .i64 (Yo n.net)/\K=H:=by
 refine Ya Tryz.func133 Tryz.ntmps133 rfl rfl hw ?_
 have e3:n.net.nodes=n.nodes:=rfl
 have e5:n.net.noise=n.noise:=rfl
 have e6:n.net.thr=n.thr:=rfl
 have e7:n.net.links=n.links:=rfl
 have e8:n.net.margin=n.margin:=rfl
 have hs1:=hin.s1
 have hs3:=hin.s3
 have hs4:=hin.s4
 unfold Yo
 rw[e3,e5,e6,e7,e8]
 (apply Y5;apply YL;apply Yx;exact rfl;exact rfl;intro g)
 repeat'(first|((apply Yb YwM);exact za;exact rfl;exactλ_ hw=>(YiO n (by omega) hin.cons hw))|((apply YT Ycw);exact za;exact rfl;exactλ_ hw=>(Qw _ _ _ hw);all_goals(intro hB;(try simp only[Tm,Tv]at hB);try exact zo))|refine zgd ?_|(refine zgf ?_ ?_<;>intro _<;>try exact zo)|fail)
 any_goals(((repeat apply Yj);apply Yc;exact rfl;exact rfl;refine⟨TA _ ?_,rfl⟩);(repeat(first|refine Xs (by omega) ?_|refine Xt (by omega) ?_));rfl)
 have ht:JJ n.net=0:=by assumption
 refine Ye (λ(k:Nat)=>[(4,.int .i64 k),(1,.pointer (some ⟨g,0,none⟩))]) (λ_=>netB g n::H) (λk=>k<=n.links.length/\JE n.net n.links.length 0=JE n.net (n.links.length-k) k) (λk=>n.links.length-k) 0 ⟨Td _,rfl⟩ ?_ (λw hw=>hw) ?_
 ·exact zc1
 rintro k ⟨hk,hi⟩ K hK
 by_cases hlt:k<n.links.length
 ·skip
  repeat'(first|((apply Yb YwN);exact za;exact rfl;exactλ_ hw=>(YkF n k hin.cons hlt (by omega) ht (by omega) hw))|refine zgd ?_|(refine zge ?_ ?_<;>intro _<;>try exact zo)|fail)
  ·exact zc61
  ·apply hK (k+1)
   ·exact YuF
   ·omega
   ·exact zc1
   exact zc18
 ·refine zX1 ?_<;>intros
  exact zc67
theorem Vy(n:NetM)(a b:Int)(hin:n.In B w0 H)(hw:St B w0 H w):
 CX B w0 364 [n.val,.int .i64 a,.int .i64 b] w λv K=>v=.int .i64 (Yv n.net a b)/\K=H:=by
 refine Ya Tryz.func364 Tryz.ntmps364 rfl rfl hw ?_
 obtain⟨hpw,hrw,hlk,hmg,hs1,hs2,hs3,hs4⟩:=id hin
 have ef:Yv n.net a b=Yp (Up a b) n.links 0:=rfl
 rw[ef]
 (apply Y5;apply YL;apply Yx;exact rfl;exact rfl;intro g)
 refine zX9 ?_
 refine Ye (λ(k:Nat)=>[(7,.int .i64 k),(3,.pointer (some ⟨g,0,none⟩)),(1,.int .i64 a),(2,.int .i64 b)]) (λ_=>netB g n::H) (λk=>k<=n.links.length/\Yp (Up a b) n.links 0=Yp (Up a b) (n.links.drop k) k) (λk=>n.links.length-k) 0 ⟨Td _,by simp⟩ ?_ (λw hw=>hw) ?_
 ·exact zc1
 rintro k ⟨hk,hi⟩ K hK
 by_cases hlt:k<n.links.length
 ·obtain⟨l,hl⟩:∃l,n.links[k]? =some l:=⟨_,Ta hlt⟩
  rw[Jo _ n.links hl]at hi
  repeat'(first|refine zgd ?_|(refine zge ?_ ?_<;>intro _<;>try exact zo)|fail)
  ·rw[To (by simp_all [Up])]at hi
   exact zc85
  all_goals(
   rw[Tf (by simp_all [Up])]at hi
   apply hK (k+1)
   ·exact⟨by omega,hi⟩
   ·omega
   ·exact zu
   ·exactλw hw=>hw)
 ·refine zX1 ?_<;>intros
  exact zc58
end Go.Proofs.YtjommdkgfbhbdaaGreatDoor
namespace Go.Eng
open Go.RowKit
section
variable {P:Program}{m:Mode}{n:Shp}{B:Nat}{w0:World}{ops:Array Oper}{Q:Exit->Act->World->Prop}{rest:List Oper}{env:Env}{H:List HP}{d:Nat}{ty:TypeId}{pos:String}{after:Array Edge}{x y u:Operand}
def Yf5(P:Program)(t:TypeId):Bool:=match P.underlying t with|some (.int _)=>true|_=>false
theorem YaS{t:TypeId}(h:Yf5 P t=true):∃k,P.underlying t=some (.int k):=by
 unfold Yf5 at h
 grind
theorem Ybr(T:Tab P){tx k c:Nat}{A:Option Addr}{es:Nat×Nat×Nat}(hx:evo env x=some (.slice A k c))(ht:look T.sl tx=some es)(hn:Nat.ble (d+1) n.k=true)(h:VL P m n B w0 ops Q rest ((d,.int .i64 c)::env) H):
 VL P m n B w0 ops Q (⟨some d,.call ⟨.builtin .cap,#[x],#[tx]⟩,ty,pos,after,none⟩::rest) env H:=by
 obtain⟨e,size,bytes⟩:=es
 obtain⟨hu,_⟩:=YN (T.slic ht)
 exact YO rfl rfl hn rfl (λa w ha _=>by simp[execOp,resolve,invoke,builtin,ha.eval hx,Builtin.cap_,run_underlying hu];rfl) h
end
variable {w:World}{K:List HP}
theorem St.putObj{B:Nat}{w0:World}{H:List HP}{g:Nat}{o o':Obj}(h:St B w0 H w)(u:Upd (Eng.blk g o) (Eng.blk g o') H K):St B w0 K (w.putObj g o'):=by
 have hlt:g<w.heap.size:=by
  obtain⟨L1,L2,rfl,_⟩:=u
  exact(h.blk (g:=g) (o:=o) (by simp)).2.2
 refine h.upd u rfl rfl rfl (by simp_all) λS1 ⟨h1,_⟩=>⟨⟨h1,World.putObj_heap_same hlt⟩,λb hb _=>World.putObj_heap_other λe=>hb (e▸h1)⟩
theorem YpW(X:HP)(Y M:List HP):Perm (Y++X::M) (X::(Y++M)):=by
 induction Y with
 |nil=>exact .refl _
 |cons A Y ih=>exact(ih.cons A).trans (.swap A X _)
theorem Ynr(X:HP)(Y M:List HP):Perm (X::(Y++M)) (Y++X::M):=by
 induction Y with
 |nil=>exact .refl _
 |cons A Y ih=>exact(Perm.swap X A _).trans (ih.cons A)
theorem Yiy(Y:List HP){L M:List HP}(p:Perm L M):Perm (Y++L) (Y++M):=by
 induction Y with
 |nil=>exact p
 |cons A Y ih=>exact ih.cons A
def Yb3(P:Program)(l:Nat)(args:List Value)(B:Nat)(w0:World)(H:List HP)(Φt Φf:List HP->Prop):Prop:=
 ∀w,St B w0 H w->YieldAt Fence.wide 0 P l args.toArray w λe w'=>
  (e=.returned (.bool true)/\∃K,Φt K/\St B w0 K w')\/(e=.returned (.bool false)/\∃K,Φf K/\St B w0 K w')
def YbR(P:Program)(gf:Nat)(lb:List Value)(xs:List (List Value))(B:Nat)(w0:World)(HI:List HP):Prop:=
 ∀(l:Nat) (S:Nat->List HP->Prop) (X:List HP->Prop),
  (∀(i:Nat) (args:List Value),xs[i]? =some args->∀(Y L:List HP),S i L->
   Yb3 P l args B w0 (Y++many L::HI) (λK=>∃L',S (i+1) L'/\K=Y++many L'::HI) (λK=>∃L',X L'/\K=Y++many L'::HI))->
  ∀L0,S 0 L0->∀w,St B w0 (many L0::HI) w->
   CallsIn Fence.wide 0 P gf (.func (.yield l) #[] #[]::lb).toArray w (Post B w0 λ_ K=>(∃L,S xs.length L/\K=many L::HI)\/∃L,X L/\K=many L::HI)
def jump:Exit->Option Code
 |.ret=>some .ret
 |.exit id=>some (.exit id)
 |_=>none
def Yk5{α:Type}(B:Nat)(w0:World)(R:HP)(HI:List HP)(I:α->Prop)(HH:α->List HP)(X:Exit->List HP->Prop):Exit->Act->World->Prop
 |.normal,_,w=>∃y,I y/\St B w0 (R::(HH y++HI)) w
 |.ret,_,w=>∃K,X .ret K/\St B w0 (R::(K++HI)) w
 |.exit id,_,w=>∃K,X (.exit id) K/\St B w0 (R::(K++HI)) w
 |_,_,_=>False
def Yk4{α:Type}(P:Program)(l B:Nat)(w0:World)(body:Code)(R:HP)(HI:List HP)(I:α->Prop)(HH:α->List HP)(X:Exit->List HP->Prop):Exit->Act->World->Prop
 |.normal,a,w=>∃K,St B w0 (R::K) w/\∀R' w',St B w0 (R'::K) w'->wpR P (some l) body (Yk5 B w0 R' HI I HH X) a w'
 |_,_,_=>False
def U5:List Nat->List Value->Env->Env
 |p::ps,v::vs,e=>U5 ps vs ((p,v)::e)
 |_,_,e=>e
section
variable {P:Program}{B:Nat}{w0:World}{Q:Exit->Act->World->Prop}{env:Env}{H:List HP}{k:Nat}
variable {α:Type}{l gf n:Nat}{body c:Code}{R:HP}{HI K:List HP}{X:Exit->List HP->Prop}
theorem Vh{I:α->Prop}{HH:α->List HP}(hr:Rem R H K)
 (h:∀R',VC P ⟨k,[],some l⟩ B w0 body (Yk5 B w0 R' HI I HH X) env (R'::K)):VQ ⟨k,[],some l⟩ B w0 (Yk4 P l B w0 body R HI I HH X) .normal env H:=
 ⟨λa _ ha hw=>⟨K,hw.perm hr,λR' w' hw'=>(h R').run a w' ha hw'⟩⟩
theorem UJ{n:Shp}{I:α->Prop}{HH:α->List HP}(y:α)(hI:I y)(hH:∀w,St B w0 H w->St B w0 (R::(HH y++HI)) w):
 VQ n B w0 (Yk5 B w0 R HI I HH X) .normal env H:=⟨λ_ w _ hw=>⟨y,hI,hH w hw⟩⟩
theorem O9{n:Shp}{I:α->Prop}{HH:α->List HP}(K:List HP)(hX:X .ret K)(hH:∀w,St B w0 H w->St B w0 (R::(K++HI)) w):
 VQ n B w0 (Yk5 B w0 R HI I HH X) .ret env H:=⟨λ_ w _ hw=>⟨K,hX,hH w hw⟩⟩
theorem YhM:∀(ps:List Nat) (vs:List Value) (t:Array Value) (e:Env),t.size=k->(∀s v,get e s=some v->t[s]? =some v)->ps.all (λp=>Nat.ble (p+1) k)=true->ps.length=vs.length->
 ((ps.zip vs).foldl (λt (x:Nat×Value)=>t.setIfInBounds x.1 x.2) t).size=k/\∀s v,get (U5 ps vs e) s=some v->((ps.zip vs).foldl (λt (x:Nat×Value)=>t.setIfInBounds x.1 x.2) t)[s]? =some v
 |[],[],t,e,hs,hg,_,_=>⟨hs,hg⟩
 |p::ps,v::vs,t,e,hs,hg,hp,hl=>by
  simp only[ND,Tq]at hp
  have hlt:=TV hp.1
  refine YhM ps vs (t.setIfInBounds p v) ((p,v)::e) (by simp_all) (λs u hu=>?_) hp.2 (by simp_all)
  by_cases e2:p=s
  ·subst e2
   rw[get,To rfl]at hu
   grind
  simp_all [get]
variable {ds:List Deferred}{lb:List Value}{xs:List (List Value)}
theorem ZL{g:Operand}{ps:List Nat}{assign:Code}(HI:List HP)(HH:α->List HP)(I:Nat->α->Prop)(X:Exit->List HP->Prop)(x0:α)
 (hg:evo env g=some (.func (.func gf) #[] lb.toArray)) (hc:∀xs w,(callFunc gf xs).run P w=.ok (.enter gf xs) w) (hiter:YbR P gf lb xs B w0 HI)
 (hps:ps.all (λp=>Nat.ble (p+1) k)=true) (hlen:∀args∈xs,args.length=ps.length) (hca:calm assign=true) (hcb:calm body=true)
 (hH:∀w,St B w0 H w->St B w0 (HH x0++HI) w) (h0:I 0 x0)
 (hround:∀(l i:Nat) (args:List Value) (R:HP) (x:α),xs[i]? =some args->I i x->VC P ⟨k,[],some l⟩ B w0 assign (Yk4 P l B w0 body R HI (I (i+1)) HH X) (U5 ps args env) (R::(HH x++HI)))
 (hdone:∀D x,I xs.length x->VQ ⟨k,⟨.collected D,#[]⟩::ds,none⟩ B w0 Q .normal env (blk D (.deferred (some []))::(HH x++HI)))
 (hstop:∀D e K,X e K->(jump e).isSome=true->VQ ⟨k,⟨.collected D,#[]⟩::ds,none⟩ B w0 Q e env (blk D (.deferred (some []))::(K++HI))):
 VC P ⟨k,ds,none⟩ B w0 (.rangeFunc g ps.toArray assign body) Q env H:=by
 refine⟨λa w ha hw=>?_⟩
 show(Code.rangeFunc g ps.toArray assign body).wp P Q a w
 refine(wpIn_wide (n:=0)).1 (wpIn_rangeFunc ?_)
 intro fn _
 obtain⟨rec,hrec⟩:∃rec:LoopState->Option Code->Loop,rec=λst pe=>{state:=st,pending:=pe,fn,tmps:=a.tmps,params:=ps.toArray,assign,body,defers:=w.heap.size}:=⟨_,rfl⟩
 have hst:=((hH w hw).alloc (.deferred (some []))).alloc (.loop (rec .ready none))
 rw[World.size_alloc]at hst
 obtain⟨l,hl⟩:∃l,w.heap.size+1=l:=⟨_,rfl⟩
 obtain⟨D,hD⟩:∃D,w.heap.size=D:=⟨_,rfl⟩
 rw[hl,hD]at hst
 obtain⟨W1,hW1⟩:∃W1,(w.alloc (.deferred (some []))).alloc (.loop (rec .ready none))=W1:=⟨_,rfl⟩
 rw[hW1]at hst
 refine⟨l,[⟨.collected D,#[]⟩],W1,{target:=.fn (.func gf) lb.toArray,args:=#[.func (.yield l) #[] #[]]},W1,gf,(.func (.yield l) #[] #[]::lb).toArray,W1,?_,?_,?_,?_,λh=>by simp[Fence.wide]at h,?_⟩
 ·simp_all [run_enterLoop_outer]
 ·simp only[resolve,ha.eval hg]
  simp[go_sem]
 ·intro f' _;trivial
 ·grind [invoke]
 ·refine CallsIn.mono (hiter l (λi L=>∃x,I i x/\L=blk l (.loop (rec .ready none))::blk D (.deferred (some []))::HH x)
   (λL=>∃e K c,X e K/\jump e=some c/\L=blk l (.loop (rec .done (some c)))::blk D (.deferred (some []))::K) ?_ _ ⟨x0,h0,rfl⟩ _ (hst.perm (.close (blk l (.loop (rec .ready none))::blk D (.deferred (some []))::HH x0) HI))) ?_
  ·--one round
   rintro i args hx Y L ⟨x,hI,rfl⟩ W hW
   have hp1:∀(lp:Loop) (M:List HP),Perm (Y++many (blk l (.loop lp)::blk D (.deferred (some []))::M)::HI) (many (Y++[blk l (.loop lp),blk D (.deferred (some []))])::(M++HI)):=λlp M=>by
    refine(Yiy Y (.open_ _ _)).trans ?_
    have:Y++((blk l (.loop lp)::blk D (.deferred (some []))::M)++HI)=(Y++[blk l (.loop lp),blk D (.deferred (some []))])++(M++HI):=by simp
    rw[this]
    exact .close _ _
   have hp2:∀(lp:Loop) (M:List HP),Perm (many (Y++[blk l (.loop lp),blk D (.deferred (some []))])::(M++HI)) (Y++many (blk l (.loop lp)::blk D (.deferred (some []))::M)::HI):=λlp M=>by
    refine Perm.trans (.open_ _ _) ?_
    have:(Y++[blk l (.loop lp),blk D (.deferred (some []))])++(M++HI)=Y++((blk l (.loop lp)::blk D (.deferred (some []))::M)++HI):=by simp
    rw[this]
    exact Yiy Y (.close _ _)
   have hpf:∀(lp:Loop) (M:List HP),Perm (many (Y++[blk l (.loop lp),blk D (.deferred (some []))])::M) (blk l (.loop lp)::(Y++blk D (.deferred (some []))::M)):=λlp M=>by
    refine Perm.trans (.open_ _ _) ?_
    have:(Y++[blk l (.loop lp),blk D (.deferred (some []))])++M=Y++blk l (.loop lp)::(blk D (.deferred (some []))::M):=by simp
    rw[this]
    exact YpW _ _ _
   have hpb:∀(lp:Loop) (M:List HP),Perm (blk l (.loop lp)::(Y++blk D (.deferred (some []))::M)) (many (Y++[blk l (.loop lp),blk D (.deferred (some []))])::M):=λlp M=>by
    refine Perm.trans (Ynr _ _ _) ?_
    have:Y++blk l (.loop lp)::(blk D (.deferred (some []))::M)=(Y++[blk l (.loop lp),blk D (.deferred (some []))])++M:=by simp
    rw[this]
    exact .close _ _
   have hW1:=hW.perm (hp1 _ _)
   have hW2:=hW1.perm (hpf _ _)
   have hlp:=(hW2.blk TN).1
   have hal:=hlen args (Tc hx)
   have hy:=run_yield (P:=P) (args:=args.toArray) hlp (by rw[hrec];simp[hal])
   rw[hrec]at hy
   refine⟨fn,_,assign,body,hy,roundIn_of_wpIn trivial ?_⟩
   have hfit:=YhM ps args a.tmps env ha.size (λs v h=>ha.slot s v h) hps hal.symm
   have hz:(ps.toArray.zip args.toArray).foldl (λt (x:Nat×Value)=>t.setIfInBounds x.1 x.2) a.tmps=(ps.zip args).foldl (λt (x:Nat×Value)=>t.setIfInBounds x.1 x.2) a.tmps:=by
    rw[<-Array.foldl_toList];simp
   have hva:=(hround l i args (many (Y++[blk l (.loop (rec .ready none)),blk D (.deferred (some []))])) x hx hI).run
    {tmps:=(ps.toArray.zip args.toArray).foldl (λt (x:Nat×Value)=>t.setIfInBounds x.1 x.2) a.tmps,defers:=[]} W ⟨rfl,by rw[hz];exact hfit.1,λs v h=>by rw[hz];exact hfit.2 s v h⟩ hW1
   refine wpIn_mono (hva zc59 hca) ?_
   intro e a1 w1 hq
   cases e with
   |normal=>
    obtain⟨K,hK,hbody⟩:=hq
    have hK2:=hK.perm (hpf _ _)
    have hlp2:=(hK2.blk TN).1
    refine⟨_,run_beginRound hlp2 (by rw[hrec]),?_⟩
    have hK3:=(hK2.putObj (o':=.loop {rec .ready none with state:=.busy}) (.here _)).perm (hpb _ _)
    have hvb:=hbody _ _ hK3
    refine wpIn_mono (hvb zc59 hcb) ?_
    intro e a3 w3 hq3
    have fin:∀(jp:Option Code) (M:List HP),St B w0 (many (Y++[blk l (.loop {rec .ready none with state:=.busy}),blk D (.deferred (some []))])::(M++HI)) w3->
     ∃w4,(Instr.endRound l jp).run P w3=.ok (.bool jp.isNone) w4/\St B w0 (Y++many (blk l (.loop (rec (if jp.isNone then .ready else .done) jp))::blk D (.deferred (some []))::M)::HI) w4:=λjp M h3=>by
     have h4:=h3.perm (hpf _ _)
     have h5:=(h4.blk TN).1
     have h6:=run_endRound (P:=P) jp h5
     refine⟨_,h6,?_⟩
     have h7:=((h4.putObj (o':=.loop (rec (if jp.isNone then .ready else .done) jp)) (.here _)).perm (hpb _ _)).perm (hp2 _ _)
     rw[hrec]at h7⊢
     exact h7
    cases e with
    |normal=>
     obtain⟨y,hIy,h3⟩:=hq3
     obtain⟨w4,h5,h6⟩:=fin none _ h3
     exact⟨_,w4,h5,.inl ⟨rfl,_,⟨_,⟨y,hIy,rfl⟩,rfl⟩,h6⟩⟩
    |ret=>
     obtain⟨K3,hX3,h3⟩:=hq3
     obtain⟨w4,h5,h6⟩:=fin (some .ret) _ h3
     exact⟨_,w4,h5,.inr ⟨rfl,_,⟨_,⟨.ret,K3,.ret,hX3,rfl,rfl⟩,rfl⟩,h6⟩⟩
    |exit id=>
     obtain⟨K3,hX3,h3⟩:=hq3
     obtain⟨w4,h5,h6⟩:=fin (some (.exit id)) _ h3
     exact⟨_,w4,h5,.inr ⟨rfl,_,⟨_,⟨.exit id,K3,.exit id,hX3,rfl,rfl⟩,rfl⟩,h6⟩⟩
    |goto t=>exact hq3.elim
    |panic ch=>exact hq3.elim
    |outgrown=>exact hq3.elim
   |ret=>exact hq
   |exit id=>exact hq
   |goto t=>exact hq
   |panic ch=>exact hq
   |outgrown=>exact hq
  ·--behind the iterator
   rintro e W2 ⟨v,K,rfl,hst2,hK⟩
   have hpn:∀st pe,(rec st pe).pending=pe:=λst pe=>by rw[hrec]
   have hds:∀{M:List HP}{w':World},St B w0 M w'->Fits ⟨k,⟨.collected D,#[]⟩::ds,none⟩ {a with defers:=[⟨.collected D,#[]⟩]++a.defers} env:=λ_=>
    ⟨by rw[ha.defers];rfl,ha.size,ha.slot⟩
   rcases hK with⟨L,⟨x,hI,rfl⟩,rfl⟩|⟨L,⟨e,K,c,hX,hj,rfl⟩,rfl⟩
   ·have h1:=hst2.perm (.open_ _ _)
    have h2:=(h1.blk TN).1
    have h3:=run_endLoop (P:=P) h2 (by rw[hrec];simp)
    have h4:=(h1.putObj (o':=.loop {rec .ready none with state:=.exhausted}) (.here _)).tail
    refine⟨none,_,h3.trans (TA (λj=>Result.ok j _) (hpn _ _)),?_⟩
    exact(hdone D x hI).run _ _ (hds h4) h4
   ·have h1:=hst2.perm (.open_ _ _)
    have h2:=(h1.blk TN).1
    have h3:=run_endLoop (P:=P) h2 (by rw[hrec];simp)
    have h4:=(h1.putObj (o':=.loop {rec .done (some c)with state:=.exhausted}) (.here _)).tail
    refine⟨some c,_,h3.trans (TA (λj=>Result.ok j _) (hpn _ _)),?_⟩
    have h5:=(hstop D e K hX (by rw[hj];rfl)).run _ _ (hds h4) h4
    cases e with
    |ret=>obtain rfl:=Tz hj;exact wpIn_ret h5
    |exit id=>obtain rfl:=Tz hj;exact wpIn_exit h5
    |normal=>cases hj
    |goto t=>cases hj
    |panic ch=>cases hj
    |outgrown=>cases hj
variable {fn:Func}{w:World}
theorem ZK{f:FuncId}{args:List Value}{Φ:Value->List HP->Prop}(hf:P.funcs[f]? =some fn)(hn:fn.ntmps=n)(hb:fn.body=some c)
 (hle:Nat.ble args.length n=true) (hw:St B w0 H w) (h:VC P ⟨n,[],none⟩ B w0 c (bodyPostM Fence.wide 0 P fn (Post B w0 Φ)) (Wz 0 args) H):Calls P f args.toArray w (Post B w0 Φ):=by
 refine(callsIn_wide (n:=0)).1 (callsIn_of_wp_marks hf hb trivial ((wpIn_wide (n:=0)).2 (h.run _ w ⟨rfl,?_,λt v ht=>?_⟩ hw)))
 ·simp_all
 exact YuZ
theorem Yh8{R:Ending->World->Prop}{a:Act}(h:bodyPost P fn R .ret a w):bodyPostM Fence.wide 0 P fn R .ret a w:=by
 obtain⟨h1,h2⟩:=h
 show LeavesInM Fence.wide 0 P fn a.tmps R a.defers .returning w
 rw[h1]
 exact h2
theorem VQ_m{R:Ending->World->Prop}(h:VQ ⟨n,[],none⟩ B w0 (bodyPost P fn R) .ret env H):VQ ⟨n,[],none⟩ B w0 (bodyPostM Fence.wide 0 P fn R) .ret env H:=
 ⟨λa w ha hw=>Yh8 (h.run a w ha hw)⟩
theorem Z2{D:Nat}{R:Ending->World->Prop}{H':List HP}(hr:Rem (blk D (.deferred (some []))) H H')(h:VQ ⟨n,ds,none⟩ B w0 (bodyPostM Fence.wide 0 P fn R) .ret env H'):
 VQ ⟨n,⟨.collected D,#[]⟩::ds,none⟩ B w0 (bodyPostM Fence.wide 0 P fn R) .ret env H:=by
 refine⟨λa w ha hw=>?_⟩
 show LeavesInM Fence.wide 0 P fn a.tmps R a.defers .returning w
 rw[ha.defers]
 have hw2:=hw.perm hr
 have hb:=(hw2.blk TN).1
 refine⟨by simp,.inl ⟨D,_,rfl,run_takeDeferred hb,?_⟩⟩
 have h3:=(hw2.putObj (o':=.deferred none) (.here _)).tail
 exact h.run {a with defers:=ds} _ ⟨rfl,ha.size,ha.slot⟩ h3
theorem WP{ops:Array Oper}(hlo:¬LetsOut Q):∀(os:List Oper) (a:Act) (w:World),wpList P ops Q os a w->wpListIn Fence.wide 0 P ops Q os a w
 |[],_,_,h=>h
 |o::os,a,w,h=>by
  unfold wpList at h
  unfold wpListIn
  split
  ·rename_i hw
   rw[To hw]at h
   rcases h with h|⟨_,h⟩
   ·refine⟨λf _=>trivial,?_⟩
    have h2:=Oper.wp_mono (λa w h=>WP hlo os a w h) h
    unfold Oper.wp at h2
    have hs:Oper.semAt Fence.wide.round a.eval o=execOp a.eval o:=Oper.semAt_none _ _
    rw[hs]
    generalize(execOp a.eval o).run P w=res at h2⊢
    cases res with
    |ok x w'=>
     exact zc42
    |halt x w'=>exact zc90
   simp_all
  ·rename_i hw
   rw[Tf hw]at h
   exact⟨λf _=>trivial,WP hlo os _ w h⟩
def YQ(P:Program)(ops:Array Oper)(Q:Exit->Act->World->Prop)(l:List Oper):Exit->Act->World->Prop
 |.normal,a,w=>wpListIn Fence.wide 0 P ops Q l a w
 |e,a,w=>Q e a w
theorem Yc7{ops:Array Oper}{l:List Oper}(hlo:¬LetsOut Q):∀(os:List Oper) (a:Act) (w:World),wpList P ops (YQ P ops Q l) os a w->wpListIn Fence.wide 0 P ops Q (os++l) a w
 |[],_,_,h=>h
 |o::os,a,w,h=>by
  unfold wpList at h
  rw[TJ]
  unfold wpListIn
  split
  ·rename_i hw
   rw[To hw]at h
   rcases h with h|⟨_,h⟩
   ·refine⟨λf _=>trivial,?_⟩
    have h2:=Oper.wp_mono (λa w h=>Yc7 hlo os a w h) h
    unfold Oper.wp at h2
    have hs:Oper.semAt Fence.wide.round a.eval o=execOp a.eval o:=Oper.semAt_none _ _
    rw[hs]
    generalize(execOp a.eval o).run P w=res at h2⊢
    cases res with
    |ok x w'=>
     exact zc42
    |halt x w'=>exact zc90
   ·exact(hlo h).elim
  ·rename_i hw
   rw[Tf hw]at h
   exact⟨λf _=>trivial,Yc7 hlo os _ w h⟩
theorem YbT{id:Nat}{l:List Oper}(k:Nat){l1 l2:List Oper}(h1:l.take k=l1)(h2:l.drop k=l2)(hlo:¬LetsOut Q)(h:VL P none ⟨n,ds,none⟩ B w0 l.toArray (YQ P l.toArray Q l2) l1 env H):
 VC P ⟨n,ds,none⟩ B w0 (.region id l.toArray false) Q env H:=by
 refine⟨λa w ha hw=>?_⟩
 refine(wpIn_wide (n:=0)).1 (wpIn_region_lit ?_)
 have:=Yc7 hlo _ _ _ (h.run a ha w hw)
 grind [Rw]
variable {ops:Array Oper}{ty:TypeId}{pos:String}{after:Array Edge}{rest:List Oper}
theorem Yb2{d:Nat}{x:Operand}{args:List Operand}{tys:Array TypeId}{gd:Option (Nat×Bool)}{vs:List Value}(Φt Φf:List HP->Prop)
 (hgd:∀a:Act,Fits ⟨n,ds,none⟩ a env->Region.wanted ⟨some d,.call ⟨.value x,args.toArray,tys⟩,ty,pos,after,gd⟩ (yielded ops a.tmps)=true)
 (hx:evo env x=some (.func (.yield l) #[] #[])) (hargs:Args env args vs) (hn:Nat.ble (d+1) n=true) (hlo:¬LetsOut Q) (hy:Yb3 P l vs B w0 H Φt Φf)
 (ht:∀K,Φt K->VL P none ⟨n,ds,none⟩ B w0 ops Q rest ((d,.bool true)::env) K)
 (hf:∀K,Φf K->VL P none ⟨n,ds,none⟩ B w0 ops Q rest ((d,.bool false)::env) K):
 VQ ⟨n,ds,none⟩ B w0 (YQ P ops Q (⟨some d,.call ⟨.value x,args.toArray,tys⟩,ty,pos,after,gd⟩::rest)) .normal env H:=by
 refine⟨λa w ha hw=>?_⟩
 show wpListIn Fence.wide 0 P ops Q _ a w
 unfold wpListIn
 rw[To (hgd a ha)]
 refine⟨λf _=>trivial,?_⟩
 obtain⟨fn,tmps,assign,body,hrun,hround⟩:=hy w hw
 have hmap:args.toArray.map a.eval=vs.toArray:=by grind [VP]
 have hs:Oper.semAt Fence.wide.round a.eval ⟨some d,.call ⟨.value x,args.toArray,tys⟩,ty,pos,after,gd⟩=execOp a.eval ⟨some d,.call ⟨.value x,args.toArray,tys⟩,ty,pos,after,gd⟩:=Oper.semAt_none _ _
 rw[hs]
 have hex:(execOp a.eval ⟨some d,.call ⟨.value x,args.toArray,tys⟩,ty,pos,after,gd⟩).run P w=.ok (.round l fn tmps assign body) w:=zc46
 rw[hex,Oper.uponIn_round]
 refine⟨λhd=>by simp[Fence.wide]at hd,RoundIn.mono hround ?_⟩
 rintro e w' (⟨rfl,K',hΦ,hst⟩|⟨rfl,K',hΦ,hst⟩)
 ·exact WP hlo _ _ _ ((ht K' hΦ).run _ (ha.put (TV hn) _) _ hst)
 ·exact WP hlo _ _ _ ((hf K' hΦ).run _ (ha.put (TV hn) _) _ hst)
theorem Yg6{o:Oper}(hlo:¬LetsOut Q)(h:VL P none ⟨n,ds,none⟩ B w0 ops Q (o::rest) env H):VQ ⟨n,ds,none⟩ B w0 (YQ P ops Q (o::rest)) .normal env H:=
 ⟨λa w ha hw=>WP hlo _ _ _ (h.run a ha w hw)⟩
variable {dst:Option Tmp}{op:Op}
theorem Ybb:∀a:Act,Fits ⟨n,ds,none⟩ a env->Region.wanted ⟨dst,op,ty,pos,after,none⟩ (yielded ops a.tmps)=true:=by grind [Go.Region.wanted]
theorem Ybc{j s:Nat}{b:Bool}{oj:Oper}(hj:ops[j]? =some oj)(hs:oj.dst=some s)(hv:get env s=some (.bool b)):
 ∀a:Act,Fits ⟨n,ds,none⟩ a env->Region.wanted ⟨dst,op,ty,pos,after,some (j,b)⟩ (yielded ops a.tmps)=true:=λa ha=>by simp[Region.wanted,yielded,hj,hs,ha.slot s _ hv]
theorem YbS(hf:P.funcs[gf]? =some fn)(hn:fn.ntmps=n)(hb:fn.body=some c)(hle:Nat.ble (lb.length+1) n=true)
 (h:∀(l:Nat) (S:Nat->List HP->Prop) (X:List HP->Prop),
  (∀(i:Nat) (args:List Value),xs[i]? =some args->∀(Y L:List HP),S i L->
   Yb3 P l args B w0 (Y++many L::HI) (λK=>∃L',S (i+1) L'/\K=Y++many L'::HI) (λK=>∃L',X L'/\K=Y++many L'::HI))->
  ∀L0,S 0 L0->VC P ⟨n,[],none⟩ B w0 c (bodyPost P fn (Post B w0 λ_ K=>(∃L,S xs.length L/\K=many L::HI)\/∃L,X L/\K=many L::HI)) (Wz 0 (.func (.yield l) #[] #[]::lb)) (many L0::HI)):YbR P gf lb xs B w0 HI:=by
 intro l S X hy L0 h0 w hw
 exact callsIn_wide.2 (Ya (args:=.func (.yield l) #[] #[]::lb) hf hn hb hle hw (h l S X hy L0 h0))
end
end Go.Eng
namespace Go.Proofs.YtjommdkgfbhbdaaGreatDoor
open Go.RowKit Go.Eng Go.Nw
variable {B i:Nat}{w0 w:World}{H:List HP}
theorem WX(n:NetM)(s d:Int)(hok:Ok n.net)(hs:0<=s/\s<=8796093022208)(hd:0<=d/\d<=8796093022208)(hw:St B w0 H w):
 CX B w0 391 [n.val,.int .i64 s,.int .i64 d] w λv K=>v=.bool (XM n.net s d)/\K=H:=by
 refine Ya Tryz.func391 Tryz.ntmps391 rfl rfl hw ?_
 exact zc17
def YZ(n:Net)(a b:Int):Bool:=decide (0<=Yv n a b)&&(decide (0<=Yv n b a)&&(XM n (mar n (Yv n a b).toNat) 0&&XM n (mar n (Yv n b a).toNat) 0))
theorem Yaj(n:NetM)(a b:Int)(hin:n.In B w0 H)(hok:Ok n.net)(hw:St B w0 H w):
 CX B w0 332 [n.val,.int .i64 a,.int .i64 b] w λv K=>v=.bool (YZ n.net a b)/\K=H:=by
 refine Ya Tryz.func332 Tryz.ntmps332 rfl rfl hw ?_
 obtain⟨hpw,hrw,hlk,hmg,hs1,hs2,hs3,hs4⟩:=id hin
 have hml:n.margin.length=n.links.length:=hok.k1
 unfold YZ
 by_cases h1:0<=Yv n.net a b
 rotate_left
 ·rw[Tn h1]
  refine zX23 ?_<;>intros
  all_goals((repeat apply Yj);exact zc3)
 rw[Ti h1]
 by_cases h2:0<=Yv n.net b a
 rotate_left
 ·rw[Tn h2]
  refine zX23 ?_<;>intros
  all_goals((repeat apply Yj);exact zc3)
 rw[Ti h2]
 have hl1:(Yv n.net a b).toNat<n.links.length:=XP h1
 have hl2:(Yv n.net b a).toNat<n.links.length:=XP h2
 obtain⟨x,hx⟩:∃y,n.margin[(Yv n.net a b).toNat]? =some y:=⟨_,Ta (by omega)⟩
 obtain⟨y,hy⟩:∃y,n.margin[(Yv n.net b a).toNat]? =some y:=⟨_,Ta (by omega)⟩
 have e1:mar n.net (Yv n.net a b).toNat=x:=Oj hx
 have e2:mar n.net (Yv n.net b a).toNat=y:=Oj hy
 have hxb:=OW hok hl1
 have hyb:=OW hok hl2
 rw[e1]at hxb
 rw[e2]at hyb
 rw[e1,e2]
 repeat'(first|((apply Ym YeK);exact za;exact rfl;exactλ_ hw=>(Vy n _ _ hin.cons hw))|((apply ZM Ylu);exact za;exact rfl;exactλ_ hw=>(WX n _ _ hok (by omega) (by omega) hw);all_goals(intro hB;(try simp only[Tm,Tv]at hB);try exact zo))|(apply zg28;refine zs84 ?_)|refine zgd ?_|(refine zgf ?_ ?_<;>intro _<;>try exact zo)|(refine zgh ?_;intro _)|fail)
 all_goals((repeat apply Yj);apply Yc;exact rfl;exact rfl;refine⟨?_,rfl⟩;simp_all)
variable {n:Net}
theorem YmZ(h:Ok n)(hi:i<n.links.length):Yv n (lnk n i).1 (lnk n i).2.1=i:=by
 have h1:∀j,j<i->cmpL (lnk n j) ((lnk n i).1,(lnk n i).2.1,(lnk n i).2.2)<0:=λj hj=>YdE h j i hj hi
 have h2:∀j,i<=j->j<n.links.length->0<=cmpL (lnk n j) ((lnk n i).1,(lnk n i).2.1,(lnk n i).2.2):=λj hj hl=>by
  by_cases e:i=j
  ·subst e
   have:cmpL (lnk n i) ((lnk n i).1,(lnk n i).2.1,(lnk n i).2.2)=0:=Ud.2 ⟨rfl,rfl⟩
   omega
  ·have h3:=YdE h i j (by omega) hl
   have h4:¬cmpL (lnk n j) ((lnk n i).1,(lnk n i).2.1,(lnk n i).2.2)<0:=by
    grind [Vq]
   omega
 rw[YhJ h (Nat.le_of_lt hi) h1 h2,To ⟨hi,Ud.2 ⟨rfl,rfl⟩⟩]
theorem Ya8(h:Ok n)(hi:i<n.links.length):Z4 n i=YZ n (lnk n i).1 (lnk n i).2.1:=by
 grind [Z4,YZ,YmZ]
def YM(c:Cel):Int:=c.2.2.1
def toC(c:Cel):Int:=c.2.2.2.1
def Y6(c:Cel):Int:=c.2.2.2.2
def YE(a b:Cel):Bool:=decide (YM a=YM b\/YM a=toC b\/toC a=YM b\/toC a=toC b)
theorem Z9(a b:Cel):YE a b=YE b a:=by
 unfold YE
 grind
def Zy(n:Net)(l:List Flw)(s:Sch)(i:Nat):Int:=
 if XB s (Yl s i)=false then 2
 else if YZ n (YM (Yl s i)) (toC (Yl s i))=false\/Zr l (Y6 (Yl s i))<0 then 7
 else if 0<i/\Xp (Yl s (i-1)) (Yl s i)=false then 5 else 0
def X5(s:Sch)(i:Nat):Bool:=(List.range i).any λk=>decide ((Yl s k).1=(Yl s i).1)&&YE (Yl s i) (Yl s k)
def Xg(c d:Cel):Bool:=decide (d.1=c.1/\d.2.1=c.2.1)
def YH(s:Sch)(i:Nat):List Cel:=s.cells.filter (Xg (Yl s i))
def YK(s:Sch)(i:Nat):Nat:=((s.cells.take i).filter (Xg (Yl s i))).length
def celL(l:List Cel)(i:Nat):Cel:=l.getD i (0,0,0,0,0)
def powN(n:Net)(a b:Int):Int:=if insE a n.nodes=true/\insE b n.nodes=true then powr n a b else 0
def Yy(n:Net)(l:List Cel)(j:Nat)(node:Int):Nat->Int
 |0=>0
 |k+1=>Yy n l j node k+if k=j then 0 else powN n (YM (celL l k)) node+powN n (toC (celL l k)) node
def V0(n:Net)(c:Cel):Bool:=!(insE (YM c) n.nodes)||!(insE (toC c) n.nodes)
def Uf(n:Net)(l:List Cel)(i node:Int):Int:=
 if Yo n≠0\/i<0\/l.length<=i\/insE node n.nodes=false\/l.any (V0 n)=true then 0 else Yy n l i.toNat node l.length
def ZX(n:Net)(s:Sch)(i:Nat):Bool:=
 !(Zk n (mar n (Yv n (YM (Yl s i)) (toC (Yl s i))).toNat) (Uf n (YH s i) (YK s i) (toC (Yl s i))))||!(Zk n (mar n (Yv n (toC (Yl s i)) (YM (Yl s i))).toNat) (Uf n (YH s i) (YK s i) (YM (Yl s i))))
def Xv(n:Net)(l:List Flw)(s:Sch):Int:=
 if Yo n≠0 then 1 else if(Yt n.nodes l).2≠0 then 1 else if Zf s=false then 2
 else if(l.any λf=>decide (s.len.tmod f.2.2.2.1≠0))=true then 11 else if 512<s.cells.length then 8 else 0
def XZ(n:Net)(l:List Flw)(s:Sch):Int×Int:=Yz (Zy n l s) s.cells.length 0
def Zn(s:Sch):Int×Int:=Yz (λi=>if X5 s i=true then 6 else 0) s.cells.length 0
def Yco(n:Net)(s:Sch):Int×Int:=Yz (λi=>if ZX n s i=true then 16 else 0) s.cells.length 0
def schE(n:Net)(l:List Flw)(s:Sch):Int×Int:=
 if Xv n l s≠0 then(-1,Xv n l s)else if(XZ n l s).2≠0 then XZ n l s else if(Zn s).2≠0 then Zn s else Yco n s
def Vd(n:Net)(l:List Cel)(i:Nat):Bool:=
 !(YZ n (YM (celL l i)) (toC (celL l i)))||((List.range l.length).any λk=>decide (k≠i)&&YE (celL l i) (celL l k))
   ||(!(XM n (mar n (Yv n (YM (celL l i)) (toC (celL l i))).toNat) (Yy n l i (toC (celL l i)) l.length))||!(XM n (mar n (Yv n (toC (celL l i)) (YM (celL l i))).toNat) (Yy n l i (YM (celL l i)) l.length)))
def Ygm(n:Net)(s:Sch):Int×Int:=Yz (λi=>if Vd n (YH s i) (YK s i)=true then 16 else 0) s.cells.length 0
def Yfe(n:Net)(l:List Flw)(s:Sch):Int×Int:=
 if Xv n l s≠0 then(-1,Xv n l s)else if(XZ n l s).2≠0 then XZ n l s else if(Zn s).2≠0 then Zn s else Ygm n s
variable {n:Net}
theorem Xu(h:Ok n){u v:Int}(hg:YZ n u v=true):(0<=u/\u<n.nodes)/\(0<=v/\v<n.nodes)/\u≠v/\0<=Yv n u v/\0<=Yv n v u:=by
 unfold YZ at hg
 simp only[Tq,Tm]at hg
 obtain⟨h1,h2,_⟩:=hg
 obtain⟨k1,k2⟩:=WJ h1
 have:=h.lk _ (XP h1)
 have a1:=this.f0;have a2:=this.f1;have a3:=this.t0;have a4:=this.t1;have a5:=this.ne
 omega
theorem Yi8(h:Yo n=0)(a b:Int):JK n (Zb n a b)=YZ n a b:=by
 have hok:=YP h
 unfold JK Zb
 by_cases h0:0<=Yv n a b
 ·have hl:=XP h0
  simp_all [Ya8,WJ]
 simp_all [decide_eq_false,YZ]
variable {s:Sch}{i:Nat}
theorem W0(h:i<s.cells.length):(YH s i)[YK s i]? =some (Yl s i):=by
 have h1:=YS h
 have hsp:s.cells=s.cells.take i++Yl s i::s.cells.drop (i+1):=by
  grind [Na,Rw]
 unfold YH YK
 have hp:Xg (Yl s i) (Yl s i)=true:=by grind [Xg]
 grind
structure Fine(n:Net)(s:Sch):Prop where
 good:∀c∈s.cells,YZ n (YM c) (toC c)=true
 once:s.cells.Pairwise λa b=>a.1=b.1->YE a b=false
theorem YfZ{l:List Flw}(h1:(XZ n l s).2=0)(h2:(Zn s).2=0):Fine n s:=by
 have k1:=YF.1 h1
 have k2:=YF.1 h2
 constructor
 ·exact zc83
 ·refine TT.2 λi j hi hj hij hs=>?_
  have:=k2 j (Td _) (by omega)
  have e1:Yl s i=s.cells[i]:=X9 (Ta hi)
  have e2:Yl s j=s.cells[j]:=X9 (Ta hj)
  cases ht:YE s.cells[i] s.cells[j]with
  |false=>rfl
  |true=>
   have hb:X5 s j=true:=by
    unfold X5
    rw[TM]
    refine⟨i,Rq.2 hij,?_⟩
    rw[e1,e2,Ti hs,RN,Z9]
    exact ht
   simp only[hb,Nn]at this
   omega
theorem YvA(h:Ok n){a b:Int}(ha:0<=a/\a<n.nodes)(hb:0<=b/\b<n.nodes):0<=powr n a b/\powr n a b<=68719476736:=by
 have hp:=h.p0
 obtain⟨r,hr⟩:∃r,n.power[a.toNat]? =some r:=⟨_,Ta (by omega)⟩
 have hrm:=Tc hr
 have hl:=h.p1 r hrm
 obtain⟨p,hpe⟩:∃p,r[b.toNat]? =some p:=⟨_,Ta (by omega)⟩
 have:=h.p2 r hrm p (Tc hpe)
 grind [powr]
theorem Jq(h:Ok n)(a b:Int):0<=powN n a b/\powN n a b<=68719476736:=by
 unfold powN
 split
 all_goals simp_all [insE,YvA]
theorem Ql{n:Net}(h:Ok n)(l:List Cel)(j:Nat)(node:Int):∀k:Nat,0<=Yy n l j node k/\Yy n l j node k<=(k:Int)*137438953472
 |0=>by simp[Yy]
 |k+1=>by
  have h1:=Ql h l j node k
  have h2:=Jq h (YM (celL l k)) node
  have h3:=Jq h (toC (celL l k)) node
  grind [Yy]
theorem Yfk(h:Ok n)(hf:Fine n s)(i:Nat):(YH s i).length<=16:=by
 have hsub:(YH s i).Sublist s.cells:=SK
 have hpw:(YH s i).Pairwise λa b=>YE a b=false:=zc51
 have hnd:((YH s i).flatMap λc=>[YM c,toC c]).Nodup:=by
  refine List.pairwise_flatMap.2 ⟨λc hc=>?_,hpw.imp λ{a b} hab x hx y hy=>?_⟩
  ·have:=Xu h (hf.good c (hsub.subset hc))
   simp_all
  ·unfold YE at hab
   grind
 have hlen:=Go.Nw.nodup_len n.nodes.toNat _ hnd (λx hx=>by
  obtain⟨c,hc,hx⟩:=SN.1 hx
  have:=Xu h (hf.good c (hsub.subset hc))
  grind)
 have h2:((YH s i).flatMap λc=>[YM c,toC c]).length=(YH s i).length*2:=by
  induction YH s i with
  |nil=>rfl
  |cons c l ih=>grind
 have:=h.n1
 omega
theorem Yhq(hck:Yo n=0)(hf:Fine n s)(hi:i<s.cells.length):ZX n s i=Vd n (YH s i) (YK s i):=by
 have hok:=YP hck
 have hat:=W0 hi
 have hlt:=(Tj.1 hat).1
 have hc:celL (YH s i) (YK s i)=Yl s i:=by grind [celL]
 have hsub:(YH s i).Sublist s.cells:=SK
 have hg:=hf.good _ (Jc hi)
 have hgn:=Xu hok hg
 have hle:=Yfk hok hf i
 have hpw:(YH s i).Pairwise λa b=>YE a b=false:=zc51
 have hto:((List.range (YH s i).length).any λk=>decide (k≠YK s i)&&YE (celL (YH s i) (YK s i)) (celL (YH s i) k))=false:=by
  rw[RG]
  intro k hk
  have hk:=Rq.1 hk
  by_cases e:k=YK s i
  ·rw[Tn (λh=>h e)];simp
  ·have hpk:=TT.1 hpw
   have e1:celL (YH s i) k=(YH s i)[k]:=by unfold celL;rw[TB,Ta hk];rfl
   have e2:celL (YH s i) (YK s i)=(YH s i)[YK s i]:=YuD
   rw[Ti e,RN,e1,e2]
   rcases Nat.lt_or_gt_of_ne e with h|h
   ·rw[Z9,hpk k _ hk hlt h];simp
   ·rw[hpk _ k hlt hk h];simp
 have hno:(YH s i).any (V0 n)=false:=by
  rw[RG]
  intro c hcm
  have:=Xu hok (hf.good c (hsub.subset hcm))
  unfold V0 insE
  rw[Ti this.1,Ti this.2.1]
  simp
 have hde:∀node,0<=node->node<n.nodes->Uf n (YH s i) (YK s i) node=Yy n (YH s i) (YK s i) node (YH s i).length:=λnode h0 h1=>by
  unfold Uf
  rw[Tf]
  ·rfl
  ·rintro(h|h|h|h|h)
   ·exact h hck
   ·omega
   ·omega
   ·unfold insE at h
    have:=of_decide_eq_false h
    omega
   ·rw[hno]at h;cases h
 have hhe:∀(a b node:Int),0<=Yv n a b->Zk n (mar n (Yv n a b).toNat) (Yy n (YH s i) (YK s i) node (YH s i).length)=XM n (mar n (Yv n a b).toNat) (Yy n (YH s i) (YK s i) node (YH s i).length):=λa b node h0=>by
  have h1:=OW hok (XP h0)
  have h2:=Ql hok (YH s i) (YK s i) node (YH s i).length
  unfold Zk
  rw[Ti hck,Ti (by omega)]
  rfl
 grind [ZX,Vd]
theorem Ysl(n:Net)(l:List Flw)(s:Sch):schE n l s=Yfe n l s:=by
 unfold schE Yfe
 by_cases h1:Xv n l s≠0
 ·simp_all
 by_cases h2:(XZ n l s).2≠0
 ·simp_all
 by_cases h3:(Zn s).2≠0
 ·simp_all
 have hck:Yo n=0:=by
  unfold Xv at h1
  omega
 have hf:Fine n s:=YfZ (TQ.1 h2) (TQ.1 h3)
 grind [Yco,Ygm,Qp,Yhq]
def ltB(c:Cel)(x:Cel):Bool:=Xp x c
def posE(l:List Cel)(c:Cel):Nat:=(l.takeWhile (ltB c)).length
structure Pos(l:List Cel)(c:Cel)(k:Nat):Prop where
 le:k<=l.length
 lo:∀i x,i<k->l[i]? =some x->Xp x c=true
 hi:∀i x,k<=i->l[i]? =some x->Xp x c=false
abbrev Ord(l:List Cel):Prop:=l.Pairwise λa b=>Xp a b=true
variable {l:List Cel}{x c:Cel}
theorem Ygc(h:Ord l){i j:Nat}{y:Cel}(hx:l[i]? =some x)(hy:l[j]? =some y)(hij:i<j):Xp x y=true:=YqZ
theorem QV{α:Type}{p:α->Bool}:∀{l:List α}{i:Nat}{x:α},i<(l.takeWhile p).length->l[i]? =some x->p x=true
 |[],_,_,h,_=>by simp at h
 |a::l,i,x,h,hx=>by
  cases hp:p a with
  |false=>simp_all
  |true=>
   cases i with
   |zero=>simp_all
   |succ i=>exact QV (l:=l) (i:=i) (by simp_all) (by simp_all)
theorem QT{α:Type}{p:α->Bool}:∀{l:List α}{x:α},l[(l.takeWhile p).length]? =some x->p x=false
 |[],_,h=>by simp at h
 |a::l,x,h=>by
  cases hp:p a with
  |false=>simp_all
  |true=>
   exact QT (l:=l) (by simp_all)
theorem QU{α:Type}{p:α->Bool}:∀l:List α,(l.takeWhile p).length<=l.length
 |[]=>TS _
 |a::l=>by
  rw[List.takeWhile_cons]
  split
  ·have:=QU (p:=p) l;simp_all
  ·simp
theorem Ygi(h:Ord l)(c:Cel):Pos l c (posE l c):=by
 refine⟨QU l,λi x hi hx=>show ltB c x=true from QV hi hx,λi x hi hx=>?_⟩
 unfold posE at hi
 obtain⟨y,hy⟩:∃y,l[(l.takeWhile (ltB c)).length]? =some y:=⟨_,Ta (Nat.lt_of_le_of_lt hi (Tj.1 hx).1)⟩
 have h1:Xp y c=false:=by grind [ltB,QT]
 rcases Nat.eq_or_lt_of_le hi with e|hlt
 ·simp_all
 ·have h2:=Ygc h hy hx hlt
  grind [Uc]
variable {k:Nat}
theorem Pos.eq{m:Nat}(h1:Pos l c k)(h2:Pos l c m):k=m:=by
 rcases Nl k m with h|h|h
 ·obtain⟨x,hx⟩:∃x,l[k]? =some x:=⟨_,Ta (by have:=h2.le;omega)⟩
  have:=h1.hi k x (TS _) hx
  rw[h2.lo k x h hx]at this;simp_all
 ·exact h
 ·obtain⟨x,hx⟩:∃x,l[m]? =some x:=⟨_,Ta (by have:=h1.le;omega)⟩
  have:=h2.hi m x (TS _) hx
  rw[h1.lo m x h hx]at this;simp_all
theorem Pos.posE(h:Ord l)(hk:Pos l c k):k=posE l c:=hk.eq (Ygi h c)
theorem Ysg(h:Ord l)(hk:Pos l c k):l[k]? =some c↔c∈l:=by
 constructor
 ·grind
 ·intro hm
  obtain⟨i,hi⟩:=TL.1 hm
  rcases Nl i k with h1|h1|h1
  ·have:=hk.lo i c h1 hi
   grind [Ycb]
  ·simp_all
  ·obtain⟨x,hx⟩:∃x,l[k]? =some x:=⟨_,Ta (by grind)⟩
   have h2:=hk.hi k x (TS _) hx
   grind [Ygc]
def insC(l:List Cel)(c:Cel):List Cel:=l.take (posE l c)++c::l.drop (posE l c)
def Jz:Sch:=⟨0,0,[]⟩
def atE(s:Sch)(slot:Int):List Cel:=if Xh s=false\/slot<0 then []else s.cells.filter λc=>decide (c.1=slot.tmod s.len)
def movC(d:Int)(c:Cel):Cel:=(c.1+d,c.2)
def repC(s:Sch)(k:Nat):List Cel:=(List.range k).flatMap λi:Nat=>s.cells.map (movC ((i:Int)*s.len))
theorem Yh4(l:List Cel)(c:Cel):(insC l c).Perm (c::l):=by
 refine List.perm_middle.trans ?_
 rw[Rw]
theorem Oi:x∈insC l c↔x=c\/x∈l:=by
 grind [Yh4]
theorem YrT(h:Ord l)(hc:c∉l):Ord (insC l c):=by
 have hp:=Ygi h c
 have hsp:Ord (l.take (posE l c)++l.drop (posE l c)):=by simp_all
 obtain⟨h1,h2,h3⟩:=SU.1 hsp
 have hlo:∀x∈l.take (posE l c),Xp x c=true:=λx hx=>by
  obtain⟨i,hi⟩:=TL.1 hx
  have hil:=(Tj.1 hi).1
  rw[TO]at hil
  rw[List.getElem?_take_of_lt (by omega)]at hi
  exact hp.lo i x (by omega) hi
 have hhi:∀x∈l.drop (posE l c),Xp c x=true:=λx hx=>by
  obtain⟨i,hi⟩:=TL.1 hx
  rw[RZ]at hi
  have h4:=hp.hi _ x (Nat.le_add_right _ _) hi
  grind [Ylj]
 refine SU.2 ⟨h1,.cons hhi h2,λx hx y hy=>?_⟩
 grind
theorem Yan(h:Ord l):l.Nodup:=h.imp λ{a b} hab e=>by grind [Ycb]
end Go.Proofs.YtjommdkgfbhbdaaGreatDoor
namespace Go.Eng
open Go.RowKit
section
variable {P:Program}{m:Mode}{n:Shp}{B:Nat}{w0:World}{ops:Array Oper}{Q:Exit->Act->World->Prop}{rest:List Oper}{env:Env}{H:List HP}{d:Nat}{ty:TypeId}{pos:String}{after:Array Edge}
theorem O8(T:Tab P){t g o k e size:Nat}{x:Operand}(hx:evo env x=some (.pointer (some ⟨g,o,none⟩)))(ht:look T.ar t=some (k,e,size))(hn:Nat.ble (d+1) n.k=true)
 (h:VL P m n B w0 ops Q rest ((d,.slice (some ⟨g,o,none⟩) k k)::env) H):
 VL P m n B w0 ops Q (⟨some d,.slice t x none none none,ty,pos,after,none⟩::rest) env H:=by
 obtain⟨inf,hu,hinf,hs⟩:=Yha (T.arra ht)
 refine YO rfl rfl hn rfl (λa w ha hw=>?_) h
 simp[execOp,ha.eval hx,Instr.sliceAt,Instr.sliceBounds,Instr.sureAddr,run_underlying hu,sizeOf,typeInfo,hinf,Addr.add_lit]
theorem Yg9:∀(L:List HP),App L [] L
 |[]=>rfl
 |_::L=>⟨rfl,Yg9 L⟩
theorem Y8{id:Nat}{l:List Oper}(o1 last:List Nat)(hm:P.follows .mixedOrders=true)
 (hB:(Region.noSelect l.toArray&&decide ((o1++last).length=l.toArray.size)&&YeY l.toArray last&&(o1.all λj=>!last.contains j)&&U0 l.toArray (o1++last) (Array.replicate l.toArray.size false))=true)
 {l1 l2:List Oper}(hl1:Yd l o1=l1) (hl2:Yd l last=l2) (h:VL P (some (some [])) n B w0 l.toArray (Ja P l.toArray (Only Q) l2) l1 env H):VC P n B w0 (.region id l.toArray true) Q env H:=by
 simp only[Tq,Tm]at hB
 obtain⟨⟨⟨⟨h1,h2⟩,h3⟩,h4⟩,h5⟩:=hB
 refine⟨λa w ha hw=>ZZ (Q:=Only Q) ?_ λe a w h=>by exact zc81⟩
 have hst:St B w0 (H++[]) w.drew:=by rw[Ru];exact hw.drew
 have hr:YA P l.toArray (Ja P l.toArray (Only Q) l2) (St B w0 H) l1 a w.drew:=h.run a ha w.drew hst
 rw[<-hl1,<-hl2]at hr
 have:=Vu (S:=St B w0 H) h1 (λc a w h=>h) zc59 l rfl h3 o1 _ a w.drew (XV _ _) (λj hj=>by simp_all) h5 hst.prefix_ hr
 exact Yl9
end
end Go.Eng
namespace Go.Proofs.YtjommdkgfbhbdaaGreatDoor
open Go.RowKit Go.Eng Go.Nw
def cmpV(a b:List Int):Int:=if XW a b=true then -1 else if XW b a=true then 1 else 0
theorem Yd4(a b:List Int)(hla:a.length<=1000000000000)(hlb:b.length<=1000000000000){A1 A2:Option Addr}{c1 c2 B:Nat}{w0:World}{H:List HP}{w:World}(hr1:Rd B w0 H A1 (a.flatMap numF))(hr2:Rd B w0 H A2 (b.flatMap numF))(hw:St B w0 H w):
 CX B w0 381 [.slice A1 a.length c1,.slice A2 b.length c2] w λv K=>v=.int .i64 (cmpV a b)/\K=H:=by
 refine Ya Tryz.func381 Tryz.ntmps381 rfl rfl hw ?_
 refine zX9 ?_
 refine Ye (λ(i:Nat)=>[(11,.int .i64 i),(10,.int .i64 a.length),(9,.slice A1 a.length c1),(0,.slice A1 a.length c1),(1,.slice A2 b.length c2)]) (λ_=>H) (λi=>i<=a.length/\i<=b.length/\XW a b=XW (a.drop i) (b.drop i)/\XW b a=XW (b.drop i) (a.drop i)) (λi=>a.length-i) 0 ⟨Td _,Td _,rfl,rfl⟩ ?_ (λw hw=>hw) ?_
 ·exact zc1
 rintro i ⟨hi,hib,e1,e2⟩ K hK
 by_cases hlt:i<a.length
 ·obtain⟨x,hx⟩:∃x,a[i]? =some x:=⟨_,Ta hlt⟩
  by_cases hltb:i<b.length
  ·obtain⟨y,hy⟩:∃y,b[i]? =some y:=⟨_,Ta hltb⟩
   have d1:=Yc4 hx hy
   have d2:=Yc4 hy hx
   have hcm:=λ{w:World}(hw:St B w0 H w)=>JT x y hw
   by_cases hxy:x=y
   ·rw[Tf (λh=>h hxy)]at d1
    rw[Tf (λh=>h hxy.symm)]at d2
    rw[show cmpI x y=0 by unfold cmpI;rw[Tf (by omega),Tf (by omega)]]at hcm
    refine zX24 ?_<;>intros
    apply hK (i+1)
    ·exact⟨by omega,by omega,e1.trans d1,e2.trans d2⟩
    ·omega
    ·exact zc1
    exact zc18
   ·rw[To hxy]at d1
    rw[To (NM hxy)]at d2
    clear hK
    rcases Int.lt_or_gt_of_ne hxy with h|h
    ·rw[show cmpI x y= -1 by unfold cmpI;rw[To h]]at hcm
     have hv:cmpV a b= -1:=by unfold cmpV;rw[e1,d1,To (Ti h)]
     rw[hv]
     refine zX24 ?_<;>intros
     exact zc3
    ·rw[show cmpI x y=1 by unfold cmpI;rw[Tf (by omega),To h]]at hcm
     have hv:cmpV a b=1:=by unfold cmpV;rw[e1,d1,Tn (by omega),Tf (by decide),e2,d2,To (Ti h)]
     rw[hv]
     refine zX24 ?_<;>intros
     exact zc3
  ·obtain rfl:i=b.length:=by omega
   clear hK
   have hv:cmpV a b=1:=by
    unfold cmpV
    rw[e1,e2,Ss,T0 hlt]
    rfl
   rw[hv]
   refine zX25 ?_<;>intros
   exact zc3
 ·obtain rfl:i=a.length:=by omega
  clear hK
  rw[Ss]at e1 e2
  by_cases hl:a.length<b.length
  ·have hv:cmpV a b= -1:=by
    unfold cmpV
    rw[e1,T0 hl]
    rfl
   rw[hv]
   refine zX1 ?_<;>intros
   exact zc3
  ·have hv:cmpV a b=0:=by
    unfold cmpV
    rw[e1,e2,Rn (by omega)]
    rfl
   rw[hv]
   refine zX1 ?_<;>intros
   exact zc3
end Go.Proofs.YtjommdkgfbhbdaaGreatDoor
namespace Go.Eng
open Go.RowKit
section
variable {P:Program}{B:Nat}{w0 w:World}{H:List HP}
variable {f:Nat}{xs:Array Value}
theorem Yhi{Φ:Value->Prop}(hw:St B w0 H w)(h:Calls P f xs w (Post w.heap.size w λu _=>Φ u)):Calls P f xs w (Post B w0 λu K=>Φ u/\K=H):=
 h.mono λ_ _ ⟨u,_,e1,hst,hΦ⟩=>⟨u,H,e1,hw.grow hst.below,hΦ,rfl⟩
theorem YjG{u:Value}(hw:St B w0 H w)(h:Calls P f xs w λe w'=>e=.returned u/\Below w.heap.size w w'):Calls P f xs w (Post B w0 λv K=>v=u/\K=H):=
 h.mono λ_ _ ⟨e1,hb⟩=>⟨u,H,e1,hw.grow hb,rfl,rfl⟩
variable {A:Option Addr}
theorem Rd.here{xs:List Value}(hr:Rd B w0 H A xs)(hw:St B w0 H w):Rd w.heap.size w [] A xs:=Rd.old λj v hv=>by
 obtain⟨g,o,e1,hc⟩:=hr w hw j v hv
 refine⟨g,o,e1,?_,hc⟩
 rcases S8 g w.heap.size with h|h
 ·exact h
 ·simp[World.cell?,Array.getElem?_eq_none h]at hc
theorem Perm.openT(H:List HP):Perm [many H] H:=by
 have:=Perm.open_ H []
 simp_all
theorem Perm.closeT(H:List HP):Perm H [many H]:=by
 have:=Perm.close H []
 simp_all
theorem Rd.tail{xs:List Value}(h:Rd B w0 H A xs):Rd B w0 [many H] A xs:=h.mono λ_ hw=>hw.perm (.openT _)
end
end Go.Eng
namespace Go.Proofs.YtjommdkgfbhbdaaGreatDoor
open Go.RowKit Go.Eng Go.Nw
def celF(c:Cel):List Value:=[.int .i64 c.1,.int .i64 c.2.1,.int .i64 c.2.2.1,.int .i64 c.2.2.2.1,.int .i64 c.2.2.2.2]
def celV(c:Cel):Value:=.agg #[.int .i64 c.1,.int .i64 c.2.1,.int .i64 c.2.2.1,.int .i64 c.2.2.2.1,.int .i64 c.2.2.2.2]
structure SchM where
 len:Int
 off:Int
 A:Option Addr
 cap:Nat
 cells:List Cel
def SchM.sch(s:SchM):Sch:=⟨s.len,s.off,s.cells⟩
def SchM.val(s:SchM):Value:=.agg #[.int .i64 s.len,.int .i64 s.off,.slice s.A s.cells.length s.cap]
theorem Yci(a b:Cel):cmpV (nums a) (nums b)<0↔Xp a b=true:=by
 unfold cmpV Xp
 grind
theorem YoI(a b:Cel):cmpV (nums a) (nums b)=0↔a=b:=by
 unfold cmpV
 constructor
 ·intro h
  split at h
  ·cases h
  ·split at h
   ·cases h
   ·exact Ylj (by grind [Xp]) (by grind [Xp])
 simp_all [Yc5]
variable {B:Nat}{w0 w:World}{H:List HP}
theorem QG(c:Cel)(hw:St B w0 H w):
 CX B w0 169 [celV c] w λv K=>v=celV c/\K=H:=by
 refine Ya Tryz.func169 Tryz.ntmps169 rfl rfl hw ?_
 refine zX26 ?_<;>intros
 (apply Qa T (H2:=H);exact rfl;exact rfl;(focus exact zc2);exact rfl;exact rfl;(intro w hw;refine hw.perm ?_;focus exact zc5);exact Q3)
theorem Ykx(a b:Cel)(hw:St B w0 H w):
 CX B w0 319 [celV a,celV b,.func (.func 169) #[] #[]] w λv K=>v=.int .i64 (cmpV (nums a) (nums b))/\K=H:=by
 refine Ya Tryz.func319 Tryz.ntmps319 rfl rfl hw ?_
 apply Y5
 iterate 5 (first|refine zga ?_|(refine zgh ?_;intro _)|fail)
 apply Ybu
 apply Y5
 refine Z1 (λ(z:Nat×Nat)=>[(7,.pointer (some ⟨z.1,0,none⟩)),(8,.pointer (some ⟨z.2,0,none⟩))]) (λz=>blk z.1 (.cells (celF a).toArray 203 (0,0))::blk z.2 (.cells (celF b).toArray 203 (0,0))::H) ?_ ?_
 ·intro K hK
  apply V6 (.n1 0 (.n1 1 (.n1 3 (.n1 4 (.n3 2 (.n3 5 (.n2 6 (.n1 7 .done) 7 (.n1 6 .done)) 6 (.n2 5 (.n1 7 .done) 7 (.n1 5 .done)) 7 (.n2 5 (.n1 6 .done) 6 (.n1 5 .done))) 6 (.n2 2 (.n2 5 (.n1 7 .done) 7 (.n1 5 .done)) 7 (.n1 2 (.n1 5 .done))) 7 (.n2 2 (.n2 5 (.n1 6 .done) 6 (.n1 5 .done)) 6 (.n1 2 (.n1 5 .done)))))))) [8,9] [true,true]
  kernel_rfl
  kernel_rfl
  exact zy
  (simp only[Yd,nthO];rfl)
  repeat'(first|((apply Xr (cs:=[]));exact rfl;exact YsO;exact za;exact rfl;exactλ_ hw=>(QG _ hw))|(apply Yop;(simp only[nthO];rfl);(simp only[nthO];rfl);(simp only[nthO];rfl))|(apply Yex;(simp only[nthO];rfl);(simp only[nthO];rfl))|(apply Yew;(simp only[nthO];rfl))|(apply V7;try exact zl)|(apply Yh;try exact zl)|refine zgd ?_|(refine zgh ?_;intro _)|fail)
  all_goals(
   rename_i ga gb
   first
    |(refine hK (ga,gb) _ _ zu ?_;dsimp only[celF];exact zk;done)
    |(refine hK (gb,ga) _ _ zu ?_;dsimp only[celF];exact zk;done))
 rintro⟨g1,g2⟩
 dsimp only
 have hA:Rd B w0 (blk g1 (.cells (celF a).toArray 203 (0,0))::blk g2 (.cells (celF b).toArray 203 (0,0))::H) (some ⟨g1,0,none⟩) ((nums a).flatMap numF):=Rd.blk (cs:=(celF a).toArray) (.head _)
 have hB:Rd B w0 (blk g1 (.cells (celF a).toArray 203 (0,0))::blk g2 (.cells (celF b).toArray 203 (0,0))::H) (some ⟨g2,0,none⟩) ((nums b).flatMap numF):=Rd.blk (cs:=(celF b).toArray) (.tail _ (.head _))
 repeat'(first|(apply O8 T (e:=3);(iterate 3 exact rfl))|((apply Ym YxC);exact za;exact rfl;exactλ_ hw=>(Yd4 (nums a) (nums b) (by simp[nums]) (by simp[nums]) hA hB hw))|(apply zg28;refine zs84 ?_)|refine zgd ?_|fail)
 apply Yf H
 ·exact zc0
 exact zc25
theorem Oy(a b:Cel)(hw:St B w0 H w):
 CX B w0 250 [celV a,celV b] w λv K=>v=.int .i64 (cmpV (nums a) (nums b))/\K=H:=by
 refine Ya Tryz.func250 Tryz.ntmps250 rfl rfl hw ?_
 repeat'(first|((apply Yb Yxi);exact za;exact rfl;exactλ_ hw=>(Ykx a b hw))|refine zgb ?_|(refine zgh ?_;intro _)|fail)
 apply Yf H
 ·exact zk
 apply Yc;exact rfl;exact rfl
 exact⟨rfl,rfl⟩
theorem YaR(x n:Int)(hw:St B w0 H w):
 CX B w0 318 [.int .i64 x,.int .i64 n] w λv K=>v=.bool (insE x n)/\K=H:=by
 refine Ya Tryz.func318 Tryz.ntmps318 rfl rfl hw ?_
 repeat'(first|refine zgc ?_|(refine zgf ?_ ?_<;>intro _<;>try exact zo)|fail)
 all_goals(
  apply Yc;exact rfl;exact rfl
  first
   |exact⟨by rw[show insE x n=true from Ti (by omega)],rfl⟩
   |exact⟨by rw[show insE x n=false from Tn (by omega)],rfl⟩)
theorem YaY(s:SchM)(c:Cel)(hw:St B w0 H w):
 CX B w0 317 [s.val,celV c] w λv K=>v=.bool (XB s.sch c)/\K=H:=by
 refine Ya Tryz.func317 Tryz.ntmps317 rfl rfl hw ?_
 repeat'(first|((apply YT Ytj);exact za;exact rfl;exactλ_ hw=>(YaR _ _ hw);all_goals(intro hB;(try simp only[Tm,Tv]at hB);try exact zo))|refine zgc ?_|(refine zgh ?_;intro _)|fail)
 all_goals(
  apply Yf H
  ·exact zk
  apply Yc;exact rfl;exact rfl
  exact⟨by simp[XB,SchM.sch, *],rfl⟩)
theorem YaN(s:SchM)(c:Cel)(hw:St B w0 H w):
 CX B w0 249 [s.val,celV c] w λv K=>v=.bool (XA s.sch c)/\K=H:=by
 refine Ya Tryz.func249 Tryz.ntmps249 rfl rfl hw ?_
 repeat'(first|((apply YT YeI);exact za;exact rfl;exactλ_ hw=>(YaY s c hw);all_goals(intro hB;(try simp only[Tm,Tv]at hB);try exact zo))|((apply YT Ytj);exact za;exact rfl;exactλ_ hw=>(YaR _ _ hw);all_goals(intro hB;(try simp only[Tm,Tv]at hB);try exact zo))|refine zgc ?_|(refine zgh ?_;intro _)|fail)
 all_goals(
  apply Yf H
  ·exact zk
  apply Yc;exact rfl;exact rfl
  exact⟨by simp[XA, *],rfl⟩)
theorem YdA(s:SchM)(hw:St B w0 H w):
 CX B w0 248 [s.val] w λv K=>v=.bool (Zf s.sch)/\K=H:=by
 refine Ya Tryz.func248 Tryz.ntmps248 rfl rfl hw ?_
 have e1:s.sch.len=s.len:=rfl
 have e2:s.sch.off=s.off:=rfl
 repeat'(first|refine zgc ?_|(refine zgf ?_ ?_<;>intro _<;>try exact zo)|(refine zgh ?_;intro _)|fail)
 all_goals(
  apply Yf H
  ·exact zk
  apply Yc;exact rfl;exact rfl
  first
   |exact⟨by rw[show Zf s.sch=true from Ti (by omega)],rfl⟩
   |exact⟨by rw[show Zf s.sch=false from Tn (by omega)],rfl⟩)
end Go.Proofs.YtjommdkgfbhbdaaGreatDoor
namespace Go.Eng
open Go.RowKit
theorem Yd1{P:Program}(w:World)(t u ty e:TypeId)(i:TypeInfo)(ht:P.underlying t=some (.slice e))(hu:P.underlying u=some .string)(hi:P.info? e=some i)(hz:i.zero=some (.int .u8 0))
 (hsize:i.size=1) (hby:i.bytes=1) (v:Value) (n:Nat) (xs:List Value) (hown:w.ownsRow 0 e 1 v n xs) (s:ByteArray) (hb:n+s.size<=1000000000):
 ∃v' w',(Builtin.append_ #[t,u] ty #[v,.string s]).run P w=.ok v' w'/\w'.ownsRow 0 e 1 v' (n+s.size) (xs++Lib.strCells s)/\w.grownBy w' v.ownBlock/\∀b,v'.ownBlock=some b->v.ownBlock=some b\/w.heap.size<=b:=by
 have hm:n+s.size<=maxLen:=by grind [maxLen]
 obtain⟨v',w',h1,h2,h3,_⟩:=Lib.run_append_own_string (P:=P) w 0 t u ty e i ht hu hi hz hsize hby v n xs hown s hm (by omega) (Td _)
 refine⟨v',w',h1,h2,h3,λb hbb=>?_⟩
 rcases hown.2 with⟨rfl,rfl⟩|⟨g,cap,cur,rfl,hbg,hg,hnc,hcm,hcs,htake⟩
 ·right
  obtain⟨v2,w2,k1,k2,_⟩:=Lib.run_append_own_string (P:=P) w w.heap.size t u ty e i ht hu hi hz hsize hby (.slice none 0 0) 0 xs ⟨hown.1,.inl ⟨rfl,rfl⟩⟩ s hm (by omega) (TS _)
  rw[h1]at k1
  obtain⟨rfl,rfl⟩:v'=v2/\w'=w2:=by simp_all
  rcases k2.2 with⟨e1,_⟩|⟨g',_,_,e1,e2,_⟩
  all_goals grind [Go.Value.ownBlock]
 ·have hcs':cur.size=cap:=by omega
  have hxl:xs.length=n:=by grind
  by_cases hroom:n+s.size<=cap
  ·have k1:=Lib.run_append_room_string (P:=P) w t u ty e i ht hu hi hsize g n cap cur hg s hroom (by omega)
   rw[h1]at k1
   obtain⟨rfl,_⟩:=(Result.ok.injEq _ _ _ _).mp k1
   exact .inl hbb
  ·have holds:∀j u,xs[j]? =some u->w.cell? ((⟨g,0,none⟩:Addr).add j)=some u:=hown.cells (g:=g) rfl
   have k1:=Lib.run_append_grow_string (P:=P) w t u ty e i (.int .u8 0) ht hu hi hz ⟨g,0,none⟩ n cap xs (by simp_all) holds s (by omega) (by omega) (by rw[hby];exact growslice_fits (by omega) (by omega))
   exact Ymb
section
variable {P:Program}{m:Mode}{n:Shp}{B d:Nat}{w0:World}{ops:Array Oper}{Q:Exit->Act->World->Prop}{rest:List Oper}{env:Env}{H:List HP}{ty:TypeId}{pos:String}{after:Array Edge}{x y:Operand}
def Yb9(P:Program)(e:TypeId):Bool:=match P.info? e with|some i=>(match i.zero with|some (.int .u8 0)=>true|_=>false)&&i.size==1&&i.bytes==1|none=>false
theorem Yd2{e:TypeId}(h:Yb9 P e=true):∃i,P.info? e=some i/\i.zero=some (.int .u8 0)/\i.size=1/\i.bytes=1:=by
 unfold Yb9 at h
 grind
theorem Yfy(T:Tab P){t tt k cap e bytes:Nat}{A:Option Addr}{s:ByteArray}{xs:List Value}{K:Option Addr->Nat->List HP}(hx:evo env x=some (.slice A k cap))(hy:evo env y=some (.string s))(ht:look T.sl t=some (e,1,bytes))(hbi:Yb9 P e=true)(htt:look T.st tt=some ())
 (hn:Nat.ble (d+1) n.k=true) (hu:∀A' cap',Upd (sl e 1 A k cap xs) (sl e 1 A' (k+s.size) cap' (xs++Lib.strCells s)) H (K A' cap')) (hb:k+s.size<=1000000000)
 (h:∀A' cap',VL P none n B w0 ops Q rest ((d,.slice A' (k+s.size) cap')::env) (K A' cap')):
 VL P none n B w0 ops Q (⟨some d,.call ⟨.builtin .append,#[x,y],#[t,tt]⟩,ty,pos,after,none⟩::rest) env H:=by
 obtain⟨hut,_⟩:=YN (T.slic ht)
 obtain⟨i,hi,hz,hs1,hb1⟩:=Yd2 hbi
 have hst:P.underlying tt=some .string:=T.strs htt
 refine XG (λv K'=>∃A' cap',v=.slice A' (k+s.size) cap'/\K'=K A' cap') rfl rfl hn (λa w ha hw=>?_) YqO
 have hmem:sl e 1 A k cap xs∈H:=YqU
 have hown:=hw.sl hmem
 obtain⟨v',w',hrun,hown',hgrow,hat⟩:=Yd1 (P:=P) w t tt ty e i hut hst hi hz hs1 hb1 (.slice A k cap) k xs hown s hb
 have hshape:∃A' cap',v'=.slice A' (k+s.size) cap':=YuG
 obtain⟨A',cap',rfl⟩:=hshape
 refine⟨_,K A' cap',w',by exact YqL,?_,A',cap',rfl,rfl⟩
 refine hw.updN (hu A' cap') hgrow.os hgrow.tape hgrow.output hgrow.size λS1 ⟨_,hS⟩=>⟨⟨λb=>Value.ownBlock (.slice A' (k+s.size) cap')=some b,⟨hown',?_⟩,λb hb=>?_⟩,λb hb hlt=>hgrow.block b hlt (λe=>hb ?_)⟩
 ·rintro a rfl;rfl
 ·rcases hat b hb with e|e
  ·cases A with
   |none=>cases e
   |some a=>exact Ymb
  ·right
   refine⟨e,?_⟩
   rcases hown'.2 with⟨e1,_⟩|⟨g',_,_,e1,_,e3,_⟩
   all_goals grind [Go.Value.ownBlock]
 ·cases A with
  |none=>cases e
  |some a=>exact Ymb
end
end Go.Eng
namespace Go.Proofs.YtjommdkgfbhbdaaGreatDoor
open Go.RowKit Go.Eng Go.Nw
theorem YoD{s:Sch}{i:Nat}(hi:i<s.cells.length)(h:Zh s i=false):Xh s=false:=by
 unfold Xh
 grind
theorem Ym2(s:SchM){B:Nat}{w0:World}{H:List HP}{w:World}(hr:Rd B w0 H s.A (s.cells.flatMap celF))(hl:s.cells.length<=1000000000000)(hw:St B w0 H w):
 CX B w0 167 [s.val] w λv K=>v=.bool (Xh s.sch)/\K=H:=by
 refine Ya Tryz.func167 Tryz.ntmps167 rfl rfl hw ?_
 have e1:s.sch.cells=s.cells:=rfl
 repeat'(first|((apply YT Yhx);exact za;exact rfl;exactλ_ hw=>(YdA s hw);all_goals(intro hB;(try simp only[Tm,Tv]at hB);try exact zo))|refine zgd ?_|(refine zgf ?_ ?_<;>intro _<;>try exact zo)|(refine zgh ?_;intro _)|fail)
 ·apply Yf H
  ·exact zc0
  apply Yc;exact rfl;exact rfl
  exact⟨by rw[show Xh s.sch=false by unfold Xh;grind],rfl⟩
 rotate_left
 ·apply Yf H
  ·exact zc0
  apply Yc;exact rfl;exact rfl
  exact⟨by simp[Xh, *],rfl⟩
 rename_i g _
 refine Ye (λ(i:Nat)=>[(17,.int .i64 i),(16,.int .i64 s.cells.length),(15,.slice s.A s.cells.length s.cap),(1,.pointer (some ⟨g,0,none⟩))]) (λ_=>blk g (.cells #[.int .i64 s.len,.int .i64 s.off,.slice s.A s.cells.length s.cap] 33 (0,0))::H) (λi=>i<=s.cells.length/\(List.range i).all (Zh s.sch)=true) (λi=>s.cells.length-i) 0 ⟨Td _,rfl⟩ ?_ (λw hw=>hw) ?_
 ·exact zc1
 rintro i ⟨hi,hall⟩ K hK
 have hr:=hr.cons (X:=blk g (.cells #[.int .i64 s.len,.int .i64 s.off,.slice s.A s.cells.length s.cap] 33 (0,0)))
 by_cases hlt:i<s.cells.length
 ·have hget:s.cells[i]? =some (Yl s.sch i):=YS (s:=s.sch) hlt
  have hgo:Zh s.sch i=false->Xh s.sch=false:=YoD (s:=s.sch) hlt
  have hst:Zh s.sch i=true->(List.range (i+1)).all (Zh s.sch)=true:=λh=>by rw[Wx,hall,h];rfl
  rcases RU i with h0|h0
  ·subst h0
   repeat'(first|((apply ZM Ys8);exact za;exact rfl;exactλ_ hw=>(YaN s _ hw);all_goals(intro hB;(try simp only[Tm,Tv]at hB);try exact zo))|(apply zg28;refine zs84 ?_)|refine zgd ?_|(refine zgf ?_ ?_<;>intro _<;>try exact zo)|(refine zgh ?_;intro _)|fail)
   ·apply hK (0+1)
    ·exact⟨by omega,hst (by simp[Zh, *])⟩
    ·omega
    ·exact zc1
    ·exact zc0
   ·apply Yf H
    ·exact zc0
    apply Yc;exact rfl;exact rfl
    exact⟨by rw[hgo (by simp[Zh, *])],rfl⟩
  ·have hget2:s.cells[((i:Int)-1).toNat]? =some (Yl s.sch (i-1)):=zc70
   repeat'(first|((apply ZM Ys8);exact za;exact rfl;exactλ_ hw=>(YaN s _ hw);all_goals(intro hB;(try simp only[Tm,Tv]at hB);try exact zo))|((apply Ym Ys9);exact za;exact rfl;exactλ_ hw=>(Oy _ _ hw))|(apply zg28;refine zs84 ?_)|refine zgd ?_|(refine zgf ?_ ?_<;>intro _<;>try exact zo)|(refine zgh ?_;intro _)|fail)
   all_goals first
    |(apply hK (i+1)
      ·refine⟨by omega,hst ?_⟩
       have hc:cmpV (nums (Yl s.sch (i-1))) (nums (Yl s.sch i))<0:=by omega
       simp[Zh,(Yci _ _).1 hc, *]
      ·omega
      ·exact zu
      ·exact zk
      done)
    |(apply Yf H
      ·exact zk
      apply Yc;exact rfl;exact rfl
      refine⟨?_,rfl⟩
      rw[hgo]
      first
       |(simp[Zh, *];done)
       |(have hc:¬cmpV (nums (Yl s.sch (i-1))) (nums (Yl s.sch i))<0:=by omega
         have hd:Xp (Yl s.sch (i-1)) (Yl s.sch i)=false:=by
          rw[Yci]at hc
          simpa using hc
         simp[Zh,hd]
         omega))
 ·refine zX1 ?_<;>intros
  apply Yf H
  ·exact zc0
  apply Yc;exact rfl;exact rfl
  refine⟨?_,rfl⟩
  rw[show i=s.cells.length by omega]at hall
  rw[show Xh s.sch=true by unfold Xh;rw[e1,hall,Ti (by omega)];simp[*]]
end Go.Proofs.YtjommdkgfbhbdaaGreatDoor
namespace Go.Eng
open Go.RowKit
section
variable {P:Program}{m:Mode}{n:Shp}{B d:Nat}{w0:World}{ops:Array Oper}{Q:Exit->Act->World->Prop}{rest:List Oper}{env:Env}{H:List HP}{ty:TypeId}{pos:String}{after:Array Edge}{x y hi:Operand}
theorem Yen(w:World)(dT sT ty elem:TypeId)(g o dLen dCap size:Nat)(a:Addr)(sLen sCap:Nat)(cur:Array Value)(t:TypeId)(cs:List Value)
 (hu:P.underlying dT=some (.slice elem)) (hs:(P.info? elem).map (·.size)=some size)
 (hg:w.heap[g]? =some (.cells cur t (0,0))) (hn:cs.length=Nat.min sLen dLen*size)
 (hsrc:∀j v,cs[j]? =some v->w.cell? (a.add j)=some v) (hfit:o+cs.length<=cur.size) (h1:∀v∈cs,v.oneCell'=true):
 (Builtin.copy_ #[dT,sT] ty #[.slice (some ⟨g,o,none⟩) dLen dCap,.slice (some a) sLen sCap]).run P w=
  .ok (goInt (Nat.min sLen dLen)) (w.setRow g (cur.toList.take o++cs++cur.toList.drop (o+cs.length)).toArray):=by
 have hl:=run_firstCells_some (P:=P) w size (Nat.min sLen dLen) a sLen sCap cs hn hsrc
 have hst:=run_storeCells_at P g o t cs 0 cur w hg (by omega) h1
 cases hq:P.info? elem with
 |none=>simp_all
 |some i=>
  simp_all [Go.Builtin.copy_,Go.Builtin.lenOf,sizeOf,typeInfo,run_underlying]
variable {α:Type}
theorem Ysm(l cs:List α)(o k k':Nat)(hk:k<=l.length)(ho:o<=k)(hfit:o+cs.length<=l.length)(hk':k'=max k (o+cs.length)):
 (l.take o++cs++l.drop (o+cs.length)).take k'=(l.take k).take o++cs++(l.take k).drop (o+cs.length):=by
 have hA:(l.take o++cs).length=o+cs.length:=by grind
 by_cases h:o+cs.length<=k
 ·grind [Nat.max_eq_left,YiV]
 ·rw[hk',Nat.max_eq_right (by omega),SG,hA,NK,Ns,Ru,TE (by omega),List.take_take,SA (by omega),Rn (by grind),Ru]
variable {t e size bytes o k cap kd cd mm c2:Nat}{A A2:Option Addr}{xs:List Value}{K:List HP}
theorem Yn4(T:Tab P){k':Nat}{ys:List Value}(hx:evo env x=some (.slice (subA A o cap size) kd cd))(hy:evo env y=some (.slice A2 mm c2))(hr:Rd B w0 H A2 ys)
 (hu:Upd (sl e size A k cap xs) (sl e size A k' cap (xs.take (o*size)++ys.take (min mm kd*size)++xs.drop (o*size+min mm kd*size))) H K) (ht:look T.sl t=some (e,size,bytes)) (hn:Nat.ble (d+1) n.k=true) (h1:∀v∈ys,v.oneCell'=true)
 (hA:∃g,A=some ⟨g,0,none⟩) (hb:o+kd<=cap/\0<min mm kd/\o<=k/\k'=max k (o+min mm kd)) (hyl:min mm kd*size<=ys.length)
 (h:VL P none n B w0 ops Q rest ((d,.int .i64 (min mm kd:Nat))::env) K):
 VL P none n B w0 ops Q (⟨some d,.call ⟨.builtin .copy,#[x,y],#[t,t]⟩,ty,pos,after,none⟩::rest) env H:=by
 obtain⟨hut,inf,z,hi,hz,hzs,hsi,hbi,hs0,hb0⟩:=YN (T.slic ht)
 refine XG (λv K'=>v=.int .i64 (min mm kd:Nat)/\K'=K) rfl rfl hn (λa w ha hw=>?_) zc69
 have hmem:sl e size A k cap xs∈H:=Yji
 obtain⟨hb1,hb2,hb3,hb5⟩:=hb
 rcases ZQ (hw.sl hmem)with⟨rfl,_⟩|⟨g,cur,rfl,g1,g2,g3,g4,g5,g6⟩
 ·obtain⟨_,hA⟩:=hA;cases hA
 have hsub:subA (some ⟨g,0,none⟩) o cap size=some ⟨g,o*size,none⟩:=YuE
 obtain⟨c,hc⟩:∃c,min mm kd=c:=⟨_,rfl⟩
 rw[hc]at hu hb2 hb5 hyl
 have hcs:(ys.take (c*size)).length=c*size:=YdT
 have hpos:0<c*size:=Nat.mul_pos hb2 hs0
 have hsome:∃a2,A2=some a2/\∀j v,(ys.take (c*size))[j]? =some v->w.cell? (a2.add j)=some v:=by
  have h0:ys[0]? =some (ys[0]'(by omega)):=Ta (by omega)
  obtain⟨g2',o2,rfl,_⟩:=hr w hw 0 _ h0
  refine⟨_,rfl,λj v hj=>?_⟩
  rw[RL]at hj
  by_cases hjm:j<c*size
  ·rw[To hjm]at hj
   obtain⟨g3',o3,e3,hc⟩:=hr w hw j v hj
   injection e3 with e3
   injection e3 with e3 e4
   subst e3 e4
   rw[Addr.add_lit];exact hc
  ·rw[Tf hjm]at hj;cases hj
 obtain⟨a2,rfl,hsrc⟩:=hsome
 have hoc:o+c<=cap:=by
  have:c<=kd:=by rw[<-hc];exact Nat.min_le_right _ _
  omega
 have hfit:o*size+c*size<=cur.size:=by rw[g4,<-SR];exact Ri _ hoc
 have hrun:=Yen (P:=P) w t t ty e g (o*size) kd cd size a2 mm c2 cur e (ys.take (c*size)) hut (by rw[hi];simp[hsi]) g1 (by rw[hcs];show c*size=min mm kd*size;rw[hc]) hsrc (by rw[hcs];exact hfit) (λv hv=>h1 v (SJ hv))
 have hkl:k*size<=cur.toList.length:=by rw[Array.length_toList,g4];exact Ri _ g2
 have hok:o*size<=k*size:=Ri _ hb3
 have hmax:k'*size=max (k*size) (o*size+c*size):=by
  rw[hb5,<-SR]
  rcases Nat.le_total k (o+c)with h|h
  ·rw[Nat.max_eq_right h,Nat.max_eq_right (Ri _ h)]
  ·rw[Nat.max_eq_left h,Nat.max_eq_left (Ri _ h)]
 refine⟨_,K,_,?_,hw.storeRow (k':=k') (o:=o*size) (vs:=ys.take (c*size)) hu rfl g1 g4 (by rw[hb5];exact Nat.max_le.2 ⟨g2,hoc⟩) g3 (by rw[hcs];exact hfit) ?_ ?_,rfl,rfl⟩
 ·simp only[execOp,resolve,invoke,builtin]
  have hmap:#[x,y].map a.eval=#[.slice (some ⟨g,o*size,none⟩) kd cd,.slice (some a2) mm c2]:=by simp[ha.eval hx,ha.eval hy,hsub]
  simp only[hmap,Sem.run_bind,Sem.run_pure,Result.andThen_ok]
  rw[hrun]
  simp[goInt]
 ·have:=Ysm cur.toList (ys.take (c*size)) (o*size) (k*size) (k'*size) hkl hok (by rw[hcs,Array.length_toList];exact hfit) (by rw[hcs];exact hmax)
  rw[hcs]at this⊢
  rw[this,g5]
 ·rw[Tt,Tt,hcs,TO,TZ,g6,hmax]
  omega
theorem Zp(T:Tab P){f:α->List Value}(L M R:List α)(hx:evo env x=some (.slice (subA A o cap size) kd cd))(hy:evo env y=some (.slice A2 mm c2))(hr:Rd B w0 H A2 (M.flatMap f))(hq:∀a,(f a).length=size)(h1:∀a,Z6 (f a)=true)
 (ht:look T.sl t=some (e,size,bytes)) (hn:Nat.ble (d+1) n.k=true) (hA:∃g,A=some ⟨g,0,none⟩) (hb:o+kd<=cap/\0<min mm kd/\o<=L.length/\min mm kd<=M.length) (hR:L.take o++M.take (min mm kd)++L.drop (o+min mm kd)=R)
 (hu:Upd (sl e size A L.length cap (L.flatMap f)) (sl e size A R.length cap (R.flatMap f)) H K)
 (h:VL P none n B w0 ops Q rest ((d,.int .i64 (min mm kd:Nat))::env) K):
 VL P none n B w0 ops Q (⟨some d,.call ⟨.builtin .copy,#[x,y],#[t,t]⟩,ty,pos,after,none⟩::rest) env H:=by
 have hlen:∀l:List α,(l.flatMap f).length=l.length*size:=λl=>by
  induction l with
  |nil=>simp
  |cons a l ih=>grind
 have hRl:R.length=max L.length (o+min mm kd):=by
  grind
 have hRf:R.flatMap f=(L.flatMap f).take (o*size)++(M.flatMap f).take (min mm kd*size)++(L.flatMap f).drop (o*size+min mm kd*size):=by
  rw[<-hR,Rj,Rj,Za hq,Za hq,Oc hq,SR]
 rw[hRf]at hu
 refine Yn4 T hx hy hr hu ht hn (λv hv=>?_) hA ⟨hb.1,hb.2.1,hb.2.2.1,hRl⟩ (by grind [Ri]) h
 grind [ZC]
theorem Wu(T:Tab P){tn i j:Nat}(hx:evo env x=some (.slice A i cap))(hy:evo env y=some (.int .i64 (j:Int)))(hm:sl e size A k cap xs∈H)(ht:look T.sl t=some (e,size,bytes))(htn:Yf5 P tn=true)(hn:Nat.ble (d+1) n.k=true)(hb:Nat.ble bytes 1000=true)
 (hk:i<=k/\0<k/\0<j/\cap<i+j/\i+j<=1000000)
 (h:∀g c,i+j<=c->VL P none n B w0 ops Q rest ((d,.slice (some ⟨g,0,none⟩) (i+j) c)::env) (sl e size (some ⟨g,0,none⟩) i c (xs.take (i*size))::H)):VL P none n B w0 ops Q (⟨some d,.call ⟨.builtin .append,#[x,y],#[t,tn]⟩,ty,pos,after,none⟩::rest) env H:=by
 obtain⟨hu,inf,z,hi,hz,hzs,hsi,hbi,hs0,hb0⟩:=YN (T.slic ht)
 obtain⟨kn,hkn⟩:=YaS htn
 have hb':=TV hb
 refine XG (λv K=>∃g c,v=.slice (some ⟨g,0,none⟩) (i+j) c/\K=sl e size (some ⟨g,0,none⟩) i c (xs.take (i*size))::H/\i+j<=c) rfl rfl hn (λa w ha hw=>?_) (by rintro _ _ ⟨g,c,rfl,rfl,hc⟩;exact h g c hc)
 obtain⟨hk1,hk2,hk3,hk4,hk5⟩:=hk
 have hown:=hw.sl hm
 rcases ZQ hown with⟨_,e0,_⟩|⟨g,cur,rfl,g1,g2,g3,g4,g5,g6⟩
 ·omega
 have hik:i*size<=k*size:=Ri _ hk1
 have hxl:(xs.take (i*size)).length=i*size:=YdT
 have hbj:(i+j)*inf.bytes<=1000000*1000:=Nat.mul_le_mul hk5 (by omega)
 have hbj2:j*inf.bytes<=(i+j)*inf.bytes:=Ri _ (by omega)
 have hold:(Builtin.firstCells inf.size i (.slice (some ⟨g,0,none⟩) i cap)).run P w.drew=.ok (xs.take (i*size)).toArray w.drew:=by
  rw[hsi]
  refine run_firstCells_some (P:=P) w.drew size i ⟨g,0,none⟩ i cap _ hxl λq v hq=>?_
  rw[RL]at hq
  split at hq
  ·obtain⟨g',e5,hc,_⟩:=QR hown hq
   injection e5 with e5
   injection e5 with e5
   subst e5
   rw[Addr.add_lit,Rl];exact hc
  ·cases hq
 have hrun:=Lib.run_append_grow_zeros (P:=P) w t tn ty e inf z .i64 kn hu hkn hi hz (some ⟨g,0,none⟩) i cap (xs.take (i*size)) hold j hk3 (by omega) hk4 (by omega) (by omega) (growslice_fits hk4 (by omega))
 have hge:=grownCap_ge w (i+j) cap e
 have hcm:grownCap w (i+j) cap e<=maxLen:=grownCap_le_maxLen w (i+j) cap e (by simp only[maxLen];omega)
 refine⟨_,_,_,by exact zc92,?_,w.heap.size,grownCap w (i+j) cap e,rfl,rfl,hge⟩
 have h2:=hw.drew.alloc (.cells ((xs.take (i*size)).toArray++Builtin.zeroCells z.cells j++Builtin.zeroCells z.cells (grownCap w (i+j) cap e-(i+j))) e)
 refine h2.upd (Upd.here _) rfl rfl rfl (TS _) λS1 ⟨h3,h4⟩=>⟨⟨⟨hxl,.inr ⟨w.heap.size,grownCap w (i+j) cap e,_,rfl,Td _,h4,by omega,hcm,?_,?_⟩⟩,λa ha=>by cases ha;exact h3⟩,λ_ _ _=>rfl⟩
 ·rw[Array.size_append,Array.size_append,size_zeroCells,size_zeroCells,hzs,List.size_toArray,hxl,<-SR,<-SR]
  congr 1
  omega
 ·rw[Array.toList_append,Array.toList_append,Ro,SG,TE (by simp[hxl]),List.toList_toArray,hxl,NK,Ns,Ru]
theorem ZO(T:Tab P){n':Nat}{ki:IntKind}{z:Int}(hx:evo env x=some (.slice A k cap))(hl:evo env hi=some (.int ki z))(ht:look T.sl t=some (e,size,bytes))(hn:Nat.ble (d+1) n.k=true)(hb:0<=z/\z<=cap)(hn':z.toNat=n')(hA:∃g,A=some ⟨g,0,none⟩)
 (h:VL P m n B w0 ops Q rest ((d,.slice A n' cap)::env) H):VL P m n B w0 ops Q (⟨some d,.slice t x none (some hi) none,ty,pos,after,none⟩::rest) env H:=by
 subst hn'
 obtain⟨g,rfl⟩:=hA
 refine YO rfl rfl hn rfl (λf w ha hw=>?_) h
 have hA:(if cap=0 then(some ⟨g,0,none⟩:Option Addr)else(some ⟨g,0,none⟩:Option Addr).map (·.add (0*size)))=some ⟨g,0,none⟩:=by
  simp[Addr.add_lit]
 have hb2:(Instr.sliceBounds true k cap none (some (.int ki z)) none).run P w=.ok (0,z.toNat,cap) w:=zc71
 have hr:=Jr T (A:=some ⟨g,0,none⟩) ht hb2
 exact Yuo
theorem Q7{w:World}{gv g:Nat}{o:Obj}{R:List HP}(h:St B w0 (Eng.blk gv o::sl e size (some ⟨g,0,none⟩) k cap xs::R) w):gv≠g:=by
 obtain⟨S1,S2,_,_,hd,h4,h5⟩:=h.sep
 obtain⟨S3,S4,h6,_,_,h9,_⟩:=h5
 rintro rfl
 exact hd gv h4.1 (h6 _ (h9.2 _ rfl))
end
end Go.Eng
