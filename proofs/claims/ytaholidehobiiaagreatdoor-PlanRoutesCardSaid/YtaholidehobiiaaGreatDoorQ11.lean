/- Lemmas for the claim, part 11. -/
import Derived.Lib.AppendZeros
import Derived.RangeFuncFrom
import Derived.RangeFuncNested
import Derived.RangeFuncLeaves
import Derived.Test.YtaholidehobiiaaGreatDoorQ9
set_option maxRecDepth 100000
set_option maxHeartbeats 8000000
set_option linter.all false
namespace Go.Proofs.YtaholidehobiiaaGreatDoor
open Go.RowKit Go.Eng Go.Nw
variable {A:Option Addr}{cap B:Nat}{w0 w:World}{H:List HP}
theorem YqQ(xs:List Int)(n:NetM)(g:Nat)(hw:St B w0 (blk g (.cells #[.int .i64 n.nodes,.slice n.pA n.rows.length n.pcap,.int .i64 n.noise,.int .i64 n.thr,.slice n.lA n.links.length n.lcap,.slice n.mA n.margin.length n.mcap] 26 (0,0))::H) w):
 CX B w0 256 [.slice A xs.length cap,.pointer (some ⟨g,0,none⟩)] w λv K=>v=.bool (wide n.nodes xs)/\K=blk g (.cells #[.int .i64 n.nodes,.slice n.pA n.rows.length n.pcap,.int .i64 n.noise,.int .i64 n.thr,.slice n.lA n.links.length n.lcap,.slice n.mA n.margin.length n.mcap] 26 (0,0))::H:=by
 refine Yc Tryz.func256 Tryz.ntmps256 rfl rfl hw ?_
 unfold wide
 repeat'(first|refine zgb ?_|(refine zge ?_ ?_<;>intro _<;>try exact zo)|fail)
 ·rename_i h
  exact zc24
 ·rename_i h
  exact zc24
theorem YqR(p:Int)(hw:St B w0 H w):CX B w0 257 [.int .i64 p] w λv K=>v=.bool (ZR p)/\K=H:=by
 refine Yc Tryz.func257 Tryz.ntmps257 rfl rfl hw ?_
 unfold ZR
 repeat'(first|refine zgd ?_|(refine zgf ?_ ?_<;>intro _<;>try exact zo)|fail)
 ·exact zc24
 ·exact zc24
 ·exact zc24
theorem YqS(xs:List Int)(hl:xs.length<=9223372036854775807)(g:Nat)(hr:Rd B w0 H A (xs.flatMap numF))(hw:St B w0 (blk g (.cells #[.func (.func 257) #[] #[]] 266 (0,0))::H) w):
 CX B w0 258 [.slice A xs.length cap,.pointer (some ⟨g,0,none⟩)] w λv K=>v=.bool (xs.any ZR)/\K=blk g (.cells #[.func (.func 257) #[] #[]] 266 (0,0))::H:=by
 refine Yc Tryz.func258 Tryz.ntmps258 rfl rfl hw ?_
 repeat'(first|((first|apply Ya Ynf|apply Yb Ynf);exact za;exact rfl;exactλ_ hw=>(Wk (λz:Int=>.int .i64 z) ZR xs 257 [] Yxt hl hr.cons (λa _ _ hw=>YqR a hw) hw))|(refine zs7 ?_)|refine zga ?_|fail)
 exact zc24
theorem Yat(n:NetM)(p:List Int->Bool):(n.rows.any λr=>p r.xs)=n.net.power.any p:=by grind [Go.Proofs.YtaholidehobiiaaGreatDoor.NetM.net]
theorem Ycz(n:NetM)(hin:n.In B w0 H)(hw:St B w0 H w):
 CX B w0 184 [n.val] w λv K=>v=.int .i64 (Vl n.net)/\K=H:=by
 refine Yc Tryz.func184 Tryz.ntmps184 rfl rfl hw ?_
 obtain⟨hpw,hrw,hlk,hmg,hs1,hs2,hs3,hs4⟩:=hin
 have e1:n.net.power.length=n.rows.length:=by simp[NetM.net]
 have e2:n.net.nodes=n.nodes:=rfl
 unfold Vl
 rw[e1,e2,<-Yat,<-Yat n (λr=>r.any ZR)]
 repeat'(first|(apply zg29;(apply Yw;exact za;exact rfl))|refine zgd ?_|(refine zge ?_ ?_<;>intro _<;>try exact zo)|(refine zgh ?_;intro _)|fail)
 ·((repeat apply Yj);apply Yd;exact rfl;exact rfl;refine⟨TE _ ?_,rfl⟩)
  omega
 rename_i g _
 repeat'(first|((first|apply Ya Yq4|apply Yb Yq4);exact za;exact rfl;exactλ_ hw=>(Wl (λr:RowM=>.slice r.A r.xs.length r.cap) (λr=>wide n.nodes r.xs) n.rows 256 [.pointer (some ⟨g,0,none⟩)] Yxs hs1 hpw.cons (λa _ _ hw=>YqQ a.xs n g hw) hw))|refine zgc ?_|fail)
 cases hc:(n.rows.any λr=>wide n.nodes r.xs)
 rotate_left
 ·exact zc37
 repeat'(first|(apply zg29;(apply Yw;exact za;exact rfl))|refine zgd ?_|(refine zgh ?_;intro _)|fail)
 rename_i g2
 apply Ya Yq4
 exact za
 exact rfl
 exactλ_ hw=>Wl (λr:RowM=>.slice r.A r.xs.length r.cap) (λr=>r.xs.any ZR) n.rows 258 [.pointer (some ⟨g2,0,none⟩)] Yxu hs1 hpw.cons.cons (λa ha _ hw=>YqS a.xs (hs2 a ha) g2 (hrw a ha).cons hw) hw
 cases hd:(n.rows.any λr=>r.xs.any ZR)
 ·refine zX4 ?_
  ((repeat apply Yj);apply Yd;exact rfl;exact rfl;refine⟨TE _ ?_,rfl⟩)
  simp_all
 ·exact zc37
abbrev netB(g:Nat)(n:NetM):HP:=blk g (.cells #[.int .i64 n.nodes,.slice n.pA n.rows.length n.pcap,.int .i64 n.noise,.int .i64 n.thr,.slice n.lA n.links.length n.lcap,.slice n.mA n.margin.length n.mcap] 26 (0,0))
def Xz:List Int->Int
 |[]=>0
 |a::l=>if a≠0 then a else Xz l
theorem Yhv(l:List Int){k:Nat}{a:Int}(h:l[k]? =some a):Xz (l.drop k)=if a≠0 then a else Xz (l.drop (k+1)):=by
 grind [Rl,Xz]
variable {B:Nat}{w0 w:World}{H:List HP}
theorem YnH(l:List Int)(hlen:l.length<=1000){A:Option Addr}{cap:Nat}(hr:Rd B w0 H A (l.flatMap numF))(hw:St B w0 H w):
 CX B w0 139 [.slice A l.length cap] w λv K=>v=.int .i64 (Xz l)/\K=H:=by
 refine Yc Tryz.func139 Tryz.ntmps139 rfl rfl hw ?_
 refine zX8 ?_
 refine Yg (λ(k:Nat)=>[(8,.int .i64 k),(7,.int .i64 l.length),(6,.slice A l.length cap),(3,.int .i64 0)]) (λ_=>H) (λk=>k<=l.length/\Xz l=Xz (l.drop k)) (λk=>l.length-k) 0 ⟨Tm _,by simp⟩ ?_ (λw hw=>hw) ?_
 ·exact zc1
 rintro k ⟨hk,hi⟩ K hK
 by_cases hlt:k<l.length
 ·obtain⟨a,ha⟩:∃a,l[k]? =some a:=⟨_,Ta hlt⟩
  rw[Yhv l ha]at hi
  repeat'(first|refine zgd ?_|(refine zge ?_ ?_<;>intro _<;>try exact zo)|fail)
  ·rename_i h
   rw[Tn h]at hi
   exact zc34
  ·rename_i h
   rw[Tf (by omega)]at hi
   refine zX9 ?_
   apply hK (k+1)
   ·omega
   ·omega
   ·exact zc1
   exact zc17
 ·refine zX1 ?_<;>intros
  exact zc27
theorem YwH(x y:Int):Xz [x,y]=if x=0 then y else x:=by
 simp only[Xz]
 omega
theorem VZ(a b:Lk)(hw:St B w0 H w):CX B w0 261 [lkV a,lkV b] w λv K=>v=.int .i64 (cmpL a b)/\K=H:=by
 refine Yc Tryz.func261 Tryz.ntmps261 rfl rfl hw ?_
 refine zX16 ?_<;>intros
 apply YX [0,1,2,3,5,6,7,8,4,9,10,11,12] [] [true,true]
 kernel_rfl
 kernel_rfl
 exact zy
 (simp only[Yh,nthO];rfl)
 exact rfl
 refine zX17 ?_<;>intros
 rename_i g
 first|apply Ya Ym1|apply Yb Ym1
 exact za
 exact rfl
 exactλ_ hw=>(YnH [cmpI a.1 b.1,cmpI a.2.1 b.2.1] (by simp) (Rd.blk (g:=g) (cs:=#[.int .i64 (cmpI a.1 b.1),.int .i64 (cmpI a.2.1 b.2.1)]) (by(focus exact zc2))) hw)
 refine zX18 ?_
 ((repeat apply Yj);apply Yd;exact rfl;exact rfl;refine⟨TE _ ?_,rfl⟩)
 rw[YwH];rfl
theorem Yaw(n:NetM)(g:Nat)(a:Int)(hm:netB g n∈H)(hw:St B w0 H w):
 CX B w0 260 [.int .i64 a,.pointer (some ⟨g,0,none⟩)] w λv K=>v=.bool (decide (0<=a/\a<n.nodes))/\K=H:=by
 refine Yc Tryz.func260 Tryz.ntmps260 rfl rfl hw ?_
 repeat'(first|refine zgd ?_|(refine zgf ?_ ?_<;>intro _<;>try exact zo)|fail)
 ·exact zc24
 ·exact zc24
 ·exact YnZ
theorem Yel{n:Net}{a b:Int}{r:List Int}{p:Int}(h1:n.power[a.toNat]? =some r)(h2:r[b.toNat]? =some p):powr n a b=p:=by grind [powr]
variable {B:Nat}{w0 w:World}{H:List HP}
theorem Ydm(n:NetM)(i:Nat)(hin:n.In B w0 H)(hi:i<n.links.length)(hml:n.margin.length=n.links.length)(ht:Vl n.net=0)(hw:St B w0 H w):
 CX B w0 185 [n.val,.int .i64 i] w λv K=>v=.int .i64 (Oi n.net i)/\K=H:=by
 refine Yc Tryz.func185 Tryz.ntmps185 rfl rfl hw ?_
 obtain⟨hpw,hrw,hlk,hmg,hs1,hs2,hs3,hs4⟩:=hin
 obtain⟨t1,t2,t3⟩:=YeO ht
 obtain⟨l,hl⟩:∃l,n.links[i]? =some l:=⟨_,Ta hi⟩
 obtain⟨z,hz⟩:∃z,n.margin[i]? =some z:=⟨_,Ta (by omega)⟩
 have e1:lnk n.net i=l:=JU hl
 have e2:mar n.net i=z:=Qp hz
 have e3:n.net.nodes=n.nodes:=rfl
 have e4:n.net.power.length=n.rows.length:=by simp[NetM.net]
 rw[e4,e3]at t1
 unfold Oi
 rw[e1,e2,e3]
 by_cases h1:0<=l.1/\l.1<n.nodes
 rotate_left
 ·skip
  repeat'(first|((first|apply Uc (cs:=[_])|apply Ub (cs:=[_]));exact rfl;exact Yng;exact za;exact rfl;exactλ_ hw=>(Yaw n _ _ zm hw);all_goals(intro hB;(try simp only[Tt,TP]at hB);try exact zo))|(apply zg29;(apply Yw;exact za;exact rfl))|refine zgd ?_|(refine zgh ?_;intro _)|fail)
  exact zc56
 by_cases h2:0<=l.2.1/\l.2.1<n.nodes
 rotate_left
 ·skip
  repeat'(first|((first|apply Uc (cs:=[_])|apply Ub (cs:=[_]));exact rfl;exact Yng;exact za;exact rfl;exactλ_ hw=>(Yaw n _ _ zm hw);all_goals(intro hB;(try simp only[Tt,TP]at hB);try exact zo))|(apply zg29;(apply Yw;exact za;exact rfl))|refine zgd ?_|(refine zgh ?_;intro _)|fail)
  exact zc56
 obtain⟨r,hr⟩:∃r,n.rows[l.1.toNat]? =some r:=⟨_,Ta (by omega)⟩
 have hrm:r∈n.rows:=Tc hr
 have hrr:=hrw r hrm
 have hrs:=hs2 r hrm
 have hrl:(r.xs.length:Int)=n.nodes:=t2 r.xs (TC.2 ⟨r,hrm,rfl⟩)
 obtain⟨p,hp⟩:∃p,r.xs[l.2.1.toNat]? =some p:=⟨_,Ta (by omega)⟩
 rw[Yel (n:=n.net) (r:=r.xs) (by simp[NetM.net,hr]) hp]
 by_cases h0:0<i
 ·obtain⟨q,hq⟩:∃q,n.links[((i:Int)-1).toNat]? =some q:=⟨_,Ta (by omega)⟩
  rw[show lnk n.net (i-1)=q from JU YvZ]
  repeat'(first|((first|apply Uc (cs:=[_])|apply Ub (cs:=[_]));exact rfl;exact Yng;exact za;exact rfl;exactλ_ hw=>(Yaw n _ _ zm hw);all_goals(intro hB;(try simp only[Tt,TP]at hB);try exact zo))|((first|apply Ya Yf4|apply Yb Yf4);exact za;exact rfl;exactλ_ hw=>(VZ q l hw))|(apply zg28;first|refine zs83 ?_|refine zs84 ?_)|(apply zg29;(apply Yw;exact za;exact rfl))|refine zgd ?_|(refine zgf ?_ ?_<;>intro _<;>try exact zo)|(refine zgh ?_;intro _)|fail)
  all_goals(((repeat apply Yj);apply Yd;exact rfl;exact rfl;refine⟨TE _ ?_,rfl⟩);(repeat(first|refine Xu (by omega) ?_|refine Xv (by omega) ?_));rfl)
 ·skip
  repeat'(first|((first|apply Uc (cs:=[_])|apply Ub (cs:=[_]));exact rfl;exact Yng;exact za;exact rfl;exactλ_ hw=>(Yaw n _ _ zm hw);all_goals(intro hB;(try simp only[Tt,TP]at hB);try exact zo))|((first|apply Ya Yf4|apply Yb Yf4);exact za;exact rfl;exactλ_ hw=>(VZ _ _ hw))|(apply zg28;first|refine zs83 ?_|refine zs84 ?_)|(apply zg29;(apply Yw;exact za;exact rfl))|refine zgd ?_|(refine zgf ?_ ?_<;>intro _<;>try exact zo)|(refine zgh ?_;intro _)|fail)
  all_goals(((repeat apply Yj);apply Yd;exact rfl;exact rfl;refine⟨TE _ ?_,rfl⟩);(repeat(first|refine Xu (by omega) ?_|refine Xv (by omega) ?_));rfl)
theorem Xb(n:NetM)(hin:n.In B w0 H)(hw:St B w0 H w):
 CX B w0 82 [n.val] w λv K=>v=.int .i64 (Yo n.net)/\K=H:=by
 refine Yc Tryz.func82 Tryz.ntmps82 rfl rfl hw ?_
 have e3:n.net.nodes=n.nodes:=rfl
 have e5:n.net.noise=n.noise:=rfl
 have e6:n.net.thr=n.thr:=rfl
 have e7:n.net.links=n.links:=rfl
 have e8:n.net.margin=n.margin:=rfl
 have hs1:=hin.s1
 have hs3:=hin.s3
 have hs4:=hin.s4
 unfold Yo
 rw[e3,e5,e6,e7,e8]
 (apply YY;apply Yx;apply Yr;exact rfl;exact rfl;intro g)
 repeat'(first|((first|apply Ya YuC|apply Yb YuC);exact za;exact rfl;exactλ_ hw=>(Ycz n hin.cons hw))|refine zgd ?_|(refine zgf ?_ ?_<;>intro _<;>try exact zo)|fail)
 any_goals(((repeat apply Yj);apply Yd;exact rfl;exact rfl;refine⟨TE _ ?_,rfl⟩);(repeat(first|refine Xu (by omega) ?_|refine Xv (by omega) ?_));rfl)
 have ht:Vl n.net=0:=by assumption
 refine Yg (λ(k:Nat)=>[(54,.int .i64 k),(53,.int .i64 n.links.length),(1,.pointer (some ⟨g,0,none⟩))]) (λ_=>netB g n::H) (λk=>k<=n.links.length/\Vi n.net n.links.length 0=Vi n.net (n.links.length-k) k) (λk=>n.links.length-k) 0 ⟨Tm _,rfl⟩ ?_ (λw hw=>hw) ?_
 ·exact zc1
 rintro k ⟨hk,hi⟩ K hK
 by_cases hlt:k<n.links.length
 ·skip
  repeat'(first|((first|apply Ya YuD|apply Yb YuD);exact za;exact rfl;exactλ_ hw=>(Ydm n k hin.cons hlt (by omega) ht hw))|refine zgd ?_|(refine zge ?_ ?_<;>intro _<;>try exact zo)|fail)
  ·exact zc41
  ·apply hK (k+1)
   ·exact YvN
   ·omega
   ·exact zc1
   exact zc17
 ·refine zX1 ?_<;>intros
  exact zc46
end Go.Proofs.YtaholidehobiiaaGreatDoor
namespace Go.Eng
open Go.RowKit
section
variable {P:Program}{m:Mode}{n:Shp}{B:Nat}{w0:World}{ops:Array Oper}{Q:Exit->Act->World->Prop}{rest:List Oper}{env:Env}{H:List HP}{d:Nat}{ty:TypeId}{pos:String}{after:Array Edge}{x y u:Operand}
def YlB(P:Program)(t:TypeId):Bool:=match P.underlying t with|some (.int _)=>true|_=>false
theorem YjF{t:TypeId}(h:YlB P t=true):∃k,P.underlying t=some (.int k):=by
 unfold YlB at h
 split at h
 ·rename_i k hk;exact⟨k,hk⟩
 ·cases h
theorem Yg3(T:Tab P){tx k c:Nat}{A:Option Addr}{es:Nat×Nat×Nat}(hx:evo env x=some (.slice A k c))(ht:look T.sl tx=some es)(hn:Nat.ble (d+1) n.k=true)(h:VL P m n B w0 ops Q rest ((d,.int .i64 c)::env) H):
 VL P m n B w0 ops Q (⟨some d,.call ⟨.builtin .cap,#[x],#[tx]⟩,ty,pos,after,none⟩::rest) env H:=by
 obtain⟨e,size,bytes⟩:=es
 obtain⟨hu,_⟩:=YJ (T.slic ht)
 exact YF rfl rfl hn rfl (λa w ha _=>by simp[execOp,resolve,invoke,builtin,ha.eval hx,Builtin.cap_,run_underlying hu];rfl) h
end
end Go.Eng
namespace Go.Proofs.YtaholidehobiiaaGreatDoor
open Go.RowKit Go.Eng Go.Nw
variable {B:Nat}{w0 w:World}{H:List HP}
theorem Yku(n:NetM)(t:Lk)(hin:n.In B w0 H)(hok:Ok n.net)(hw:St B w0 H w):
 CX B w0 299 [.slice n.lA n.links.length n.lcap,lkV t,.func (.func 261) #[] #[]] w λv K=>∃k:Nat,
  v=.tuple #[.int .i64 k,.bool (decide (k<n.links.length/\cmpL (lnk n.net k) t=0))]/\k<=n.links.length/\(∀j,j<k->cmpL (lnk n.net j) t<0)/\(∀j,k<=j->j<n.links.length->0<=cmpL (lnk n.net j) t)/\K=H:=by
 refine Yc Tryz.func299 Tryz.ntmps299 rfl rfl hw ?_
 obtain⟨hpw,hrw,hlk,hmg,hs1,hs2,hs3,hs4⟩:=hin
 have hl8:n.links.length<=128:=hok.k0
 (apply YY;apply Yx;apply Yr;exact rfl;exact rfl;intro g)
 refine zX8 ?_
 refine Yaj (λ(lo hi:Nat)=>[(9,.int .i64 lo),(10,.int .i64 hi),(8,.int .i64 n.links.length),(0,.slice n.lA n.links.length n.lcap),(2,.func (.func 261) #[] #[]),(4,.pointer (some ⟨g,0,none⟩))]) (λ_ _=>blk g (.cells #[.int .i64 t.1,.int .i64 t.2.1,.int .i64 t.2.2] 140 (0,0))::H)
  (λlo hi=>lo<=hi/\hi<=n.links.length/\(∀j,j<lo->cmpL (lnk n.net j) t<0)/\(∀j,hi<=j->j<n.links.length->0<=cmpL (lnk n.net j) t)) (λlo hi=>hi-lo) 0 n.links.length ⟨by omega,by omega,λj hj=>by omega,λj h1 h2=>by omega⟩ ?_ (λw hw=>hw) ?_
 ·exact zc1
 rintro lo hi ⟨h1,h2,h3,h4⟩ K hK
 by_cases hlt:lo<hi
 ·obtain⟨b,hb⟩:∃b,n.links[(((lo:Int)+hi)/2).toNat]? =some b:=⟨_,Ta (by omega)⟩
  have hm:(((lo:Int)+hi)/2).toNat=(lo+hi)/2:=by omega
  have eb:lnk n.net ((lo+hi)/2)=b:=by rw[<-hm];exact JU hb
  repeat'(first|((first|apply Y3 (cs:=[])|apply Xo (cs:=[]));exact rfl;exact Yf4;exact za;exact rfl;exactλ_ hw=>(VZ b t hw))|(apply zg28;refine zs84 ?_)|refine zgd ?_|(refine zge ?_ ?_<;>intro _<;>try exact zo)|fail)
  ·rename_i hc
   apply hK ((lo+hi)/2+1) hi
   ·refine⟨by omega,by omega,λj hj=>?_,h4⟩
    by_cases e:j=(lo+hi)/2
    ·rw[e,eb];exact hc
    ·have h5:=YeI hok j ((lo+hi)/2) (by omega) (by show _<n.links.length;omega)
     rw[eb]at h5
     rw[Ui]at*
     omega
   ·omega
   ·exact zc1
   exact zc17
  ·rename_i hc
   apply hK lo ((lo+hi)/2)
   ·refine⟨by omega,by omega,h3,λj hj hjl=>?_⟩
    by_cases e:j=(lo+hi)/2
    ·rw[e,eb];exact hc
    ·have h5:=YeI hok ((lo+hi)/2) j (by omega) hjl
     rw[eb]at h5
     have h6:¬cmpL b t<0:=by omega
     have h7:¬cmpL (lnk n.net j) t<0:=by
      rw[Ui]at*
      omega
     omega
   ·omega
   ·exact zc1
   exact zc17
 ·obtain rfl:lo=hi:=by omega
  by_cases hl:lo<n.links.length
  ·obtain⟨b,hb⟩:∃b,n.links[lo]? =some b:=⟨_,Ta hl⟩
   have eb:lnk n.net lo=b:=JU hb
   repeat'(first|((first|apply Y3 (cs:=[])|apply Xo (cs:=[]));exact rfl;exact Yf4;exact za;exact rfl;exactλ_ hw=>(VZ b t hw))|(apply zg28;refine zs84 ?_)|refine zgd ?_|(refine zge ?_ ?_<;>intro _<;>try exact zo)|fail)
   all_goals(apply Yj;apply YM;(iterate 3 exact rfl);refine⟨lo,?_,h2,h3,h4,rfl⟩;rw[eb])
   ·rw[Td ⟨hl,by assumption⟩]
   ·rw[Ti λhc=>absurd hc.2 (by assumption)]
  ·refine zX19 ?_<;>intros
   apply Yj;apply YM;(iterate 3 exact rfl)
   refine⟨lo,?_,h2,h3,h4,rfl⟩
   rw[Ti λhc=>hl hc.1]
theorem Ybo(n:NetM)(a b:Int)(hin:n.In B w0 H)(hok:Ok n.net)(hw:St B w0 H w):
 CX B w0 232 [n.val,.int .i64 a,.int .i64 b] w λv K=>v=.int .i64 (Yt n.net a b)/\K=H:=by
 refine Yc Tryz.func232 Tryz.ntmps232 rfl rfl hw ?_
 (apply YY;apply Yx;apply Yr;exact rfl;exact rfl;intro g)
 refine zX2 ?_
 apply Ye _ Yxy
 exact za
 exact rfl
 exactλ_ hw=>(Yku n (a,b,0) hin.cons hok (hw))
 rintro _ _ ⟨k,rfl,hk,h1,h2,rfl⟩
 have hf:=Yjl hok hk h1 h2
 rw[hf]
 by_cases hc:k<n.links.length/\cmpL (lnk n.net k) (a,b,0)=0
 ·rw[Td hc]
  refine zX2 ?_
  ((repeat apply Yj);apply Yd;exact rfl;exact rfl;refine⟨TE _ ?_,rfl⟩)
  exact(Tn hc).symm
 ·rw[Ti hc]
  refine zX2 ?_
  ((repeat apply Yj);apply Yd;exact rfl;exact rfl;refine⟨TE _ ?_,rfl⟩)
  exact(Tf hc).symm
def Zn(n:Net)(a b:Int):Int:=if Yo n≠0 then -1 else Yt n a b
theorem Zv(n:NetM)(a b:Int)(hin:n.In B w0 H)(hw:St B w0 H w):
 CX B w0 136 [n.val,.int .i64 a,.int .i64 b] w λv K=>v=.int .i64 (Zn n.net a b)/\K=H:=by
 refine Yc Tryz.func136 Tryz.ntmps136 rfl rfl hw ?_
 unfold Zn
 repeat'(first|((first|apply Ya en82|apply Yb en82);exact za;exact rfl;exactλ_ hw=>(Xb n hin.cons hw))|((first|apply Ya Yf3|apply Yb Yf3);exact za;exact rfl;exactλ_ hw=>(Ybo n _ _ hin.cons (YC (by assumption)) hw))|refine zgb ?_|(refine zge ?_ ?_<;>intro _<;>try exact zo)|(refine zgh ?_;intro _)|fail)
 all_goals(((repeat apply Yj);apply Yd;exact rfl;exact rfl;refine⟨TE _ ?_,rfl⟩);(repeat(first|refine Xu (by omega) ?_|refine Xv (by omega) ?_));rfl)
theorem YdU(n:NetM)(s d:Int)(hok:Ok n.net)(hs:0<=s/\s<=8796093022208)(hd:0<=d/\d<=8796093022208)(hw:St B w0 H w):
 CX B w0 266 [n.val,.int .i64 s,.int .i64 d] w λv K=>v=.bool (Z2 n.net s d)/\K=H:=by
 refine Yc Tryz.func266 Tryz.ntmps266 rfl rfl hw ?_
 exact zc19
def Zu(n:Net)(s d:Int):Bool:=decide (Yo n=0)&&(decide (0<=s/\0<=d/\s<=8796093022208/\d<=8796093022208)&&Z2 n s d)
theorem QP(n:NetM)(s d:Int)(hin:n.In B w0 H)(hw:St B w0 H w):
 CX B w0 190 [n.val,.int .i64 s,.int .i64 d] w λv K=>v=.bool (Zu n.net s d)/\K=H:=by
 refine Yc Tryz.func190 Tryz.ntmps190 rfl rfl hw ?_
 unfold Zu
 by_cases h0:Yo n.net=0
 rotate_left
 ·rw[Ti h0]
  refine zX20 ?_<;>intros
  (repeat apply Yj);apply Yd;exact rfl;exact rfl
  simp_all
 rw[Td h0]
 by_cases h1:0<=s/\0<=d/\s<=8796093022208/\d<=8796093022208
 rotate_left
 ·rw[Ti h1]
  repeat'(first|((first|apply Ya en82|apply Yb en82);exact za;exact rfl;exactλ_ hw=>(Xb n hin.cons hw))|refine zgd ?_|(refine zgf ?_ ?_<;>intro _<;>try exact zo)|(refine zgh ?_;intro _)|fail)
  all_goals((repeat apply Yj);apply Yd;exact rfl;exact rfl;exact⟨rfl,rfl⟩)
 rw[Td h1]
 repeat'(first|((first|apply Ya en82|apply Yb en82);exact za;exact rfl;exactλ_ hw=>(Xb n hin.cons hw))|((first|apply Ya Yni|apply Yb Yni);exact za;exact rfl;exactλ_ hw=>(YdU n _ _ (YC h0) (by omega) (by omega) hw))|refine zgc ?_|(refine zgf ?_ ?_<;>intro _<;>try exact zo)|(refine zgh ?_;intro _)|fail)
 all_goals((repeat apply Yj);apply Yd;exact rfl;exact rfl;exact⟨rfl,rfl⟩)
theorem YkH(n:NetM)(i:Nat)(hin:n.In B w0 H)(hok:Ok n.net)(hi:i<n.links.length)(hw:St B w0 H w):
 CX B w0 263 [n.val,.int .i64 i] w λv K=>v=.bool (ZU n.net i)/\K=H:=by
 refine Yc Tryz.func263 Tryz.ntmps263 rfl rfl hw ?_
 obtain⟨hpw,hrw,hlk,hmg,hs1,hs2,hs3,hs4⟩:=id hin
 have hml:n.margin.length=n.links.length:=hok.k1
 obtain⟨l,hl⟩:∃l,n.links[i]? =some l:=⟨_,Ta hi⟩
 obtain⟨z,hz⟩:∃z,n.margin[i]? =some z:=⟨_,Ta (by omega)⟩
 have e1:lnk n.net i=l:=JU hl
 have e2:mar n.net i=z:=Qp hz
 have hzb:=Yea hok hi
 unfold ZU
 rw[e2]at hzb
 rw[e1,e2]
 by_cases hb:0<=Yt n.net l.2.1 l.1
 ·have hlt:(Yt n.net l.2.1 l.1).toNat<n.links.length:=XR hb
  obtain⟨y,hy⟩:∃y,n.margin[(Yt n.net l.2.1 l.1).toNat]? =some y:=⟨_,Ta (by omega)⟩
  have e3:mar n.net (Yt n.net l.2.1 l.1).toNat=y:=Qp hy
  have hyb:=Yea hok hlt
  rw[e3]at hyb
  rw[e3,Td hb]
  repeat'(first|((first|apply Ya Yf3|apply Yb Yf3);exact za;exact rfl;exactλ_ hw=>(Ybo n _ _ hin.cons hok hw))|((first|apply Y9 Yni|apply Y8 Yni);exact za;exact rfl;exactλ_ hw=>(YdU n _ _ hok (by omega) (by omega) hw);all_goals(intro hB;(try simp only[Tt,TP]at hB);try exact zo))|(apply zg28;refine zs84 ?_)|refine zgd ?_|(refine zgf ?_ ?_<;>intro _<;>try exact zo)|(refine zgh ?_;intro _)|fail)
  all_goals((repeat apply Yj);apply Yd;exact rfl;exact rfl;refine⟨?_,rfl⟩;simp_all)
 ·rw[Ti hb]
  repeat'(first|((first|apply Ya Yf3|apply Yb Yf3);exact za;exact rfl;exactλ_ hw=>(Ybo n _ _ hin.cons hok hw))|(apply zg28;refine zs84 ?_)|refine zgd ?_|(refine zgf ?_ ?_<;>intro _<;>try exact zo)|(refine zgh ?_;intro _)|fail)
  all_goals((repeat apply Yj);exact zc4)
def Vo(n:Net)(i:Int):Bool:=decide (Yo n=0)&&(decide (0<=i/\i<n.links.length)&&ZU n i.toNat)
theorem UA(n:NetM)(i:Int)(hin:n.In B w0 H)(hw:St B w0 H w):
 CX B w0 187 [n.val,.int .i64 i] w λv K=>v=.bool (Vo n.net i)/\K=H:=by
 refine Yc Tryz.func187 Tryz.ntmps187 rfl rfl hw ?_
 have hs3:=hin.s3
 have e7:n.net.links=n.links:=rfl
 unfold Vo
 rw[e7]
 by_cases h0:Yo n.net=0
 rotate_left
 ·rw[Ti h0]
  refine zX20 ?_<;>intros
  all_goals((repeat apply Yj);exact zc4)
 rw[Td h0]
 by_cases h1:0<=i/\i<n.links.length
 rotate_left
 ·rw[Ti h1]
  repeat'(first|((first|apply Ya en82|apply Yb en82);exact za;exact rfl;exactλ_ hw=>(Xb n hin.cons hw))|refine zgd ?_|(refine zgf ?_ ?_<;>intro _<;>try exact zo)|(refine zgh ?_;intro _)|fail)
  all_goals((repeat apply Yj);apply Yd;exact rfl;exact rfl;exact⟨rfl,rfl⟩)
 rw[Td h1]
 obtain⟨k,rfl⟩:∃k:Nat,i=k:=⟨i.toNat,by omega⟩
 repeat'(first|((first|apply Ya en82|apply Yb en82);exact za;exact rfl;exactλ_ hw=>(Xb n hin.cons hw))|((first|apply Ya YuN|apply Yb YuN);exact za;exact rfl;exactλ_ hw=>(YkH n _ hin.cons (YC h0) (by omega) hw))|refine zgc ?_|(refine zgf ?_ ?_<;>intro _<;>try exact zo)|(refine zgh ?_;intro _)|fail)
 all_goals((repeat apply Yj);exact zc4)
end Go.Proofs.YtaholidehobiiaaGreatDoor
namespace Go.Eng
open Go.RowKit
variable {w:World}{K:List HP}
theorem St.putObj{B:Nat}{w0:World}{H:List HP}{g:Nat}{o o':Obj}(h:St B w0 H w)(u:Upd (Eng.blk g o) (Eng.blk g o') H K):St B w0 K (w.putObj g o'):=by
 have hlt:g<w.heap.size:=by
  obtain⟨L1,L2,rfl,_⟩:=u
  exact(h.blk (g:=g) (o:=o) (by simp)).2.2
 refine h.upd u rfl rfl rfl (by simp_all) λS1 ⟨h1,_⟩=>⟨⟨h1,World.putObj_heap_same hlt⟩,λb hb _=>World.putObj_heap_other λe=>hb (e▸h1)⟩
theorem YrW(X:HP)(Y M:List HP):Perm (Y++X::M) (X::(Y++M)):=by
 induction Y with
 |nil=>exact .refl _
 |cons A Y ih=>exact(ih.cons A).trans (.swap A X _)
theorem Ypx(X:HP)(Y M:List HP):Perm (X::(Y++M)) (Y++X::M):=by
 induction Y with
 |nil=>exact .refl _
 |cons A Y ih=>exact(Perm.swap X A _).trans (ih.cons A)
theorem Yj6(Y:List HP){L M:List HP}(p:Perm L M):Perm (Y++L) (Y++M):=by
 induction Y with
 |nil=>exact p
 |cons A Y ih=>exact ih.cons A
def Yc9(P:Program)(l:Nat)(args:List Value)(B:Nat)(w0:World)(H:List HP)(Φt Φf:List HP->Prop):Prop:=
 ∀w,St B w0 H w->YieldAt Fence.wide 0 P l args.toArray w λe w'=>
  (e=.returned (.bool true)/\∃K,Φt K/\St B w0 K w')\/(e=.returned (.bool false)/\∃K,Φf K/\St B w0 K w')
def YcZ(P:Program)(gf:Nat)(lb:List Value)(xs:List (List Value))(B:Nat)(w0:World)(HI:List HP):Prop:=
 ∀(l:Nat) (S:Nat->List HP->Prop) (X:List HP->Prop),
  (∀(i:Nat) (args:List Value),xs[i]? =some args->∀(Y L:List HP),S i L->
   Yc9 P l args B w0 (Y++many L::HI) (λK=>∃L',S (i+1) L'/\K=Y++many L'::HI) (λK=>∃L',X L'/\K=Y++many L'::HI))->
  ∀L0,S 0 L0->∀w,St B w0 (many L0::HI) w->
   CallsIn Fence.wide 0 P gf (.func (.yield l) #[] #[]::lb).toArray w (Post B w0 λ_ K=>(∃L,S xs.length L/\K=many L::HI)\/∃L,X L/\K=many L::HI)
def jump:Exit->Option Code
 |.ret=>some .ret
 |.exit id=>some (.exit id)
 |_=>none
def Ymv{α:Type}(B:Nat)(w0:World)(R:HP)(HI:List HP)(I:α->Prop)(HH:α->List HP)(X:Exit->List HP->Prop):Exit->Act->World->Prop
 |.normal,_,w=>∃y,I y/\St B w0 (R::(HH y++HI)) w
 |.ret,_,w=>∃K,X .ret K/\St B w0 (R::(K++HI)) w
 |.exit id,_,w=>∃K,X (.exit id) K/\St B w0 (R::(K++HI)) w
 |_,_,_=>False
def Ymu{α:Type}(P:Program)(l B:Nat)(w0:World)(body:Code)(R:HP)(HI:List HP)(I:α->Prop)(HH:α->List HP)(X:Exit->List HP->Prop):Exit->Act->World->Prop
 |.normal,a,w=>∃K,St B w0 (R::K) w/\∀R' w',St B w0 (R'::K) w'->wpR P (some l) body (Ymv B w0 R' HI I HH X) a w'
 |_,_,_=>False
def U5:List Nat->List Value->Env->Env
 |p::ps,v::vs,e=>U5 ps vs ((p,v)::e)
 |_,_,e=>e
section
variable {P:Program}{B:Nat}{w0:World}{Q:Exit->Act->World->Prop}{env:Env}{H:List HP}{k:Nat}
variable {α:Type}{l gf n:Nat}{body c:Code}{R:HP}{HI K:List HP}{X:Exit->List HP->Prop}
theorem J6{I:α->Prop}{HH:α->List HP}(hr:Rem R H K)
 (h:∀R',VC P ⟨k,[],some l⟩ B w0 body (Ymv B w0 R' HI I HH X) env (R'::K)):VQ ⟨k,[],some l⟩ B w0 (Ymu P l B w0 body R HI I HH X) .normal env H:=
 ⟨λa _ ha hw=>⟨K,hw.perm hr,λR' w' hw'=>(h R').run a w' ha hw'⟩⟩
theorem UC{n:Shp}{I:α->Prop}{HH:α->List HP}(y:α)(hI:I y)(hH:∀w,St B w0 H w->St B w0 (R::(HH y++HI)) w):
 VQ n B w0 (Ymv B w0 R HI I HH X) .normal env H:=⟨λ_ w _ hw=>⟨y,hI,hH w hw⟩⟩
theorem Yao{n:Shp}{I:α->Prop}{HH:α->List HP}(K:List HP)(hX:X .ret K)(hH:∀w,St B w0 H w->St B w0 (R::(K++HI)) w):
 VQ n B w0 (Ymv B w0 R HI I HH X) .ret env H:=⟨λ_ w _ hw=>⟨K,hX,hH w hw⟩⟩
theorem Yjp:∀(ps:List Nat) (vs:List Value) (t:Array Value) (e:Env),t.size=k->(∀s v,get e s=some v->t[s]? =some v)->ps.all (λp=>Nat.ble (p+1) k)=true->ps.length=vs.length->
 ((ps.zip vs).foldl (λt (x:Nat×Value)=>t.setIfInBounds x.1 x.2) t).size=k/\∀s v,get (U5 ps vs e) s=some v->((ps.zip vs).foldl (λt (x:Nat×Value)=>t.setIfInBounds x.1 x.2) t)[s]? =some v
 |[],[],t,e,hs,hg,_,_=>⟨hs,hg⟩
 |p::ps,v::vs,t,e,hs,hg,hp,hl=>by
  simp only[NR,Tq]at hp
  have hlt:=TX hp.1
  refine Yjp ps vs (t.setIfInBounds p v) ((p,v)::e) (by simp_all) (λs u hu=>?_) hp.2 (by simp_all)
  by_cases e2:p=s
  ·subst e2
   rw[get,Tn rfl]at hu
   grind
  simp_all [get]
variable {ds:List Deferred}{lb:List Value}{xs:List (List Value)}
theorem Zs{g:Operand}{ps:List Nat}{assign:Code}(HI:List HP)(HH:α->List HP)(I:Nat->α->Prop)(X:Exit->List HP->Prop)(x0:α)
 (hg:evo env g=some (.func (.func gf) #[] lb.toArray)) (hc:∀xs w,(callFunc gf xs).run P w=.ok (.enter gf xs) w) (hiter:YcZ P gf lb xs B w0 HI)
 (hps:ps.all (λp=>Nat.ble (p+1) k)=true) (hlen:∀args∈xs,args.length=ps.length) (hca:calm assign=true) (hcb:calm body=true)
 (hH:∀w,St B w0 H w->St B w0 (HH x0++HI) w) (h0:I 0 x0)
 (hround:∀(l i:Nat) (args:List Value) (R:HP) (x:α),xs[i]? =some args->I i x->VC P ⟨k,[],some l⟩ B w0 assign (Ymu P l B w0 body R HI (I (i+1)) HH X) (U5 ps args env) (R::(HH x++HI)))
 (hdone:∀D x,I xs.length x->VQ ⟨k,⟨.collected D,#[]⟩::ds,none⟩ B w0 Q .normal env (blk D (.deferred (some []))::(HH x++HI)))
 (hstop:∀D e K,X e K->(jump e).isSome=true->VQ ⟨k,⟨.collected D,#[]⟩::ds,none⟩ B w0 Q e env (blk D (.deferred (some []))::(K++HI))):
 VC P ⟨k,ds,none⟩ B w0 (.rangeFunc g ps.toArray assign body) Q env H:=by
 refine⟨λa w ha hw=>?_⟩
 show(Code.rangeFunc g ps.toArray assign body).wp P Q a w
 refine(wpIn_wide (n:=0)).1 (wpIn_rangeFunc ?_)
 intro fn _
 obtain⟨rec,hrec⟩:∃rec:LoopState->Option Code->Loop,rec=λst pe=>{state:=st,pending:=pe,fn,tmps:=a.tmps,params:=ps.toArray,assign,body,defers:=w.heap.size}:=⟨_,rfl⟩
 have hst:=((hH w hw).alloc (.deferred (some []))).alloc (.loop (rec .ready none))
 rw[World.size_alloc]at hst
 obtain⟨l,hl⟩:∃l,w.heap.size+1=l:=⟨_,rfl⟩
 obtain⟨D,hD⟩:∃D,w.heap.size=D:=⟨_,rfl⟩
 rw[hl,hD]at hst
 obtain⟨W1,hW1⟩:∃W1,(w.alloc (.deferred (some []))).alloc (.loop (rec .ready none))=W1:=⟨_,rfl⟩
 rw[hW1]at hst
 refine⟨l,[⟨.collected D,#[]⟩],W1,{target:=.fn (.func gf) lb.toArray,args:=#[.func (.yield l) #[] #[]]},W1,gf,(.func (.yield l) #[] #[]::lb).toArray,W1,?_,?_,?_,?_,λh=>by simp[Fence.wide]at h,?_⟩
 ·simp_all [run_enterLoop_outer]
 ·simp only[resolve,ha.eval hg]
  simp[go_sem]
 ·intro f' _;trivial
 ·grind [invoke]
 ·refine CallsIn.mono (hiter l (λi L=>∃x,I i x/\L=blk l (.loop (rec .ready none))::blk D (.deferred (some []))::HH x)
   (λL=>∃e K c,X e K/\jump e=some c/\L=blk l (.loop (rec .done (some c)))::blk D (.deferred (some []))::K) ?_ _ ⟨x0,h0,rfl⟩ _ (hst.perm (.close (blk l (.loop (rec .ready none))::blk D (.deferred (some []))::HH x0) HI))) ?_
  ·--one round
   rintro i args hx Y L ⟨x,hI,rfl⟩ W hW
   have hp1:∀(lp:Loop) (M:List HP),Perm (Y++many (blk l (.loop lp)::blk D (.deferred (some []))::M)::HI) (many (Y++[blk l (.loop lp),blk D (.deferred (some []))])::(M++HI)):=λlp M=>by
    refine(Yj6 Y (.open_ _ _)).trans ?_
    have:Y++((blk l (.loop lp)::blk D (.deferred (some []))::M)++HI)=(Y++[blk l (.loop lp),blk D (.deferred (some []))])++(M++HI):=by simp
    rw[this]
    exact .close _ _
   have hp2:∀(lp:Loop) (M:List HP),Perm (many (Y++[blk l (.loop lp),blk D (.deferred (some []))])::(M++HI)) (Y++many (blk l (.loop lp)::blk D (.deferred (some []))::M)::HI):=λlp M=>by
    refine Perm.trans (.open_ _ _) ?_
    have:(Y++[blk l (.loop lp),blk D (.deferred (some []))])++(M++HI)=Y++((blk l (.loop lp)::blk D (.deferred (some []))::M)++HI):=by simp
    rw[this]
    exact Yj6 Y (.close _ _)
   have hpf:∀(lp:Loop) (M:List HP),Perm (many (Y++[blk l (.loop lp),blk D (.deferred (some []))])::M) (blk l (.loop lp)::(Y++blk D (.deferred (some []))::M)):=λlp M=>by
    refine Perm.trans (.open_ _ _) ?_
    have:(Y++[blk l (.loop lp),blk D (.deferred (some []))])++M=Y++blk l (.loop lp)::(blk D (.deferred (some []))::M):=by simp
    rw[this]
    exact YrW _ _ _
   have hpb:∀(lp:Loop) (M:List HP),Perm (blk l (.loop lp)::(Y++blk D (.deferred (some []))::M)) (many (Y++[blk l (.loop lp),blk D (.deferred (some []))])::M):=λlp M=>by
    refine Perm.trans (Ypx _ _ _) ?_
    have:Y++blk l (.loop lp)::(blk D (.deferred (some []))::M)=(Y++[blk l (.loop lp),blk D (.deferred (some []))])++M:=by simp
    rw[this]
    exact .close _ _
   have hW1:=hW.perm (hp1 _ _)
   have hW2:=hW1.perm (hpf _ _)
   have hlp:=(hW2.blk Tz).1
   have hal:=hlen args (Tc hx)
   have hy:=run_yield (P:=P) (args:=args.toArray) hlp (by rw[hrec];simp[hal])
   rw[hrec]at hy
   refine⟨fn,_,assign,body,hy,roundIn_of_wpIn trivial ?_⟩
   have hfit:=Yjp ps args a.tmps env ha.size (λs v h=>ha.slot s v h) hps hal.symm
   have hz:(ps.toArray.zip args.toArray).foldl (λt (x:Nat×Value)=>t.setIfInBounds x.1 x.2) a.tmps=(ps.zip args).foldl (λt (x:Nat×Value)=>t.setIfInBounds x.1 x.2) a.tmps:=by
    rw[<-Array.foldl_toList];simp
   have hva:=(hround l i args (many (Y++[blk l (.loop (rec .ready none)),blk D (.deferred (some []))])) x hx hI).run
    {tmps:=(ps.toArray.zip args.toArray).foldl (λt (x:Nat×Value)=>t.setIfInBounds x.1 x.2) a.tmps,defers:=[]} W ⟨rfl,by rw[hz];exact hfit.1,λs v h=>by rw[hz];exact hfit.2 s v h⟩ hW1
   refine wpIn_mono (hva Yn4 hca) ?_
   intro e a1 w1 hq
   cases e with
   |normal=>
    obtain⟨K,hK,hbody⟩:=hq
    have hK2:=hK.perm (hpf _ _)
    have hlp2:=(hK2.blk Tz).1
    refine⟨_,run_beginRound hlp2 (by rw[hrec]),?_⟩
    have hK3:=(hK2.putObj (o':=.loop {rec .ready none with state:=.busy}) (.here _)).perm (hpb _ _)
    have hvb:=hbody _ _ hK3
    refine wpIn_mono (hvb Yn4 hcb) ?_
    intro e a3 w3 hq3
    have fin:∀(jp:Option Code) (M:List HP),St B w0 (many (Y++[blk l (.loop {rec .ready none with state:=.busy}),blk D (.deferred (some []))])::(M++HI)) w3->
     ∃w4,(Instr.endRound l jp).run P w3=.ok (.bool jp.isNone) w4/\St B w0 (Y++many (blk l (.loop (rec (if jp.isNone then .ready else .done) jp))::blk D (.deferred (some []))::M)::HI) w4:=λjp M h3=>by
     have h4:=h3.perm (hpf _ _)
     have h5:=(h4.blk Tz).1
     have h6:=run_endRound (P:=P) jp h5
     refine⟨_,h6,?_⟩
     have h7:=((h4.putObj (o':=.loop (rec (if jp.isNone then .ready else .done) jp)) (.here _)).perm (hpb _ _)).perm (hp2 _ _)
     rw[hrec]at h7⊢
     exact h7
    cases e with
    |normal=>
     obtain⟨y,hIy,h3⟩:=hq3
     obtain⟨w4,h5,h6⟩:=fin none _ h3
     exact⟨_,w4,h5,.inl ⟨rfl,_,⟨_,⟨y,hIy,rfl⟩,rfl⟩,h6⟩⟩
    |ret=>
     obtain⟨K3,hX3,h3⟩:=hq3
     obtain⟨w4,h5,h6⟩:=fin (some .ret) _ h3
     exact⟨_,w4,h5,.inr ⟨rfl,_,⟨_,⟨.ret,K3,.ret,hX3,rfl,rfl⟩,rfl⟩,h6⟩⟩
    |exit id=>
     obtain⟨K3,hX3,h3⟩:=hq3
     obtain⟨w4,h5,h6⟩:=fin (some (.exit id)) _ h3
     exact⟨_,w4,h5,.inr ⟨rfl,_,⟨_,⟨.exit id,K3,.exit id,hX3,rfl,rfl⟩,rfl⟩,h6⟩⟩
    |goto t=>exact hq3.elim
    |panic ch=>exact hq3.elim
    |outgrown=>exact hq3.elim
   |ret=>exact hq
   |exit id=>exact hq
   |goto t=>exact hq
   |panic ch=>exact hq
   |outgrown=>exact hq
  ·--behind the iterator
   rintro e W2 ⟨v,K,rfl,hst2,hK⟩
   have hpn:∀st pe,(rec st pe).pending=pe:=λst pe=>by rw[hrec]
   have hds:∀{M:List HP}{w':World},St B w0 M w'->Fits ⟨k,⟨.collected D,#[]⟩::ds,none⟩ {a with defers:=[⟨.collected D,#[]⟩]++a.defers} env:=λ_=>
    ⟨by rw[ha.defers];rfl,ha.size,ha.slot⟩
   rcases hK with⟨L,⟨x,hI,rfl⟩,rfl⟩|⟨L,⟨e,K,c,hX,hj,rfl⟩,rfl⟩
   ·have h1:=hst2.perm (.open_ _ _)
    have h2:=(h1.blk Tz).1
    have h3:=run_endLoop (P:=P) h2 (by rw[hrec];simp)
    have h4:=(h1.putObj (o':=.loop {rec .ready none with state:=.exhausted}) (.here _)).tail
    refine⟨none,_,h3.trans (TE (λj=>Result.ok j _) (hpn _ _)),?_⟩
    exact(hdone D x hI).run _ _ (hds h4) h4
   ·have h1:=hst2.perm (.open_ _ _)
    have h2:=(h1.blk Tz).1
    have h3:=run_endLoop (P:=P) h2 (by rw[hrec];simp)
    have h4:=(h1.putObj (o':=.loop {rec .done (some c)with state:=.exhausted}) (.here _)).tail
    refine⟨some c,_,h3.trans (TE (λj=>Result.ok j _) (hpn _ _)),?_⟩
    have h5:=(hstop D e K hX (by rw[hj];rfl)).run _ _ (hds h4) h4
    cases e with
    |ret=>obtain rfl:=Tv hj;exact wpIn_ret h5
    |exit id=>obtain rfl:=Tv hj;exact wpIn_exit h5
    |normal=>cases hj
    |goto t=>cases hj
    |panic ch=>cases hj
    |outgrown=>cases hj
variable {fn:Func}{w:World}
theorem Zr{f:FuncId}{args:List Value}{Φ:Value->List HP->Prop}(hf:P.funcs[f]? =some fn)(hn:fn.ntmps=n)(hb:fn.body=some c)
 (hle:Nat.ble args.length n=true) (hw:St B w0 H w) (h:VC P ⟨n,[],none⟩ B w0 c (bodyPostM Fence.wide 0 P fn (Post B w0 Φ)) (Ow 0 args) H):Calls P f args.toArray w (Post B w0 Φ):=by
 refine(callsIn_wide (n:=0)).1 (callsIn_of_wp_marks hf hb trivial ((wpIn_wide (n:=0)).2 (h.run _ w ⟨rfl,?_,λt v ht=>?_⟩ hw)))
 ·simp_all
 ·obtain⟨_,h2⟩:=QZ args 0 t v ht
  grind
theorem YjK{R:Ending->World->Prop}{a:Act}(h:bodyPost P fn R .ret a w):bodyPostM Fence.wide 0 P fn R .ret a w:=by
 obtain⟨h1,h2⟩:=h
 show LeavesInM Fence.wide 0 P fn a.tmps R a.defers .returning w
 rw[h1]
 exact h2
theorem VQ_m{R:Ending->World->Prop}(h:VQ ⟨n,[],none⟩ B w0 (bodyPost P fn R) .ret env H):VQ ⟨n,[],none⟩ B w0 (bodyPostM Fence.wide 0 P fn R) .ret env H:=
 ⟨λa w ha hw=>YjK (h.run a w ha hw)⟩
theorem Jc{D:Nat}{R:Ending->World->Prop}{H':List HP}(hr:Rem (blk D (.deferred (some []))) H H')(h:VQ ⟨n,ds,none⟩ B w0 (bodyPostM Fence.wide 0 P fn R) .ret env H'):
 VQ ⟨n,⟨.collected D,#[]⟩::ds,none⟩ B w0 (bodyPostM Fence.wide 0 P fn R) .ret env H:=by
 refine⟨λa w ha hw=>?_⟩
 show LeavesInM Fence.wide 0 P fn a.tmps R a.defers .returning w
 rw[ha.defers]
 have hw2:=hw.perm hr
 have hb:=(hw2.blk Tz).1
 refine⟨by simp,.inl ⟨D,_,rfl,run_takeDeferred hb,?_⟩⟩
 have h3:=(hw2.putObj (o':=.deferred none) (.here _)).tail
 exact h.run {a with defers:=ds} _ ⟨rfl,ha.size,ha.slot⟩ h3
theorem OK{ops:Array Oper}(hlo:¬LetsOut Q):∀(os:List Oper) (a:Act) (w:World),wpList P ops Q os a w->wpListIn Fence.wide 0 P ops Q os a w
 |[],_,_,h=>h
 |o::os,a,w,h=>by
  unfold wpList at h
  unfold wpListIn
  split
  ·rename_i hw
   rw[Tn hw]at h
   rcases h with h|⟨_,h⟩
   ·refine⟨λf _=>trivial,?_⟩
    have h2:=Oper.wp_mono (λa w h=>OK hlo os a w h) h
    unfold Oper.wp at h2
    have hs:Oper.semAt Fence.wide.round a.eval o=execOp a.eval o:=Oper.semAt_none _ _
    rw[hs]
    generalize(execOp a.eval o).run P w=res at h2⊢
    cases res with
    |ok x w'=>
     exact zc33
    |halt x w'=>exact YvE
   simp_all
  ·rename_i hw
   rw[Tf hw]at h
   exact⟨λf _=>trivial,OK hlo os _ w h⟩
def YQ(P:Program)(ops:Array Oper)(Q:Exit->Act->World->Prop)(l:List Oper):Exit->Act->World->Prop
 |.normal,a,w=>wpListIn Fence.wide 0 P ops Q l a w
 |e,a,w=>Q e a w
theorem Yd8{ops:Array Oper}{l:List Oper}(hlo:¬LetsOut Q):∀(os:List Oper) (a:Act) (w:World),wpList P ops (YQ P ops Q l) os a w->wpListIn Fence.wide 0 P ops Q (os++l) a w
 |[],_,_,h=>h
 |o::os,a,w,h=>by
  unfold wpList at h
  rw[TD]
  unfold wpListIn
  split
  ·rename_i hw
   rw[Tn hw]at h
   rcases h with h|⟨_,h⟩
   ·refine⟨λf _=>trivial,?_⟩
    have h2:=Oper.wp_mono (λa w h=>Yd8 hlo os a w h) h
    unfold Oper.wp at h2
    have hs:Oper.semAt Fence.wide.round a.eval o=execOp a.eval o:=Oper.semAt_none _ _
    rw[hs]
    generalize(execOp a.eval o).run P w=res at h2⊢
    cases res with
    |ok x w'=>
     exact zc33
    |halt x w'=>exact YvE
   ·exact(hlo h).elim
  ·rename_i hw
   rw[Tf hw]at h
   exact⟨λf _=>trivial,Yd8 hlo os _ w h⟩
theorem Yc1{id:Nat}{l:List Oper}(k:Nat){l1 l2:List Oper}(h1:l.take k=l1)(h2:l.drop k=l2)(hlo:¬LetsOut Q)(h:VL P none ⟨n,ds,none⟩ B w0 l.toArray (YQ P l.toArray Q l2) l1 env H):
 VC P ⟨n,ds,none⟩ B w0 (.region id l.toArray false) Q env H:=by
 refine⟨λa w ha hw=>?_⟩
 refine(wpIn_wide (n:=0)).1 (wpIn_region_lit ?_)
 have:=Yd8 hlo _ _ _ (h.run a ha w hw)
 grind [RP]
variable {ops:Array Oper}{ty:TypeId}{pos:String}{after:Array Edge}{rest:List Oper}
theorem Yc8{d:Nat}{x:Operand}{args:List Operand}{tys:Array TypeId}{gd:Option (Nat×Bool)}{vs:List Value}(Φt Φf:List HP->Prop)
 (hgd:∀a:Act,Fits ⟨n,ds,none⟩ a env->Region.wanted ⟨some d,.call ⟨.value x,args.toArray,tys⟩,ty,pos,after,gd⟩ (yielded ops a.tmps)=true)
 (hx:evo env x=some (.func (.yield l) #[] #[])) (hargs:Args env args vs) (hn:Nat.ble (d+1) n=true) (hlo:¬LetsOut Q) (hy:Yc9 P l vs B w0 H Φt Φf)
 (ht:∀K,Φt K->VL P none ⟨n,ds,none⟩ B w0 ops Q rest ((d,.bool true)::env) K)
 (hf:∀K,Φf K->VL P none ⟨n,ds,none⟩ B w0 ops Q rest ((d,.bool false)::env) K):
 VQ ⟨n,ds,none⟩ B w0 (YQ P ops Q (⟨some d,.call ⟨.value x,args.toArray,tys⟩,ty,pos,after,gd⟩::rest)) .normal env H:=by
 refine⟨λa w ha hw=>?_⟩
 show wpListIn Fence.wide 0 P ops Q _ a w
 unfold wpListIn
 rw[Tn (hgd a ha)]
 refine⟨λf _=>trivial,?_⟩
 obtain⟨fn,tmps,assign,body,hrun,hround⟩:=hy w hw
 have hmap:args.toArray.map a.eval=vs.toArray:=by grind [UT]
 have hs:Oper.semAt Fence.wide.round a.eval ⟨some d,.call ⟨.value x,args.toArray,tys⟩,ty,pos,after,gd⟩=execOp a.eval ⟨some d,.call ⟨.value x,args.toArray,tys⟩,ty,pos,after,gd⟩:=Oper.semAt_none _ _
 rw[hs]
 have hex:(execOp a.eval ⟨some d,.call ⟨.value x,args.toArray,tys⟩,ty,pos,after,gd⟩).run P w=.ok (.round l fn tmps assign body) w:=zc93
 rw[hex,Oper.uponIn_round]
 refine⟨λhd=>by simp[Fence.wide]at hd,RoundIn.mono hround ?_⟩
 rintro e w' (⟨rfl,K',hΦ,hst⟩|⟨rfl,K',hΦ,hst⟩)
 ·exact OK hlo _ _ _ ((ht K' hΦ).run _ (ha.put (TX hn) _) _ hst)
 ·exact OK hlo _ _ _ ((hf K' hΦ).run _ (ha.put (TX hn) _) _ hst)
theorem YiL{o:Oper}(hlo:¬LetsOut Q)(h:VL P none ⟨n,ds,none⟩ B w0 ops Q (o::rest) env H):VQ ⟨n,ds,none⟩ B w0 (YQ P ops Q (o::rest)) .normal env H:=
 ⟨λa w ha hw=>OK hlo _ _ _ (h.run a ha w hw)⟩
variable {dst:Option Tmp}{op:Op}
theorem Ycu:∀a:Act,Fits ⟨n,ds,none⟩ a env->Region.wanted ⟨dst,op,ty,pos,after,none⟩ (yielded ops a.tmps)=true:=by grind [Go.Region.wanted]
theorem Ycv{j s:Nat}{b:Bool}{oj:Oper}(hj:ops[j]? =some oj)(hs:oj.dst=some s)(hv:get env s=some (.bool b)):
 ∀a:Act,Fits ⟨n,ds,none⟩ a env->Region.wanted ⟨dst,op,ty,pos,after,some (j,b)⟩ (yielded ops a.tmps)=true:=λa ha=>by simp[Region.wanted,yielded,hj,hs,ha.slot s _ hv]
theorem Yc0(hf:P.funcs[gf]? =some fn)(hn:fn.ntmps=n)(hb:fn.body=some c)(hle:Nat.ble (lb.length+1) n=true)
 (h:∀(l:Nat) (S:Nat->List HP->Prop) (X:List HP->Prop),
  (∀(i:Nat) (args:List Value),xs[i]? =some args->∀(Y L:List HP),S i L->
   Yc9 P l args B w0 (Y++many L::HI) (λK=>∃L',S (i+1) L'/\K=Y++many L'::HI) (λK=>∃L',X L'/\K=Y++many L'::HI))->
  ∀L0,S 0 L0->VC P ⟨n,[],none⟩ B w0 c (bodyPost P fn (Post B w0 λ_ K=>(∃L,S xs.length L/\K=many L::HI)\/∃L,X L/\K=many L::HI)) (Ow 0 (.func (.yield l) #[] #[]::lb)) (many L0::HI)):YcZ P gf lb xs B w0 HI:=by
 intro l S X hy L0 h0 w hw
 exact callsIn_wide.2 (Yc (args:=.func (.yield l) #[] #[]::lb) hf hn hb hle hw (h l S X hy L0 h0))
end
end Go.Eng
namespace Go.Proofs.YtaholidehobiiaaGreatDoor
open Go.RowKit Go.Eng Go.Nw
def Yz(n:Net)(a b:Int):Bool:=decide (0<=Yt n a b)&&(decide (0<=Yt n b a)&&(Z2 n (mar n (Yt n a b).toNat) 0&&Z2 n (mar n (Yt n b a).toNat) 0))
variable {n:Net}{i:Nat}
theorem Qg(h:Ok n)(hi:i<n.links.length):Yt n (lnk n i).1 (lnk n i).2.1=i:=by
 have h1:∀j,j<i->cmpL (lnk n j) ((lnk n i).1,(lnk n i).2.1,(lnk n i).2.2)<0:=λj hj=>YeI h j i hj hi
 have h2:∀j,i<=j->j<n.links.length->0<=cmpL (lnk n j) ((lnk n i).1,(lnk n i).2.1,(lnk n i).2.2):=λj hj hl=>by
  by_cases e:i=j
  ·subst e
   have:cmpL (lnk n i) ((lnk n i).1,(lnk n i).2.1,(lnk n i).2.2)=0:=Wj.2 ⟨rfl,rfl⟩
   omega
  ·have h3:=YeI h i j (by omega) hl
   have h4:¬cmpL (lnk n j) ((lnk n i).1,(lnk n i).2.1,(lnk n i).2.2)<0:=by
    grind [Ui]
   omega
 rw[Yjl h (Nat.le_of_lt hi) h1 h2,Tn ⟨hi,Wj.2 ⟨rfl,rfl⟩⟩]
theorem JM(h:Ok n)(hi:i<n.links.length):ZU n i=Yz n (lnk n i).1 (lnk n i).2.1:=by
 grind [ZU,Yz,Qg]
def YE(c:Cel):Int:=c.2.2.1
def toC(c:Cel):Int:=c.2.2.2.1
def Xf(c:Cel):Int:=c.2.2.2.2
def YH(a b:Cel):Bool:=decide (YE a=YE b\/YE a=toC b\/toC a=YE b\/toC a=toC b)
theorem Vm(a b:Cel):YH a b=YH b a:=by
 unfold YH
 rw[decide_eq_decide]
 omega
def Ug(n:Net)(l:List Flw)(s:Sch)(i:Nat):Int:=
 if ZT s (Yn s i)=false then 2
 else if Yz n (YE (Yn s i)) (toC (Yn s i))=false\/Z1 l (Xf (Yn s i))<0 then 7
 else if 0<i/\Xi (Yn s (i-1)) (Yn s i)=false then 5 else 0
def Jw(s:Sch)(i:Nat):Bool:=(List.range i).any λk=>decide ((Yn s k).1=(Yn s i).1)&&YH (Yn s i) (Yn s k)
def XY(c d:Cel):Bool:=decide (d.1=c.1/\d.2.1=c.2.1)
def YO(s:Sch)(i:Nat):List Cel:=s.cells.filter (XY (Yn s i))
def YR(s:Sch)(i:Nat):Nat:=((s.cells.take i).filter (XY (Yn s i))).length
def celL(l:List Cel)(i:Nat):Cel:=l.getD i (0,0,0,0,0)
def powN(n:Net)(a b:Int):Int:=if insE a n.nodes=true/\insE b n.nodes=true then powr n a b else 0
def YB(n:Net)(l:List Cel)(j:Nat)(node:Int):Nat->Int
 |0=>0
 |k+1=>YB n l j node k+if k=j then 0 else powN n (YE (celL l k)) node+powN n (toC (celL l k)) node
def UZ(n:Net)(c:Cel):Bool:=!(insE (YE c) n.nodes)||!(insE (toC c) n.nodes)
def Wn(n:Net)(l:List Cel)(i node:Int):Int:=
 if Yo n≠0\/i<0\/l.length<=i\/insE node n.nodes=false\/l.any (UZ n)=true then 0 else YB n l i.toNat node l.length
def Jp(n:Net)(s:Sch)(i:Nat):Bool:=
 !(Zu n (mar n (Yt n (YE (Yn s i)) (toC (Yn s i))).toNat) (Wn n (YO s i) (YR s i) (toC (Yn s i))))||!(Zu n (mar n (Yt n (toC (Yn s i)) (YE (Yn s i))).toNat) (Wn n (YO s i) (YR s i) (YE (Yn s i))))
def ZM(n:Net)(l:List Flw)(s:Sch):Int:=
 if Yo n≠0 then 1 else if(Yu n.nodes l).2≠0 then 1 else if Jo s=false then 2
 else if(l.any λf=>decide (s.len.tmod f.2.2.2.1≠0))=true then 11 else if 512<s.cells.length then 8 else 0
def Vb(n:Net)(l:List Flw)(s:Sch):Int×Int:=YZ (Ug n l s) s.cells.length 0
def Uw(s:Sch):Int×Int:=YZ (λi=>if Jw s i=true then 6 else 0) s.cells.length 0
def YfW(n:Net)(s:Sch):Int×Int:=YZ (λi=>if Jp n s i=true then 16 else 0) s.cells.length 0
def schE(n:Net)(l:List Flw)(s:Sch):Int×Int:=
 if ZM n l s≠0 then(-1,ZM n l s)else if(Vb n l s).2≠0 then Vb n l s else if(Uw s).2≠0 then Uw s else YfW n s
def YhV(n:Net)(l:List Cel)(i:Nat):Bool:=
 !(Yz n (YE (celL l i)) (toC (celL l i)))||((List.range l.length).any λk=>decide (k≠i)&&YH (celL l i) (celL l k))
   ||(!(Z2 n (mar n (Yt n (YE (celL l i)) (toC (celL l i))).toNat) (YB n l i (toC (celL l i)) l.length))||!(Z2 n (mar n (Yt n (toC (celL l i)) (YE (celL l i))).toNat) (YB n l i (YE (celL l i)) l.length)))
variable {n:Net}
theorem XL(h:Ok n){u v:Int}(hg:Yz n u v=true):(0<=u/\u<n.nodes)/\(0<=v/\v<n.nodes)/\u≠v/\0<=Yt n u v/\0<=Yt n v u:=by
 unfold Yz at hg
 simp only[Tq,Tt]at hg
 obtain⟨h1,h2,_⟩:=hg
 obtain⟨k1,k2⟩:=Vv h1
 have:=h.lk _ (XR h1)
 have a1:=this.f0;have a2:=this.f1;have a3:=this.t0;have a4:=this.t1;have a5:=this.ne
 rw[k1]at a1 a2 a5
 rw[k2]at a3 a4 a5
 exact⟨⟨a1,a2⟩,⟨a3,a4⟩,a5,h1,h2⟩
theorem YkI(h:Yo n=0)(a b:Int):Vo n (Zn n a b)=Yz n a b:=by
 have hok:=YC h
 unfold Vo Zn
 rw[Tf (by omega),Td h,RO]
 by_cases h0:0<=Yt n a b
 ·have hl:=XR h0
  rw[JM hok hl,(Vv h0).1,(Vv h0).2,Td (by omega),RO]
 ·rw[Ti (by omega),SX]
  unfold Yz
  rw[Ti h0,SX]
variable {s:Sch}{i:Nat}
theorem YeE(h:i<s.cells.length):(YO s i)[YR s i]? =some (Yn s i):=by
 have h1:=Xg h
 obtain⟨h2,h3⟩:=Tj.1 h1
 have hsp:s.cells=s.cells.take i++Yn s i::s.cells.drop (i+1):=by
  rw[<-h3,List.getElem_cons_drop,RP]
 unfold YO YR
 have hp:XY (Yn s i) (Yn s i)=true:=by unfold XY;simp
 have hf:s.cells.filter (XY (Yn s i))=(s.cells.take i).filter (XY (Yn s i))++Yn s i::(s.cells.drop (i+1)).filter (XY (Yn s i)):=by
  conv=>lhs;rw[hsp]
  rw[SY,SH,Tn hp]
 rw[hf,RG (TJ _),NH]
 rfl
structure Fine(n:Net)(s:Sch):Prop where
 good:∀c∈s.cells,Yz n (YE c) (toC c)=true
 once:s.cells.Pairwise λa b=>a.1=b.1->YH a b=false
theorem Ytr{l:List Flw}(h1:(Vb n l s).2=0)(h2:(Uw s).2=0):Fine n s:=by
 have k1:=YK.1 h1
 have k2:=YK.1 h2
 constructor
 ·intro c hc
  obtain⟨i,hi⟩:=TS.1 hc
  have hl:=(Tj.1 hi).1
  have:=k1 i (Tm _) (by omega)
  unfold Ug at this
  rw[XV hi]at this
  cases hg:Yz n (YE c) (toC c)with
  |true=>rfl
  |false=>
   rw[hg]at this
   split at this
   ·omega
   ·rw[Tn (.inl rfl)]at this;omega
 ·refine Rm.2 λi j hi hj hij hs=>?_
  have:=k2 j (Tm _) (by omega)
  have e1:Yn s i=s.cells[i]:=XV (Ta hi)
  have e2:Yn s j=s.cells[j]:=XV (Ta hj)
  cases ht:YH s.cells[i] s.cells[j]with
  |false=>rfl
  |true=>
   have hb:Jw s j=true:=by
    unfold Jw
    rw[T8]
    refine⟨i,TQ.2 hij,?_⟩
    rw[e1,e2,Td hs,RO,Vm]
    exact ht
   simp only[hb,NF]at this
   omega
theorem YwI(h:Ok n){a b:Int}(ha:0<=a/\a<n.nodes)(hb:0<=b/\b<n.nodes):0<=powr n a b/\powr n a b<=68719476736:=by
 have hp:=h.p0
 obtain⟨r,hr⟩:∃r,n.power[a.toNat]? =some r:=⟨_,Ta (by omega)⟩
 have hrm:=Tc hr
 have hl:=h.p1 r hrm
 obtain⟨p,hpe⟩:∃p,r[b.toNat]? =some p:=⟨_,Ta (by omega)⟩
 have:=h.p2 r hrm p (Tc hpe)
 have e1:n.power.getD a.toNat []=r:=by rw[Tu,hr];rfl
 have e2:r.getD b.toNat 0=p:=by rw[Tu,hpe];rfl
 unfold powr
 rw[e1,e2]
 exact this
theorem WX(h:Ok n)(a b:Int):0<=powN n a b/\powN n a b<=68719476736:=by
 unfold powN
 split
 ·rename_i hc
  unfold insE at hc
  simp only[Tt]at hc
  exact YwI h hc.1 hc.2
 ·omega
theorem Yhq{n:Net}(h:Ok n)(l:List Cel)(j:Nat)(node:Int):∀k:Nat,0<=YB n l j node k/\YB n l j node k<=(k:Int)*137438953472
 |0=>by simp[YB]
 |k+1=>by
  have h1:=Yhq h l j node k
  have h2:=WX h (YE (celL l k)) node
  have h3:=WX h (toC (celL l k)) node
  unfold YB
  split<;>omega
theorem YpH(h:Ok n)(hf:Fine n s)(i:Nat):(YO s i).length<=16:=by
 have hsub:(YO s i).Sublist s.cells:=S8
 have hpw:(YO s i).Pairwise λa b=>YH a b=false:=by
  refine(hf.once.sublist hsub).imp_of_mem λ{a b} ha hb hab=>hab ?_
  have h1:=(Re.1 ha).2
  have h2:=(Re.1 hb).2
  unfold XY at h1 h2
  simp only[Tt]at h1 h2
  rw[h1.1,h2.1]
 have hnd:((YO s i).flatMap λc=>[YE c,toC c]).Nodup:=by
  refine List.pairwise_flatMap.2 ⟨λc hc=>?_,hpw.imp λ{a b} hab x hx y hy=>?_⟩
  ·have:=XL h (hf.good c (hsub.subset hc))
   simp[this.2.2.1]
  ·unfold YH at hab
   have hab:=of_decide_eq_false hab
   simp only[TL,RV,N3]at hx hy
   omega
 have hlen:=Go.Nw.nodup_len n.nodes.toNat _ hnd (λx hx=>by
  obtain⟨c,hc,hx⟩:=RJ.1 hx
  have:=XL h (hf.good c (hsub.subset hc))
  have:=h.n0
  simp only[TL,RV,N3]at hx
  omega)
 have h2:((YO s i).flatMap λc=>[YE c,toC c]).length=(YO s i).length*2:=by
  induction YO s i with
  |nil=>rfl
  |cons c l ih=>rw[TZ,To,ih];simp only[TM,Ry];omega
 have:=h.n1
 omega
theorem Yjb(hck:Yo n=0)(hf:Fine n s)(hi:i<s.cells.length):Jp n s i=YhV n (YO s i) (YR s i):=by
 have hok:=YC hck
 have hat:=YeE hi
 have hlt:=(Tj.1 hat).1
 have hc:celL (YO s i) (YR s i)=Yn s i:=by unfold celL;rw[Tu,hat];rfl
 have hsub:(YO s i).Sublist s.cells:=S8
 have hg:=hf.good _ (J8 hi)
 have hgn:=XL hok hg
 have hle:=YpH hok hf i
 have hpw:(YO s i).Pairwise λa b=>YH a b=false:=by
  refine(hf.once.sublist hsub).imp_of_mem λ{a b} ha hb hab=>hab ?_
  have h1:=(Re.1 ha).2
  have h2:=(Re.1 hb).2
  unfold XY at h1 h2
  simp only[Tt]at h1 h2
  rw[h1.1,h2.1]
 have hto:((List.range (YO s i).length).any λk=>decide (k≠YR s i)&&YH (celL (YO s i) (YR s i)) (celL (YO s i) k))=false:=by
  rw[RD]
  intro k hk
  have hk:=TQ.1 hk
  by_cases e:k=YR s i
  ·rw[Ti (λh=>h e)];simp
  ·have hpk:=Rm.1 hpw
   have e1:celL (YO s i) k=(YO s i)[k]:=by unfold celL;rw[Tu,Ta hk];rfl
   have e2:celL (YO s i) (YR s i)=(YO s i)[YR s i]:=by unfold celL;rw[Tu,Ta hlt];rfl
   rw[Td e,RO,e1,e2]
   rcases NP e with h|h
   ·rw[Vm,hpk k _ hk hlt h];simp
   ·rw[hpk _ k hlt hk h];simp
 have hno:(YO s i).any (UZ n)=false:=by
  rw[RD]
  intro c hcm
  have:=XL hok (hf.good c (hsub.subset hcm))
  unfold UZ insE
  rw[Td this.1,Td this.2.1]
  simp
 have hde:∀node,0<=node->node<n.nodes->Wn n (YO s i) (YR s i) node=YB n (YO s i) (YR s i) node (YO s i).length:=λnode h0 h1=>by
  unfold Wn
  rw[Tf]
  ·rfl
  ·rintro(h|h|h|h|h)
   ·exact h hck
   ·omega
   ·omega
   ·unfold insE at h
    have:=of_decide_eq_false h
    omega
   ·rw[hno]at h;cases h
 have hhe:∀(a b node:Int),0<=Yt n a b->Zu n (mar n (Yt n a b).toNat) (YB n (YO s i) (YR s i) node (YO s i).length)=Z2 n (mar n (Yt n a b).toNat) (YB n (YO s i) (YR s i) node (YO s i).length):=λa b node h0=>by
  have h1:=Yea hok (XR h0)
  have h2:=Yhq hok (YO s i) (YR s i) node (YO s i).length
  unfold Zu
  rw[Td hck,Td (by omega)]
  rfl
 unfold Jp YhV
 rw[hc]at hto⊢
 rw[hto,hg,hde _ hgn.2.1.1 hgn.2.1.2,hde _ hgn.1.1 hgn.1.2,hhe _ _ _ hgn.2.2.2.1,hhe _ _ _ hgn.2.2.2.2]
 rfl
def ltB(c:Cel)(x:Cel):Bool:=Xi x c
def posE(l:List Cel)(c:Cel):Nat:=(l.takeWhile (ltB c)).length
structure Pos(l:List Cel)(c:Cel)(k:Nat):Prop where
 le:k<=l.length
 lo:∀i x,i<k->l[i]? =some x->Xi x c=true
 hi:∀i x,k<=i->l[i]? =some x->Xi x c=false
abbrev Ord(l:List Cel):Prop:=l.Pairwise λa b=>Xi a b=true
variable {l:List Cel}{x c:Cel}
theorem YhL(h:Ord l){i j:Nat}{y:Cel}(hx:l[i]? =some x)(hy:l[j]? =some y)(hij:i<j):Xi x y=true:=by
 obtain⟨h1,rfl⟩:=Tj.1 hx
 obtain⟨h2,rfl⟩:=Tj.1 hy
 exact Rm.1 h i j h1 h2 hij
theorem Ya7{α:Type}{p:α->Bool}:∀{l:List α}{i:Nat}{x:α},i<(l.takeWhile p).length->l[i]? =some x->p x=true
 |[],_,_,h,_=>by simp at h
 |a::l,i,x,h,hx=>by
  rw[NL]at h
  cases hp:p a with
  |false=>rw[hp]at h;simp at h
  |true=>
   rw[hp,Tn rfl]at h
   cases i with
   |zero=>
    obtain rfl:a=x:=by simpa using hx
    exact hp
   |succ i=>exact Ya7 (l:=l) (i:=i) (by simpa using h) (by simpa using hx)
theorem Ya5{α:Type}{p:α->Bool}:∀{l:List α}{x:α},l[(l.takeWhile p).length]? =some x->p x=false
 |[],_,h=>by simp at h
 |a::l,x,h=>by
  rw[NL]at h
  cases hp:p a with
  |false=>
   rw[hp]at h
   obtain rfl:a=x:=by simpa using h
   exact hp
  |true=>
   rw[hp,Tn rfl]at h
   exact Ya5 (l:=l) (by simpa using h)
theorem Ya6{α:Type}{p:α->Bool}:∀l:List α,(l.takeWhile p).length<=l.length
 |[]=>TJ _
 |a::l=>by
  rw[NL]
  split
  ·have:=Ya6 (p:=p) l;simp only[TM];omega
  ·simp
theorem YhQ(h:Ord l)(c:Cel):Pos l c (posE l c):=by
 refine⟨Ya6 l,λi x hi hx=>show ltB c x=true from Ya7 hi hx,λi x hi hx=>?_⟩
 unfold posE at hi
 obtain⟨y,hy⟩:∃y,l[(l.takeWhile (ltB c)).length]? =some y:=⟨_,Ta (Nat.lt_of_le_of_lt hi (Tj.1 hx).1)⟩
 have h1:Xi y c=false:=show ltB c y=false from Ya5 hy
 rcases Nat.eq_or_lt_of_le hi with e|hlt
 ·rw[e,hx]at hy
  injection hy with hy;subst hy;exact h1
 ·have h2:=YhL h hy hx hlt
  cases h3:Xi x c with
  |false=>rfl
  |true=>rw[JB h2 h3]at h1;cases h1
variable {k:Nat}
theorem Pos.eq{m:Nat}(h1:Pos l c k)(h2:Pos l c m):k=m:=by
 rcases Nr k m with h|h|h
 ·obtain⟨x,hx⟩:∃x,l[k]? =some x:=⟨_,Ta (by have:=h2.le;omega)⟩
  have:=h1.hi k x (TJ _) hx
  rw[h2.lo k x h hx]at this;cases this
 ·exact h
 ·obtain⟨x,hx⟩:∃x,l[m]? =some x:=⟨_,Ta (by have:=h1.le;omega)⟩
  have:=h2.hi m x (TJ _) hx
  rw[h1.lo m x h hx]at this;cases this
theorem Pos.posE(h:Ord l)(hk:Pos l c k):k=posE l c:=hk.eq (YhQ h c)
theorem Yt5(h:Ord l)(hk:Pos l c k):l[k]? =some c↔c∈l:=by
 constructor
 ·exact Tc
 ·intro hm
  obtain⟨i,hi⟩:=TS.1 hm
  rcases Nr i k with h1|h1|h1
  ·have:=hk.lo i c h1 hi
   rw[Va]at this;cases this
  ·subst h1;exact hi
  ·obtain⟨x,hx⟩:∃x,l[k]? =some x:=⟨_,Ta (by have:=(Tj.1 hi).1;omega)⟩
   have h2:=hk.hi k x (TJ _) hx
   rw[YhL h hx hi h1]at h2;cases h2
def insC(l:List Cel)(c:Cel):List Cel:=l.take (posE l c)++c::l.drop (posE l c)
def ZD:Sch:=⟨0,0,[]⟩
def atE(s:Sch)(slot:Int):List Cel:=if XH s=false\/slot<0 then []else s.cells.filter λc=>decide (c.1=slot.tmod s.len)
def movC(d:Int)(c:Cel):Cel:=(c.1+d,c.2)
def repC(s:Sch)(k:Nat):List Cel:=(List.range k).flatMap λi:Nat=>s.cells.map (movC ((i:Int)*s.len))
theorem YjD(l:List Cel)(c:Cel):(insC l c).Perm (c::l):=by
 unfold insC
 refine List.perm_middle.trans ?_
 rw[RP]
theorem Qm:x∈insC l c↔x=c\/x∈l:=by
 rw[(YjD l c).mem_iff,TL]
theorem YtG(h:Ord l)(hc:c∉l):Ord (insC l c):=by
 have hp:=YhQ h c
 unfold insC
 have hsp:Ord (l.take (posE l c)++l.drop (posE l c)):=by rw[RP];exact h
 obtain⟨h1,h2,h3⟩:=NI.1 hsp
 have hlo:∀x∈l.take (posE l c),Xi x c=true:=λx hx=>by
  obtain⟨i,hi⟩:=TS.1 hx
  have hil:=(Tj.1 hi).1
  rw[TT]at hil
  rw[SI (by omega)]at hi
  exact hp.lo i x (by omega) hi
 have hhi:∀x∈l.drop (posE l c),Xi c x=true:=λx hx=>by
  obtain⟨i,hi⟩:=TS.1 hx
  rw[RI]at hi
  have h4:=hp.hi _ x (Nat.le_add_right _ _) hi
  cases h5:Xi c x with
  |true=>rfl
  |false=>exact absurd (Tc hi) (by rw[Yav h4 h5];exact hc)
 refine NI.2 ⟨h1,.cons hhi h2,λx hx y hy=>?_⟩
 rcases TL.1 hy with rfl|hy
 ·exact hlo x hx
 ·exact h3 x hx y hy
theorem Ybz(h:Ord l):l.Nodup:=h.imp λ{a b} hab e=>by subst e;rw[Va]at hab;cases hab
end Go.Proofs.YtaholidehobiiaaGreatDoor
