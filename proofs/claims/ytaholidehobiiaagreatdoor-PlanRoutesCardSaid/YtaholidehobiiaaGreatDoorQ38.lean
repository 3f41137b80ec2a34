/- Lemmas for the claim, part 38. -/
import Derived.Test.YtaholidehobiiaaGreatDoorProg
import Derived.KernelRfl
import Derived.Test.YtaholidehobiiaaGreatDoorQ24
import Derived.Test.YtaholidehobiiaaGreatDoorQ39
set_option maxRecDepth 100000
set_option maxHeartbeats 8000000
set_option linter.all false
namespace Go.Proofs.YtaholidehobiiaaGreatDoor
open Go.Eng
theorem en12(xs:Array Value)(w:World):(callFunc 12 xs).run Tryz.prog w=.ok (.enter 12 xs) w:=by kernel_rfl
theorem en14(xs:Array Value)(w:World):(callFunc 14 xs).run Tryz.prog w=.ok (.enter 14 xs) w:=by kernel_rfl
theorem en61(xs:Array Value)(w:World):(callFunc 61 xs).run Tryz.prog w=.ok (.enter 61 xs) w:=by kernel_rfl
theorem en62(xs:Array Value)(w:World):(callFunc 62 xs).run Tryz.prog w=.ok (.enter 62 xs) w:=by kernel_rfl
theorem en63(xs:Array Value)(w:World):(callFunc 63 xs).run Tryz.prog w=.ok (.enter 63 xs) w:=by kernel_rfl
theorem en64(xs:Array Value)(w:World):(callFunc 64 xs).run Tryz.prog w=.ok (.enter 64 xs) w:=by kernel_rfl
theorem QC(xs:Array Value)(w:World):(callFunc 149 xs).run Tryz.prog w=.ok (.enter 149 xs) w:=by kernel_rfl
theorem Yuv(xs:Array Value)(w:World):(callFunc 150 xs).run Tryz.prog w=.ok (.enter 150 xs) w:=by kernel_rfl
theorem Yuw(xs:Array Value)(w:World):(callFunc 151 xs).run Tryz.prog w=.ok (.enter 151 xs) w:=by kernel_rfl
theorem YbZ(xs:Array Value)(w:World):(callFunc 152 xs).run Tryz.prog w=.ok (.enter 152 xs) w:=by kernel_rfl
theorem Ym4(xs:Array Value)(w:World):(callFunc 153 xs).run Tryz.prog w=.ok (.enter 153 xs) w:=by kernel_rfl
theorem Yw7(xs:Array Value)(w:World):(callFunc 154 xs).run Tryz.prog w=.ok (.enter 154 xs) w:=by kernel_rfl
theorem Yq1(xs:Array Value)(w:World):(callFunc 155 xs).run Tryz.prog w=.ok (.enter 155 xs) w:=by kernel_rfl
theorem Ynd(xs:Array Value)(w:World):(callFunc 242 xs).run Tryz.prog w=.ok (.enter 242 xs) w:=by kernel_rfl
theorem YuJ(xs:Array Value)(w:World):(callFunc 243 xs).run Tryz.prog w=.ok (.enter 243 xs) w:=by kernel_rfl
theorem ZP(xs:Array Value)(w:World):(callFunc 244 xs).run Tryz.prog w=.ok (.enter 244 xs) w:=by kernel_rfl
theorem Yb3(xs:Array Value)(w:World):(callFunc 245 xs).run Tryz.prog w=.ok (.enter 245 xs) w:=by kernel_rfl
theorem UI(xs:Array Value)(w:World):(callFunc 319 xs).run Tryz.prog w=.ok (.enter 319 xs) w:=by kernel_rfl
theorem YuV(xs:Array Value)(w:World):(callFunc 320 xs).run Tryz.prog w=.ok (.enter 320 xs) w:=by kernel_rfl
theorem YuW(xs:Array Value)(w:World):(callFunc 321 xs).run Tryz.prog w=.ok (.enter 321 xs) w:=by kernel_rfl
theorem QF(xs:Array Value)(w:World):(callFunc 322 xs).run Tryz.prog w=.ok (.enter 322 xs) w:=by kernel_rfl
theorem Ynl(xs:Array Value)(w:World):(callFunc 355 xs).run Tryz.prog w=.ok (.enter 355 xs) w:=by kernel_rfl
theorem Yu7(xs:Array Value)(w:World):(callFunc 383 xs).run Tryz.prog w=.ok (.enter 383 xs) w:=by kernel_rfl
theorem Yf9(xs:Array Value)(w:World):(callFunc 384 xs).run Tryz.prog w=.ok (.enter 384 xs) w:=by kernel_rfl
theorem Yvb(xs:Array Value)(w:World):(callFunc 408 xs).run Tryz.prog w=.ok (.enter 408 xs) w:=by kernel_rfl
open Go.RowKit Go.Eng Go.Nw
variable {B k:Nat}{w0 w:World}{H:List HP}
theorem YaI(a lo hi:Int)(hw:St B w0 H w):
 CX B w0 149 [.int .i64 a,.int .i64 lo,.int .i64 hi] w λv K=>v=.bool (decide (lo<=a/\a<=hi))/\K=H:=by
 refine Yc Tryz.func149 Tryz.ntmps149 rfl rfl hw ?_
 repeat'(first|refine zgd ?_|(refine zgf ?_ ?_<;>intro _<;>try exact zo)|fail)
 ·exact zc24
 all_goals(apply Yd;exact rfl;exact rfl;exact⟨by rw[Ti (by omega)],rfl⟩)
variable {α:Type}
theorem Yde{p:α->Bool}{l:List α}{a:α}(h:l[k]? =some a):(l.take (k+1)).any p=((l.take k).any p||p a):=zc90
theorem Yhi{p:α->Bool}{l:List α}{a:α}(h:l[k]? =some a)(hp:p a=true):l.any p=true:=by grind
theorem Yko(n:NetM)(hnn:n.nodes<=1000000)(hin:n.In B w0 H)(hw:St B w0 H w):
 CX B w0 150 [n.val] w λv K=>v=.int .i64 (Vl n.net)/\K=H:=by
 refine Yc Tryz.func150 Tryz.ntmps150 rfl rfl hw ?_
 obtain⟨hpw,hrw,hlk,hmg,hs1,hs2,hs3,hs4⟩:=id hin
 have e1:n.net.power.length=n.rows.length:=by simp[NetM.net]
 have e2:n.net.nodes=n.nodes:=rfl
 unfold Vl
 rw[e1,e2,<-Yat,<-Yat n (λr=>r.any ZR)]
 by_cases hnl:(n.rows.length:Int)=n.nodes
 rotate_left
 ·refine zX46 ?_<;>intros
  ((repeat apply Yj);apply Yd;exact rfl;exact rfl;refine⟨TE _ ?_,rfl⟩)
  (repeat(first|refine Xu (by omega) ?_|refine Xv (by omega) ?_))
  rfl
 rw[Tf (by omega)]
 (apply YY;apply Yx;apply Yr;exact rfl;exact rfl;intro g)
 refine zX3 ?_<;>intros
 refine Yg (λ(a:Nat)=>[(3,.int .i64 a),(1,.pointer (some ⟨g,0,none⟩))]) (λ_=>netB g n::H) (λa=>a<=n.rows.length/\(n.rows.take a).any (λr=>wide n.nodes r.xs)=false) (λa=>n.rows.length-a) 0 ⟨Tm _,by simp⟩ ?_ (λw hw=>hw) ?_
 ·exact zc1
 rintro a ⟨ha,hai⟩ K hK
 by_cases hlt:a<n.rows.length
 ·obtain⟨r,hr⟩:∃r,n.rows[a]? =some r:=⟨_,Ta hlt⟩
  have hs2r:=hs2 r (Tc hr)
  repeat'(first|refine zgd ?_|(refine zge ?_ ?_<;>intro _<;>try exact zo)|fail)
  ·rename_i h
   ((repeat apply Yj);apply Yd;exact rfl;exact rfl;refine⟨TE _ ?_,rfl⟩)
   rw[Tn (Yhi hr (Td h))]
  ·rename_i h
   apply hK (a+1)
   ·exact⟨by omega,by rw[Yde hr,hai];exact Ti (by omega)⟩
   ·omega
   ·exact zc1
   exact zc17
 obtain rfl:a=n.rows.length:=by omega
 rw[TV]at hai
 rw[hai,Tf (by simp)]
 have hw2:∀r∈n.rows,(r.xs.length:Int)=n.nodes:=λr hr=>by
  have h1:=RD.1 hai r hr
  simp only[wide,Tt]at h1
  omega
 refine zX1 ?_<;>intros
 refine Yg (λ(a:Nat)=>[(4,.int .i64 a),(1,.pointer (some ⟨g,0,none⟩))]) (λ_=>netB g n::H) (λa=>a<=n.rows.length/\(n.rows.take a).any (λr=>r.xs.any ZR)=false) (λa=>n.rows.length-a) 0 ⟨Tm _,by simp⟩ ?_ (λw hw=>hw) ?_
 ·exact zc1
 rintro a ⟨ha,hbi⟩ K hK
 by_cases hlt:a<n.rows.length
 rotate_left
 ·obtain rfl:a=n.rows.length:=by omega
  rw[TV]at hbi
  rw[hbi,Tf (by simp)]
  refine zX1 ?_<;>intros
  ((repeat apply Yj);apply Yd;exact rfl;exact rfl;refine⟨TE _ ?_,rfl⟩)
  rfl
 obtain⟨r,hr⟩:∃r,n.rows[a]? =some r:=⟨_,Ta hlt⟩
 have hrm:=Tc hr
 have hs2r:=hs2 r hrm
 have hrr:=hrw r hrm
 have hrl:=hw2 r hrm
 refine zX3 ?_<;>intros
 refine Yg (λ(b:Nat)=>[(5,.int .i64 b),(4,.int .i64 a),(1,.pointer (some ⟨g,0,none⟩))]) (λ_=>netB g n::H) (λb=>b<=r.xs.length/\(r.xs.take b).any ZR=false) (λb=>r.xs.length-b) 0 ⟨Tm _,by simp⟩ ?_ (λw hw=>hw) ?_
 ·exact zc1
 rintro b ⟨hb,hci⟩ K2 hK2
 by_cases hltb:b<r.xs.length
 ·obtain⟨p,hp⟩:∃p,r.xs[b]? =some p:=⟨_,Ta hltb⟩
  repeat'(first|((first|apply Y9 QC|apply Y8 QC);exact za;exact rfl;exactλ_ hw=>(YaI _ _ _ hw);all_goals(intro hB;(try simp only[Tt,TP]at hB);try exact zo))|refine zgd ?_|(refine zge ?_ ?_<;>intro _<;>try exact zo)|fail)
  ·apply hK2 (b+1)
   ·exact⟨by omega,by rw[Yde hp,hci];exact Ti (by omega)⟩
   ·omega
   ·exact zc1
   exact zc17
  ·((repeat apply Yj);apply Yd;exact rfl;exact rfl;refine⟨TE _ ?_,rfl⟩)
   rw[Tn (Yhi hr (Yhi hp (Td (by omega))))]
 ·obtain rfl:b=r.xs.length:=by omega
  rw[TV]at hci
  refine zX1 ?_<;>intros
  apply hK (a+1)
  ·exact⟨by omega,by rw[Yde hr,hbi];exact hci⟩
  ·omega
  ·exact zc1
  exact zc17
theorem Yl7(n:NetM)(i:Nat)(hin:n.In B w0 H)(hi:i<n.links.length)(hml:n.margin.length=n.links.length)(ht:Vl n.net=0)(hnn:0<=n.nodes/\n.nodes<=1000000)(hw:St B w0 H w):
 CX B w0 151 [n.val,.int .i64 i] w λv K=>v=.int .i64 (Oi n.net i)/\K=H:=by
 refine Yc Tryz.func151 Tryz.ntmps151 rfl rfl hw ?_
 obtain⟨hpw,hrw,hlk,hmg,hs1,hs2,hs3,hs4⟩:=hin
 obtain⟨t1,t2,t3⟩:=YeO ht
 obtain⟨l,hl⟩:∃l,n.links[i]? =some l:=⟨_,Ta hi⟩
 obtain⟨z,hz⟩:∃z,n.margin[i]? =some z:=⟨_,Ta (by omega)⟩
 have e1:lnk n.net i=l:=JU hl
 have e2:mar n.net i=z:=Qp hz
 have e3:n.net.nodes=n.nodes:=rfl
 have e4:n.net.power.length=n.rows.length:=by simp[NetM.net]
 rw[e4,e3]at t1
 unfold Oi
 rw[e1,e2,e3]
 by_cases h1:(0<=l.1/\l.1<n.nodes)/\(0<=l.2.1/\l.2.1<n.nodes)
 rotate_left
 ·skip
  repeat'(first|((first|apply Y9 QC|apply Y8 QC);exact za;exact rfl;exactλ_ hw=>(YaI _ _ _ hw);all_goals(intro hB;(try simp only[Tt,TP]at hB);try exact zo))|refine zgd ?_|(refine zgh ?_;intro _)|fail)
  all_goals(((repeat apply Yj);apply Yd;exact rfl;exact rfl;refine⟨TE _ ?_,rfl⟩);(repeat(first|refine Xu (by omega) ?_|refine Xv (by omega) ?_));rfl)
 obtain⟨r,hr⟩:∃r,n.rows[l.1.toNat]? =some r:=⟨_,Ta (by omega)⟩
 have hrm:r∈n.rows:=Tc hr
 have hrr:=hrw r hrm
 have hrs:=hs2 r hrm
 have hrl:(r.xs.length:Int)=n.nodes:=t2 r.xs (TC.2 ⟨r,hrm,rfl⟩)
 obtain⟨p,hp⟩:∃p,r.xs[l.2.1.toNat]? =some p:=⟨_,Ta (by omega)⟩
 rw[Yel (n:=n.net) (r:=r.xs) (by simp[NetM.net,hr]) hp]
 by_cases h0:0<i
 ·obtain⟨q,hq⟩:∃q,n.links[((i:Int)-1).toNat]? =some q:=⟨_,Ta (by omega)⟩
  rw[show lnk n.net (i-1)=q from JU YvZ]
  have hcm:=@Ui q l
  repeat'(first|((first|apply Y9 QC|apply Y8 QC);exact za;exact rfl;exactλ_ hw=>(YaI _ _ _ hw);all_goals(intro hB;(try simp only[Tt,TP]at hB);try exact zo))|(apply zg28;first|refine zs83 ?_|refine zs84 ?_)|refine zgd ?_|(refine zgf ?_ ?_<;>intro _<;>try exact zo)|(refine zgh ?_;intro _)|fail)
  all_goals(((repeat apply Yj);apply Yd;exact rfl;exact rfl;refine⟨TE _ ?_,rfl⟩);(repeat(first|refine Xu (by omega) ?_|refine Xv (by omega) ?_));rfl)
 ·skip
  repeat'(first|((first|apply Y9 QC|apply Y8 QC);exact za;exact rfl;exactλ_ hw=>(YaI _ _ _ hw);all_goals(intro hB;(try simp only[Tt,TP]at hB);try exact zo))|(apply zg28;first|refine zs83 ?_|refine zs84 ?_)|refine zgd ?_|(refine zgf ?_ ?_<;>intro _<;>try exact zo)|(refine zgh ?_;intro _)|fail)
  all_goals(((repeat apply Yj);apply Yd;exact rfl;exact rfl;refine⟨TE _ ?_,rfl⟩);(repeat(first|refine Xu (by omega) ?_|refine Xv (by omega) ?_));rfl)
theorem OS(n:NetM)(hin:n.In B w0 H)(hw:St B w0 H w):
 CX B w0 61 [n.val] w λv K=>v=.int .i64 (Yo n.net)/\K=H:=by
 refine Yc Tryz.func61 Tryz.ntmps61 rfl rfl hw ?_
 have e3:n.net.nodes=n.nodes:=rfl
 have e5:n.net.noise=n.noise:=rfl
 have e6:n.net.thr=n.thr:=rfl
 have e7:n.net.links=n.links:=rfl
 have e8:n.net.margin=n.margin:=rfl
 have hs1:=hin.s1
 have hs3:=hin.s3
 have hs4:=hin.s4
 unfold Yo
 rw[e3,e5,e6,e7,e8]
 (apply YY;apply Yx;apply Yr;exact rfl;exact rfl;intro g)
 repeat'(first|((first|apply Ya Yuv|apply Yb Yuv);exact za;exact rfl;exactλ_ hw=>(Yko n (by omega) hin.cons hw))|((first|apply Y9 QC|apply Y8 QC);exact za;exact rfl;exactλ_ hw=>(YaI _ _ _ hw);all_goals(intro hB;(try simp only[Tt,TP]at hB);try exact zo))|refine zgd ?_|(refine zgf ?_ ?_<;>intro _<;>try exact zo)|fail)
 any_goals(((repeat apply Yj);apply Yd;exact rfl;exact rfl;refine⟨TE _ ?_,rfl⟩);(repeat(first|refine Xu (by omega) ?_|refine Xv (by omega) ?_));rfl)
 have ht:Vl n.net=0:=by assumption
 refine Yg (λ(k:Nat)=>[(4,.int .i64 k),(1,.pointer (some ⟨g,0,none⟩))]) (λ_=>netB g n::H) (λk=>k<=n.links.length/\Vi n.net n.links.length 0=Vi n.net (n.links.length-k) k) (λk=>n.links.length-k) 0 ⟨Tm _,rfl⟩ ?_ (λw hw=>hw) ?_
 ·exact zc1
 rintro k ⟨hk,hi⟩ K hK
 by_cases hlt:k<n.links.length
 ·skip
  repeat'(first|((first|apply Ya Yuw|apply Yb Yuw);exact za;exact rfl;exactλ_ hw=>(Yl7 n k hin.cons hlt (by omega) ht (by omega) hw))|refine zgd ?_|(refine zge ?_ ?_<;>intro _<;>try exact zo)|fail)
  ·exact zc41
  ·apply hK (k+1)
   ·exact YvN
   ·omega
   ·exact zc1
   exact zc17
 ·refine zX1 ?_<;>intros
  exact zc46
theorem Yac(n:NetM)(a b:Int)(hin:n.In B w0 H)(hw:St B w0 H w):
 CX B w0 384 [n.val,.int .i64 a,.int .i64 b] w λv K=>v=.int .i64 (Yt n.net a b)/\K=H:=by
 refine Yc Tryz.func384 Tryz.ntmps384 rfl rfl hw ?_
 obtain⟨hpw,hrw,hlk,hmg,hs1,hs2,hs3,hs4⟩:=id hin
 have ef:Yt n.net a b=Ym (Wr a b) n.links 0:=rfl
 rw[ef]
 (apply YY;apply Yx;apply Yr;exact rfl;exact rfl;intro g)
 refine zX8 ?_
 refine Yg (λ(k:Nat)=>[(7,.int .i64 k),(3,.pointer (some ⟨g,0,none⟩)),(1,.int .i64 a),(2,.int .i64 b)]) (λ_=>netB g n::H) (λk=>k<=n.links.length/\Ym (Wr a b) n.links 0=Ym (Wr a b) (n.links.drop k) k) (λk=>n.links.length-k) 0 ⟨Tm _,by simp⟩ ?_ (λw hw=>hw) ?_
 ·exact zc1
 rintro k ⟨hk,hi⟩ K hK
 by_cases hlt:k<n.links.length
 ·obtain⟨l,hl⟩:∃l,n.links[k]? =some l:=⟨_,Ta hlt⟩
  rw[Z3 _ n.links hl]at hi
  repeat'(first|refine zgd ?_|(refine zge ?_ ?_<;>intro _<;>try exact zo)|fail)
  ·rw[Tn (by simp_all [Wr])]at hi
   exact zc34
  all_goals(
   rw[Tf (by simp_all [Wr])]at hi
   apply hK (k+1)
   ·exact⟨by omega,hi⟩
   ·omega
   ·exact zu
   ·exactλw hw=>hw)
 ·refine zX1 ?_<;>intros
  exact zc27
variable {B:Nat}{w0 w:World}{H:List HP}
theorem Ykj(n:NetM)(s d:Int)(hok:Ok n.net)(hs:0<=s/\s<=8796093022208)(hd:0<=d/\d<=8796093022208)(hw:St B w0 H w):
 CX B w0 408 [n.val,.int .i64 s,.int .i64 d] w λv K=>v=.bool (Z2 n.net s d)/\K=H:=by
 refine Yc Tryz.func408 Tryz.ntmps408 rfl rfl hw ?_
 exact zc19
theorem Yo2(n:NetM)(a b:Int)(hin:n.In B w0 H)(hok:Ok n.net)(hw:St B w0 H w):
 CX B w0 355 [n.val,.int .i64 a,.int .i64 b] w λv K=>v=.bool (Yz n.net a b)/\K=H:=by
 refine Yc Tryz.func355 Tryz.ntmps355 rfl rfl hw ?_
 obtain⟨hpw,hrw,hlk,hmg,hs1,hs2,hs3,hs4⟩:=id hin
 have hml:n.margin.length=n.links.length:=hok.k1
 unfold Yz
 by_cases h1:0<=Yt n.net a b
 rotate_left
 ·rw[Ti h1]
  refine Yvr ?_<;>intros
  all_goals((repeat apply Yj);exact zc4)
 rw[Td h1]
 by_cases h2:0<=Yt n.net b a
 rotate_left
 ·rw[Ti h2]
  refine Yvr ?_<;>intros
  all_goals((repeat apply Yj);exact zc4)
 rw[Td h2]
 have hl1:(Yt n.net a b).toNat<n.links.length:=XR h1
 have hl2:(Yt n.net b a).toNat<n.links.length:=XR h2
 obtain⟨x,hx⟩:∃y,n.margin[(Yt n.net a b).toNat]? =some y:=⟨_,Ta (by omega)⟩
 obtain⟨y,hy⟩:∃y,n.margin[(Yt n.net b a).toNat]? =some y:=⟨_,Ta (by omega)⟩
 have e1:mar n.net (Yt n.net a b).toNat=x:=Qp hx
 have e2:mar n.net (Yt n.net b a).toNat=y:=Qp hy
 have hxb:=Yea hok hl1
 have hyb:=Yea hok hl2
 rw[e1]at hxb
 rw[e2]at hyb
 rw[e1,e2]
 repeat'(first|((first|apply Ya Yf9|apply Yb Yf9);exact za;exact rfl;exactλ_ hw=>(Yac n _ _ hin.cons hw))|((first|apply Y9 Yvb|apply Y8 Yvb);exact za;exact rfl;exactλ_ hw=>(Ykj n _ _ hok (by omega) (by omega) hw);all_goals(intro hB;(try simp only[Tt,TP]at hB);try exact zo))|(apply zg28;refine zs84 ?_)|refine zgd ?_|(refine zgf ?_ ?_<;>intro _<;>try exact zo)|(refine zgh ?_;intro _)|fail)
 all_goals((repeat apply Yj);apply Yd;exact rfl;exact rfl;refine⟨?_,rfl⟩;simp_all)
open Go.RowKit Go.Eng Go.Nw Go.Rt
def Z5(a b:List Int)(i k:Nat):Bool:=decide (a.getD i 0=b.getD k 0/\¬((i=0/\k=0)\/(i+1=a.length/\k+1=b.length)))
def JR(a b:List Int):Bool:=decide (2<=a.length/\2<=b.length/\a≠b/\a.getD 0 0=b.getD 0 0/\a.getD (a.length-1) 0=b.getD (b.length-1) 0)&&!(List.range a.length).any λi=>(List.range b.length).any λk=>Z5 a b i k
theorem Ydd{p:Nat->Bool}{k:Nat}:(List.range (k+1)).any p=((List.range k).any p||p k):=by
 rw[Rx,Nu];simp
variable {B:Nat}{w0 w:World}{H:List HP}
theorem Yer(n:NetM)(a:Int)(hw:St B w0 H w):
 CX B w0 319 [n.val,.int .i64 a] w λv K=>v=.bool (!offE n.net a)/\K=H:=by
 refine Yc Tryz.func319 Tryz.ntmps319 rfl rfl hw ?_
 have e7:n.net.nodes=n.nodes:=rfl
 unfold offE
 rw[e7]
 by_cases h:a<0\/n.nodes<=a
 ·rw[Td h]
  repeat'(first|refine zgd ?_|(refine zgf ?_ ?_<;>intro _<;>try exact zo)|(refine zgh ?_;intro _)|fail)
  all_goals(apply Yj;apply Yd;exact rfl;exact rfl;simp_all)
 ·rw[Ti h]
  repeat'(first|refine zgc ?_|(refine zgf ?_ ?_<;>intro _<;>try exact zo)|(refine zgh ?_;intro _)|fail)
  all_goals(apply Yj;apply Yd;exact rfl;exact rfl;exact⟨rfl,rfl⟩)
theorem Yab(n:NetM)(s t:Int)(hin:n.In B w0 H)(hw:St B w0 H w):
 CX B w0 242 [n.val,.int .i64 s,.int .i64 t] w λv K=>v=.int .i64 (XW n.net s t)/\K=H:=by
 refine Yc Tryz.func242 Tryz.ntmps242 rfl rfl hw ?_
 unfold XW
 by_cases h0:Yo n.net=0
 rotate_left
 ·rw[Tn h0]
  repeat'(first|((first|apply Ya en61|apply Yb en61);exact za;exact rfl;exactλ_ hw=>(OS n hin.cons hw))|refine zgb ?_|(refine zge ?_ ?_<;>intro _<;>try exact zo)|(refine zgh ?_;intro _)|fail)
  all_goals((repeat apply Yj);exact zc11)
 rw[Tf (λh=>h h0)]
 have hck:=λ{H:List HP}{w:World}(hin:n.In B w0 H) (hw:St B w0 H w)=>OS n hin hw
 rw[h0]at hck
 have hns:=λ{H:List HP}{w:World}(hw:St B w0 H w)=>Yer n s hw
 have hnt:=λ{H:List HP}{w:World}(hw:St B w0 H w)=>Yer n t hw
 obtain⟨x1,hx1⟩:∃x,offE n.net s=x:=⟨_,rfl⟩
 obtain⟨x2,hx2⟩:∃x,offE n.net t=x:=⟨_,rfl⟩
 rw[hx1]at hns⊢
 rw[hx2]at hnt⊢
 cases x1 with
 |true=>
  rw[Tn (.inl rfl)]
  refine YnY ?_<;>intros
  first|apply Ya UI|apply Yb UI
  exact za
  exact rfl
  exactλ_ hw=>(hns hw)
  refine zX2 ?_
  all_goals((repeat apply Yj);exact zc11)
 |false=>
  cases x2 with
  |true=>
   rw[Tn (.inr (.inl rfl))]
   refine YnY ?_<;>intros
   first|apply Ya UI|apply Yb UI
   exact za
   exact rfl
   exactλ_ hw=>(hns hw)
   refine zX2 ?_
   first|apply Ya UI|apply Yb UI
   exact za
   exact rfl
   exactλ_ hw=>(hnt hw)
   refine zX2 ?_
   all_goals((repeat apply Yj);exact zc11)
  |false=>
   by_cases hst:s=t
   ·rw[Tn (.inr (.inr hst))]
    refine YnY ?_<;>intros
    first|apply Ya UI|apply Yb UI
    exact za
    exact rfl
    exactλ_ hw=>(hns hw)
    refine zX2 ?_
    first|apply Ya UI|apply Yb UI
    exact za
    exact rfl
    exactλ_ hw=>(hnt hw)
    refine zX0 ?_<;>intros
    all_goals((repeat apply Yj);exact zc4)
   ·rw[Tf (by rintro(h|h|h);exact Bool.false_ne_true h;exact Bool.false_ne_true h;exact hst h)]
    refine YnY ?_<;>intros
    first|apply Ya UI|apply Yb UI
    exact za
    exact rfl
    exactλ_ hw=>(hns hw)
    refine zX2 ?_
    first|apply Ya UI|apply Yb UI
    exact za
    exact rfl
    exactλ_ hw=>(hnt hw)
    refine zX0 ?_<;>intros
    all_goals((repeat apply Yj);exact zc4)
theorem Yfk{r:List Int}{k:Nat}{x y:Int}(h:r[k]? =some x):(r.take (k+1)).contains y=((r.take k).contains y||decide (y=x)):=by
 simp_all [List.take_add_one]
open Go.ChangeShapes Go.WideShapes Go.ChangeAt Go.RowKit Go.Eng Go.Nw
section
variable {H:Type}{enc:TypeId×Value->H}{W:World}{spare:Nat->Bool}{held:Bool}
theorem YxZ{r:Reach}{b0:Nat}{v:Value}{d:DataW H}{p:List MemPlace}(hv:Value.okWide Tryz.prog W r b0 26 v)(h:DataW.Trod enc Tryz.prog W 0 spare held 26 v d p):∃n:NetM,v=n.val/\NetG W n:=by
 obtain⟨cs,rfl,_⟩:=okWide_struct Tryz.underlying26 hv
 obtain⟨fuel,hf⟩:=h
 obtain⟨n,h1,h2⟩:=YrQ fuel _ _ hf
 refine⟨n,?_,h2⟩
 have:cs=(netF n).toArray:=by rw[<-h1];simp[Value.cells]
 rw[this];rfl
end
theorem YwB(a b:List Int):(Y2 a b||Y2 b a)=decide (a≠b):=by
 all_goals grind [Uo,YlF]
theorem Qn:∀{a b:List Int},Y2 a b=true->Y2 b a=false
 |[],[],h=>by cases h
 |[],b::m,_=>rfl
 |a::l,[],h=>by cases h
 |a::l,b::m,h=>by
  unfold Y2 at h⊢
  by_cases e:a=b
  ·subst e
   rw[Tf (λh=>h rfl)]at h⊢
   exact Qn h
  grind
open Go.ChangeMaps (open_string)
section
variable {H:Type}{enc:TypeId×Value->H}{W:World}{spare:Nat->Bool}{held:Bool}
theorem YrN:Opn enc Tryz.prog W spare held 27 (λs:SlM Flw=>[s.val]) (SlG W flwF FlwG):=Z7 (q:=6) Tryz.underlying27 (by kernel_rfl) (by decide) YhI
theorem YwG{r:Reach}{b0:Nat}{v:Value}{d:DataW H}{p:List MemPlace}(hv:Value.okWide Tryz.prog W r b0 27 v)(h:DataW.Trod enc Tryz.prog W 0 spare held 27 v d p):∃s:SlM Flw,v=s.val/\SlG W flwF FlwG s:=by
 obtain⟨a,len,cap,rfl⟩:=okWide_slice Tryz.underlying27 hv
 obtain⟨fuel,hf⟩:=h
 obtain⟨n,h1,h2⟩:=YrN fuel _ _ hf
 refine⟨n,?_,h2⟩
 injection h1
end
end Go.Proofs.YtaholidehobiiaaGreatDoor
namespace Go.Rt
open Go.Nw
theorem FirstMin.snoc{α:Type}{key:α->Int}{l:List α}{x y:α}(h:FirstMin key l x):FirstMin key (l++[y]) (if key y<key x then y else x):=by
 split
 ·refine⟨l,[],rfl,λz hz=>?_,λz hz=>by cases hz⟩
  have:=h.le hz
  omega
 ·have:=h.mid (a:=[]) (b:=[y]) (λz hz=>by cases hz) (λz hz=>by simp_all)
  simp_all
end Go.Rt
namespace Go.Proofs.YtaholidehobiiaaGreatDoor
open Go.RowKit Go.Eng Go.Nw Go.Rt
theorem Yri(r:List Int)(a:Int)(hlen:r.length<=1000000000000){A:Option Addr}{cap B:Nat}{w0:World}{H:List HP}{w:World}(hr:Rd B w0 H A (r.flatMap numF))(hw:St B w0 H w):
 CX B w0 383 [.slice A r.length cap,.int .i64 a] w λv K=>v=.bool (decide (a∈r))/\K=H:=by
 refine Yc Tryz.func383 Tryz.ntmps383 rfl rfl hw ?_
 refine zX8 ?_
 refine Yg (λ(k:Nat)=>[(5,.int .i64 k),(0,.slice A r.length cap),(1,.int .i64 a)]) (λ_=>H) (λk=>k<=r.length/\(r.take k).contains a=false) (λk=>r.length-k) 0 ⟨Tm _,rfl⟩ ?_ (λw hw=>hw) ?_
 ·exact zc1
 rintro k ⟨hk,hi⟩ K hK
 by_cases hlt:k<r.length
 ·obtain⟨x,hx⟩:∃x,r[k]? =some x:=⟨_,Ta hlt⟩
  have hst:=Yfk (y:=a) hx
  by_cases hax:x=a
  ·have hmem:a∈r:=hax▸Tc hx
   rw[Td hmem]
   refine zX0 ?_<;>intros
   exact zc11
  ·refine zX1 ?_<;>intros
   apply hK (k+1)
   ·grind
   ·omega
   ·exact zc1
   exact zc17
 ·obtain rfl:k=r.length:=by omega
  rw[TV]at hi
  have hmem:a∉r:=λh=>by rw[List.contains_iff_mem.2 h]at hi;cases hi
  rw[Ti hmem]
  refine zX1 ?_<;>intros
  exact zc4
def rtes(A:Option Addr)(cap:Nat)(rs:List RowM)(H:List HP):List HP:=sl 93 1 A rs.length cap (rs.flatMap rowF)::many (rs.map rowQ)::H
abbrev O5(n:Net)(nodes:Nat)(to:Int)(f:Nat)(r:List Int):List (List Int):=XJ (Yz n) nodes to f r
def subW(n:Net)(nodes:Nat)(to:Int)(f:Nat)(r:List Int)(b:Nat):List (List Int):=if Yz n (ZK r) b=true/\(b:Int)∉r then O5 n nodes to (f-1) (r++[(b:Int)])else []
theorem Ysv{n:Net}{nodes:Nat}{to:Int}{f:Nat}{r:List Int}(hl:ZK r≠to)(hn:r.Nodup)(hm:∀x∈r,0<=x/\x<nodes)(hf:r.length+f=nodes):O5 n nodes to f r=(List.range nodes).flatMap (subW n nodes to f r):=by
 cases f with
 |succ f=>unfold O5 XJ;rw[Tf hl];rfl
 |zero=>
  unfold O5 XJ
  rw[Tf hl]
  symm
  rw[List.flatMap_eq_nil_iff]
  intro b hb
  unfold subW
  rw[Tf]
  rintro⟨_,hnb⟩
  have hnd:(r++[(b:Int)]).Nodup:=by grind
  have:=Rt.nodup_len nodes _ hnd λx hx=>by
   grind
  grind
structure Wz where
 k:Nat
 rs:List RowM
 A:Option Addr
 cap:Nat
theorem YkD{α:Type}(g:Nat->List α)(k n:Nat)(h:k<=n):((List.range k).flatMap g).length<=((List.range n).flatMap g).length:=by
 obtain⟨d,rfl⟩:∃d,n=k+d:=⟨n-k,by omega⟩
 induction d with
 |zero=>simp_all
 |succ d ih=>
  grind [Rx]
theorem Yp2(n:NetM)(nodes:Nat)(to:Int)(hck:Yo n.net=0)(hnn:n.nodes=nodes):∀(f:Nat) (r:List Int) (rs:List RowM) (Ar A:Option Addr) (cr cap:Nat) (B:Nat) (w0:World) (H:List HP) (w:World),1<=r.length->r.Nodup->(∀x∈r,0<=x/\x<nodes)->r.length+f=nodes->rs.length+(O5 n.net nodes to f r).length<=100000000->n.In B w0 H->Rd B w0 H Ar (r.flatMap numF)->St B w0 (rtes A cap rs H) w->
 CX B w0 320 [n.val,.slice Ar r.length cr,.int .i64 to,.slice A rs.length cap] w λv K=>∃A' cap' rs',v=.slice A' rs'.length cap'/\rs'.map (·.xs)=rs.map (·.xs)++O5 n.net nodes to f r/\K=rtes A' cap' rs' H:=by
 have hok:=YC hck
 have hn0:=hok.n0
 have hn1:=hok.n1
 have hnn2:n.net.nodes=n.nodes:=rfl
 intro f
 induction f using Nat.strongRecOn with
 |_ f ih=>
  intro r rs Ar A cr cap B w0 H w hr1 hrn hrm hrf hcnt hin hrr hw
  refine Yc Tryz.func320 Tryz.ntmps320 rfl rfl hw ?_
  have hlast:r[((r.length:Int)-1).toNat]? =some (ZK r):=by
   rw[show((r.length:Int)-1).toNat=r.length-1 by omega];exact Xa (by omega)
  have hls:=hrm _ (Tc hlast)
  unfold rtes
  (apply YY;apply Yx;apply Yr;exact rfl;exact rfl;intro g)
  obtain⟨la,hla⟩:∃x,ZK r=x:=⟨_,rfl⟩
  rw[hla]at hlast hls
  have hrr3:=((hrr.cons (X:=many (rs.map rowQ))).cons (X:=sl 93 1 A rs.length cap (rs.flatMap rowF))).cons (X:=netB g n)
  by_cases hl:la=to
  ·have hwk:O5 n.net nodes to f r=[r]:=by
    unfold O5
    cases f<;>(unfold XJ;rw[Tn (hla.trans hl)])
   rw[hwk]at hcnt⊢
   rw[TO]at hcnt
   repeat'(first|(apply Y1 T;exact rfl;exact rfl;intro _)|refine zgd ?_|(refine zge ?_ ?_<;>intro _<;>try exact zo)|fail)
   apply Xy T (f:=numF) (l2:=r) (e:=3) (size:=1) (xs:=[]);(iterate 3 exact rfl);exact hrr.cons.cons.cons.cons;exact(λ_=>rfl);exact(λ_=>rfl);exact rfl;(intro _ _;exact zd);omega;intro A9 c9
   rw[RH,TK]
   repeat'(first|refine zgb ?_|(refine zgh ?_;intro _)|(refine zgi ?_;intro _ _)|fail)
   rename_i gq A7 c7
   apply Yi (rtes A7 c7 (rs++[⟨A9,c9,r⟩]) H)
   ·intro w hw
    have h5:St B w0 (rowQ ⟨A9,c9,r⟩::many (rs.map rowQ)::sl 93 1 A7 (rs.length+1) c7 (rs.flatMap rowF++[(⟨A9,c9,r⟩:RowM)].flatMap rowF)::H) w:=by
     revert w
     (intro w hw;refine hw.perm ?_;focus repeat(first|exact Perm.refl _|(apply YbB;focus((repeat(first|exact Ys|apply YA));done))|apply Perm.dropK))
    rw[<-Ro (rs.map rowQ)]at h5
    have h7:=h5.perm (.push _ _ [] _)
    unfold rtes
    rw[To,TO,Rb,RB,List.map_singleton]
    exact h7.perm (.swap _ _ _)
   apply Yd;exact rfl;exact rfl
   exact⟨A7,c7,rs++[⟨A9,c9,r⟩],by rw[To,TO],by rw[Rb];rfl,rfl⟩
  ·have hwk:=Ysv (n:=n.net) (λh=>hl (hla.symm.trans h)) hrn hrm hrf
   rw[hwk]at hcnt⊢
   refine zX0 ?_<;>intros
   refine Yg (λ(z:Wz)=>[(10,.int .i64 z.k),(9,.int .i64 la),(3,.slice z.A z.rs.length z.cap),(1,.slice Ar r.length cr),(2,.int .i64 to),(4,.pointer (some ⟨g,0,none⟩))]) (λz=>netB g n::rtes z.A z.cap z.rs H) (λz=>z.k<=nodes/\z.rs.map (·.xs)=rs.map (·.xs)++(List.range z.k).flatMap (subW n.net nodes to f r)) (λz=>nodes-z.k) ⟨0,rs,A,cap⟩ ⟨Tm _,by simp⟩ ?_ (λw hw=>hw) ?_
   ·exact zc1
   clear hrr3
   rintro⟨k,rs1,A1,c1⟩ ⟨hk,hrs⟩ K hK
   simp only at hk hrs⊢
   have hlen1:rs1.length=rs.length+((List.range k).flatMap (subW n.net nodes to f r)).length:=by
    have:=TE List.length hrs
    rw[TB,To,TB]at this
    exact this
   unfold rtes
   by_cases hlt:k<nodes
   ·have hsub:(List.range (k+1)).flatMap (subW n.net nodes to f r)=(List.range k).flatMap (subW n.net nodes to f r)++subW n.net nodes to f r k:=by
     rw[Rx,RB];simp
    have hcn:=YkD (subW n.net nodes to f r) (k+1) nodes (by omega)
    rw[hsub,To]at hcn
    have hgd:=λ{H:List HP}{w:World}(hin:n.In B w0 H) (hw:St B w0 H w)=>Yo2 n la (k:Int) hin hok hw
    have hhs:=λ{H:List HP}{w:World}(hr:Rd B w0 H Ar (r.flatMap numF)) (hw:St B w0 H w)=>Yri r (k:Int) (by omega) (cap:=cr) hr hw
    by_cases hg:Yz n.net la k=true
    rotate_left
    ·have hgf:Yz n.net la k=false:=by simpa using hg
     rw[hgf]at hgd
     have hsk:subW n.net nodes to f r k=[]:=by unfold subW;rw[hla,Tf (λh=>hg h.1)]
     repeat'(first|((first|apply Ya Ynl|apply Yb Ynl);exact za;exact rfl;exactλ_ hw=>(hgd hin.cons.cons.cons hw))|refine zgd ?_|(refine zge ?_ ?_<;>intro _<;>try exact zo)|fail)
     apply hK ⟨k+1,rs1,A1,c1⟩
     ·exact⟨by exact zc28,by simp only;rw[hsub,hsk,Ro];exact hrs⟩
     ·exact zc28
     ·exact zc1
     exact zc17
    rw[hg]at hgd
    by_cases hm:(k:Int)∈r
    ·rw[Td hm]at hhs
     have hsk:subW n.net nodes to f r k=[]:=by unfold subW;rw[Tf (λh=>h.2 hm)]
     refine Yvs ?_<;>intros
     apply hK ⟨k+1,rs1,A1,c1⟩
     ·exact⟨by exact zc28,by simp only;rw[hsub,hsk,Ro];exact hrs⟩
     ·exact zc28
     ·exact zc1
     exact zc17
    rw[Ti hm]at hhs
    have hsk:subW n.net nodes to f r k=O5 n.net nodes to (f-1) (r++[(k:Int)]):=by unfold subW;rw[hla,Tn ⟨hg,hm⟩]
    have hnd:(r++[(k:Int)]).Nodup:=Rk.2 ⟨hrn,by simp,λx hx y hy=>by
     obtain rfl:=TG.1 hy
     exactλe=>hm (e▸hx)⟩
    have hmm:∀x∈r++[(k:Int)],0<=x/\x<nodes:=λx hx=>by
     rcases TI.1 hx with h|h
     ·exact hrm x h
     ·obtain rfl:=TG.1 h;omega
    have hfl:=Rt.nodup_len nodes _ hnd hmm
    have hlen2:(r++[(k:Int)]).length=r.length+1:=by simp
    rw[hlen2]at hfl
    have hih:=λ{A6:Option Addr}{c6:Nat}{H:List HP}{w:World}(hin:n.In B w0 H) (hr:Rd B w0 H A6 ((r++[(k:Int)]).flatMap numF)) (hw:St B w0 (rtes A1 c1 rs1 H) w)=>ih (f-1) (by omega) (r++[(k:Int)]) rs1 A6 A1 c6 c1 B w0 H w (by omega) hnd hmm (by omega) (by rw[<-hsk];omega) hin hr hw
    rw[hlen2]at hih
    have hrr2:∀{X1 X2 X3:HP},Rd B w0 (X1::X2::X3::H) Ar (r.flatMap numF):=hrr.cons.cons.cons
    refine Yvs ?_<;>intros
    apply ZN (.n1 0 (.n1 2 (.n1 4 (.n1 7 (.n1 8 (.n2 1 (.n2 3 (.n1 5 (.n1 6 (.n1 9 (.n1 10 .done)))) 5 (.n1 3 (.n1 6 (.n1 9 (.n1 10 .done))))) 5 (.n1 1 (.n1 3 (.n1 6 (.n1 9 (.n1 10 .done))))))))))) [] [true]
    kernel_rfl
    kernel_rfl
    exact zy
    exact rfl
    repeat'(first|(apply Y1 T;exact rfl;exact rfl;intro _)|(apply Xy T (f:=numF) (l2:=r) (e:=3) (size:=1) (xs:=[]);(iterate 3 exact rfl);exact zr;exact(λ_=>rfl);exact(λ_=>rfl);exact rfl;(intro _ _;exact zd);omega;intro _ _)|(apply Yl;try exact zl)|apply(zs91 ?_ ?_)|(apply YG;try exact zl)|refine zgd ?_|(refine zgh ?_;intro _)|(refine zgi ?_;intro _ _)|fail)
    all_goals(
     rename_i A6 c6
     rw[RH,TK]
     apply XU (rtes A1 c1 rs1 (ints A6 c6 (r++[(k:Int)])::netB g n::H))
     ·unfold rtes
      rw[<-YjE]
      exact zk
     apply Ye _ YuV
     exact za
     exact rfl
     exactλ_ hw=>(hih hin.cons.cons (.sl zm) (hw))
     rintro _ _ ⟨A8,c8,rs8,rfl,hrs8,rfl⟩
     unfold rtes
     repeat'(first|(apply Yl;try exact zl)|(apply YG;try exact zl)|refine zgd ?_|fail)
     apply hK ⟨k+1,rs8,A8,c8⟩
     ·exact⟨by simp only;omega,by simp only;rw[hrs8,hrs,hsub,hsk,TY]⟩
     ·simp only;omega
     ·exact zu
     ·unfold rtes
      exact zk)
   ·obtain rfl:k=nodes:=by omega
    clear hK
    refine zX1 ?_<;>intros
    apply Yi (rtes A1 c1 rs1 H)
    ·unfold rtes
     exact zc0
    apply Yd;exact rfl;exact rfl
    exact⟨A1,c1,rs1,rfl,hrs,rfl⟩
theorem Ypj(n:NetM)(a b:Int)(hg:Yz n.net a b=true){B:Nat}{w0:World}{H:List HP}{w:World}(hin:n.In B w0 H)(hw:St B w0 H w):
 CX B w0 321 [n.val,.int .i64 a,.int .i64 b] w λv K=>v=.int .i64 (Jq n.net a b)/\K=H:=by
 refine Yc Tryz.func321 Tryz.ntmps321 rfl rfl hw ?_
 obtain⟨hpw,hrw,hlk,hmg,hs1,hs2,hs3,hs4⟩:=id hin
 (apply YY;apply Yx;apply Yr;exact rfl;exact rfl;intro g)
 have hf:=JD hg
 have hfl:=XR hf
 have e7:n.net.links=n.links:=rfl
 rw[e7]at hfl
 have hlx:n.links[(Yt n.net a b).toNat]? =some (lnk n.net (Yt n.net a b).toNat):=OL n.net hfl
 have hfi:=λ{H:List HP}{w:World}(hin:n.In B w0 H) (hw:St B w0 H w)=>Yac n a b hin hw
 have hlo:Jq n.net a b=(lnk n.net (Yt n.net a b).toNat).2.2:=rfl
 obtain⟨fi,hfi2⟩:∃x,Yt n.net a b=x:=⟨_,rfl⟩
 rw[hfi2]at hfi hlx hf hfl hlo
 obtain⟨lk,hlk2⟩:∃x,lnk n.net fi.toNat=x:=⟨_,rfl⟩
 rw[hlk2]at hlx hlo
 have hlk3:Rd B w0 (netB g n::H) n.lA (n.links.flatMap lkF):=hlk.cons
 rw[hlo]
 repeat'(first|((first|apply Ya Yf9|apply Yb Yf9);exact za;exact rfl;exactλ_ hw=>(hfi hin.cons hw))|(apply zg28;refine zs84 ?_)|refine zgd ?_|fail)
 exact zc47
theorem Ya4(n:NetM)(r:List Int){A:Option Addr}{cap B:Nat}{w0:World}{H:List HP}{w:World}(hin:n.In B w0 H)(hck:Yo n.net=0)(hbr:Jd n.net r=false)(hr:Rd B w0 H A (r.flatMap numF))(hlen:1<=r.length/\r.length<=1000)(hw:St B w0 H w):
 CX B w0 244 [n.val,.slice A r.length cap] w λv K=>v=.int .i64 (JQ n.net r)/\K=H:=by
 have hok:=YC hck
 refine Yc Tryz.func244 Tryz.ntmps244 rfl rfl hw ?_
 (apply YY;apply Yx;apply Yr;exact rfl;exact rfl;intro g)
 refine zX8 ?_
 refine Yg (λ(k:Nat)=>[(6,.int .i64 ((k:Int)+1)),(5,.int .i64 (Zc n.net r k)),(1,.slice A r.length cap),(2,.pointer (some ⟨g,0,none⟩))]) (λ_=>netB g n::H) (λk=>k+1<=r.length) (λk=>r.length-k) 0 hlen.1 ?_ (λw hw=>hw) ?_
 ·exact zc1
 intro k hk K hK
 have hbd:=Ybj hok r k
 by_cases hlt:k+1<r.length
 ·have hgk:=Xa (l:=r) (i:=k) (by omega)
  have hgk1:=Xa (l:=r) (i:=k+1) (by omega)
  have ei:((k:Int)+1-1).toNat=k:=by omega
  have ei1:((k:Int)+1).toNat=k+1:=by omega
  have hgood:=YbT hbr hlt
  have hlo:=US hok (r.getD k 0) (r.getD (k+1) 0)
  have hst:Zc n.net r (k+1)=Zc n.net r k+(Jq n.net (r.getD k 0) (r.getD (k+1) 0)+1):=rfl
  obtain⟨x,hx⟩:∃x,r.getD k 0=x:=⟨_,rfl⟩
  obtain⟨y,hy⟩:∃y,r.getD (k+1) 0=y:=⟨_,rfl⟩
  rw[hx]at hgk hgood hlo hst
  rw[hy]at hgk1 hgood hlo hst
  rw[<-ei]at hgk
  rw[<-ei1]at hgk1
  have hls:=λ{H:List HP}{w:World}(hin:n.In B w0 H) (hw:St B w0 H w)=>Ypj n x y hgood hin hw
  obtain⟨lo,hlo2⟩:∃z,Jq n.net x y=z:=⟨_,rfl⟩
  rw[hlo2]at hlo hst hls
  repeat'(first|((first|apply Ya YuW|apply Yb YuW);exact za;exact rfl;exactλ_ hw=>(hls hin.cons hw))|(apply zg28;refine zs84 ?_)|refine zgd ?_|(refine zge ?_ ?_<;>intro _<;>try exact zo)|fail)
  apply hK (k+1)
  ·omega
  ·omega
  ·rw[hst];exact zc1
  exact zc17
 exact zc32
def YfS(n:Net)(u v:Int):Int:=(Jq n u v+1)*33+1
variable {n:Net}{u v s t:Int}
theorem Ygs(h:Ok n){c:Int}:(u,v,c)∈YI n↔Yz n u v=true/\c=Jq n u v+1:=by
 unfold YI
 rw[Wv]
 constructor
 ·rintro⟨i,hi,hu,he⟩
  unfold Wd at he
  rw[JM h hi]at hu
  grind [Jq,Qg]
 ·rintro⟨hg,rfl⟩
  have hf:=JD hg
  have hl:=XR hf
  obtain⟨e1,e2⟩:=Vv hf
  refine⟨(Yt n u v).toNat,hl,?_,?_⟩
  all_goals grind [JM,Wd,Jq]
theorem Yi7(h:Ok n):Net3 (Yz n) (YfS n) ((YI n).map dear):=by
 refine⟨λu v c=>?_,λu v _=>?_⟩
 ·constructor
  ·intro hm
   obtain⟨⟨a1,a2,a3⟩,ha,he⟩:=TC.1 hm
   obtain⟨rfl,rfl,rfl⟩:=he
   obtain⟨hg,rfl⟩:=(Ygs h).1 ha
   exact⟨hg,rfl⟩
  ·rintro⟨hg,rfl⟩
   exact TC.2 ⟨(u,v,Jq n u v+1),(Ygs h).2 ⟨hg,rfl⟩,rfl⟩
 ·have:=US h u v
  grind [YfS]
theorem Ylt(h:Ok n)(hg:Yz n u v=true):(0<=u/\u<n.nodes)/\(0<=v/\v<n.nodes):=by
 have hf:=JD hg
 obtain⟨e1,e2⟩:=Vv hf
 have hl:=h.lk _ (XR hf)
 have h1:=hl.f0;have h2:=hl.f1;have h3:=hl.t0;have h4:=hl.t1
 omega
theorem YbV(n:Net)(u:Int)(r:List Int):∀k,Zc n (u::r) (k+1)=(Jq n u (r.getD 0 0)+1)+Zc n r k
 |0=>by simp[Zc]
 |k+1=>by
  have:=YbV n u r k
  grind [Zc]
theorem YfR(n:Net):∀r:List Int,JQ n r=keyG (λu v=>Jq n u v+1) r
 |[]=>rfl
 |[_]=>rfl
 |u::v::r=>by
  have h1:=YfR n (v::r)
  have h2:=YbV n u (v::r) r.length
  unfold JQ at h1⊢
  simp only[List.length_cons,Nat.add_sub_cancel]at h1⊢
  rw[h2,keyG,<-h1]
  rfl
theorem Ydt(n:Net):∀r:List Int,r≠[]->keyG (YfS n) r=33*JQ n r+((r.length:Int)-1)
 |[],h=>absurd rfl h
 |[_],_=>by simp[keyG,JQ,Zc]
 |u::v::r,_=>by
  have h1:=Ydt n (v::r) (by simp)
  grind [YfR,keyG,YfS]
def allE(n:Net)(s t:Int):List (List Int):=O5 n n.nodes.toNat t (n.nodes.toNat-1) [s]
theorem YeY{st:Int->Int->Bool}{nodes:Nat}{to:Int}:∀(f:Nat) (r:List Int),(XJ st nodes to f r).length<=(nodes+1)^f
 |0,r=>by
  grind [XJ]
 |f+1,r=>by
  unfold XJ
  split
  ·grind
  ·have:∀k,((List.range k).flatMap λb:Nat=>if st (ZK r) b=true/\(b:Int)∉r then XJ st nodes to f (r++[(b:Int)])else []).length<=k*(nodes+1)^f:=by
    intro k
    induction k with
    |zero=>simp
    |succ k ih=>
     have h1:(if st (ZK r) k=true/\(k:Int)∉r then XJ st nodes to f (r++[(k:Int)])else []).length<=(nodes+1)^f:=by
      split
      ·exact YeY f _
      simp_all
     rw[Rx,RB,To,Sl,Nat.one_mul]
     grind
   grind
theorem Ybb(h8:n.nodes<=8)(s t:Int):(allE n s t).length<=4782969:=by
 unfold allE O5
 have h1:=YeY (st:=Yz n) (nodes:=n.nodes.toNat) (to:=t) (n.nodes.toNat-1) [s]
 have h2:(n.nodes.toNat+1)^(n.nodes.toNat-1)<=9^7:=T9 (Nat.pow_le_pow_left (by omega) _) (Nat.pow_le_pow_right (by omega) (by omega))
 omega
theorem Ypw{nodes:Nat}{to:Int}{p:List Int}(h:PathG (Yz n) nodes to u p):∀i,i<p.length->Yz n ((u::p).getD i 0) ((u::p).getD (i+1) 0)=true:=by
 induction h with
 |done=>simp_all
 |step hu hs hv h ih=>
  grind
theorem YqG(hok:Ok n)(hs:0<=s/\s<n.nodes){q:List Int}(hq:q∈allE n s t):∃p,q=s::p/\PathG (Yz n) n.nodes.toNat t s p/\q.Nodup/\(∀x∈q,0<=x/\x<n.nodes)/\Jd n q=false/\1<=q.length/\q.length<=n.nodes.toNat:=by
 obtain⟨p,rfl,hp⟩:=VE _ _ _ hq
 have hnd:=Ux _ _ _ (by simp) hq
 have hp:PathG (Yz n) n.nodes.toNat t s p:=hp
 have hm:∀x∈[s]++p,0<=x/\x<n.nodes:=λx hx=>by
  rcases TI.1 hx with h|h
  ·obtain rfl:=TG.1 h;exact hs
  ·have:=Yeh hp x h;omega
 have hl:=Rt.nodup_len n.nodes.toNat _ hnd λx hx=>by have:=hm x hx;omega
 unfold Jd
 grind [Ypw]
theorem Yos(hok:Ok n)(hs:0<=s/\s<n.nodes)(ht:0<=t/\t<n.nodes)(hd:Dist n.nodes.toNat ((YI n).map dear) t (Ze n.nodes.toNat ((YI n).map dear) t)):(VK n s t=[]/\allE n s t=[])\/(VK n s t≠[]/\FirstMin (keyG (YfS n)) (allE n s t) (VK n s t)):=by
 have hn0:=hok.n0
 have hn1:=hok.n1
 unfold VK wayF
 by_cases hfar:YP<=Yf (Ze n.nodes.toNat ((YI n).map dear) t) s
 ·left
  rw[Tn hfar]
  refine⟨rfl,List.eq_nil_iff_forall_not_mem.2 λq hq=>?_⟩
  obtain⟨p,rfl,hp,hnd,hm,_,_,hl⟩:=YqG hok hs hq
  have:=(YaU (Yi7 hok) hd hp (by grind)).2
  omega
 ·right
  rw[Tf hfar]
  refine⟨by simp,?_⟩
  have:=(YgQ (Yi7 hok) (Yho hok) hd ⟨ht.1,by omega⟩ (λu v hg=>by have:=(Ylt hok hg).2;omega) (by omega) (Yf (Ze n.nodes.toNat ((YI n).map dear) t) s).toNat (n.nodes.toNat-1) [s] s (by simp) (by simp) rfl hs.1 (by omega) (by omega) (TJ _) (λx hx=>by grind) (by grind)).1
  exact this
variable {B:Nat}{w0 w:World}{H:List HP}
theorem YfA(n:NetM)(s t:Int)(hck:Yo n.net=0)(h8:n.net.nodes<=8)(hs:0<=s/\s<n.net.nodes)(hin:n.In B w0 H)(hw:St B w0 H w):
 CX B w0 243 [n.val,.int .i64 s,.int .i64 t] w λv K=>∃A cap rs,v=.slice A rs.length cap/\rs.map (·.xs)=allE n.net s t/\K=rtes A cap rs H:=by
 refine Yc Tryz.func243 Tryz.ntmps243 rfl rfl hw ?_
 have hok:=YC hck
 have hn0:=hok.n0
 have hnn:n.nodes=((n.net.nodes.toNat:Nat):Int):=by have:n.net.nodes=n.nodes:=rfl;omega
 have hcnt:=Ybb h8 s t
 (apply YY;apply Yx;apply Yr;exact rfl;exact rfl;intro g)
 repeat'(first|(apply Y1 T;exact rfl;exact rfl;intro _)|refine zgb ?_|(refine zgh ?_;intro _)|fail)
 rename_i g1 g2
 apply XU (rtes (some ⟨g2,0,none⟩) 0 [] (blk g1 (.cells #[.int .i64 s] 3 (0,0))::netB g n::H))
 ·intro w hw
  exact hw.perm (.cons _ (.noMany _))
 apply Ye _ YuV
 exact za
 exact rfl
 exactλ_ hw=>(Yp2 n n.net.nodes.toNat t hck hnn (n.net.nodes.toNat-1) [s] [] (some ⟨g1,0,none⟩) (some ⟨g2,0,none⟩) 1 0 B w0 _ _ (by simp) (by simp) (λx hx=>by grind) (by grind) (by grind [allE]) hin.cons.cons (Rd.blk (cs:=#[.int .i64 s]) Tz) (hw))
 rintro _ _ ⟨A,cap,rs,rfl,hrs,rfl⟩
 refine zX4 ?_
 apply Yi (rtes A cap rs H)
 ·unfold rtes
  exact zc0
 apply Yd;exact rfl;exact rfl
 exact⟨A,cap,rs,rfl,hrs,rfl⟩
structure Bz2 where
 k:Nat
 b:RowM
theorem Yex(n:NetM)(s t:Int)(h80:XW n.net s t=0->n.net.nodes<=8)(hd:XW n.net s t=0->Dist n.net.nodes.toNat ((YI n.net).map dear) t (Ze n.net.nodes.toNat ((YI n.net).map dear) t))(hin:n.In B w0 H)(hw:St B w0 H w):
 CX B w0 154 [n.val,.int .i64 s,.int .i64 t] w λv K=>∃A cap,v=.tuple #[.slice A (XS n.net s t).1.length cap,.int .i64 (XS n.net s t).2]/\K=ints A cap (XS n.net s t).1::H:=by
 refine Yc Tryz.func154 Tryz.ntmps154 rfl rfl hw ?_
 (apply YY;apply Yx;apply Yr;exact rfl;exact rfl;intro g)
 unfold XS
 by_cases he:XW n.net s t=0
 rotate_left
 ·rw[Tn he]
  refine Yvt ?_<;>intros
  (repeat apply Yj)
  apply X9 3 1
  apply YM;(iterate 3 exact rfl)
  exact⟨none,0,rfl,rfl⟩
 rw[Tf (λh=>h he)]
 obtain⟨hck,⟨s0,s1⟩,⟨t0,t1⟩,hst⟩:=UJ he
 have hen:=λ{H:List HP}{w:World}(hin:n.In B w0 H) (hw:St B w0 H w)=>Yab n s t hin hw
 rw[he]at hen
 have hok:=YC hck
 have hn1:=hok.n1
 have h8:=h80 he
 have hcnt:=Ybb h8 s t
 refine Yvu ?_<;>intros
 apply Ye _ YuJ
 exact za
 exact rfl
 exactλ_ hw=>(YfA n s t hck h8 ⟨s0,s1⟩ hin.cons (hw))
 rintro _ _ ⟨A,cap,rs,rfl,hrs,rfl⟩
 have hlen:rs.length=(allE n.net s t).length:=by grind
 rcases Yos hok ⟨s0,s1⟩ ⟨t0,t1⟩ (hd he)with⟨h1,h2⟩|⟨h1,h2⟩
 ·rw[Tn h1]
  rw[h2]at hlen
  have hl0:rs.length=0:=hlen
  unfold rtes
  refine zX3 ?_<;>intros
  exact zc64
 ·rw[Tf h1]
  have hne:1<=rs.length:=by
   rw[hlen]
   exact List.length_pos_of_mem h2.mem
  obtain⟨R,hR⟩:∃R,VK n.net s t=R:=⟨_,rfl⟩
  rw[hR]at h2⊢
  have hrow:∀r∈rs,Jd n.net r.xs=false/\1<=r.xs.length/\r.xs.length<=32:=λr hr=>by
   have hm:r.xs∈allE n.net s t:=by rw[<-hrs];exact Yn0
   exact YvD
  obtain⟨r0,hr0⟩:∃r,rs[0]? =some r:=⟨_,Ta (by omega)⟩
  unfold rtes
  refine zX0 ?_<;>intros
  refine Yg (λ(z:Bz2)=>[(11,.int .i64 ((z.k:Int)+1)),(10,.slice z.b.A z.b.xs.length z.b.cap),(9,.slice A rs.length cap),(3,.pointer (some ⟨g,0,none⟩))]) (λ_=>sl 93 1 A rs.length cap (rs.flatMap rowF)::many (rs.map rowQ)::netB g n::H) (λz=>z.k+1<=rs.length/\z.b∈rs/\FirstMin (keyG (YfS n.net)) ((allE n.net s t).take (z.k+1)) z.b.xs) (λz=>rs.length-z.k) ⟨0,r0⟩ ⟨hne,Tc hr0,?_⟩ ?_ (λw hw=>hw) ?_
  ·have h3:(allE n.net s t).take (0+1)=[r0.xs]:=by
    rw[<-hrs]
    cases rs with
    |nil=>simp at hne
    |cons x xs=>
     obtain rfl:x=r0:=by simpa using hr0
     rfl
   simp only
   rw[h3]
   exact .one _ _
  ·exact zc1
  rintro⟨k,b⟩ ⟨hk,hb,hfm⟩ K hK
  simp only at hk hb hfm⊢
  obtain⟨b1,b2,b3⟩:=hrow b hb
  by_cases hlt:k+1<rs.length
  ·obtain⟨q,hq⟩:∃q,rs[k+1]? =some q:=⟨_,Ta hlt⟩
   have hqm:=Tc hq
   obtain⟨q1,q2,q3⟩:=hrow q hqm
   have hq':rs[((k:Int)+1).toNat]? =some q:=by rw[show((k:Int)+1).toNat=k+1 by omega];exact hq
   have hrq:∀{X1 X2:HP},Rd B w0 (X1::many (rs.map rowQ)::X2::H) q.A (q.xs.flatMap numF):=Rd.manyT (H:=rs.map rowQ) (.sl (e:=3) (size:=1) (k:=q.xs.length) (cap:=q.cap) (TC.2 ⟨q,hqm,rfl⟩)) (by(focus exact zc2))
   have hrb:∀{X1 X2:HP},Rd B w0 (X1::many (rs.map rowQ)::X2::H) b.A (b.xs.flatMap numF):=Rd.manyT (H:=rs.map rowQ) (.sl (e:=3) (size:=1) (k:=b.xs.length) (cap:=b.cap) (TC.2 ⟨b,hb,rfl⟩)) (by(focus exact zc2))
   have hsq:=λ{X1 X2:HP}{w:World}(hin:n.In B w0 (X1::many (rs.map rowQ)::X2::H)) (hw:St B w0 (X1::many (rs.map rowQ)::X2::H) w)=>Ya4 n q.xs (cap:=q.cap) hin hck q1 hrq ⟨q2,by omega⟩ hw
   have hsb:=λ{X1 X2:HP}{w:World}(hin:n.In B w0 (X1::many (rs.map rowQ)::X2::H)) (hw:St B w0 (X1::many (rs.map rowQ)::X2::H) w)=>Ya4 n b.xs (cap:=b.cap) hin hck b1 hrb ⟨b2,by omega⟩ hw
   have kq:=Ydt n.net q.xs (by intro h;rw[h]at q2;simp at q2)
   have kb:=Ydt n.net b.xs (by intro h;rw[h]at b2;simp at b2)
   have hfs:=hfm.snoc (y:=q.xs)
   have htk:(allE n.net s t).take (k+1+1)=(allE n.net s t).take (k+1)++[q.xs]:=by
    rw[TN,<-hrs,TR,hq];rfl
   rw[<-htk]at hfs
   obtain⟨cq,hcq⟩:∃x,JQ n.net q.xs=x:=⟨_,rfl⟩
   obtain⟨cb,hcb⟩:∃x,JQ n.net b.xs=x:=⟨_,rfl⟩
   rw[hcq]at hsq kq
   rw[hcb]at hsb kb
   rw[kq,kb]at hfs
   by_cases hbet:cq<cb\/(cq=cb/\q.xs.length<b.xs.length)
   ·rw[Tn (by omega)]at hfs
    refine zX19 ?_<;>intros
    first|apply Ya ZP|apply Yb ZP
    exact za
    exact rfl
    exactλ_ hw=>(hsq hin.cons.cons.cons hw)
    refine zX8 ?_
    first|apply Ya ZP|apply Yb ZP
    exact za
    exact rfl
    exactλ_ hw=>(hsb hin.cons.cons.cons hw)
    repeat'(first|refine zgd ?_|(refine zge ?_ ?_<;>intro _<;>try exact zo)|fail)
    all_goals(
     apply hK ⟨k+1,q⟩
     ·exact⟨by simp only;omega,hqm,hfs⟩
     ·simp only;omega
     ·exact zu
     ·exactλw hw=>hw)
   ·rw[Tf (by omega)]at hfs
    refine zX19 ?_<;>intros
    first|apply Ya ZP|apply Yb ZP
    exact za
    exact rfl
    exactλ_ hw=>(hsq hin.cons.cons.cons hw)
    refine zX8 ?_
    first|apply Ya ZP|apply Yb ZP
    exact za
    exact rfl
    exactλ_ hw=>(hsb hin.cons.cons.cons hw)
    repeat'(first|refine zgd ?_|(refine zge ?_ ?_<;>intro _<;>try exact zo)|fail)
    all_goals(
     apply hK ⟨k+1,b⟩
     ·exact⟨by simp only;omega,hb,hfs⟩
     ·simp only;omega
     ·exact zu
     ·exactλw hw=>hw)
  ·clear hK
   have hall:(allE n.net s t).take (k+1)=allE n.net s t:=T0 (by omega)
   rw[hall]at hfm
   obtain rfl:b.xs=R:=hfm.uniq h2
   obtain⟨l1,l2,hsp⟩:=List.append_of_mem hb
   by_cases h9:9<b.xs.length
   ·rw[Tn h9]
    refine zX25 ?_<;>intros
    exact zc64
   ·rw[Tf h9]
    refine zX25 ?_<;>intros
    apply Yi (ints b.A b.cap b.xs::H)
    ·intro w hw
     have h5:=hw.tail
     rw[hsp,Rb,Rh]at h5
     have h6:=h5.perm (.pull _ _ _ _)
     exact h6.perm (.cons _ (.dropK (.drop _ _)))
    apply YM;(iterate 3 exact rfl)
    exact⟨b.A,b.cap,rfl,rfl⟩
variable {s t:Int}{ms:List Int}
theorem Yme{i:Nat}(h:i<(rt s t ms).length):(i=0/\(rt s t ms).getD i 0=s)\/(∃j,i=j+1/\j<ms.length/\(rt s t ms).getD i 0∈ms)\/(i=ms.length+1/\(rt s t ms).getD i 0=t):=by
 rw[O0]at h
 unfold rt
 cases i with
 |zero=>simp_all
 |succ j=>
  grind
theorem Ysd{x:Int}(h:x∈ms):∃j,j<ms.length/\(rt s t ms).getD (j+1) 0=x:=by
 obtain⟨j,hj,rfl⟩:=List.mem_iff_getElem.1 h
 refine⟨j,hj,?_⟩
 grind [rt]
theorem Ydw{mp mq:List Int}(hp:(rt s t mp).Nodup)(hq:(rt s t mq).Nodup):JR (rt s t mp) (rt s t mq)=true↔mp≠mq/\∀x∈mp,x∉mq:=by
 obtain⟨hst,p1,p2,_⟩:=QL hp
 obtain⟨_,q1,q2,_⟩:=QL hq
 have lp:=O0 s t mp
 have lq:=O0 s t mq
 have hlast:∀ms:List Int,(rt s t ms).getD ((rt s t ms).length-1) 0=t:=λms=>by
  rcases Yme (s:=s) (t:=t) (ms:=ms) (i:=(rt s t ms).length-1) (by rw[O0];omega)with⟨h,_⟩|⟨j,h,hj,_⟩|⟨_,h⟩
  ·rw[O0]at h;omega
  ·rw[O0]at h;omega
  ·exact h
 unfold JR
 rw[hlast mp,hlast mq]
 constructor
 ·intro h
  rw[Tq,Tt]at h
  obtain⟨⟨_,_,hne,_⟩,h⟩:=h
  refine⟨λe=>hne (by rw[e]),λx hx hy=>?_⟩
  obtain⟨i,hi,ei⟩:=Ysd (s:=s) (t:=t) hx
  obtain⟨k,hk,ek⟩:=Ysd (s:=s) (t:=t) hy
  have hm:Z5 (rt s t mp) (rt s t mq) (i+1) (k+1)=true:=by
   unfold Z5
   rw[Tt,ei,ek]
   exact⟨rfl,by omega⟩
  have:((List.range (rt s t mp).length).any λi=>(List.range (rt s t mq).length).any λk=>Z5 (rt s t mp) (rt s t mq) i k)=true:=
   Wc (p:=λi=>(List.range (rt s t mq).length).any λk=>Z5 (rt s t mp) (rt s t mq) i k) (k:=i+1) (by omega) (Wc (p:=λk=>Z5 (rt s t mp) (rt s t mq) (i+1) k) (k:=k+1) (by omega) hm)
  rw[this]at h
  cases h
 ·rintro⟨hne,hdis⟩
  rw[Tq,Tt]
  refine⟨⟨by omega,by omega,λe=>hne (YbF e),rfl,rfl⟩,?_⟩
  rw[RS,RD]
  intro i hi
  have hi:=TQ.1 hi
  rw[T8]
  rintro⟨k,hk,hm⟩
  have hk:=TQ.1 hk
  unfold Z5 at hm
  rw[Tt]at hm
  obtain⟨he,hnb⟩:=hm
  rcases Yme hi with⟨i0,hi⟩|⟨j,hj,hjl,hi⟩|⟨i0,hi⟩<;>rcases Yme hk with⟨k0,hk⟩|⟨j',hj',hjl',hk⟩|⟨k0,hk⟩
  ·exact hnb (.inl ⟨i0,k0⟩)
  ·rw[hi]at he;rw[<-he]at hk;exact q1 hk
  ·rw[hi,hk]at he;exact hst he
  ·rw[hk]at he;rw[he]at hi;exact p1 hi
  ·rw[he]at hi;exact hdis _ hi hk
  ·rw[hk]at he;rw[he]at hi;exact p2 hi
  ·rw[hi,hk]at he;exact hst he.symm
  ·rw[hi]at he;rw[<-he]at hk;exact q2 hk
  ·exact hnb (.inr ⟨by omega,by omega⟩)
theorem Ydc{p:Nat->Bool}{k:Nat}(h:(List.range k).any p=false)(h2:p k=false):(List.range (k+1)).any p=false:=by
 rw[Ydd,h,h2];rfl
variable {A1 A2:Option Addr}{c1 c2 B:Nat}{w0 w:World}{H:List HP}
theorem Ygp(a b:List Int)(hla:a.length<=1000000000000)(_hlb:b.length<=1000000000000)(hr1:Rd B w0 H A1 (a.flatMap numF))(hr2:Rd B w0 H A2 (b.flatMap numF))(hw:St B w0 H w):
 CX B w0 322 [.slice A1 a.length c1,.slice A2 b.length c2] w λv K=>v=.bool (Y2 a b)/\K=H:=by
 refine Yc Tryz.func322 Tryz.ntmps322 rfl rfl hw ?_
 refine zX8 ?_
 refine Yg (λ(i:Nat)=>[(5,.int .i64 i),(0,.slice A1 a.length c1),(1,.slice A2 b.length c2)]) (λ_=>H) (λi=>i<=a.length/\i<=b.length/\Y2 a b=Y2 (a.drop i) (b.drop i)) (λi=>a.length-i) 0 ⟨Tm _,Tm _,rfl⟩ ?_ (λw hw=>hw) ?_
 ·exact zc1
 rintro i ⟨h1,h2,hi⟩ K hK
 by_cases hlt:i<a.length/\i<b.length
 ·obtain⟨hl1,hl2⟩:=hlt
  obtain⟨x,hx⟩:∃x,a[i]? =some x:=⟨_,Ta hl1⟩
  obtain⟨y,hy⟩:∃y,b[i]? =some y:=⟨_,Ta hl2⟩
  have hst:=Yd5 hx hy
  by_cases hxy:x=y
  ·rw[Tf (λh=>h hxy)]at hst
   refine zX0 ?_<;>intros
   apply hK (i+1)
   ·grind
   ·omega
   ·exact zc1
   exact zc17
  ·rw[Tn hxy]at hst
   rw[hi,hst]
   clear hK
   by_cases hlt2:x<y
   ·rw[Td hlt2]
    refine zX0 ?_<;>intros
    exact zc4
   ·rw[Ti hlt2]
    refine zX0 ?_<;>intros
    exact zc4
 ·clear hK
  have hend:Y2 a b=decide (a.length<b.length):=by
   rw[hi]
   by_cases hla2:i=a.length
   ·rw[hla2,SG]
    by_cases hb:a.length<b.length
    ·rw[Td hb,Rl hb];rfl
    ·rw[Ti hb,Ru (by omega)];rfl
   ·have hb:i=b.length:=by omega
    rw[hb,SG,Ti (by omega),Rl (by omega)];rfl
  rw[hend]
  by_cases hb:a.length<b.length
  ·rw[Td hb]
   refine zX0 ?_<;>intros
   all_goals(exact zc4)
  ·rw[Ti hb]
   repeat'(first|refine zgd ?_|(refine zge ?_ ?_<;>intro _<;>try exact zo)|fail)
   all_goals(apply Yd;exact rfl;exact rfl;exact⟨rfl,rfl⟩)
theorem Yem(a b:List Int)(hla:a.length<=1000000000000)(hlb:b.length<=1000000000000)(hr1:Rd B w0 H A1 (a.flatMap numF))(hr2:Rd B w0 H A2 (b.flatMap numF))(hw:St B w0 H w):
 CX B w0 245 [.slice A1 a.length c1,.slice A2 b.length c2] w λv K=>v=.bool (JR a b)/\K=H:=by
 refine Yc Tryz.func245 Tryz.ntmps245 rfl rfl hw ?_
 have hl1:=λ{w:World}(hw:St B w0 H w)=>Ygp a b hla hlb (c1:=c1) (c2:=c2) hr1 hr2 hw
 have hl2:=λ{w:World}(hw:St B w0 H w)=>Ygp b a hlb hla (c1:=c2) (c2:=c1) hr2 hr1 hw
 have hne:=YwB a b
 obtain⟨x1,hx1⟩:∃x,Y2 a b=x:=⟨_,rfl⟩
 obtain⟨x2,hx2⟩:∃x,Y2 b a=x:=⟨_,rfl⟩
 rw[hx1]at hl1 hne
 rw[hx2]at hl2 hne
 by_cases h1:a.length<2
 ·have hd:JR a b=false:=by unfold JR;rw[Ti (by omega)];rfl
  rw[hd]
  refine zX19 ?_<;>intros
  exact zc4
 by_cases h2:b.length<2
 ·have hd:JR a b=false:=by unfold JR;rw[Ti (by omega)];rfl
  rw[hd]
  refine zX19 ?_<;>intros
  exact zc4
 have ga0:=Xa (l:=a) (i:=0) (by omega)
 have gb0:=Xa (l:=b) (i:=0) (by omega)
 have ga1:=Xa (l:=a) (i:=a.length-1) (by omega)
 have gb1:=Xa (l:=b) (i:=b.length-1) (by omega)
 have ea1:((a.length:Int)-1).toNat=a.length-1:=by omega
 have eb1:((b.length:Int)-1).toNat=b.length-1:=by omega
 by_cases h4:a.getD 0 0≠b.getD 0 0
 ·have hd:JR a b=false:=by unfold JR;rw[Ti (λh=>h4 h.2.2.2.1)];rfl
  rw[hd]
  refine zX19 ?_<;>intros
  exact zc4
 by_cases h5:a.getD (a.length-1) 0≠b.getD (b.length-1) 0
 ·have hd:JR a b=false:=by unfold JR;rw[Ti (λh=>h5 h.2.2.2.2)];rfl
  rw[hd]
  rw[<-ea1]at ga1 h5
  rw[<-eb1]at gb1 h5
  refine zX19 ?_<;>intros
  exact zc4
 by_cases h3:a=b
 ·have hd:JR a b=false:=by unfold JR;rw[Ti (λh=>h.2.2.1 h3)];rfl
  rw[hd]
  rw[Ti (λh=>h h3)]at hne
  obtain⟨rfl,rfl⟩:=Bool.or_eq_false_iff.1 hne
  rw[<-ea1]at ga1 h5
  rw[<-eb1]at gb1 h5
  refine zX19 ?_<;>intros
  first|apply Ya QF|apply Yb QF
  exact za
  exact rfl
  exactλ_ hw=>(hl1 hw)
  refine zX2 ?_
  first|apply Ya QF|apply Yb QF
  exact za
  exact rfl
  exactλ_ hw=>(hl2 hw)
  refine zX2 ?_
  exact zc4
 rw[Td h3]at hne
 have hd:JR a b=!(List.range a.length).any λi=>(List.range b.length).any λk=>Z5 a b i k:=by
  unfold JR;rw[Td ⟨by omega,by omega,h3,by omega,by omega⟩];rfl
 rw[hd]
 rw[<-ea1]at ga1 h5
 rw[<-eb1]at gb1 h5
 iterate 6 (first|refine zga ?_|fail)
 refine Zf (λ_:Unit=>[(0,.slice A1 a.length c1),(1,.slice A2 b.length c2)]) (λ_=>H) ?_ ?_
 ·intro KK hKK
  cases x1 with
  |true=>
   refine zX19 ?_<;>intros
   first|apply Ya QF|apply Yb QF
   exact za
   exact rfl
   exactλ_ hw=>(hl1 hw)
   refine zX2 ?_
   exact hKK () _ _ zc1 (λw hw=>hw)
  |false=>
   obtain rfl:x2=true:=by simpa using hne
   refine zX19 ?_<;>intros
   first|apply Ya QF|apply Yb QF
   exact za
   exact rfl
   exactλ_ hw=>(hl1 hw)
   refine zX2 ?_
   first|apply Ya QF|apply Yb QF
   exact za
   exact rfl
   exactλ_ hw=>(hl2 hw)
   refine zX2 ?_
   exact hKK () _ _ zc1 (λw hw=>hw)
 intro _
 clear ga0 gb0 ga1 gb1 h4 h5 hd hne hl1 hl2
 refine zX8 ?_
 refine Yg (λ(i:Nat)=>[(5,.int .i64 i),(0,.slice A1 a.length c1),(1,.slice A2 b.length c2)]) (λ_=>H) (λi=>i<=a.length/\((List.range i).any λi=>(List.range b.length).any λk=>Z5 a b i k)=false) (λi=>a.length-i) 0 ⟨Tm _,rfl⟩ ?_ (λw hw=>hw) ?_
 ·exact zc1
 rintro i ⟨hi,hiv⟩ K hK
 by_cases hlt:i<a.length
 ·have hgi:=Xa (l:=a) (i:=i) hlt
  obtain⟨x,hx⟩:∃x,a.getD i 0=x:=⟨_,rfl⟩
  rw[hx]at hgi
  refine zX3 ?_<;>intros
  refine Yg (λ(k:Nat)=>[(6,.int .i64 k),(5,.int .i64 i),(0,.slice A1 a.length c1),(1,.slice A2 b.length c2)]) (λ_=>H) (λk=>k<=b.length/\((List.range k).any λk=>Z5 a b i k)=false) (λk=>b.length-k) 0 ⟨Tm _,rfl⟩ ?_ (λw hw=>hw) ?_
  ·exact zc1
  rintro k ⟨hk,hkv⟩ K2 hK2
  by_cases hlt2:k<b.length
  ·have hgk:=Xa (l:=b) (i:=k) hlt2
   obtain⟨y,hy⟩:∃y,b.getD k 0=y:=⟨_,rfl⟩
   rw[hy]at hgk
   by_cases hm:x=y/\¬((i=0/\k=0)\/(i+1=a.length/\k+1=b.length))
   ·have hmt:Z5 a b i k=true:=by unfold Z5;rw[hx,hy];exact Td hm
    have hall:((List.range a.length).any λi=>(List.range b.length).any λk=>Z5 a b i k)=true:=Wc (p:=λi=>(List.range b.length).any λk=>Z5 a b i k) hlt (Wc (p:=λk=>Z5 a b i k) hlt2 hmt)
    rw[hall]
    clear hK hK2
    repeat'(first|refine zgd ?_|(refine zge ?_ ?_<;>intro _<;>try exact zo)|fail)
    all_goals(apply Yd;exact rfl;exact rfl;exact⟨rfl,rfl⟩)
   ·have hmt:Z5 a b i k=false:=by unfold Z5;rw[hx,hy];exact Ti hm
    repeat'(first|refine zgd ?_|(refine zge ?_ ?_<;>intro _<;>try exact zo)|fail)
    all_goals(
     apply hK2 (k+1)
     ·exact⟨by omega,Ydc hkv hmt⟩
     ·omega
     ·exact zu
     ·exactλw hw=>hw)
  ·obtain rfl:k=b.length:=by omega
   clear hK2
   refine zX1 ?_<;>intros
   apply hK (i+1)
   ·exact⟨by omega,Ydc hiv hkv⟩
   ·omega
   ·exact zc1
   exact zc17
 ·obtain rfl:i=a.length:=by omega
  clear hK
  rw[hiv]
  refine zX1 ?_<;>intros
  exact zc4
end Go.Proofs.YtaholidehobiiaaGreatDoor
