/- Lemmas. -/
import Derived.Lib.AppendZeros
import Derived.RangeFuncFrom
import Derived.RangeFuncNested
import Derived.RangeFuncLeaves
import Derived.Test.YtjlgijpmnfabcaaGreatDoorQ4
set_option maxRecDepth 100000
set_option maxHeartbeats 8000000
set_option linter.all false
namespace Go.Proofs.YtjlgijpmnfabcaaGreatDoor
open Go.RowKit Go.Eng Go.Nw
variable {A:Option Addr}{cap B:Nat}{w0 w:World}{H:List HP}
theorem Yn9(xs:List Int)(n:NetM)(g:Nat)(hw:St B w0 (blk g (.cells #[.int .i64 n.nodes,.slice n.pA n.rows.length n.pcap,.int .i64 n.noise,.int .i64 n.thr,.slice n.lA n.links.length n.lcap,.slice n.mA n.margin.length n.mcap] 26 (0,0))::H) w):
 CX B w0 243 [.slice A xs.length cap,.pointer (some ⟨g,0,none⟩)] w λv K=>v=.bool (wide n.nodes xs)/\K=blk g (.cells #[.int .i64 n.nodes,.slice n.pA n.rows.length n.pcap,.int .i64 n.noise,.int .i64 n.thr,.slice n.lA n.links.length n.lcap,.slice n.mA n.margin.length n.mcap] 26 (0,0))::H:=by
 refine Yc Tryz.func243 Tryz.ntmps243 rfl rfl hw ?_
 unfold wide
 repeat'(first|refine zgb ?_|(refine zge ?_ ?_<;>intro _<;>try exact zo)|fail)
 ·rename_i h
  exact zc26
 ·rename_i h
  exact zc26
theorem Yoa(p:Int)(hw:St B w0 H w):CX B w0 244 [.int .i64 p] w λv K=>v=.bool (Zx p)/\K=H:=by
 refine Yc Tryz.func244 Tryz.ntmps244 rfl rfl hw ?_
 unfold Zx
 repeat'(first|refine zgc ?_|(refine zgf ?_ ?_<;>intro _<;>try exact zo)|fail)
 ·exact zc26
 ·exact zc26
 ·exact zc26
theorem Yob(xs:List Int)(hl:xs.length<=9223372036854775807)(g:Nat)(hr:Rd B w0 H A (xs.flatMap numF))(hw:St B w0 (blk g (.cells #[.func (.func 244) #[] #[]] 235 (0,0))::H) w):
 CX B w0 245 [.slice A xs.length cap,.pointer (some ⟨g,0,none⟩)] w λv K=>v=.bool (xs.any Zx)/\K=blk g (.cells #[.func (.func 244) #[] #[]] 235 (0,0))::H:=by
 refine Yc Tryz.func245 Tryz.ntmps245 rfl rfl hw ?_
 repeat'(first|((first|apply Ya Ysc|apply Yb Ysc);exact za;exact rfl;exactλ_ hw=>(Yae (λz:Int=>.int .i64 z) Zx xs 244 [] Yu7 hl hr.cons (λa _ _ hw=>Yoa a hw) hw))|refine zgb ?_|fail)
 apply Yd;exact rfl;exact rfl
 exact⟨rfl,rfl⟩
theorem Ql(n:NetM)(p:List Int->Bool):(n.rows.any λr=>p r.xs)=n.net.power.any p:=by grind [Go.Proofs.YtjlgijpmnfabcaaGreatDoor.NetM.net]
theorem Ybj(n:NetM)(hin:n.In B w0 H)(hw:St B w0 H w):
 CX B w0 146 [n.val] w λv K=>v=.int .i64 (JP n.net)/\K=H:=by
 refine Yc Tryz.func146 Tryz.ntmps146 rfl rfl hw ?_
 obtain⟨hpw,hrw,hlk,hmg,hs1,hs2,hs3,hs4⟩:=hin
 have e1:n.net.power.length=n.rows.length:=by simp[NetM.net]
 have e2:n.net.nodes=n.nodes:=rfl
 unfold JP
 rw[e1,e2,<-Ql,<-Ql n (λr=>r.any Zx)]
 repeat'(first|(apply zg29;(apply Ys;exact za;exact rfl))|refine zgc ?_|(refine zge ?_ ?_<;>intro _<;>try exact zo)|(refine zgh ?_;intro _)|fail)
 ·((repeat apply Yk);apply Yd;exact rfl;exact rfl;refine⟨TD _ ?_,rfl⟩)
  omega
 rename_i g _
 repeat'(first|((first|apply Ya Yok|apply Yb Yok);exact za;exact rfl;exactλ_ hw=>(Uk (λr:RowM=>.slice r.A r.xs.length r.cap) (λr=>wide n.nodes r.xs) n.rows 243 [.pointer (some ⟨g,0,none⟩)] Yu6 hs1 hpw.cons (λa _ _ hw=>Yn9 a.xs n g hw) hw))|refine zgc ?_|fail)
 cases hc:(n.rows.any λr=>wide n.nodes r.xs)
 rotate_left
 ·exact zc43
 repeat'(first|(apply zg29;(apply Ys;exact za;exact rfl))|refine zgd ?_|(refine zgh ?_;intro _)|fail)
 rename_i g2
 apply Ya Yok
 exact za
 exact rfl
 exactλ_ hw=>Uk (λr:RowM=>.slice r.A r.xs.length r.cap) (λr=>r.xs.any Zx) n.rows 245 [.pointer (some ⟨g2,0,none⟩)] Yu8 hs1 hpw.cons.cons (λa ha _ hw=>Yob a.xs (hs2 a ha) g2 (hrw a ha).cons hw) hw
 cases hd:(n.rows.any λr=>r.xs.any Zx)
 ·refine zX4 ?_
  ((repeat apply Yk);apply Yd;exact rfl;exact rfl;refine⟨TD _ ?_,rfl⟩)
  simp_all
 ·exact zc43
abbrev netB(g:Nat)(n:NetM):HP:=blk g (.cells #[.int .i64 n.nodes,.slice n.pA n.rows.length n.pcap,.int .i64 n.noise,.int .i64 n.thr,.slice n.lA n.links.length n.lcap,.slice n.mA n.margin.length n.mcap] 26 (0,0))
def Jk:List Int->Int
 |[]=>0
 |a::l=>if a≠0 then a else Jk l
theorem YfV(l:List Int){k:Nat}{a:Int}(h:l[k]? =some a):Jk (l.drop k)=if a≠0 then a else Jk (l.drop (k+1)):=by
 grind [T8,Jk]
variable {B:Nat}{w0 w:World}{H:List HP}
theorem Yln(l:List Int)(hlen:l.length<=1000){A:Option Addr}{cap:Nat}(hr:Rd B w0 H A (l.flatMap numF))(hw:St B w0 H w):
 CX B w0 72 [.slice A l.length cap] w λv K=>v=.int .i64 (Jk l)/\K=H:=by
 refine Yc Tryz.func72 Tryz.ntmps72 rfl rfl hw ?_
 refine zX7 ?_
 refine Yf (λ(k:Nat)=>[(8,.int .i64 k),(7,.int .i64 l.length),(6,.slice A l.length cap),(3,.int .i64 0)]) (λ_=>H) (λk=>k<=l.length/\Jk l=Jk (l.drop k)) (λk=>l.length-k) 0 ⟨Tc _,by simp⟩ ?_ (λw hw=>hw) ?_
 ·exact zc1
 rintro k ⟨hk,hi⟩ K hK
 by_cases hlt:k<l.length
 ·obtain⟨a,ha⟩:∃a,l[k]? =some a:=⟨_,Ta hlt⟩
  rw[YfV l ha]at hi
  repeat'(first|refine zgd ?_|(refine zge ?_ ?_<;>intro _<;>try exact zo)|fail)
  ·rename_i h
   rw[Tm h]at hi
   exact zc70
  ·rename_i h
   rw[Tf (by omega)]at hi
   repeat'(first|fail)
   apply hK (k+1)
   ·omega
   ·omega
   ·exact zc1
   exact zc20
 ·refine zX1 ?_<;>intros
  exact zc45
theorem Yuf(x y:Int):Jk [x,y]=if x=0 then y else x:=by
 simp only[Jk]
 omega
theorem Ve(a b:Lk)(hw:St B w0 H w):CX B w0 248 [lkV a,lkV b] w λv K=>v=.int .i64 (cmpL a b)/\K=H:=by
 refine Yc Tryz.func248 Tryz.ntmps248 rfl rfl hw ?_
 refine zX14 ?_<;>intros
 apply YG [0,1,2,3,5,6,7,8,4,9,10,11,12] [] [true,true]
 kernel_rfl
 kernel_rfl
 exact zy
 (simp only[Yh,nthO];rfl)
 exact rfl
 refine zX15 ?_<;>intros
 rename_i g
 first|apply Ya en72|apply Yb en72
 exact za
 exact rfl
 exactλ_ hw=>(Yln [cmpI a.1 b.1,cmpI a.2.1 b.2.1] (by simp) (Rd.blk (g:=g) (cs:=#[.int .i64 (cmpI a.1 b.1),.int .i64 (cmpI a.2.1 b.2.1)]) (by(focus exact zc2))) hw)
 refine zX16 ?_
 ((repeat apply Yk);apply Yd;exact rfl;exact rfl;refine⟨TD _ ?_,rfl⟩)
 rw[Yuf];rfl
theorem Qp(n:NetM)(g:Nat)(a:Int)(hm:netB g n∈H)(hw:St B w0 H w):
 CX B w0 247 [.int .i64 a,.pointer (some ⟨g,0,none⟩)] w λv K=>v=.bool (decide (0<=a/\a<n.nodes))/\K=H:=by
 refine Yc Tryz.func247 Tryz.ntmps247 rfl rfl hw ?_
 repeat'(first|refine zgc ?_|(refine zgf ?_ ?_<;>intro _<;>try exact zo)|fail)
 ·exact zc26
 ·exact zc26
 ·exact Yp6
end Go.Proofs.YtjlgijpmnfabcaaGreatDoor
namespace Go.Eng
open Go.RowKit
open Go.ChangeMaps (setBlock)
inductive OU where
 |done
 |n1 (i:Nat) (t:OU)
 |n2 (i:Nat) (t:OU) (j:Nat) (u:OU)
 |n3 (i:Nat) (t:OU) (j:Nat) (u:OU) (k:Nat) (v:OU)
section
variable {P:Program}{n:Shp}{B:Nat}{w0:World}{Q:Exit->Act->World->Prop}{env:Env}{H:List HP}{ops:Array Oper}
def X5(P:Program)(ops:Array Oper)(l:List Oper)(Q:Exit->Act->World->Prop)(S:World->Prop):OU->Act->World->Prop
 |.done,a,w=>Q .normal a w
 |.n1 i t,a,w=>YB P ops (λe a w=>match e with|.normal=>X5 P ops l Q S t a w|_=>False) S [nthO l i] a w
 |.n2 i t j u,a,w=>YB P ops (λe a w=>match e with|.normal=>X5 P ops l Q S t a w|_=>False) S [nthO l i] a w/\YB P ops (λe a w=>match e with|.normal=>X5 P ops l Q S u a w|_=>False) S [nthO l j] a w
 |.n3 i t j u k v,a,w=>YB P ops (λe a w=>match e with|.normal=>X5 P ops l Q S t a w|_=>False) S [nthO l i] a w/\YB P ops (λe a w=>match e with|.normal=>X5 P ops l Q S u a w|_=>False) S [nthO l j] a w/\YB P ops (λe a w=>match e with|.normal=>X5 P ops l Q S v a w|_=>False) S [nthO l k] a w
def VH(ops:Array Oper)(last:List Nat):OU->Array Bool->Nat->Bool
 |.done,listed,0=>J5 ops last listed
 |.done,_,_+1=>false
 |.n1 i t,listed,k+1=>!last.contains i&&(match ops[i]? with
  |some o=>if eff o then decide (Region.ready .any ops listed=[i])else(Region.ready .any ops listed).contains i&&Region.free .any ops listed i
  |none=>false)&&VH ops last t (listed.setIfInBounds i true) k
 |.n2 i t j u,listed,k+1=>!last.contains i&&!last.contains j&&VZ ops i&&VZ ops j&&((Region.ready .any ops listed).all λx=>x==i||x==j)&&!(Region.ready .any ops listed).isEmpty&&VH ops last t (listed.setIfInBounds i true) k&&VH ops last u (listed.setIfInBounds j true) k
 |.n3 i t j u q v,listed,k+1=>!last.contains i&&!last.contains j&&!last.contains q&&VZ ops i&&VZ ops j&&VZ ops q&&((Region.ready .any ops listed).all λx=>x==i||x==j||x==q)&&!(Region.ready .any ops listed).isEmpty&&VH ops last t (listed.setIfInBounds i true) k&&VH ops last u (listed.setIfInBounds j true) k&&VH ops last v (listed.setIfInBounds q true) k
 |.n1 _ _,_,0=>false
 |.n2 _ _ _ _,_,0=>false
 |.n3 _ _ _ _ _ _,_,0=>false
theorem Jd{S:World->Prop}{last:List Nat}(hs:Region.noSelect ops=true)(hQ:∀c (a:Act) (w:World),¬Q (.panic c) a w)(hlo:¬LetsOut Q)(l:List Oper)(hl:ops=l.toArray)(hlast:YcM ops last=true):
 ∀(t:OU) (k:Nat) (listed:Array Bool) (a:Act) (w:World),Closed ops listed->VH ops last t listed k=true->S w->X5 P ops l (Z8 P ops Q (Yh l last)) S t a w->
  Ze P ops Q S last (k+last.length) listed a w
 |.done,0,listed,a,w,_,hB,_,h=>by
  exact Ys3
 |.done,_+1,_,_,_,_,hB,_,_=>by cases hB
 |.n1 _ _,0,_,_,_,_,hB,_,_=>by cases hB
 |.n2 _ _ _ _,0,_,_,_,_,hB,_,_=>by cases hB
 |.n3 _ _ _ _ _ _,0,_,_,_,_,hB,_,_=>by cases hB
 |.n1 i t,k+1,listed,a,w,hcl,hB,hS,h=>by
  simp only[VH,Tt]at hB
  obtain⟨⟨h0,h1⟩,h2⟩:=hB
  have hno:last.contains i=false:=by simp_all
  cases ho:ops[i]? with
  |none=>simp_all
  |some o=>
   rw[ho]at h1
   have hget:=Xx hl ho
   unfold X5 at h
   rw[hget]at h
   rw[R7]
   by_cases he:eff o=true
   ·simp only[he,SZ,To]at h1
    refine⟨λh0=>(by simp_all),λj hj=>?_⟩
    have hj':=hj
    rw[h1]at hj
    obtain rfl:j=i:=by simp_all
    exact Vw ho he hno (λe a w hne=>by simp_all) hS h λa w hS' h'=>Jd hs hQ hlo l hl hlast t k _ a w (hcl.set hj') h2 hS' h'
   ·simp only[he]at h1
    simp only[RZ,Nz,Tt]at h1
    unfold YB at h
    rw[Tf he]at h
    obtain⟨v,hy,h3⟩:=h
    have hr:i∈Region.ready .any ops listed:=by simp_all
    exact Jw ho (Region.noSelect_spec hs) hQ ((VA hlast).2 i o ho (by simp_all) hno) hno _ listed a w hcl (Region.free_spec ho h1.2) hr hy hS (Jd hs hQ hlo l hl hlast t k _ _ w (hcl.set hr) h2 hS h3)
 |.n2 i t j u,k+1,listed,a,w,hcl,hB,hS,h=>by
  simp only[VH,Tt]at hB
  obtain⟨⟨⟨⟨⟨⟨⟨b1,b2⟩,b3⟩,b4⟩,b5⟩,b6⟩,b7⟩,b8⟩:=hB
  have hi:last.contains i=false:=by simp_all
  have hj:last.contains j=false:=by simp_all
  unfold X5 at h
  rw[R7]
  refine⟨λh0=>(by simp_all),λx hx=>?_⟩
  have h5:=Rf.1 b5 x hx
  simp only[RU,Ns]at h5
  rcases h5 with rfl|rfl
  ·unfold VZ at b3
   cases ho:ops[x]? with
   |none=>simp_all
   |some o=>
    exact zc57
  ·unfold VZ at b4
   cases ho:ops[x]? with
   |none=>rw[ho]at b4;cases b4
   |some o=>
    rw[ho]at b4
    have hg:=h.2
    exact zc73
 |.n3 i t j u q v,k+1,listed,a,w,hcl,hB,hS,h=>by
  simp only[VH,Tt]at hB
  obtain⟨⟨⟨⟨⟨⟨⟨⟨⟨⟨b1,b2⟩,b2q⟩,b3⟩,b4⟩,b4q⟩,b5⟩,b6⟩,b7⟩,b8⟩,b9⟩:=hB
  have hi:last.contains i=false:=by simpa using b1
  have hj:last.contains j=false:=by simpa using b2
  have hq:last.contains q=false:=by simpa using b2q
  unfold X5 at h
  rw[R7]
  refine⟨λh0=>(by rw[h0]at b6;cases b6),λx hx=>?_⟩
  have h5:=Rf.1 b5 x hx
  simp only[RU,Ns]at h5
  rcases h5 with(rfl|rfl)|rfl
  ·unfold VZ at b3
   cases ho:ops[x]? with
   |none=>rw[ho]at b3;cases b3
   |some o=>
    exact zc57
  ·unfold VZ at b4
   cases ho:ops[x]? with
   |none=>rw[ho]at b4;cases b4
   |some o=>
    rw[ho]at b4
    have hg:=h.2.1
    exact zc73
  ·unfold VZ at b4q
   cases ho:ops[x]? with
   |none=>rw[ho]at b4q;cases b4q
   |some o=>
    rw[ho]at b4q
    have hg:=h.2.2
    rw[Xx hl ho]at hg
    exact Vw ho b4q hq (λe a w hne=>by cases e<;>simp_all) hS hg λa w hS' h'=>Jd hs hQ hlo l hl hlast v k _ a w (hcl.set hx) b9 hS' h'
structure VU(P:Program)(n:Shp)(B:Nat)(w0:World)(ops:Array Oper)(l:List Oper)(Q:Exit->Act->World->Prop)(t:OU)(env:Env)(H F:List HP):Prop where
 run:∀a,Fits n a env->∀w,St B w0 (H++F) w->X5 P ops l Q (St B w0 H) t a w
def Je(P:Program)(B:Nat)(w0:World)(ops:Array Oper)(l:List Oper)(Q:Exit->Act->World->Prop)(Hc:List HP)(t:OU):Exit->Act->World->Prop
 |.normal,a,w=>X5 P ops l Q (St B w0 Hc) t a w
 |_,_,_=>False
variable {l:List Oper}
theorem Vo{t:OU}:Je P B w0 ops l Q H t=λe a w=>match e with|.normal=>X5 P ops l Q (St B w0 H) t a w|_=>False:=by
 funext e a w
 cases e<;>rfl
variable {F Hc:List HP}
theorem Yqu{HF:List HP}(happ:App H F HF)(h:VQ n B w0 Q .normal env HF):VU P n B w0 ops l Q .done env H F:=
 ⟨λa ha w hw=>by exact YlC⟩
variable {i j:Nat}{o o':Oper}
theorem Yei{t:OU}(ho:nthO l i=o)(h:VL P (some (some F)) n B w0 ops (Je P B w0 ops l Q H t) [o] env H):VU P n B w0 ops l Q (.n1 i t) env H F:=by
 refine⟨λa ha w hw=>?_⟩
 have h1:YB P ops (Je P B w0 ops l Q H t) (St B w0 H) [o] a w:=h.run a ha w hw
 grind [X5,Vo]
variable {u:OU}
theorem Yej{t:OU}(ho:nthO l i=o)(ho':nthO l j=o')(h:VL P (some (some F)) n B w0 ops (Je P B w0 ops l Q H t) [o] env H)
 (h':VL P (some (some F)) n B w0 ops (Je P B w0 ops l Q H u) [o'] env H):VU P n B w0 ops l Q (.n2 i t j u) env H F:=by
 refine⟨λa ha w hw=>?_⟩
 have h1:YB P ops (Je P B w0 ops l Q H t) (St B w0 H) [o] a w:=h.run a ha w hw
 have h2:YB P ops (Je P B w0 ops l Q H u) (St B w0 H) [o'] a w:=h'.run a ha w hw
 unfold X5
 rw[ho,ho',<-Vo,<-Vo]
 simp_all
theorem YnR{q:Nat}{t v:OU}{o2:Oper}(ho:nthO l i=o)(ho':nthO l j=o')(ho2:nthO l q=o2)(h:VL P (some (some F)) n B w0 ops (Je P B w0 ops l Q H t) [o] env H)
 (h':VL P (some (some F)) n B w0 ops (Je P B w0 ops l Q H u) [o'] env H) (h2:VL P (some (some F)) n B w0 ops (Je P B w0 ops l Q H v) [o2] env H):VU P n B w0 ops l Q (.n3 i t j u q v) env H F:=by
 refine⟨λa ha w hw=>?_⟩
 have h1:YB P ops (Je P B w0 ops l Q H t) (St B w0 H) [o] a w:=h.run a ha w hw
 have h2':YB P ops (Je P B w0 ops l Q H u) (St B w0 H) [o'] a w:=h'.run a ha w hw
 have h3:YB P ops (Je P B w0 ops l Q H v) (St B w0 H) [o2] a w:=h2.run a ha w hw
 unfold X5
 rw[ho,ho',ho2,<-Vo,<-Vo,<-Vo]
 simp_all
theorem Ue{H':List HP}{t:OU}(hp:Pull Hc H' F)(h:VU P n B w0 ops l Q t env Hc F):VQ n B w0 (Je P B w0 ops l Q Hc t) .normal env H':=
 ⟨λa w ha hw=>h.run a ha w (hw.perm hp)⟩
theorem Ud{id:Nat}(t:OU)(last:List Nat)(mask:List Bool)(hm:P.follows .mixedOrders=true)
 (hB:(Region.noSelect l.toArray&&decide (last.length<=l.toArray.size)&&YcM l.toArray last&&VH l.toArray last t (Array.replicate l.toArray.size false) (l.toArray.size-last.length))=true)
 (hsp:Split mask H Hc F) {l2:List Oper}(hl2:Yh l last=l2) (h:VU P n B w0 l.toArray l (Z8 P l.toArray (Only Q) l2) t env Hc F):VC P n B w0 (.region id l.toArray true) Q env H:=by
 simp only[Tt,To]at hB
 obtain⟨⟨⟨h1,h2⟩,h3⟩,h5⟩:=hB
 refine⟨λa w ha hw=>ZZ (Q:=Only Q) ?_ λe a w h=>by exact zc66⟩
 have hst:St B w0 (Hc++F) w.drew:=(hw.perm (XL hsp)).drew
 have hr:=h.run a ha w.drew hst
 rw[<-hl2]at hr
 have:=Jd (S:=St B w0 Hc) h1 (λc a w h=>h) zc46 l rfl h3 t _ _ a w.drew (XQ _ _) h5 hst.prefix_ hr
 exact Yp0
end
def MB(es:Ents)(f:Int->Bool):Prop:=∀k,mget es k=if f k=true then some (.bool true)else none
structure MOk(es:Ents)(clock:Nat):Prop where
 nd:(es.map λe=>e.2.2).Nodup
 kn:(es.map λe=>e.1).Nodup
 lt:∀e∈es,e.2.2<clock
theorem MB.nil:MB [] (λ_=>false):=λ_=>rfl
variable {c:Nat}
theorem MOk.nil:MOk [] c:=by grind [Go.Eng.MOk.mk]
theorem Ya0(es l:Ents)(k:Int):mget (es++l) k=(mget es k).or (mget l k):=by
 grind [mget]
variable {es:Ents}{f:Int->Bool}
theorem MB.ext{g:Int->Bool}(h:MB es f)(e:∀v,f v=g v):MB es g:=λk=>by rw[<-e k];exact h k
variable {k:Int}
theorem MB.put(h:MB es f)(hk:f k=false):MB (es++[(k,.bool true,c)]) (λv=>decide (v=k)||f v):=λv=>by
 rw[Ya0,h v]
 by_cases hv:v=k
 all_goals simp_all [mget,Ne.symm]
theorem MB.mem(h:MB es f){e:Int×Value×Nat}(he:e∈es):f e.1=true:=by
 have hk:=h e.1
 cases hf:f e.1 with
 |true=>rfl
 |false=>
  unfold mget at hk
  cases hx:es.find? (λx=>x.1==e.1)with
  |none=>grind
  |some x=>simp_all
variable {v:Value}
theorem MOk.put(h:MOk es c)(hf:MB es f)(hk:f k=false):MOk (es++[(k,v,c)]) (c+1):=by
 refine⟨?_,?_,λe he=>?_⟩
 ·rw[TX]
  refine Nq.2 ⟨h.nd,by simp,λa ha b hb=>?_⟩
  obtain⟨e,he,rfl⟩:=TI.1 ha
  obtain rfl:b=c:=by simp_all
  have:=h.lt e he
  omega
 ·rw[TX]
  refine Nq.2 ⟨h.kn,by simp,λa ha b hb=>?_⟩
  obtain⟨e,he,rfl⟩:=TI.1 ha
  intro e2
  have:=hf.mem he
  simp_all
 ·rcases Re.1 he with he|he
  ·have:=h.lt e he;omega
  simp_all
theorem MB.at_(h:MB es f)(hk:f k=true):∃e∈es,e.1=k:=by
 have h1:=h k
 unfold mget at h1
 cases hx:es.find? (λx=>x.1==k)with
 |none=>simp_all
 |some x=>grind
theorem Upd.same{A:HP}:∀{L:List HP},A∈L->Upd A A L L
 |_::_,.head _=>Upd.here _
 |X::_,.tail _ h=>(Upd.same h).there X
section
variable {P:Program}{m:Mode}{n:Shp}{B:Nat}{w0:World}{ops:Array Oper}{Q:Exit->Act->World->Prop}{rest:List Oper}{env:Env}{H:List HP}{d:Nat}{ty:TypeId}{pos:String}{after:Array Edge}{x y u:Operand}
theorem YtU{xt:TypeId}{a:Int}(hx:evo env x=some (.int .i64 a))(hn:Nat.ble (d+1) n.k=true)(hb: -9223372036854775808<= -a/\ -a<=9223372036854775807)(h:VL P m n B w0 ops Q rest ((d,.int .i64 (-a))::env) H):
 VL P m n B w0 ops Q (⟨some d,.unOp .neg xt x,ty,pos,after,none⟩::rest) env H:=
 YP rfl rfl hn rfl (λa' w ha _=>by
  have h0:(Op.intArith .sub .i64 0 a).run P w=.ok (.int .i64 (-a)) w:=by
   show Result.ok (Value.int .i64 (IntKind.i64.wrap (0-a))) w=_
   grind [Go.IntWalk.i64_in]
  simp[execOp,ha.eval hx,Op.unary,h0]) h
variable {t kt et g clock:Nat}{es:Ents}{f:Int->Bool}{k:Int}
theorem YbP{b:Bool}(hx:evo env x=some (.map (some g)))(hy:evo env y=some (.int .i64 k))(hm:blk g (mobj es clock)∈H)(ht:mapT P t kt et=true)(hn:Nat.ble (d+1) n.k=true)(hz:Q8 P et=some (.bool false))(hf:MB es f)(hk:f k=b)
 (h:VL P m n B w0 ops Q rest ((d,.bool b)::env) H):VL P m n B w0 ops Q (⟨some d,.lookup t x y false,ty,pos,after,none⟩::rest) env H:=by
 have h1:=hf k
 cases b with
 |true=>grind [Yja]
 |false=>grind [Yi9,Ydz]
variable {K:Ents->Nat->List HP}
theorem YkB(hx:evo env x=some (.map (some g)))(hy:evo env y=some (.int .i64 k))(hv:evo env u=some (.bool true))(ht:mapT P t kt et=true)(hu:∀es' c',Upd (blk g (mobj es clock)) (blk g (mobj es' c')) H (K es' c'))(hf:MB es f)(ho:MOk es clock)
 (h:∀es' c',MB es' (λv=>decide (v=k)||f v)->MOk es' c'->clock<=c'->(∀e∈es,e∈es')->VL P none n B w0 ops Q rest env (K es' c')):VL P none n B w0 ops Q (⟨none,.mapUpdate t x y u,ty,pos,after,none⟩::rest) env H:=by
 have h1:=hf k
 cases hk:f k with
 |true=>
  rw[hk,Tm rfl]at h1
  obtain⟨l1,b,l2,rfl,hl,_⟩:=Vf 0 h1
  exact YlZ hx hy hv ht (hu _ _) hl (h _ _ (hf.ext λv=>by simp_all) ho (TQ _) λ_ he=>he)
 |false=>
  rw[hk,Tf (by decide)]at h1
  exact YlY hx hy hv ht (hu _ _) h1 (h _ _ (hf.put hk) (ho.put hf hk) (Nat.le_succ _) λ_ he=>List.mem_append_left _ he)
variable {v:Value}
theorem YlX{b:Nat}{l1 l2:Ents}{v0:Value}{K:List HP}(hx:evo env x=some (.map (some g)))(hy:evo env y=some (.int .i64 k))(hv:evo env u=some v)(ht:mapT P t kt et=true)
 (hu:Upd (blk g (mobj (l1++(k,v0,b)::l2) clock)) (blk g (mobj (l1++(k,v,b)::l2) clock)) H K) (hk:∀e∈l1,e.1≠k)
 (h:VL P none n B w0 ops Q rest env K):VL P none n B w0 ops Q (⟨none,.insert t x y u,ty,pos,after,none⟩::rest) env H:=by
 obtain⟨h1,h2⟩:=Jc ht
 refine UJ rfl rfl (λa w ha hw=>⟨setBlock w g (mobj (l1++(k,v,b)::l2) clock),?_,hw.setBlock hu⟩) h
 have hb:w.heap[g]? =some (mobj (l1++(k,v0,b)::l2) clock):=zc58
 unfold mobj at hb
 have hf:=O3 (l2:=l2) (v0:=v0) (b:=b) hk
 have hsz:(l1++(k,v0,b)::l2).map toE=l1.map toE++toE (k,v0,b)::l2.map toE:=by simp
 exact zc14
theorem YgW(hx:evo env x=some (.map none))(ht:mapT P t kt et=true)(hn:Nat.ble (d+1) n.k=true)
 (h:∀r,VL P none n B w0 ops Q rest ((d,.pointer (some ⟨r,0,none⟩))::env) (blk r (.mapIter none 0 #[] 0)::H)):VL P none n B w0 ops Q (⟨some d,.range t x,ty,pos,after,none⟩::rest) env H:=by
 obtain⟨h1,h2⟩:=Jc ht
 refine XH (λv K=>∃r,v=.pointer (some ⟨r,0,none⟩)/\K=blk r (.mapIter none 0 #[] 0)::H) rfl rfl hn (λa w ha hw=>?_) zc56
 refine⟨_,_,w.alloc (.mapIter none 0 #[] 0),?_,hw.alloc _,w.heap.size,rfl,rfl⟩
 simp[execOp,ha.eval hx,Instr.range,run_underlying h1,Sem.run,newObj]
theorem Yjb{r:Nat}(hx:evo env x=some (.pointer (some ⟨r,0,none⟩)))(hm:blk r (.mapIter none 0 #[] 0)∈H)(hn:Nat.ble (d+1) n.k=true)
 (h:VL P none n B w0 ops Q rest ((d,.tuple #[.bool false])::env) H):VL P none n B w0 ops Q (⟨some d,.next x false,ty,pos,after,none⟩::rest) env H:=by
 refine Yeg rfl rfl hn (λa w ha hw=>⟨w,?_,hw⟩) h
 have hb:=(hw.blk hm).1
 simp[execOp,ha.eval hx,Instr.next,getObj,Sem.run,hb]
theorem Yqi(hx:evo env x=some (.map (some g)))(hy:evo env y=some (.int .i64 k))(hv:evo env u=some (.bool true))(ht:mapT P t kt et=true)(hu:∀es' c',Upd (blk g (mobj es clock)) (blk g (mobj es' c')) H (K es' c'))(hf:MB es f)(ho:MOk es clock)
 (h:∀es' c',MB es' (λv=>decide (v=k)||f v)->MOk es' c'->VL P none n B w0 ops Q rest env (K es' c')):VL P none n B w0 ops Q (⟨none,.insert t x y u,ty,pos,after,none⟩::rest) env H:=by
 have h1:=hf k
 cases hk:f k with
 |true=>
  rw[hk,Tm rfl]at h1
  obtain⟨l1,b,l2,rfl,hl,_⟩:=Vf 0 h1
  refine YlX hx hy hv ht (hu _ _) hl (h _ _ (hf.ext λv=>by simp_all) ho)
 |false=>
  rw[hk,Tf (by decide)]at h1
  exact YlW hx hy hv ht (hu _ _) h1 (h _ _ (hf.put hk) (ho.put hf hk))
theorem Yky{K:Ents->List HP}(hx:evo env x=some (.map (some g)))(hy:evo env y=some (.int .i64 k))(ht:mapT P t kt et=true)(hu:∀es',Upd (blk g (mobj es clock)) (blk g (mobj es' clock)) H (K es'))(hf:MB es f)(ho:MOk es clock)(hk:f k=true)
 (h:∀es',MB es' (λv=>!decide (v=k)&&f v)->MOk es' clock->VL P none n B w0 ops Q rest env (K es')):VL P none n B w0 ops Q (⟨none,.call ⟨.builtin .delete,#[x,y],#[t,kt]⟩,ty,pos,after,none⟩::rest) env H:=by
 have h1:=hf k
 have hkn:=ho.kn
 rw[hk,Tm rfl]at h1
 obtain⟨l1,b,l2,rfl,hl,_⟩:=Vf 0 h1
 have hsub:(l1++l2).Sublist (l1++(k,.bool true,b)::l2):=by simp_all
 refine YlV hx hy ht (hu _) hl (h _ (λv=>?_) ⟨ho.nd.sublist (hsub.map _),ho.kn.sublist (hsub.map _),λe he=>ho.lt e (hsub.subset he)⟩)
 have hv:=hf v
 rw[Ya0]at hv⊢
 by_cases e:v=k
 ·have n1:mget l1 v=none:=by
   unfold mget
   rw[Nk.2 λx hx=>by grind];rfl
  have n2:mget l2 v=none:=by
   unfold mget
   rw[Nk.2 λx hx=>by
    grind];rfl
  simp_all
 simp_all [mget,Ne.symm]
end
end Go.Eng
namespace Go.Proofs.YtjlgijpmnfabcaaGreatDoor
open Go.RowKit Go.Eng Go.Nw
theorem Yc0{n:Net}{a b:Int}{r:List Int}{p:Int}(h1:n.power[a.toNat]? =some r)(h2:r[b.toNat]? =some p):powr n a b=p:=by grind [powr]
variable {B:Nat}{w0 w:World}{H:List HP}
theorem Yb6(n:NetM)(i:Nat)(hin:n.In B w0 H)(hi:i<n.links.length)(hml:n.margin.length=n.links.length)(ht:JP n.net=0)(hw:St B w0 H w):
 CX B w0 147 [n.val,.int .i64 i] w λv K=>v=.int .i64 (Wp n.net i)/\K=H:=by
 refine Yc Tryz.func147 Tryz.ntmps147 rfl rfl hw ?_
 obtain⟨hpw,hrw,hlk,hmg,hs1,hs2,hs3,hs4⟩:=hin
 obtain⟨t1,t2,t3⟩:=Ydm ht
 obtain⟨l,hl⟩:∃l,n.links[i]? =some l:=⟨_,Ta hi⟩
 obtain⟨z,hz⟩:∃z,n.margin[i]? =some z:=⟨_,Ta (by omega)⟩
 have e1:lnk n.net i=l:=Jn hl
 have e2:mar n.net i=z:=Om hz
 have e3:n.net.nodes=n.nodes:=rfl
 have e4:n.net.power.length=n.rows.length:=by simp[NetM.net]
 rw[e4,e3]at t1
 unfold Wp
 rw[e1,e2,e3]
 by_cases h1:0<=l.1/\l.1<n.nodes
 rotate_left
 ·skip
  repeat'(first|((first|apply JB (cs:=[_])|apply JA (cs:=[_]));exact rfl;exact Yk2;exact za;exact rfl;exactλ_ hw=>(Qp n _ _ zm hw);all_goals(intro hB;(try simp only[To,Tv]at hB);try exact zo))|(apply zg29;(apply Ys;exact za;exact rfl))|refine zgd ?_|(refine zgh ?_;intro _)|fail)
  exact zc69
 by_cases h2:0<=l.2.1/\l.2.1<n.nodes
 rotate_left
 ·skip
  repeat'(first|((first|apply JB (cs:=[_])|apply JA (cs:=[_]));exact rfl;exact Yk2;exact za;exact rfl;exactλ_ hw=>(Qp n _ _ zm hw);all_goals(intro hB;(try simp only[To,Tv]at hB);try exact zo))|(apply zg29;(apply Ys;exact za;exact rfl))|refine zgd ?_|(refine zgh ?_;intro _)|fail)
  exact zc69
 obtain⟨r,hr⟩:∃r,n.rows[l.1.toNat]? =some r:=⟨_,Ta (by omega)⟩
 have hrm:r∈n.rows:=Td hr
 have hrr:=hrw r hrm
 have hrs:=hs2 r hrm
 have hrl:(r.xs.length:Int)=n.nodes:=t2 r.xs (TI.2 ⟨r,hrm,rfl⟩)
 obtain⟨p,hp⟩:∃p,r.xs[l.2.1.toNat]? =some p:=⟨_,Ta (by omega)⟩
 rw[Yc0 (n:=n.net) (r:=r.xs) (by simp[NetM.net,hr]) hp]
 by_cases h0:0<i
 ·obtain⟨q,hq⟩:∃q,n.links[((i:Int)-1).toNat]? =some q:=⟨_,Ta (by omega)⟩
  rw[show lnk n.net (i-1)=q from Jn YtC]
  repeat'(first|((first|apply JB (cs:=[_])|apply JA (cs:=[_]));exact rfl;exact Yk2;exact za;exact rfl;exactλ_ hw=>(Qp n _ _ zm hw);all_goals(intro hB;(try simp only[To,Tv]at hB);try exact zo))|((first|apply Ya YeA|apply Yb YeA);exact za;exact rfl;exactλ_ hw=>(Ve q l hw))|(apply zg28;first|refine zs83 ?_|refine zs84 ?_)|(apply zg29;(apply Ys;exact za;exact rfl))|refine zgd ?_|(refine zgf ?_ ?_<;>intro _<;>try exact zo)|(refine zgh ?_;intro _)|fail)
  all_goals(((repeat apply Yk);apply Yd;exact rfl;exact rfl;refine⟨TD _ ?_,rfl⟩);(repeat(first|refine Xp (by omega) ?_|refine Xq (by omega) ?_));rfl)
 ·skip
  repeat'(first|((first|apply JB (cs:=[_])|apply JA (cs:=[_]));exact rfl;exact Yk2;exact za;exact rfl;exactλ_ hw=>(Qp n _ _ zm hw);all_goals(intro hB;(try simp only[To,Tv]at hB);try exact zo))|((first|apply Ya YeA|apply Yb YeA);exact za;exact rfl;exactλ_ hw=>(Ve _ _ hw))|(apply zg28;first|refine zs83 ?_|refine zs84 ?_)|(apply zg29;(apply Ys;exact za;exact rfl))|refine zgd ?_|(refine zgf ?_ ?_<;>intro _<;>try exact zo)|(refine zgh ?_;intro _)|fail)
  all_goals(((repeat apply Yk);apply Yd;exact rfl;exact rfl;refine⟨TD _ ?_,rfl⟩);(repeat(first|refine Xp (by omega) ?_|refine Xq (by omega) ?_));rfl)
theorem Y8(n:NetM)(hin:n.In B w0 H)(hw:St B w0 H w):
 CX B w0 68 [n.val] w λv K=>v=.int .i64 (Ym n.net)/\K=H:=by
 refine Yc Tryz.func68 Tryz.ntmps68 rfl rfl hw ?_
 have e3:n.net.nodes=n.nodes:=rfl
 have e5:n.net.noise=n.noise:=rfl
 have e6:n.net.thr=n.thr:=rfl
 have e7:n.net.links=n.links:=rfl
 have e8:n.net.margin=n.margin:=rfl
 have hs1:=hin.s1
 have hs3:=hin.s3
 have hs4:=hin.s4
 unfold Ym
 rw[e3,e5,e6,e7,e8]
 (apply Y0;apply YL;apply Yy;exact rfl;exact rfl;intro g)
 repeat'(first|((first|apply Ya YrI|apply Yb YrI);exact za;exact rfl;exactλ_ hw=>(Ybj n hin.cons hw))|refine zgd ?_|(refine zgf ?_ ?_<;>intro _<;>try exact zo)|fail)
 any_goals(((repeat apply Yk);apply Yd;exact rfl;exact rfl;refine⟨TD _ ?_,rfl⟩);(repeat(first|refine Xp (by omega) ?_|refine Xq (by omega) ?_));rfl)
 have ht:JP n.net=0:=by assumption
 refine Yf (λ(k:Nat)=>[(54,.int .i64 k),(53,.int .i64 n.links.length),(1,.pointer (some ⟨g,0,none⟩))]) (λ_=>netB g n::H) (λk=>k<=n.links.length/\JI n.net n.links.length 0=JI n.net (n.links.length-k) k) (λk=>n.links.length-k) 0 ⟨Tc _,rfl⟩ ?_ (λw hw=>hw) ?_
 ·exact zc1
 rintro k ⟨hk,hi⟩ K hK
 by_cases hlt:k<n.links.length
 ·skip
  repeat'(first|((first|apply Ya YrJ|apply Yb YrJ);exact za;exact rfl;exactλ_ hw=>(Yb6 n k hin.cons hlt (by omega) ht hw))|refine zgd ?_|(refine zge ?_ ?_<;>intro _<;>try exact zo)|fail)
  ·exact zc48
  ·apply hK (k+1)
   ·exact Ytm
   ·omega
   ·exact zc1
   exact zc20
 ·refine zX1 ?_<;>intros
  exact zc53
variable {B:Nat}{w0 w:World}{H:List HP}
theorem Yiz(n:NetM)(t:Lk)(hin:n.In B w0 H)(hok:Ok n.net)(hw:St B w0 H w):
 CX B w0 249 [.slice n.lA n.links.length n.lcap,lkV t,.func (.func 248) #[] #[]] w λv K=>∃k:Nat,
  v=.tuple #[.int .i64 k,.bool (decide (k<n.links.length/\cmpL (lnk n.net k) t=0))]/\k<=n.links.length/\(∀j,j<k->cmpL (lnk n.net j) t<0)/\(∀j,k<=j->j<n.links.length->0<=cmpL (lnk n.net j) t)/\K=H:=by
 refine Yc Tryz.func249 Tryz.ntmps249 rfl rfl hw ?_
 obtain⟨hpw,hrw,hlk,hmg,hs1,hs2,hs3,hs4⟩:=hin
 have hl8:n.links.length<=128:=hok.k0
 (apply Y0;apply YL;apply Yy;exact rfl;exact rfl;intro g)
 refine zX7 ?_
 refine Wu (λ(lo hi:Nat)=>[(9,.int .i64 lo),(10,.int .i64 hi),(8,.int .i64 n.links.length),(0,.slice n.lA n.links.length n.lcap),(2,.func (.func 248) #[] #[]),(4,.pointer (some ⟨g,0,none⟩))]) (λ_ _=>blk g (.cells #[.int .i64 t.1,.int .i64 t.2.1,.int .i64 t.2.2] 145 (0,0))::H)
  (λlo hi=>lo<=hi/\hi<=n.links.length/\(∀j,j<lo->cmpL (lnk n.net j) t<0)/\(∀j,hi<=j->j<n.links.length->0<=cmpL (lnk n.net j) t)) (λlo hi=>hi-lo) 0 n.links.length ⟨by omega,by omega,λj hj=>by omega,λj h1 h2=>by omega⟩ ?_ (λw hw=>hw) ?_
 ·exact zc1
 rintro lo hi ⟨h1,h2,h3,h4⟩ K hK
 by_cases hlt:lo<hi
 ·obtain⟨b,hb⟩:∃b,n.links[(((lo:Int)+hi)/2).toNat]? =some b:=⟨_,Ta (by omega)⟩
  have hm:(((lo:Int)+hi)/2).toNat=(lo+hi)/2:=by omega
  have eb:lnk n.net ((lo+hi)/2)=b:=by rw[<-hm];exact Jn hb
  repeat'(first|((first|apply YV (cs:=[])|apply Y2 (cs:=[]));exact rfl;exact YeA;exact za;exact rfl;exactλ_ hw=>(Ve b t hw))|(apply zg28;refine zs84 ?_)|refine zgd ?_|(refine zge ?_ ?_<;>intro _<;>try exact zo)|fail)
  ·rename_i hc
   apply hK ((lo+hi)/2+1) hi
   ·refine⟨by omega,by omega,λj hj=>?_,h4⟩
    by_cases e:j=(lo+hi)/2
    ·rw[e,eb];exact hc
    ·have h5:=Ydk hok j ((lo+hi)/2) (by omega) (by show _<n.links.length;omega)
     rw[eb]at h5
     rw[Vu]at*
     omega
   ·omega
   ·exact zc1
   exact zc20
  ·rename_i hc
   apply hK lo ((lo+hi)/2)
   ·refine⟨by omega,by omega,h3,λj hj hjl=>?_⟩
    by_cases e:j=(lo+hi)/2
    ·rw[e,eb];exact hc
    ·have h5:=Ydk hok ((lo+hi)/2) j (by omega) hjl
     rw[eb]at h5
     have h6:¬cmpL b t<0:=by omega
     have h7:¬cmpL (lnk n.net j) t<0:=by
      rw[Vu]at*
      omega
     omega
   ·omega
   ·exact zc1
   exact zc20
 ·obtain rfl:lo=hi:=by omega
  by_cases hl:lo<n.links.length
  ·obtain⟨b,hb⟩:∃b,n.links[lo]? =some b:=⟨_,Ta hl⟩
   have eb:lnk n.net lo=b:=Jn hb
   repeat'(first|((first|apply YV (cs:=[])|apply Y2 (cs:=[]));exact rfl;exact YeA;exact za;exact rfl;exactλ_ hw=>(Ve b t hw))|(apply zg28;refine zs84 ?_)|refine zgd ?_|(refine zge ?_ ?_<;>intro _<;>try exact zo)|fail)
   all_goals(apply Yk;apply Yo;(iterate 3 exact rfl);refine⟨lo,?_,h2,h3,h4,rfl⟩;rw[eb])
   ·rw[Ti ⟨hl,by assumption⟩]
   ·rw[Tj λhc=>absurd hc.2 (by assumption)]
  ·refine zX17 ?_<;>intros
   apply Yk;apply Yo;(iterate 3 exact rfl)
   refine⟨lo,?_,h2,h3,h4,rfl⟩
   rw[Tj λhc=>hl hc.1]
theorem Yaj(n:NetM)(a b:Int)(hin:n.In B w0 H)(hok:Ok n.net)(hw:St B w0 H w):
 CX B w0 148 [n.val,.int .i64 a,.int .i64 b] w λv K=>v=.int .i64 (Yu n.net a b)/\K=H:=by
 refine Yc Tryz.func148 Tryz.ntmps148 rfl rfl hw ?_
 (apply Y0;apply YL;apply Yy;exact rfl;exact rfl;intro g)
 refine zX2 ?_
 apply Yi _ Yu9
 exact za
 exact rfl
 exactλ_ hw=>(Yiz n (a,b,0) hin.cons hok (hw))
 rintro _ _ ⟨k,rfl,hk,h1,h2,rfl⟩
 have hf:=Yhq hok hk h1 h2
 rw[hf]
 by_cases hc:k<n.links.length/\cmpL (lnk n.net k) (a,b,0)=0
 ·rw[Ti hc]
  refine zX2 ?_
  ((repeat apply Yk);apply Yd;exact rfl;exact rfl;refine⟨TD _ ?_,rfl⟩)
  exact(Tm hc).symm
 ·rw[Tj hc]
  refine zX2 ?_
  ((repeat apply Yk);apply Yd;exact rfl;exact rfl;refine⟨TD _ ?_,rfl⟩)
  exact(Tf hc).symm
def Zb(n:Net)(a b:Int):Int:=if Ym n≠0 then -1 else Yu n a b
theorem Zi(n:NetM)(a b:Int)(hin:n.In B w0 H)(hw:St B w0 H w):
 CX B w0 69 [n.val,.int .i64 a,.int .i64 b] w λv K=>v=.int .i64 (Zb n.net a b)/\K=H:=by
 refine Yc Tryz.func69 Tryz.ntmps69 rfl rfl hw ?_
 unfold Zb
 repeat'(first|((first|apply Ya en68|apply Yb en68);exact za;exact rfl;exactλ_ hw=>(Y8 n hin.cons hw))|((first|apply Ya Yew|apply Yb Yew);exact za;exact rfl;exactλ_ hw=>(Yaj n _ _ hin.cons (YN (by assumption)) hw))|refine zgb ?_|(refine zge ?_ ?_<;>intro _<;>try exact zo)|(refine zgh ?_;intro _)|fail)
 all_goals(((repeat apply Yk);apply Yd;exact rfl;exact rfl;refine⟨TD _ ?_,rfl⟩);(repeat(first|refine Xp (by omega) ?_|refine Xq (by omega) ?_));rfl)
theorem YcF(n:NetM)(s d:Int)(hok:Ok n.net)(hs:0<=s/\s<=8796093022208)(hd:0<=d/\d<=8796093022208)(hw:St B w0 H w):
 CX B w0 363 [n.val,.int .i64 s,.int .i64 d] w λv K=>v=.bool (XJ n.net s d)/\K=H:=by
 refine Yc Tryz.func363 Tryz.ntmps363 rfl rfl hw ?_
 exact zc17
def Zh(n:Net)(s d:Int):Bool:=decide (Ym n=0)&&(decide (0<=s/\0<=d/\s<=8796093022208/\d<=8796093022208)&&XJ n s d)
theorem OY(n:NetM)(s d:Int)(hin:n.In B w0 H)(hw:St B w0 H w):
 CX B w0 282 [n.val,.int .i64 s,.int .i64 d] w λv K=>v=.bool (Zh n.net s d)/\K=H:=by
 refine Yc Tryz.func282 Tryz.ntmps282 rfl rfl hw ?_
 unfold Zh
 by_cases h0:Ym n.net=0
 rotate_left
 ·rw[Tj h0]
  refine zX18 ?_<;>intros
  (repeat apply Yk);apply Yd;exact rfl;exact rfl
  simp_all
 rw[Ti h0]
 by_cases h1:0<=s/\0<=d/\s<=8796093022208/\d<=8796093022208
 rotate_left
 ·rw[Tj h1]
  repeat'(first|((first|apply Ya en68|apply Yb en68);exact za;exact rfl;exactλ_ hw=>(Y8 n hin.cons hw))|refine zgc ?_|(refine zgf ?_ ?_<;>intro _<;>try exact zo)|(refine zgh ?_;intro _)|fail)
  all_goals((repeat apply Yk);apply Yd;exact rfl;exact rfl;exact⟨rfl,rfl⟩)
 rw[Ti h1]
 repeat'(first|((first|apply Ya en68|apply Yb en68);exact za;exact rfl;exactλ_ hw=>(Y8 n hin.cons hw))|((first|apply Ya Yk8|apply Yb Yk8);exact za;exact rfl;exactλ_ hw=>(YcF n _ _ (YN h0) (by omega) (by omega) hw))|refine zgc ?_|(refine zgf ?_ ?_<;>intro _<;>try exact zo)|(refine zgh ?_;intro _)|fail)
 all_goals((repeat apply Yk);apply Yd;exact rfl;exact rfl;exact⟨rfl,rfl⟩)
theorem YiO(n:NetM)(i:Nat)(hin:n.In B w0 H)(hok:Ok n.net)(hi:i<n.links.length)(hw:St B w0 H w):
 CX B w0 362 [n.val,.int .i64 i] w λv K=>v=.bool (Z3 n.net i)/\K=H:=by
 refine Yc Tryz.func362 Tryz.ntmps362 rfl rfl hw ?_
 obtain⟨hpw,hrw,hlk,hmg,hs1,hs2,hs3,hs4⟩:=id hin
 have hml:n.margin.length=n.links.length:=hok.k1
 obtain⟨l,hl⟩:∃l,n.links[i]? =some l:=⟨_,Ta hi⟩
 obtain⟨z,hz⟩:∃z,n.margin[i]? =some z:=⟨_,Ta (by omega)⟩
 have e1:lnk n.net i=l:=Jn hl
 have e2:mar n.net i=z:=Om hz
 have hzb:=O6 hok hi
 unfold Z3
 rw[e2]at hzb
 rw[e1,e2]
 by_cases hb:0<=Yu n.net l.2.1 l.1
 ·have hlt:(Yu n.net l.2.1 l.1).toNat<n.links.length:=XM hb
  obtain⟨y,hy⟩:∃y,n.margin[(Yu n.net l.2.1 l.1).toNat]? =some y:=⟨_,Ta (by omega)⟩
  have e3:mar n.net (Yu n.net l.2.1 l.1).toNat=y:=Om hy
  have hyb:=O6 hok hlt
  rw[e3]at hyb
  rw[e3,Ti hb]
  repeat'(first|((first|apply Ya Yew|apply Yb Yew);exact za;exact rfl;exactλ_ hw=>(Yaj n _ _ hin.cons hok hw))|((first|apply Yx Yk8|apply Yw Yk8);exact za;exact rfl;exactλ_ hw=>(YcF n _ _ hok (by omega) (by omega) hw);all_goals(intro hB;(try simp only[To,Tv]at hB);try exact zo))|(apply zg28;refine zs84 ?_)|refine zgd ?_|(refine zgf ?_ ?_<;>intro _<;>try exact zo)|(refine zgh ?_;intro _)|fail)
  all_goals((repeat apply Yk);apply Yd;exact rfl;exact rfl;refine⟨?_,rfl⟩;simp_all)
 ·rw[Tj hb]
  repeat'(first|((first|apply Ya Yew|apply Yb Yew);exact za;exact rfl;exactλ_ hw=>(Yaj n _ _ hin.cons hok hw))|(apply zg28;refine zs84 ?_)|refine zgd ?_|(refine zgf ?_ ?_<;>intro _<;>try exact zo)|(refine zgh ?_;intro _)|fail)
  all_goals((repeat apply Yk);exact zc3)
def JQ(n:Net)(i:Int):Bool:=decide (Ym n=0)&&(decide (0<=i/\i<n.links.length)&&Z3 n i.toNat)
theorem VK(n:NetM)(i:Int)(hin:n.In B w0 H)(hw:St B w0 H w):
 CX B w0 280 [n.val,.int .i64 i] w λv K=>v=.bool (JQ n.net i)/\K=H:=by
 refine Yc Tryz.func280 Tryz.ntmps280 rfl rfl hw ?_
 have hs3:=hin.s3
 have e7:n.net.links=n.links:=rfl
 unfold JQ
 rw[e7]
 by_cases h0:Ym n.net=0
 rotate_left
 ·rw[Tj h0]
  refine zX18 ?_<;>intros
  all_goals((repeat apply Yk);exact zc3)
 rw[Ti h0]
 by_cases h1:0<=i/\i<n.links.length
 rotate_left
 ·rw[Tj h1]
  repeat'(first|((first|apply Ya en68|apply Yb en68);exact za;exact rfl;exactλ_ hw=>(Y8 n hin.cons hw))|refine zgc ?_|(refine zgf ?_ ?_<;>intro _<;>try exact zo)|(refine zgh ?_;intro _)|fail)
  all_goals((repeat apply Yk);apply Yd;exact rfl;exact rfl;exact⟨rfl,rfl⟩)
 rw[Ti h1]
 obtain⟨k,rfl⟩:∃k:Nat,i=k:=⟨i.toNat,by omega⟩
 repeat'(first|((first|apply Ya en68|apply Yb en68);exact za;exact rfl;exactλ_ hw=>(Y8 n hin.cons hw))|((first|apply Ya Yst|apply Yb Yst);exact za;exact rfl;exactλ_ hw=>(YiO n _ hin.cons (YN h0) (by omega) hw))|refine zgc ?_|(refine zgf ?_ ?_<;>intro _<;>try exact zo)|(refine zgh ?_;intro _)|fail)
 all_goals((repeat apply Yk);exact zc3)
variable {B k:Nat}{w0 w:World}{H:List HP}
theorem QD(a lo hi:Int)(hw:St B w0 H w):
 CX B w0 299 [.int .i64 a,.int .i64 lo,.int .i64 hi] w λv K=>v=.bool (decide (lo<=a/\a<=hi))/\K=H:=by
 refine Yc Tryz.func299 Tryz.ntmps299 rfl rfl hw ?_
 repeat'(first|refine zgc ?_|(refine zgf ?_ ?_<;>intro _<;>try exact zo)|fail)
 ·exact zc26
 all_goals(apply Yd;exact rfl;exact rfl;exact⟨by rw[Tj (by omega)],rfl⟩)
variable {α:Type}
theorem Qm{p:α->Bool}{l:List α}{a:α}(h:l[k]? =some a):(l.take (k+1)).any p=((l.take k).any p||p a):=zc81
theorem Ybt{p:α->Bool}{l:List α}{a:α}(h:l[k]? =some a)(hp:p a=true):l.any p=true:=by grind
theorem Yit(n:NetM)(hnn:n.nodes<=1000000)(hin:n.In B w0 H)(hw:St B w0 H w):
 CX B w0 300 [n.val] w λv K=>v=.int .i64 (JP n.net)/\K=H:=by
 refine Yc Tryz.func300 Tryz.ntmps300 rfl rfl hw ?_
 obtain⟨hpw,hrw,hlk,hmg,hs1,hs2,hs3,hs4⟩:=id hin
 have e1:n.net.power.length=n.rows.length:=by simp[NetM.net]
 have e2:n.net.nodes=n.nodes:=rfl
 unfold JP
 rw[e1,e2,<-Ql,<-Ql n (λr=>r.any Zx)]
 by_cases hnl:(n.rows.length:Int)=n.nodes
 rotate_left
 ·refine zX21 ?_<;>intros
  ((repeat apply Yk);apply Yd;exact rfl;exact rfl;refine⟨TD _ ?_,rfl⟩)
  (repeat(first|refine Xp (by omega) ?_|refine Xq (by omega) ?_))
  rfl
 rw[Tf (by omega)]
 (apply Y0;apply YL;apply Yy;exact rfl;exact rfl;intro g)
 refine zX3 ?_<;>intros
 refine Yf (λ(a:Nat)=>[(3,.int .i64 a),(1,.pointer (some ⟨g,0,none⟩))]) (λ_=>netB g n::H) (λa=>a<=n.rows.length/\(n.rows.take a).any (λr=>wide n.nodes r.xs)=false) (λa=>n.rows.length-a) 0 ⟨Tc _,by simp⟩ ?_ (λw hw=>hw) ?_
 ·exact zc1
 rintro a ⟨ha,hai⟩ K hK
 by_cases hlt:a<n.rows.length
 ·obtain⟨r,hr⟩:∃r,n.rows[a]? =some r:=⟨_,Ta hlt⟩
  have hs2r:=hs2 r (Td hr)
  repeat'(first|refine zgd ?_|(refine zge ?_ ?_<;>intro _<;>try exact zo)|fail)
  ·rename_i h
   ((repeat apply Yk);apply Yd;exact rfl;exact rfl;refine⟨TD _ ?_,rfl⟩)
   rw[Tm (Ybt hr (Ti h))]
  ·rename_i h
   apply hK (a+1)
   ·exact⟨by omega,by rw[Qm hr,hai];exact Tj (by omega)⟩
   ·omega
   ·exact zc1
   exact zc20
 obtain rfl:a=n.rows.length:=by omega
 rw[TC]at hai
 rw[hai,Tf (by simp)]
 have hw2:∀r∈n.rows,(r.xs.length:Int)=n.nodes:=λr hr=>by
  have h1:=RL.1 hai r hr
  simp only[wide,To]at h1
  omega
 refine zX1 ?_<;>intros
 refine Yf (λ(a:Nat)=>[(4,.int .i64 a),(1,.pointer (some ⟨g,0,none⟩))]) (λ_=>netB g n::H) (λa=>a<=n.rows.length/\(n.rows.take a).any (λr=>r.xs.any Zx)=false) (λa=>n.rows.length-a) 0 ⟨Tc _,by simp⟩ ?_ (λw hw=>hw) ?_
 ·exact zc1
 rintro a ⟨ha,hbi⟩ K hK
 by_cases hlt:a<n.rows.length
 rotate_left
 ·obtain rfl:a=n.rows.length:=by omega
  rw[TC]at hbi
  rw[hbi,Tf (by simp)]
  refine zX1 ?_<;>intros
  ((repeat apply Yk);apply Yd;exact rfl;exact rfl;refine⟨TD _ ?_,rfl⟩)
  rfl
 obtain⟨r,hr⟩:∃r,n.rows[a]? =some r:=⟨_,Ta hlt⟩
 have hrm:=Td hr
 have hs2r:=hs2 r hrm
 have hrr:=hrw r hrm
 have hrl:=hw2 r hrm
 refine zX3 ?_<;>intros
 refine Yf (λ(b:Nat)=>[(5,.int .i64 b),(4,.int .i64 a),(1,.pointer (some ⟨g,0,none⟩))]) (λ_=>netB g n::H) (λb=>b<=r.xs.length/\(r.xs.take b).any Zx=false) (λb=>r.xs.length-b) 0 ⟨Tc _,by simp⟩ ?_ (λw hw=>hw) ?_
 ·exact zc1
 rintro b ⟨hb,hci⟩ K2 hK2
 by_cases hltb:b<r.xs.length
 ·obtain⟨p,hp⟩:∃p,r.xs[b]? =some p:=⟨_,Ta hltb⟩
  repeat'(first|((first|apply Yx OH|apply Yw OH);exact za;exact rfl;exactλ_ hw=>(QD _ _ _ hw);all_goals(intro hB;(try simp only[To,Tv]at hB);try exact zo))|refine zgd ?_|(refine zge ?_ ?_<;>intro _<;>try exact zo)|fail)
  ·apply hK2 (b+1)
   ·exact⟨by omega,by rw[Qm hp,hci];exact Tj (by omega)⟩
   ·omega
   ·exact zc1
   exact zc20
  ·((repeat apply Yk);apply Yd;exact rfl;exact rfl;refine⟨TD _ ?_,rfl⟩)
   rw[Tm (Ybt hr (Ybt hp (Ti (by omega))))]
 ·obtain rfl:b=r.xs.length:=by omega
  rw[TC]at hci
  refine zX1 ?_<;>intros
  apply hK (a+1)
  ·exact⟨by omega,by rw[Qm hr,hbi];exact hci⟩
  ·omega
  ·exact zc1
  exact zc20
theorem Yj7(n:NetM)(i:Nat)(hin:n.In B w0 H)(hi:i<n.links.length)(hml:n.margin.length=n.links.length)(ht:JP n.net=0)(hnn:0<=n.nodes/\n.nodes<=1000000)(hw:St B w0 H w):
 CX B w0 301 [n.val,.int .i64 i] w λv K=>v=.int .i64 (Wp n.net i)/\K=H:=by
 refine Yc Tryz.func301 Tryz.ntmps301 rfl rfl hw ?_
 obtain⟨hpw,hrw,hlk,hmg,hs1,hs2,hs3,hs4⟩:=hin
 obtain⟨t1,t2,t3⟩:=Ydm ht
 obtain⟨l,hl⟩:∃l,n.links[i]? =some l:=⟨_,Ta hi⟩
 obtain⟨z,hz⟩:∃z,n.margin[i]? =some z:=⟨_,Ta (by omega)⟩
 have e1:lnk n.net i=l:=Jn hl
 have e2:mar n.net i=z:=Om hz
 have e3:n.net.nodes=n.nodes:=rfl
 have e4:n.net.power.length=n.rows.length:=by simp[NetM.net]
 rw[e4,e3]at t1
 unfold Wp
 rw[e1,e2,e3]
 by_cases h1:(0<=l.1/\l.1<n.nodes)/\(0<=l.2.1/\l.2.1<n.nodes)
 rotate_left
 ·skip
  repeat'(first|((first|apply Yx OH|apply Yw OH);exact za;exact rfl;exactλ_ hw=>(QD _ _ _ hw);all_goals(intro hB;(try simp only[To,Tv]at hB);try exact zo))|refine zgd ?_|(refine zgh ?_;intro _)|fail)
  all_goals(((repeat apply Yk);apply Yd;exact rfl;exact rfl;refine⟨TD _ ?_,rfl⟩);(repeat(first|refine Xp (by omega) ?_|refine Xq (by omega) ?_));rfl)
 obtain⟨r,hr⟩:∃r,n.rows[l.1.toNat]? =some r:=⟨_,Ta (by omega)⟩
 have hrm:r∈n.rows:=Td hr
 have hrr:=hrw r hrm
 have hrs:=hs2 r hrm
 have hrl:(r.xs.length:Int)=n.nodes:=t2 r.xs (TI.2 ⟨r,hrm,rfl⟩)
 obtain⟨p,hp⟩:∃p,r.xs[l.2.1.toNat]? =some p:=⟨_,Ta (by omega)⟩
 rw[Yc0 (n:=n.net) (r:=r.xs) (by simp[NetM.net,hr]) hp]
 by_cases h0:0<i
 ·obtain⟨q,hq⟩:∃q,n.links[((i:Int)-1).toNat]? =some q:=⟨_,Ta (by omega)⟩
  rw[show lnk n.net (i-1)=q from Jn YtC]
  have hcm:=@Vu q l
  repeat'(first|((first|apply Yx OH|apply Yw OH);exact za;exact rfl;exactλ_ hw=>(QD _ _ _ hw);all_goals(intro hB;(try simp only[To,Tv]at hB);try exact zo))|(apply zg28;first|refine zs83 ?_|refine zs84 ?_)|refine zgd ?_|(refine zgf ?_ ?_<;>intro _<;>try exact zo)|(refine zgh ?_;intro _)|fail)
  all_goals(((repeat apply Yk);apply Yd;exact rfl;exact rfl;refine⟨TD _ ?_,rfl⟩);(repeat(first|refine Xp (by omega) ?_|refine Xq (by omega) ?_));rfl)
 ·skip
  repeat'(first|((first|apply Yx OH|apply Yw OH);exact za;exact rfl;exactλ_ hw=>(QD _ _ _ hw);all_goals(intro hB;(try simp only[To,Tv]at hB);try exact zo))|(apply zg28;first|refine zs83 ?_|refine zs84 ?_)|refine zgd ?_|(refine zgf ?_ ?_<;>intro _<;>try exact zo)|(refine zgh ?_;intro _)|fail)
  all_goals(((repeat apply Yk);apply Yd;exact rfl;exact rfl;refine⟨TD _ ?_,rfl⟩);(repeat(first|refine Xp (by omega) ?_|refine Xq (by omega) ?_));rfl)
theorem ZE(n:NetM)(hin:n.In B w0 H)(hw:St B w0 H w):
 CX B w0 213 [n.val] w λv K=>v=.int .i64 (Ym n.net)/\K=H:=by
 refine Yc Tryz.func213 Tryz.ntmps213 rfl rfl hw ?_
 have e3:n.net.nodes=n.nodes:=rfl
 have e5:n.net.noise=n.noise:=rfl
 have e6:n.net.thr=n.thr:=rfl
 have e7:n.net.links=n.links:=rfl
 have e8:n.net.margin=n.margin:=rfl
 have hs1:=hin.s1
 have hs3:=hin.s3
 have hs4:=hin.s4
 unfold Ym
 rw[e3,e5,e6,e7,e8]
 (apply Y0;apply YL;apply Yy;exact rfl;exact rfl;intro g)
 repeat'(first|((first|apply Ya Ysg|apply Yb Ysg);exact za;exact rfl;exactλ_ hw=>(Yit n (by omega) hin.cons hw))|((first|apply Yx OH|apply Yw OH);exact za;exact rfl;exactλ_ hw=>(QD _ _ _ hw);all_goals(intro hB;(try simp only[To,Tv]at hB);try exact zo))|refine zgd ?_|(refine zgf ?_ ?_<;>intro _<;>try exact zo)|fail)
 any_goals(((repeat apply Yk);apply Yd;exact rfl;exact rfl;refine⟨TD _ ?_,rfl⟩);(repeat(first|refine Xp (by omega) ?_|refine Xq (by omega) ?_));rfl)
 have ht:JP n.net=0:=by assumption
 refine Yf (λ(k:Nat)=>[(4,.int .i64 k),(1,.pointer (some ⟨g,0,none⟩))]) (λ_=>netB g n::H) (λk=>k<=n.links.length/\JI n.net n.links.length 0=JI n.net (n.links.length-k) k) (λk=>n.links.length-k) 0 ⟨Tc _,rfl⟩ ?_ (λw hw=>hw) ?_
 ·exact zc1
 rintro k ⟨hk,hi⟩ K hK
 by_cases hlt:k<n.links.length
 ·skip
  repeat'(first|((first|apply Ya Ysh|apply Yb Ysh);exact za;exact rfl;exactλ_ hw=>(Yj7 n k hin.cons hlt (by omega) ht (by omega) hw))|refine zgd ?_|(refine zge ?_ ?_<;>intro _<;>try exact zo)|fail)
  ·exact zc48
  ·apply hK (k+1)
   ·exact Ytm
   ·omega
   ·exact zc1
   exact zc20
 ·refine zX1 ?_<;>intros
  exact zc53
theorem VF(n:NetM)(a b:Int)(hin:n.In B w0 H)(hw:St B w0 H w):
 CX B w0 414 [n.val,.int .i64 a,.int .i64 b] w λv K=>v=.int .i64 (Yu n.net a b)/\K=H:=by
 refine Yc Tryz.func414 Tryz.ntmps414 rfl rfl hw ?_
 obtain⟨hpw,hrw,hlk,hmg,hs1,hs2,hs3,hs4⟩:=id hin
 have ef:Yu n.net a b=Yq (Ur a b) n.links 0:=rfl
 rw[ef]
 (apply Y0;apply YL;apply Yy;exact rfl;exact rfl;intro g)
 refine zX7 ?_
 refine Yf (λ(k:Nat)=>[(7,.int .i64 k),(3,.pointer (some ⟨g,0,none⟩)),(1,.int .i64 a),(2,.int .i64 b)]) (λ_=>netB g n::H) (λk=>k<=n.links.length/\Yq (Ur a b) n.links 0=Yq (Ur a b) (n.links.drop k) k) (λk=>n.links.length-k) 0 ⟨Tc _,by simp⟩ ?_ (λw hw=>hw) ?_
 ·exact zc1
 rintro k ⟨hk,hi⟩ K hK
 by_cases hlt:k<n.links.length
 ·obtain⟨l,hl⟩:∃l,n.links[k]? =some l:=⟨_,Ta hlt⟩
  rw[ZX _ n.links hl]at hi
  repeat'(first|refine zgd ?_|(refine zge ?_ ?_<;>intro _<;>try exact zo)|fail)
  ·rw[Tm (by simp_all [Ur])]at hi
   exact zc70
  all_goals(
   rw[Tf (by simp_all [Ur])]at hi
   apply hK (k+1)
   ·exact⟨by omega,hi⟩
   ·omega
   ·exact zu
   ·exactλw hw=>hw)
 ·refine zX1 ?_<;>intros
  exact zc45
end Go.Proofs.YtjlgijpmnfabcaaGreatDoor
namespace Go.Eng
open Go.RowKit
section
variable {P:Program}{m:Mode}{n:Shp}{B:Nat}{w0:World}{ops:Array Oper}{Q:Exit->Act->World->Prop}{rest:List Oper}{env:Env}{H:List HP}{d:Nat}{ty:TypeId}{pos:String}{after:Array Edge}{x y u:Operand}
def Yf1(P:Program)(t:TypeId):Bool:=match P.underlying t with|some (.int _)=>true|_=>false
theorem YaW{t:TypeId}(h:Yf1 P t=true):∃k,P.underlying t=some (.int k):=by
 unfold Yf1 at h
 grind
theorem UH(T:Tab P){tx k c:Nat}{A:Option Addr}{es:Nat×Nat×Nat}(hx:evo env x=some (.slice A k c))(ht:look T.sl tx=some es)(hn:Nat.ble (d+1) n.k=true)(h:VL P m n B w0 ops Q rest ((d,.int .i64 c)::env) H):
 VL P m n B w0 ops Q (⟨some d,.call ⟨.builtin .cap,#[x],#[tx]⟩,ty,pos,after,none⟩::rest) env H:=by
 obtain⟨e,size,bytes⟩:=es
 obtain⟨hu,_⟩:=YR (T.slic ht)
 exact YP rfl rfl hn rfl (λa w ha _=>by simp[execOp,resolve,invoke,builtin,ha.eval hx,Builtin.cap_,run_underlying hu];rfl) h
end
variable {w:World}{K:List HP}
theorem St.putObj{B:Nat}{w0:World}{H:List HP}{g:Nat}{o o':Obj}(h:St B w0 H w)(u:Upd (Eng.blk g o) (Eng.blk g o') H K):St B w0 K (w.putObj g o'):=by
 have hlt:g<w.heap.size:=by
  obtain⟨L1,L2,rfl,_⟩:=u
  exact(h.blk (g:=g) (o:=o) (by simp)).2.2
 refine h.upd u rfl rfl rfl (by simp_all) λS1 ⟨h1,_⟩=>⟨⟨h1,World.putObj_heap_same hlt⟩,λb hb _=>World.putObj_heap_other λe=>hb (e▸h1)⟩
theorem Ypd(X:HP)(Y M:List HP):Perm (Y++X::M) (X::(Y++M)):=by
 induction Y with
 |nil=>exact .refl _
 |cons A Y ih=>exact(ih.cons A).trans (.swap A X _)
theorem YmZ(X:HP)(Y M:List HP):Perm (X::(Y++M)) (Y++X::M):=by
 induction Y with
 |nil=>exact .refl _
 |cons A Y ih=>exact(Perm.swap X A _).trans (ih.cons A)
theorem Yic(Y:List HP){L M:List HP}(p:Perm L M):Perm (Y++L) (Y++M):=by
 induction Y with
 |nil=>exact p
 |cons A Y ih=>exact ih.cons A
def YbW(P:Program)(l:Nat)(args:List Value)(B:Nat)(w0:World)(H:List HP)(Φt Φf:List HP->Prop):Prop:=
 ∀w,St B w0 H w->YieldAt Fence.wide 0 P l args.toArray w λe w'=>
  (e=.returned (.bool true)/\∃K,Φt K/\St B w0 K w')\/(e=.returned (.bool false)/\∃K,Φf K/\St B w0 K w')
def YbI(P:Program)(gf:Nat)(lb:List Value)(xs:List (List Value))(B:Nat)(w0:World)(HI:List HP):Prop:=
 ∀(l:Nat) (S:Nat->List HP->Prop) (X:List HP->Prop),
  (∀(i:Nat) (args:List Value),xs[i]? =some args->∀(Y L:List HP),S i L->
   YbW P l args B w0 (Y++many L::HI) (λK=>∃L',S (i+1) L'/\K=Y++many L'::HI) (λK=>∃L',X L'/\K=Y++many L'::HI))->
  ∀L0,S 0 L0->∀w,St B w0 (many L0::HI) w->
   CallsIn Fence.wide 0 P gf (.func (.yield l) #[] #[]::lb).toArray w (Post B w0 λ_ K=>(∃L,S xs.length L/\K=many L::HI)\/∃L,X L/\K=many L::HI)
def jump:Exit->Option Code
 |.ret=>some .ret
 |.exit id=>some (.exit id)
 |_=>none
def Ykt{α:Type}(B:Nat)(w0:World)(R:HP)(HI:List HP)(I:α->Prop)(HH:α->List HP)(X:Exit->List HP->Prop):Exit->Act->World->Prop
 |.normal,_,w=>∃y,I y/\St B w0 (R::(HH y++HI)) w
 |.ret,_,w=>∃K,X .ret K/\St B w0 (R::(K++HI)) w
 |.exit id,_,w=>∃K,X (.exit id) K/\St B w0 (R::(K++HI)) w
 |_,_,_=>False
def Yks{α:Type}(P:Program)(l B:Nat)(w0:World)(body:Code)(R:HP)(HI:List HP)(I:α->Prop)(HH:α->List HP)(X:Exit->List HP->Prop):Exit->Act->World->Prop
 |.normal,a,w=>∃K,St B w0 (R::K) w/\∀R' w',St B w0 (R'::K) w'->wpR P (some l) body (Ykt B w0 R' HI I HH X) a w'
 |_,_,_=>False
def U0:List Nat->List Value->Env->Env
 |p::ps,v::vs,e=>U0 ps vs ((p,v)::e)
 |_,_,e=>e
section
variable {P:Program}{B:Nat}{w0:World}{Q:Exit->Act->World->Prop}{env:Env}{H:List HP}{k:Nat}
variable {α:Type}{l gf n:Nat}{body c:Code}{R:HP}{HI K:List HP}{X:Exit->List HP->Prop}
theorem Vj{I:α->Prop}{HH:α->List HP}(hr:Rem R H K)
 (h:∀R',VC P ⟨k,[],some l⟩ B w0 body (Ykt B w0 R' HI I HH X) env (R'::K)):VQ ⟨k,[],some l⟩ B w0 (Yks P l B w0 body R HI I HH X) .normal env H:=
 ⟨λa _ ha hw=>⟨K,hw.perm hr,λR' w' hw'=>(h R').run a w' ha hw'⟩⟩
theorem UK{n:Shp}{I:α->Prop}{HH:α->List HP}(y:α)(hI:I y)(hH:∀w,St B w0 H w->St B w0 (R::(HH y++HI)) w):
 VQ n B w0 (Ykt B w0 R HI I HH X) .normal env H:=⟨λ_ w _ hw=>⟨y,hI,hH w hw⟩⟩
theorem Qg{n:Shp}{I:α->Prop}{HH:α->List HP}(K:List HP)(hX:X .ret K)(hH:∀w,St B w0 H w->St B w0 (R::(K++HI)) w):
 VQ n B w0 (Ykt B w0 R HI I HH X) .ret env H:=⟨λ_ w _ hw=>⟨K,hX,hH w hw⟩⟩
theorem Yht:∀(ps:List Nat) (vs:List Value) (t:Array Value) (e:Env),t.size=k->(∀s v,get e s=some v->t[s]? =some v)->ps.all (λp=>Nat.ble (p+1) k)=true->ps.length=vs.length->
 ((ps.zip vs).foldl (λt (x:Nat×Value)=>t.setIfInBounds x.1 x.2) t).size=k/\∀s v,get (U0 ps vs e) s=some v->((ps.zip vs).foldl (λt (x:Nat×Value)=>t.setIfInBounds x.1 x.2) t)[s]? =some v
 |[],[],t,e,hs,hg,_,_=>⟨hs,hg⟩
 |p::ps,v::vs,t,e,hs,hg,hp,hl=>by
  simp only[Ni,Tt]at hp
  have hlt:=TV hp.1
  refine Yht ps vs (t.setIfInBounds p v) ((p,v)::e) (by simp_all) (λs u hu=>?_) hp.2 (by simp_all)
  by_cases e2:p=s
  ·subst e2
   rw[get,Tm rfl]at hu
   grind
  simp_all [get]
variable {ds:List Deferred}{lb:List Value}{xs:List (List Value)}
theorem ZI{g:Operand}{ps:List Nat}{assign:Code}(HI:List HP)(HH:α->List HP)(I:Nat->α->Prop)(X:Exit->List HP->Prop)(x0:α)
 (hg:evo env g=some (.func (.func gf) #[] lb.toArray)) (hc:∀xs w,(callFunc gf xs).run P w=.ok (.enter gf xs) w) (hiter:YbI P gf lb xs B w0 HI)
 (hps:ps.all (λp=>Nat.ble (p+1) k)=true) (hlen:∀args∈xs,args.length=ps.length) (hca:calm assign=true) (hcb:calm body=true)
 (hH:∀w,St B w0 H w->St B w0 (HH x0++HI) w) (h0:I 0 x0)
 (hround:∀(l i:Nat) (args:List Value) (R:HP) (x:α),xs[i]? =some args->I i x->VC P ⟨k,[],some l⟩ B w0 assign (Yks P l B w0 body R HI (I (i+1)) HH X) (U0 ps args env) (R::(HH x++HI)))
 (hdone:∀D x,I xs.length x->VQ ⟨k,⟨.collected D,#[]⟩::ds,none⟩ B w0 Q .normal env (blk D (.deferred (some []))::(HH x++HI)))
 (hstop:∀D e K,X e K->(jump e).isSome=true->VQ ⟨k,⟨.collected D,#[]⟩::ds,none⟩ B w0 Q e env (blk D (.deferred (some []))::(K++HI))):
 VC P ⟨k,ds,none⟩ B w0 (.rangeFunc g ps.toArray assign body) Q env H:=by
 refine⟨λa w ha hw=>?_⟩
 show(Code.rangeFunc g ps.toArray assign body).wp P Q a w
 refine(wpIn_wide (n:=0)).1 (wpIn_rangeFunc ?_)
 intro fn _
 obtain⟨rec,hrec⟩:∃rec:LoopState->Option Code->Loop,rec=λst pe=>{state:=st,pending:=pe,fn,tmps:=a.tmps,params:=ps.toArray,assign,body,defers:=w.heap.size}:=⟨_,rfl⟩
 have hst:=((hH w hw).alloc (.deferred (some []))).alloc (.loop (rec .ready none))
 rw[World.size_alloc]at hst
 obtain⟨l,hl⟩:∃l,w.heap.size+1=l:=⟨_,rfl⟩
 obtain⟨D,hD⟩:∃D,w.heap.size=D:=⟨_,rfl⟩
 rw[hl,hD]at hst
 obtain⟨W1,hW1⟩:∃W1,(w.alloc (.deferred (some []))).alloc (.loop (rec .ready none))=W1:=⟨_,rfl⟩
 rw[hW1]at hst
 refine⟨l,[⟨.collected D,#[]⟩],W1,{target:=.fn (.func gf) lb.toArray,args:=#[.func (.yield l) #[] #[]]},W1,gf,(.func (.yield l) #[] #[]::lb).toArray,W1,?_,?_,?_,?_,λh=>by simp[Fence.wide]at h,?_⟩
 ·simp_all [run_enterLoop_outer]
 ·simp only[resolve,ha.eval hg]
  simp[go_sem]
 ·intro f' _;trivial
 ·grind [invoke]
 ·refine CallsIn.mono (hiter l (λi L=>∃x,I i x/\L=blk l (.loop (rec .ready none))::blk D (.deferred (some []))::HH x)
   (λL=>∃e K c,X e K/\jump e=some c/\L=blk l (.loop (rec .done (some c)))::blk D (.deferred (some []))::K) ?_ _ ⟨x0,h0,rfl⟩ _ (hst.perm (.close (blk l (.loop (rec .ready none))::blk D (.deferred (some []))::HH x0) HI))) ?_
  ·--one round
   rintro i args hx Y L ⟨x,hI,rfl⟩ W hW
   have hp1:∀(lp:Loop) (M:List HP),Perm (Y++many (blk l (.loop lp)::blk D (.deferred (some []))::M)::HI) (many (Y++[blk l (.loop lp),blk D (.deferred (some []))])::(M++HI)):=λlp M=>by
    refine(Yic Y (.open_ _ _)).trans ?_
    have:Y++((blk l (.loop lp)::blk D (.deferred (some []))::M)++HI)=(Y++[blk l (.loop lp),blk D (.deferred (some []))])++(M++HI):=by simp
    rw[this]
    exact .close _ _
   have hp2:∀(lp:Loop) (M:List HP),Perm (many (Y++[blk l (.loop lp),blk D (.deferred (some []))])::(M++HI)) (Y++many (blk l (.loop lp)::blk D (.deferred (some []))::M)::HI):=λlp M=>by
    refine Perm.trans (.open_ _ _) ?_
    have:(Y++[blk l (.loop lp),blk D (.deferred (some []))])++(M++HI)=Y++((blk l (.loop lp)::blk D (.deferred (some []))::M)++HI):=by simp
    rw[this]
    exact Yic Y (.close _ _)
   have hpf:∀(lp:Loop) (M:List HP),Perm (many (Y++[blk l (.loop lp),blk D (.deferred (some []))])::M) (blk l (.loop lp)::(Y++blk D (.deferred (some []))::M)):=λlp M=>by
    refine Perm.trans (.open_ _ _) ?_
    have:(Y++[blk l (.loop lp),blk D (.deferred (some []))])++M=Y++blk l (.loop lp)::(blk D (.deferred (some []))::M):=by simp
    rw[this]
    exact Ypd _ _ _
   have hpb:∀(lp:Loop) (M:List HP),Perm (blk l (.loop lp)::(Y++blk D (.deferred (some []))::M)) (many (Y++[blk l (.loop lp),blk D (.deferred (some []))])::M):=λlp M=>by
    refine Perm.trans (YmZ _ _ _) ?_
    have:Y++blk l (.loop lp)::(blk D (.deferred (some []))::M)=(Y++[blk l (.loop lp),blk D (.deferred (some []))])++M:=by simp
    rw[this]
    exact .close _ _
   have hW1:=hW.perm (hp1 _ _)
   have hW2:=hW1.perm (hpf _ _)
   have hlp:=(hW2.blk TM).1
   have hal:=hlen args (Td hx)
   have hy:=run_yield (P:=P) (args:=args.toArray) hlp (by rw[hrec];simp[hal])
   rw[hrec]at hy
   refine⟨fn,_,assign,body,hy,roundIn_of_wpIn trivial ?_⟩
   have hfit:=Yht ps args a.tmps env ha.size (λs v h=>ha.slot s v h) hps hal.symm
   have hz:(ps.toArray.zip args.toArray).foldl (λt (x:Nat×Value)=>t.setIfInBounds x.1 x.2) a.tmps=(ps.zip args).foldl (λt (x:Nat×Value)=>t.setIfInBounds x.1 x.2) a.tmps:=by
    rw[<-Array.foldl_toList];simp
   have hva:=(hround l i args (many (Y++[blk l (.loop (rec .ready none)),blk D (.deferred (some []))])) x hx hI).run
    {tmps:=(ps.toArray.zip args.toArray).foldl (λt (x:Nat×Value)=>t.setIfInBounds x.1 x.2) a.tmps,defers:=[]} W ⟨rfl,by rw[hz];exact hfit.1,λs v h=>by rw[hz];exact hfit.2 s v h⟩ hW1
   refine wpIn_mono (hva zc46 hca) ?_
   intro e a1 w1 hq
   cases e with
   |normal=>
    obtain⟨K,hK,hbody⟩:=hq
    have hK2:=hK.perm (hpf _ _)
    have hlp2:=(hK2.blk TM).1
    refine⟨_,run_beginRound hlp2 (by rw[hrec]),?_⟩
    have hK3:=(hK2.putObj (o':=.loop {rec .ready none with state:=.busy}) (.here _)).perm (hpb _ _)
    have hvb:=hbody _ _ hK3
    refine wpIn_mono (hvb zc46 hcb) ?_
    intro e a3 w3 hq3
    have fin:∀(jp:Option Code) (M:List HP),St B w0 (many (Y++[blk l (.loop {rec .ready none with state:=.busy}),blk D (.deferred (some []))])::(M++HI)) w3->
     ∃w4,(Instr.endRound l jp).run P w3=.ok (.bool jp.isNone) w4/\St B w0 (Y++many (blk l (.loop (rec (if jp.isNone then .ready else .done) jp))::blk D (.deferred (some []))::M)::HI) w4:=λjp M h3=>by
     have h4:=h3.perm (hpf _ _)
     have h5:=(h4.blk TM).1
     have h6:=run_endRound (P:=P) jp h5
     refine⟨_,h6,?_⟩
     have h7:=((h4.putObj (o':=.loop (rec (if jp.isNone then .ready else .done) jp)) (.here _)).perm (hpb _ _)).perm (hp2 _ _)
     rw[hrec]at h7⊢
     exact h7
    cases e with
    |normal=>
     obtain⟨y,hIy,h3⟩:=hq3
     obtain⟨w4,h5,h6⟩:=fin none _ h3
     exact⟨_,w4,h5,.inl ⟨rfl,_,⟨_,⟨y,hIy,rfl⟩,rfl⟩,h6⟩⟩
    |ret=>
     obtain⟨K3,hX3,h3⟩:=hq3
     obtain⟨w4,h5,h6⟩:=fin (some .ret) _ h3
     exact⟨_,w4,h5,.inr ⟨rfl,_,⟨_,⟨.ret,K3,.ret,hX3,rfl,rfl⟩,rfl⟩,h6⟩⟩
    |exit id=>
     obtain⟨K3,hX3,h3⟩:=hq3
     obtain⟨w4,h5,h6⟩:=fin (some (.exit id)) _ h3
     exact⟨_,w4,h5,.inr ⟨rfl,_,⟨_,⟨.exit id,K3,.exit id,hX3,rfl,rfl⟩,rfl⟩,h6⟩⟩
    |goto t=>exact hq3.elim
    |panic ch=>exact hq3.elim
    |outgrown=>exact hq3.elim
   |ret=>exact hq
   |exit id=>exact hq
   |goto t=>exact hq
   |panic ch=>exact hq
   |outgrown=>exact hq
  ·--behind the iterator
   rintro e W2 ⟨v,K,rfl,hst2,hK⟩
   have hpn:∀st pe,(rec st pe).pending=pe:=λst pe=>by rw[hrec]
   have hds:∀{M:List HP}{w':World},St B w0 M w'->Fits ⟨k,⟨.collected D,#[]⟩::ds,none⟩ {a with defers:=[⟨.collected D,#[]⟩]++a.defers} env:=λ_=>
    ⟨by rw[ha.defers];rfl,ha.size,ha.slot⟩
   rcases hK with⟨L,⟨x,hI,rfl⟩,rfl⟩|⟨L,⟨e,K,c,hX,hj,rfl⟩,rfl⟩
   ·have h1:=hst2.perm (.open_ _ _)
    have h2:=(h1.blk TM).1
    have h3:=run_endLoop (P:=P) h2 (by rw[hrec];simp)
    have h4:=(h1.putObj (o':=.loop {rec .ready none with state:=.exhausted}) (.here _)).tail
    refine⟨none,_,h3.trans (TD (λj=>Result.ok j _) (hpn _ _)),?_⟩
    exact(hdone D x hI).run _ _ (hds h4) h4
   ·have h1:=hst2.perm (.open_ _ _)
    have h2:=(h1.blk TM).1
    have h3:=run_endLoop (P:=P) h2 (by rw[hrec];simp)
    have h4:=(h1.putObj (o':=.loop {rec .done (some c)with state:=.exhausted}) (.here _)).tail
    refine⟨some c,_,h3.trans (TD (λj=>Result.ok j _) (hpn _ _)),?_⟩
    have h5:=(hstop D e K hX (by rw[hj];rfl)).run _ _ (hds h4) h4
    cases e with
    |ret=>obtain rfl:=Tz hj;exact wpIn_ret h5
    |exit id=>obtain rfl:=Tz hj;exact wpIn_exit h5
    |normal=>cases hj
    |goto t=>cases hj
    |panic ch=>cases hj
    |outgrown=>cases hj
variable {fn:Func}{w:World}
theorem ZH{f:FuncId}{args:List Value}{Φ:Value->List HP->Prop}(hf:P.funcs[f]? =some fn)(hn:fn.ntmps=n)(hb:fn.body=some c)
 (hle:Nat.ble args.length n=true) (hw:St B w0 H w) (h:VC P ⟨n,[],none⟩ B w0 c (bodyPostM Fence.wide 0 P fn (Post B w0 Φ)) (Wz 0 args) H):Calls P f args.toArray w (Post B w0 Φ):=by
 refine(callsIn_wide (n:=0)).1 (callsIn_of_wp_marks hf hb trivial ((wpIn_wide (n:=0)).2 (h.run _ w ⟨rfl,?_,λt v ht=>?_⟩ hw)))
 ·simp_all
 exact YtI
theorem YhQ{R:Ending->World->Prop}{a:Act}(h:bodyPost P fn R .ret a w):bodyPostM Fence.wide 0 P fn R .ret a w:=by
 obtain⟨h1,h2⟩:=h
 show LeavesInM Fence.wide 0 P fn a.tmps R a.defers .returning w
 rw[h1]
 exact h2
theorem VQ_m{R:Ending->World->Prop}(h:VQ ⟨n,[],none⟩ B w0 (bodyPost P fn R) .ret env H):VQ ⟨n,[],none⟩ B w0 (bodyPostM Fence.wide 0 P fn R) .ret env H:=
 ⟨λa w ha hw=>YhQ (h.run a w ha hw)⟩
theorem Z0{D:Nat}{R:Ending->World->Prop}{H':List HP}(hr:Rem (blk D (.deferred (some []))) H H')(h:VQ ⟨n,ds,none⟩ B w0 (bodyPostM Fence.wide 0 P fn R) .ret env H'):
 VQ ⟨n,⟨.collected D,#[]⟩::ds,none⟩ B w0 (bodyPostM Fence.wide 0 P fn R) .ret env H:=by
 refine⟨λa w ha hw=>?_⟩
 show LeavesInM Fence.wide 0 P fn a.tmps R a.defers .returning w
 rw[ha.defers]
 have hw2:=hw.perm hr
 have hb:=(hw2.blk TM).1
 refine⟨by simp,.inl ⟨D,_,rfl,run_takeDeferred hb,?_⟩⟩
 have h3:=(hw2.putObj (o':=.deferred none) (.here _)).tail
 exact h.run {a with defers:=ds} _ ⟨rfl,ha.size,ha.slot⟩ h3
theorem WO{ops:Array Oper}(hlo:¬LetsOut Q):∀(os:List Oper) (a:Act) (w:World),wpList P ops Q os a w->wpListIn Fence.wide 0 P ops Q os a w
 |[],_,_,h=>h
 |o::os,a,w,h=>by
  unfold wpList at h
  unfold wpListIn
  split
  ·rename_i hw
   rw[Tm hw]at h
   rcases h with h|⟨_,h⟩
   ·refine⟨λf _=>trivial,?_⟩
    have h2:=Oper.wp_mono (λa w h=>WO hlo os a w h) h
    unfold Oper.wp at h2
    have hs:Oper.semAt Fence.wide.round a.eval o=execOp a.eval o:=Oper.semAt_none _ _
    rw[hs]
    generalize(execOp a.eval o).run P w=res at h2⊢
    cases res with
    |ok x w'=>
     exact zc35
    |halt x w'=>exact zc75
   simp_all
  ·rename_i hw
   rw[Tf hw]at h
   exact⟨λf _=>trivial,WO hlo os _ w h⟩
def YQ(P:Program)(ops:Array Oper)(Q:Exit->Act->World->Prop)(l:List Oper):Exit->Act->World->Prop
 |.normal,a,w=>wpListIn Fence.wide 0 P ops Q l a w
 |e,a,w=>Q e a w
theorem YcQ{ops:Array Oper}{l:List Oper}(hlo:¬LetsOut Q):∀(os:List Oper) (a:Act) (w:World),wpList P ops (YQ P ops Q l) os a w->wpListIn Fence.wide 0 P ops Q (os++l) a w
 |[],_,_,h=>h
 |o::os,a,w,h=>by
  unfold wpList at h
  rw[TF]
  unfold wpListIn
  split
  ·rename_i hw
   rw[Tm hw]at h
   rcases h with h|⟨_,h⟩
   ·refine⟨λf _=>trivial,?_⟩
    have h2:=Oper.wp_mono (λa w h=>YcQ hlo os a w h) h
    unfold Oper.wp at h2
    have hs:Oper.semAt Fence.wide.round a.eval o=execOp a.eval o:=Oper.semAt_none _ _
    rw[hs]
    generalize(execOp a.eval o).run P w=res at h2⊢
    cases res with
    |ok x w'=>
     exact zc35
    |halt x w'=>exact zc75
   ·exact(hlo h).elim
  ·rename_i hw
   rw[Tf hw]at h
   exact⟨λf _=>trivial,YcQ hlo os _ w h⟩
theorem YbL{id:Nat}{l:List Oper}(k:Nat){l1 l2:List Oper}(h1:l.take k=l1)(h2:l.drop k=l2)(hlo:¬LetsOut Q)(h:VL P none ⟨n,ds,none⟩ B w0 l.toArray (YQ P l.toArray Q l2) l1 env H):
 VC P ⟨n,ds,none⟩ B w0 (.region id l.toArray false) Q env H:=by
 refine⟨λa w ha hw=>?_⟩
 refine(wpIn_wide (n:=0)).1 (wpIn_region_lit ?_)
 have:=YcQ hlo _ _ _ (h.run a ha w hw)
 grind [RG]
variable {ops:Array Oper}{ty:TypeId}{pos:String}{after:Array Edge}{rest:List Oper}
theorem YbV{d:Nat}{x:Operand}{args:List Operand}{tys:Array TypeId}{gd:Option (Nat×Bool)}{vs:List Value}(Φt Φf:List HP->Prop)
 (hgd:∀a:Act,Fits ⟨n,ds,none⟩ a env->Region.wanted ⟨some d,.call ⟨.value x,args.toArray,tys⟩,ty,pos,after,gd⟩ (yielded ops a.tmps)=true)
 (hx:evo env x=some (.func (.yield l) #[] #[])) (hargs:Args env args vs) (hn:Nat.ble (d+1) n=true) (hlo:¬LetsOut Q) (hy:YbW P l vs B w0 H Φt Φf)
 (ht:∀K,Φt K->VL P none ⟨n,ds,none⟩ B w0 ops Q rest ((d,.bool true)::env) K)
 (hf:∀K,Φf K->VL P none ⟨n,ds,none⟩ B w0 ops Q rest ((d,.bool false)::env) K):
 VQ ⟨n,ds,none⟩ B w0 (YQ P ops Q (⟨some d,.call ⟨.value x,args.toArray,tys⟩,ty,pos,after,gd⟩::rest)) .normal env H:=by
 refine⟨λa w ha hw=>?_⟩
 show wpListIn Fence.wide 0 P ops Q _ a w
 unfold wpListIn
 rw[Tm (hgd a ha)]
 refine⟨λf _=>trivial,?_⟩
 obtain⟨fn,tmps,assign,body,hrun,hround⟩:=hy w hw
 have hmap:args.toArray.map a.eval=vs.toArray:=by grind [V1]
 have hs:Oper.semAt Fence.wide.round a.eval ⟨some d,.call ⟨.value x,args.toArray,tys⟩,ty,pos,after,gd⟩=execOp a.eval ⟨some d,.call ⟨.value x,args.toArray,tys⟩,ty,pos,after,gd⟩:=Oper.semAt_none _ _
 rw[hs]
 have hex:(execOp a.eval ⟨some d,.call ⟨.value x,args.toArray,tys⟩,ty,pos,after,gd⟩).run P w=.ok (.round l fn tmps assign body) w:=zc36
 rw[hex,Oper.uponIn_round]
 refine⟨λhd=>by simp[Fence.wide]at hd,RoundIn.mono hround ?_⟩
 rintro e w' (⟨rfl,K',hΦ,hst⟩|⟨rfl,K',hΦ,hst⟩)
 ·exact WO hlo _ _ _ ((ht K' hΦ).run _ (ha.put (TV hn) _) _ hst)
 ·exact WO hlo _ _ _ ((hf K' hΦ).run _ (ha.put (TV hn) _) _ hst)
theorem YgY{o:Oper}(hlo:¬LetsOut Q)(h:VL P none ⟨n,ds,none⟩ B w0 ops Q (o::rest) env H):VQ ⟨n,ds,none⟩ B w0 (YQ P ops Q (o::rest)) .normal env H:=
 ⟨λa w ha hw=>WO hlo _ _ _ (h.run a ha w hw)⟩
variable {dst:Option Tmp}{op:Op}
theorem Ybe:∀a:Act,Fits ⟨n,ds,none⟩ a env->Region.wanted ⟨dst,op,ty,pos,after,none⟩ (yielded ops a.tmps)=true:=by grind [Go.Region.wanted]
theorem Ybf{j s:Nat}{b:Bool}{oj:Oper}(hj:ops[j]? =some oj)(hs:oj.dst=some s)(hv:get env s=some (.bool b)):
 ∀a:Act,Fits ⟨n,ds,none⟩ a env->Region.wanted ⟨dst,op,ty,pos,after,some (j,b)⟩ (yielded ops a.tmps)=true:=λa ha=>by simp[Region.wanted,yielded,hj,hs,ha.slot s _ hv]
theorem YbJ(hf:P.funcs[gf]? =some fn)(hn:fn.ntmps=n)(hb:fn.body=some c)(hle:Nat.ble (lb.length+1) n=true)
 (h:∀(l:Nat) (S:Nat->List HP->Prop) (X:List HP->Prop),
  (∀(i:Nat) (args:List Value),xs[i]? =some args->∀(Y L:List HP),S i L->
   YbW P l args B w0 (Y++many L::HI) (λK=>∃L',S (i+1) L'/\K=Y++many L'::HI) (λK=>∃L',X L'/\K=Y++many L'::HI))->
  ∀L0,S 0 L0->VC P ⟨n,[],none⟩ B w0 c (bodyPost P fn (Post B w0 λ_ K=>(∃L,S xs.length L/\K=many L::HI)\/∃L,X L/\K=many L::HI)) (Wz 0 (.func (.yield l) #[] #[]::lb)) (many L0::HI)):YbI P gf lb xs B w0 HI:=by
 intro l S X hy L0 h0 w hw
 exact callsIn_wide.2 (Yc (args:=.func (.yield l) #[] #[]::lb) hf hn hb hle hw (h l S X hy L0 h0))
end
end Go.Eng
namespace Go.Proofs.YtjlgijpmnfabcaaGreatDoor
open Go.RowKit Go.Eng Go.Nw
variable {B i:Nat}{w0 w:World}{H:List HP}
theorem W3(n:NetM)(s d:Int)(hok:Ok n.net)(hs:0<=s/\s<=8796093022208)(hd:0<=d/\d<=8796093022208)(hw:St B w0 H w):
 CX B w0 417 [n.val,.int .i64 s,.int .i64 d] w λv K=>v=.bool (XJ n.net s d)/\K=H:=by
 refine Yc Tryz.func417 Tryz.ntmps417 rfl rfl hw ?_
 exact zc17
def YX(n:Net)(a b:Int):Bool:=decide (0<=Yu n a b)&&(decide (0<=Yu n b a)&&(XJ n (mar n (Yu n a b).toNat) 0&&XJ n (mar n (Yu n b a).toNat) 0))
theorem Yao(n:NetM)(a b:Int)(hin:n.In B w0 H)(hok:Ok n.net)(hw:St B w0 H w):
 CX B w0 382 [n.val,.int .i64 a,.int .i64 b] w λv K=>v=.bool (YX n.net a b)/\K=H:=by
 refine Yc Tryz.func382 Tryz.ntmps382 rfl rfl hw ?_
 obtain⟨hpw,hrw,hlk,hmg,hs1,hs2,hs3,hs4⟩:=id hin
 have hml:n.margin.length=n.links.length:=hok.k1
 unfold YX
 by_cases h1:0<=Yu n.net a b
 rotate_left
 ·rw[Tj h1]
  refine zX22 ?_<;>intros
  all_goals((repeat apply Yk);exact zc3)
 rw[Ti h1]
 by_cases h2:0<=Yu n.net b a
 rotate_left
 ·rw[Tj h2]
  refine zX22 ?_<;>intros
  all_goals((repeat apply Yk);exact zc3)
 rw[Ti h2]
 have hl1:(Yu n.net a b).toNat<n.links.length:=XM h1
 have hl2:(Yu n.net b a).toNat<n.links.length:=XM h2
 obtain⟨x,hx⟩:∃y,n.margin[(Yu n.net a b).toNat]? =some y:=⟨_,Ta (by omega)⟩
 obtain⟨y,hy⟩:∃y,n.margin[(Yu n.net b a).toNat]? =some y:=⟨_,Ta (by omega)⟩
 have e1:mar n.net (Yu n.net a b).toNat=x:=Om hx
 have e2:mar n.net (Yu n.net b a).toNat=y:=Om hy
 have hxb:=O6 hok hl1
 have hyb:=O6 hok hl2
 rw[e1]at hxb
 rw[e2]at hyb
 rw[e1,e2]
 repeat'(first|((first|apply Ya Wn|apply Yb Wn);exact za;exact rfl;exactλ_ hw=>(VF n _ _ hin.cons hw))|((first|apply Yx YaK|apply Yw YaK);exact za;exact rfl;exactλ_ hw=>(W3 n _ _ hok (by omega) (by omega) hw);all_goals(intro hB;(try simp only[To,Tv]at hB);try exact zo))|(apply zg28;refine zs84 ?_)|refine zgd ?_|(refine zgf ?_ ?_<;>intro _<;>try exact zo)|(refine zgh ?_;intro _)|fail)
 all_goals((repeat apply Yk);apply Yd;exact rfl;exact rfl;refine⟨?_,rfl⟩;simp_all)
variable {n:Net}
theorem Yms(h:Ok n)(hi:i<n.links.length):Yu n (lnk n i).1 (lnk n i).2.1=i:=by
 have h1:∀j,j<i->cmpL (lnk n j) ((lnk n i).1,(lnk n i).2.1,(lnk n i).2.2)<0:=λj hj=>Ydk h j i hj hi
 have h2:∀j,i<=j->j<n.links.length->0<=cmpL (lnk n j) ((lnk n i).1,(lnk n i).2.1,(lnk n i).2.2):=λj hj hl=>by
  by_cases e:i=j
  ·subst e
   have:cmpL (lnk n i) ((lnk n i).1,(lnk n i).2.1,(lnk n i).2.2)=0:=Uj.2 ⟨rfl,rfl⟩
   omega
  ·have h3:=Ydk h i j (by omega) hl
   have h4:¬cmpL (lnk n j) ((lnk n i).1,(lnk n i).2.1,(lnk n i).2.2)<0:=by
    grind [Vu]
   omega
 rw[Yhq h (Nat.le_of_lt hi) h1 h2,Tm ⟨hi,Uj.2 ⟨rfl,rfl⟩⟩]
theorem Ybd(h:Ok n)(hi:i<n.links.length):Z3 n i=YX n (lnk n i).1 (lnk n i).2.1:=by
 grind [Z3,YX,Yms]
def YM(c:Cel):Int:=c.2.2.1
def toC(c:Cel):Int:=c.2.2.2.1
def Zw(c:Cel):Int:=c.2.2.2.2
def YE(a b:Cel):Bool:=decide (YM a=YM b\/YM a=toC b\/toC a=YM b\/toC a=toC b)
theorem Z7(a b:Cel):YE a b=YE b a:=by
 unfold YE
 grind
def Zu(n:Net)(l:List Flw)(s:Sch)(i:Nat):Int:=
 if XE s (Yn s i)=false then 2
 else if YX n (YM (Yn s i)) (toC (Yn s i))=false\/Zv l (Zw (Yn s i))<0 then 7
 else if 0<i/\Xn (Yn s (i-1)) (Yn s i)=false then 5 else 0
def XV(s:Sch)(i:Nat):Bool:=(List.range i).any λk=>decide ((Yn s k).1=(Yn s i).1)&&YE (Yn s i) (Yn s k)
def Xb(c d:Cel):Bool:=decide (d.1=c.1/\d.2.1=c.2.1)
def YI(s:Sch)(i:Nat):List Cel:=s.cells.filter (Xb (Yn s i))
def YJ(s:Sch)(i:Nat):Nat:=((s.cells.take i).filter (Xb (Yn s i))).length
def celL(l:List Cel)(i:Nat):Cel:=l.getD i (0,0,0,0,0)
def powN(n:Net)(a b:Int):Int:=if insE a n.nodes=true/\insE b n.nodes=true then powr n a b else 0
def Yz(n:Net)(l:List Cel)(j:Nat)(node:Int):Nat->Int
 |0=>0
 |k+1=>Yz n l j node k+if k=j then 0 else powN n (YM (celL l k)) node+powN n (toC (celL l k)) node
def V8(n:Net)(c:Cel):Bool:=!(insE (YM c) n.nodes)||!(insE (toC c) n.nodes)
def Ul(n:Net)(l:List Cel)(i node:Int):Int:=
 if Ym n≠0\/i<0\/l.length<=i\/insE node n.nodes=false\/l.any (V8 n)=true then 0 else Yz n l i.toNat node l.length
def ZV(n:Net)(s:Sch)(i:Nat):Bool:=
 !(Zh n (mar n (Yu n (YM (Yn s i)) (toC (Yn s i))).toNat) (Ul n (YI s i) (YJ s i) (toC (Yn s i))))||!(Zh n (mar n (Yu n (toC (Yn s i)) (YM (Yn s i))).toNat) (Ul n (YI s i) (YJ s i) (YM (Yn s i))))
def Xs(n:Net)(l:List Flw)(s:Sch):Int:=
 if Ym n≠0 then 1 else if(YA n.nodes l).2≠0 then 1 else if XU s=false then 2
 else if(l.any λf=>decide (s.len.tmod f.2.2.2.1≠0))=true then 11 else if 512<s.cells.length then 8 else 0
def XT(n:Net)(l:List Flw)(s:Sch):Int×Int:=YC (Zu n l s) s.cells.length 0
def Zj(s:Sch):Int×Int:=YC (λi=>if XV s i=true then 6 else 0) s.cells.length 0
def Ycd(n:Net)(s:Sch):Int×Int:=YC (λi=>if ZV n s i=true then 16 else 0) s.cells.length 0
def schE(n:Net)(l:List Flw)(s:Sch):Int×Int:=
 if Xs n l s≠0 then(-1,Xs n l s)else if(XT n l s).2≠0 then XT n l s else if(Zj s).2≠0 then Zj s else Ycd n s
def Vh(n:Net)(l:List Cel)(i:Nat):Bool:=
 !(YX n (YM (celL l i)) (toC (celL l i)))||((List.range l.length).any λk=>decide (k≠i)&&YE (celL l i) (celL l k))
   ||(!(XJ n (mar n (Yu n (YM (celL l i)) (toC (celL l i))).toNat) (Yz n l i (toC (celL l i)) l.length))||!(XJ n (mar n (Yu n (toC (celL l i)) (YM (celL l i))).toNat) (Yz n l i (YM (celL l i)) l.length)))
def Ygh(n:Net)(s:Sch):Int×Int:=YC (λi=>if Vh n (YI s i) (YJ s i)=true then 16 else 0) s.cells.length 0
def Yff(n:Net)(l:List Flw)(s:Sch):Int×Int:=
 if Xs n l s≠0 then(-1,Xs n l s)else if(XT n l s).2≠0 then XT n l s else if(Zj s).2≠0 then Zj s else Ygh n s
variable {n:Net}
theorem Xr(h:Ok n){u v:Int}(hg:YX n u v=true):(0<=u/\u<n.nodes)/\(0<=v/\v<n.nodes)/\u≠v/\0<=Yu n u v/\0<=Yu n v u:=by
 unfold YX at hg
 simp only[Tt,To]at hg
 obtain⟨h1,h2,_⟩:=hg
 obtain⟨k1,k2⟩:=WJ h1
 have:=h.lk _ (XM h1)
 have a1:=this.f0;have a2:=this.f1;have a3:=this.t0;have a4:=this.t1;have a5:=this.ne
 omega
theorem YiP(h:Ym n=0)(a b:Int):JQ n (Zb n a b)=YX n a b:=by
 have hok:=YN h
 unfold JQ Zb
 by_cases h0:0<=Yu n a b
 ·have hl:=XM h0
  simp_all [Ybd,WJ]
 simp_all [decide_eq_false,YX]
variable {s:Sch}{i:Nat}
theorem W5(h:i<s.cells.length):(YI s i)[YJ s i]? =some (Yn s i):=by
 have h1:=YS h
 have hsp:s.cells=s.cells.take i++Yn s i::s.cells.drop (i+1):=by
  grind [SU,RG]
 unfold YI YJ
 have hp:Xb (Yn s i) (Yn s i)=true:=by grind [Xb]
 grind
structure Fine(n:Net)(s:Sch):Prop where
 good:∀c∈s.cells,YX n (YM c) (toC c)=true
 once:s.cells.Pairwise λa b=>a.1=b.1->YE a b=false
theorem YfU{l:List Flw}(h1:(XT n l s).2=0)(h2:(Zj s).2=0):Fine n s:=by
 have k1:=YF.1 h1
 have k2:=YF.1 h2
 constructor
 ·exact zc68
 ·refine TT.2 λi j hi hj hij hs=>?_
  have:=k2 j (Tc _) (by omega)
  have e1:Yn s i=s.cells[i]:=X7 (Ta hi)
  have e2:Yn s j=s.cells[j]:=X7 (Ta hj)
  cases ht:YE s.cells[i] s.cells[j]with
  |false=>rfl
  |true=>
   have hb:XV s j=true:=by
    unfold XV
    rw[TZ]
    refine⟨i,Ro.2 hij,?_⟩
    rw[e1,e2,Ti hs,RX,Z7]
    exact ht
   simp only[hb,SZ]at this
   omega
theorem Yug(h:Ok n){a b:Int}(ha:0<=a/\a<n.nodes)(hb:0<=b/\b<n.nodes):0<=powr n a b/\powr n a b<=68719476736:=by
 have hp:=h.p0
 obtain⟨r,hr⟩:∃r,n.power[a.toNat]? =some r:=⟨_,Ta (by omega)⟩
 have hrm:=Td hr
 have hl:=h.p1 r hrm
 obtain⟨p,hpe⟩:∃p,r[b.toNat]? =some p:=⟨_,Ta (by omega)⟩
 have:=h.p2 r hrm p (Td hpe)
 grind [powr]
theorem Jq(h:Ok n)(a b:Int):0<=powN n a b/\powN n a b<=68719476736:=by
 unfold powN
 split
 all_goals simp_all [insE,Yug]
theorem Qt{n:Net}(h:Ok n)(l:List Cel)(j:Nat)(node:Int):∀k:Nat,0<=Yz n l j node k/\Yz n l j node k<=(k:Int)*137438953472
 |0=>by simp[Yz]
 |k+1=>by
  have h1:=Qt h l j node k
  have h2:=Jq h (YM (celL l k)) node
  have h3:=Jq h (toC (celL l k)) node
  grind [Yz]
theorem Yfk(h:Ok n)(hf:Fine n s)(i:Nat):(YI s i).length<=16:=by
 have hsub:(YI s i).Sublist s.cells:=SL
 have hpw:(YI s i).Pairwise λa b=>YE a b=false:=zc41
 have hnd:((YI s i).flatMap λc=>[YM c,toC c]).Nodup:=by
  refine List.pairwise_flatMap.2 ⟨λc hc=>?_,hpw.imp λ{a b} hab x hx y hy=>?_⟩
  ·have:=Xr h (hf.good c (hsub.subset hc))
   simp_all
  ·unfold YE at hab
   grind
 have hlen:=Go.Nw.nodup_len n.nodes.toNat _ hnd (λx hx=>by
  obtain⟨c,hc,hx⟩:=SO.1 hx
  have:=Xr h (hf.good c (hsub.subset hc))
  grind)
 have h2:((YI s i).flatMap λc=>[YM c,toC c]).length=(YI s i).length*2:=by
  induction YI s i with
  |nil=>rfl
  |cons c l ih=>grind
 have:=h.n1
 omega
theorem Yhg(hck:Ym n=0)(hf:Fine n s)(hi:i<s.cells.length):ZV n s i=Vh n (YI s i) (YJ s i):=by
 have hok:=YN hck
 have hat:=W5 hi
 have hlt:=(Tn.1 hat).1
 have hc:celL (YI s i) (YJ s i)=Yn s i:=by grind [celL]
 have hsub:(YI s i).Sublist s.cells:=SL
 have hg:=hf.good _ (Jb hi)
 have hgn:=Xr hok hg
 have hle:=Yfk hok hf i
 have hpw:(YI s i).Pairwise λa b=>YE a b=false:=zc41
 have hto:((List.range (YI s i).length).any λk=>decide (k≠YJ s i)&&YE (celL (YI s i) (YJ s i)) (celL (YI s i) k))=false:=by
  rw[RL]
  intro k hk
  have hk:=Ro.1 hk
  by_cases e:k=YJ s i
  ·rw[Tj (λh=>h e)];simp
  ·have hpk:=TT.1 hpw
   have e1:celL (YI s i) k=(YI s i)[k]:=by unfold celL;rw[TA,Ta hk];rfl
   have e2:celL (YI s i) (YJ s i)=(YI s i)[YJ s i]:=Ytj
   rw[Ti e,RX,e1,e2]
   rcases Nat.lt_or_gt_of_ne e with h|h
   ·rw[Z7,hpk k _ hk hlt h];simp
   ·rw[hpk _ k hlt hk h];simp
 have hno:(YI s i).any (V8 n)=false:=by
  rw[RL]
  intro c hcm
  have:=Xr hok (hf.good c (hsub.subset hcm))
  unfold V8 insE
  rw[Ti this.1,Ti this.2.1]
  simp
 have hde:∀node,0<=node->node<n.nodes->Ul n (YI s i) (YJ s i) node=Yz n (YI s i) (YJ s i) node (YI s i).length:=λnode h0 h1=>by
  unfold Ul
  rw[Tf]
  ·rfl
  ·rintro(h|h|h|h|h)
   ·exact h hck
   ·omega
   ·omega
   ·unfold insE at h
    have:=of_decide_eq_false h
    omega
   ·rw[hno]at h;cases h
 have hhe:∀(a b node:Int),0<=Yu n a b->Zh n (mar n (Yu n a b).toNat) (Yz n (YI s i) (YJ s i) node (YI s i).length)=XJ n (mar n (Yu n a b).toNat) (Yz n (YI s i) (YJ s i) node (YI s i).length):=λa b node h0=>by
  have h1:=O6 hok (XM h0)
  have h2:=Qt hok (YI s i) (YJ s i) node (YI s i).length
  unfold Zh
  rw[Ti hck,Ti (by omega)]
  rfl
 grind [ZV,Vh]
theorem Yrl(n:Net)(l:List Flw)(s:Sch):schE n l s=Yff n l s:=by
 unfold schE Yff
 by_cases h1:Xs n l s≠0
 ·simp_all
 by_cases h2:(XT n l s).2≠0
 ·simp_all
 by_cases h3:(Zj s).2≠0
 ·simp_all
 have hck:Ym n=0:=by
  unfold Xs at h1
  omega
 have hf:Fine n s:=YfU (TK.1 h2) (TK.1 h3)
 grind [Ycd,Ygh,Qx,Yhg]
def ltB(c:Cel)(x:Cel):Bool:=Xn x c
def posE(l:List Cel)(c:Cel):Nat:=(l.takeWhile (ltB c)).length
structure Pos(l:List Cel)(c:Cel)(k:Nat):Prop where
 le:k<=l.length
 lo:∀i x,i<k->l[i]? =some x->Xn x c=true
 hi:∀i x,k<=i->l[i]? =some x->Xn x c=false
abbrev Ord(l:List Cel):Prop:=l.Pairwise λa b=>Xn a b=true
variable {l:List Cel}{x c:Cel}
theorem Yf9(h:Ord l){i j:Nat}{y:Cel}(hx:l[i]? =some x)(hy:l[j]? =some y)(hij:i<j):Xn x y=true:=by
 grind [TT]
theorem Q4{α:Type}{p:α->Bool}:∀{l:List α}{i:Nat}{x:α},i<(l.takeWhile p).length->l[i]? =some x->p x=true
 |[],_,_,h,_=>by simp at h
 |a::l,i,x,h,hx=>by
  cases hp:p a with
  |false=>simp_all
  |true=>
   cases i with
   |zero=>simp_all
   |succ i=>exact Q4 (l:=l) (i:=i) (by simp_all) (by simp_all)
theorem QZ{α:Type}{p:α->Bool}:∀{l:List α}{x:α},l[(l.takeWhile p).length]? =some x->p x=false
 |[],_,h=>by simp at h
 |a::l,x,h=>by
  cases hp:p a with
  |false=>simp_all
  |true=>
   exact QZ (l:=l) (by simp_all)
theorem Q3{α:Type}{p:α->Bool}:∀l:List α,(l.takeWhile p).length<=l.length
 |[]=>TQ _
 |a::l=>by
  rw[List.takeWhile_cons]
  split
  ·have:=Q3 (p:=p) l;simp_all
  ·simp
theorem Yge(h:Ord l)(c:Cel):Pos l c (posE l c):=by
 refine⟨Q3 l,λi x hi hx=>show ltB c x=true from Q4 hi hx,λi x hi hx=>?_⟩
 unfold posE at hi
 obtain⟨y,hy⟩:∃y,l[(l.takeWhile (ltB c)).length]? =some y:=⟨_,Ta (Nat.lt_of_le_of_lt hi (Tn.1 hx).1)⟩
 have h1:Xn y c=false:=by grind [ltB,QZ]
 rcases Nat.eq_or_lt_of_le hi with e|hlt
 ·simp_all
 ·have h2:=Yf9 h hy hx hlt
  grind [Ui]
variable {k:Nat}
theorem Pos.eq{m:Nat}(h1:Pos l c k)(h2:Pos l c m):k=m:=by
 rcases SJ k m with h|h|h
 ·obtain⟨x,hx⟩:∃x,l[k]? =some x:=⟨_,Ta (by have:=h2.le;omega)⟩
  have:=h1.hi k x (TQ _) hx
  rw[h2.lo k x h hx]at this;simp_all
 ·exact h
 ·obtain⟨x,hx⟩:∃x,l[m]? =some x:=⟨_,Ta (by have:=h1.le;omega)⟩
  have:=h2.hi m x (TQ _) hx
  rw[h1.lo m x h hx]at this;simp_all
theorem Pos.posE(h:Ord l)(hk:Pos l c k):k=posE l c:=hk.eq (Yge h c)
theorem Yrg(h:Ord l)(hk:Pos l c k):l[k]? =some c↔c∈l:=by
 constructor
 ·grind
 ·intro hm
  obtain⟨i,hi⟩:=TO.1 hm
  rcases SJ i k with h1|h1|h1
  ·have:=hk.lo i c h1 hi
   grind [Yb4]
  ·simp_all
  ·obtain⟨x,hx⟩:∃x,l[k]? =some x:=⟨_,Ta (by grind)⟩
   have h2:=hk.hi k x (TQ _) hx
   grind [Yf9]
def insC(l:List Cel)(c:Cel):List Cel:=l.take (posE l c)++c::l.drop (posE l c)
def J3:Sch:=⟨0,0,[]⟩
def atE(s:Sch)(slot:Int):List Cel:=if Xw s=false\/slot<0 then []else s.cells.filter λc=>decide (c.1=slot.tmod s.len)
def movC(d:Int)(c:Cel):Cel:=(c.1+d,c.2)
def repC(s:Sch)(k:Nat):List Cel:=(List.range k).flatMap λi:Nat=>s.cells.map (movC ((i:Int)*s.len))
theorem YhL(l:List Cel)(c:Cel):(insC l c).Perm (c::l):=by
 refine List.perm_middle.trans ?_
 rw[RG]
theorem Ol:x∈insC l c↔x=c\/x∈l:=by
 grind [YhL]
theorem YqW(h:Ord l)(hc:c∉l):Ord (insC l c):=by
 have hp:=Yge h c
 have hsp:Ord (l.take (posE l c)++l.drop (posE l c)):=by simp_all
 obtain⟨h1,h2,h3⟩:=List.pairwise_append.1 hsp
 have hlo:∀x∈l.take (posE l c),Xn x c=true:=λx hx=>by
  obtain⟨i,hi⟩:=TO.1 hx
  have hil:=(Tn.1 hi).1
  rw[TJ]at hil
  rw[List.getElem?_take_of_lt (by omega)]at hi
  exact hp.lo i x (by omega) hi
 have hhi:∀x∈l.drop (posE l c),Xn c x=true:=λx hx=>by
  obtain⟨i,hi⟩:=TO.1 hx
  rw[Ss]at hi
  have h4:=hp.hi _ x (Nat.le_add_right _ _) hi
  grind [YkF]
 refine List.pairwise_append.2 ⟨h1,.cons hhi h2,λx hx y hy=>?_⟩
 grind
theorem Ye8(h:Ord l):l.Nodup:=h.imp λ{a b} hab e=>by grind [Yb4]
end Go.Proofs.YtjlgijpmnfabcaaGreatDoor
namespace Go.Eng
open Go.RowKit
section
variable {P:Program}{m:Mode}{n:Shp}{B:Nat}{w0:World}{ops:Array Oper}{Q:Exit->Act->World->Prop}{rest:List Oper}{env:Env}{H:List HP}{d:Nat}{ty:TypeId}{pos:String}{after:Array Edge}
theorem Qf(T:Tab P){t g o k e size:Nat}{x:Operand}(hx:evo env x=some (.pointer (some ⟨g,o,none⟩)))(ht:look T.ar t=some (k,e,size))(hn:Nat.ble (d+1) n.k=true)
 (h:VL P m n B w0 ops Q rest ((d,.slice (some ⟨g,o,none⟩) k k)::env) H):
 VL P m n B w0 ops Q (⟨some d,.slice t x none none none,ty,pos,after,none⟩::rest) env H:=by
 obtain⟨inf,hu,hinf,hs⟩:=Yg3 (T.arra ht)
 refine YP rfl rfl hn rfl (λa w ha hw=>?_) h
 simp[execOp,ha.eval hx,Instr.sliceAt,Instr.sliceBounds,Instr.sureAddr,run_underlying hu,sizeOf,typeInfo,hinf,Addr.add_lit]
theorem Yg2:∀(L:List HP),App L [] L
 |[]=>rfl
 |_::L=>⟨rfl,Yg2 L⟩
theorem Y7{id:Nat}{l:List Oper}(o1 last:List Nat)(hm:P.follows .mixedOrders=true)
 (hB:(Region.noSelect l.toArray&&decide ((o1++last).length=l.toArray.size)&&YeX l.toArray last&&(o1.all λj=>!last.contains j)&&UY l.toArray (o1++last) (Array.replicate l.toArray.size false))=true)
 {l1 l2:List Oper}(hl1:Yh l o1=l1) (hl2:Yh l last=l2) (h:VL P (some (some [])) n B w0 l.toArray (Z8 P l.toArray (Only Q) l2) l1 env H):VC P n B w0 (.region id l.toArray true) Q env H:=by
 simp only[Tt,To]at hB
 obtain⟨⟨⟨⟨h1,h2⟩,h3⟩,h4⟩,h5⟩:=hB
 refine⟨λa w ha hw=>ZZ (Q:=Only Q) ?_ λe a w h=>by exact zc66⟩
 have hst:St B w0 (H++[]) w.drew:=by rw[Rw];exact hw.drew
 have hr:YB P l.toArray (Z8 P l.toArray (Only Q) l2) (St B w0 H) l1 a w.drew:=h.run a ha w.drew hst
 rw[<-hl1,<-hl2]at hr
 have:=Vz (S:=St B w0 H) h1 (λc a w h=>h) zc46 l rfl h3 o1 _ a w.drew (XQ _ _) (λj hj=>by simp_all) h5 hst.prefix_ hr
 exact YlH
end
end Go.Eng
namespace Go.Proofs.YtjlgijpmnfabcaaGreatDoor
open Go.RowKit Go.Eng Go.Nw
def cmpV(a b:List Int):Int:=if XR a b=true then -1 else if XR b a=true then 1 else 0
theorem YdI(a b:List Int)(hla:a.length<=1000000000000)(hlb:b.length<=1000000000000){A1 A2:Option Addr}{c1 c2 B:Nat}{w0:World}{H:List HP}{w:World}(hr1:Rd B w0 H A1 (a.flatMap numF))(hr2:Rd B w0 H A2 (b.flatMap numF))(hw:St B w0 H w):
 CX B w0 286 [.slice A1 a.length c1,.slice A2 b.length c2] w λv K=>v=.int .i64 (cmpV a b)/\K=H:=by
 refine Yc Tryz.func286 Tryz.ntmps286 rfl rfl hw ?_
 refine zX7 ?_
 refine Yf (λ(i:Nat)=>[(11,.int .i64 i),(10,.int .i64 a.length),(9,.slice A1 a.length c1),(0,.slice A1 a.length c1),(1,.slice A2 b.length c2)]) (λ_=>H) (λi=>i<=a.length/\i<=b.length/\XR a b=XR (a.drop i) (b.drop i)/\XR b a=XR (b.drop i) (a.drop i)) (λi=>a.length-i) 0 ⟨Tc _,Tc _,rfl,rfl⟩ ?_ (λw hw=>hw) ?_
 ·exact zc1
 rintro i ⟨hi,hib,e1,e2⟩ K hK
 by_cases hlt:i<a.length
 ·obtain⟨x,hx⟩:∃x,a[i]? =some x:=⟨_,Ta hlt⟩
  by_cases hltb:i<b.length
  ·obtain⟨y,hy⟩:∃y,b[i]? =some y:=⟨_,Ta hltb⟩
   have d1:=YcN hx hy
   have d2:=YcN hy hx
   have hcm:=λ{w:World}(hw:St B w0 H w)=>JX x y hw
   by_cases hxy:x=y
   ·rw[Tf (λh=>h hxy)]at d1
    rw[Tf (λh=>h hxy.symm)]at d2
    rw[show cmpI x y=0 by unfold cmpI;rw[Tf (by omega),Tf (by omega)]]at hcm
    refine zX23 ?_<;>intros
    apply hK (i+1)
    ·exact⟨by omega,by omega,e1.trans d1,e2.trans d2⟩
    ·omega
    ·exact zc1
    exact zc20
   ·rw[Tm hxy]at d1
    rw[Tm (Nn hxy)]at d2
    clear hK
    rcases Int.lt_or_gt_of_ne hxy with h|h
    ·rw[show cmpI x y= -1 by unfold cmpI;rw[Tm h]]at hcm
     have hv:cmpV a b= -1:=by unfold cmpV;rw[e1,d1,Tm (Ti h)]
     rw[hv]
     refine zX23 ?_<;>intros
     exact zc3
    ·rw[show cmpI x y=1 by unfold cmpI;rw[Tf (by omega),Tm h]]at hcm
     have hv:cmpV a b=1:=by unfold cmpV;rw[e1,d1,Tj (by omega),Tf (by decide),e2,d2,Tm (Ti h)]
     rw[hv]
     refine zX23 ?_<;>intros
     exact zc3
  ·obtain rfl:i=b.length:=by omega
   clear hK
   have hv:cmpV a b=1:=by
    unfold cmpV
    rw[e1,e2,RV,T8 hlt]
    rfl
   rw[hv]
   refine zX24 ?_<;>intros
   exact zc3
 ·obtain rfl:i=a.length:=by omega
  clear hK
  rw[RV]at e1 e2
  by_cases hl:a.length<b.length
  ·have hv:cmpV a b= -1:=by
    unfold cmpV
    rw[e1,T8 hl]
    rfl
   rw[hv]
   refine zX1 ?_<;>intros
   exact zc3
  ·have hv:cmpV a b=0:=by
    unfold cmpV
    rw[e1,e2,Rm (by omega)]
    rfl
   rw[hv]
   refine zX1 ?_<;>intros
   exact zc3
end Go.Proofs.YtjlgijpmnfabcaaGreatDoor
