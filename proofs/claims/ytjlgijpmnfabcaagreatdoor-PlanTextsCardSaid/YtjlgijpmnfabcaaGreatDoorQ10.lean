/- Lemmas. -/
import Derived.Lib.AtoiAllCases
import Derived.Test.YtjlgijpmnfabcaaGreatDoorQ8
import Derived.Test.YtjlgijpmnfabcaaGreatDoorQ9
set_option maxRecDepth 100000
set_option maxHeartbeats 8000000
set_option linter.all false
namespace Go.Proofs.YtjlgijpmnfabcaaGreatDoor
open Go.RowKit Go.Eng Go.Nw Go.Rt
variable {l:List Int}{A:Option Addr}{cap B k:Nat}{w0:World}{H:List HP}
theorem YvW(k:Nat)(hr:Rd B w0 H A (l.flatMap numF))(hc:l.length<=cap):Rd B w0 H (subA A 0 cap 1) ((l.take k).flatMap numF):=by
 have h:=Rd.sub (f:=numF) (q:=1) (o:=0) (k:=k) (λ_=>rfl) hr hc
 simp_all
theorem Ys1(o:Nat)(hr:Rd B w0 H A (l.flatMap numF))(hc:l.length<=cap):Rd B w0 H (subA A o cap 1) ((l.drop o).flatMap numF):=by
 have h:=Rd.sub (f:=numF) (q:=1) (o:=o) (k:=(l.drop o).length) (λ_=>rfl) hr hc
 grind
variable {p:Nat->Bool}
theorem Yef(h:(List.range k).any p=false)(h2:p k=false):(List.range (k+1)).any p=false:=by
 grind
theorem Yg7{n:Nat}(hk:k<n)(h:p k=true):(List.range n).any p=true:=by grind
theorem Ycs(n:NetM)(s t:Int)(r:List Int){w:World}(hin:n.In B w0 H)(hck:Yo n.net=0)(hr:Rd B w0 H A (r.flatMap numF))(hlen:r.length<=9223372036854775807)(hcap:r.length<=cap)(hw:St B w0 H w):
 CX B w0 184 [n.val,.int .i64 s,.int .i64 t,.slice A r.length cap] w λv K=>v=.int .i64 (Vy n.net s t r)/\K=H:=by
 refine Ya Tryz.func184 Tryz.ntmps184 rfl rfl hw ?_
 (apply Xs;apply YX;apply YT;exact rfl;exact rfl;intro g)
 have hnm:netB g n∈netB g n::H:=TB
 unfold Vy
 by_cases h1:r.length<2
 ·rw[Tn h1]
  refine zX0 ?_<;>intros
  exact zc79
 rw[Tf h1]
 by_cases h2:9<r.length
 ·rw[Tn h2]
  refine zX0 ?_<;>intros
  exact zc79
 rw[Tf h2]
 have hoff:=λ{w:World}(hw:St B w0 (netB g n::H) w)=>Qw (λa:Int=>Value.int .i64 a) (offE n.net) r 278 [.pointer (some ⟨g,0,none⟩)] Yvq hlen (cap:=cap) (hr.cons) (λa _ w hw=>Yht n a g hnm hw) hw
 obtain⟨b3,h3⟩:∃b,r.any (offE n.net)=b:=⟨_,rfl⟩
 rw[h3]at hoff⊢
 cases b3 with
 |true=>
  rw[Tn rfl]
  refine zX48 ?_<;>intros
  exact zc79
 |false=>
  rw[Tf (by decide)]
  have hg0:=XR (l:=r) (i:=0) (by omega)
  have hg1:=XR (l:=r) (i:=r.length-1) (by omega)
  have hgi:((r.length:Int)-1).toNat=r.length-1:=by omega
  rw[<-hgi]at hg1
  by_cases h4:r.getD 0 0≠s\/r.getD (r.length-1) 0≠t
  ·rw[Tn h4]
   rw[<-hgi]at h4
   repeat'(first|((first|apply Yb Yle|apply Yc Yle);exact za;exact rfl;exactλ_ hw=>(hoff hw))|(apply zg29;(apply Yr;exact za;exact rfl))|refine zgd ?_|(refine zge ?_ ?_<;>intro _<;>try exact zo)|fail)
   all_goals first
    |((repeat apply Ym);apply Ye;exact rfl;exact rfl;exact⟨rfl,rfl⟩)
    |skip
   done
  rw[Tf h4]
  rw[<-hgi]at h4
  refine zX48 ?_<;>intros
  refine Yg (λ(k:Nat)=>[(43,.int .i64 k),(42,.int .i64 r.length),(41,.slice A r.length cap),(3,.slice A r.length cap),(4,.pointer (some ⟨g,0,none⟩))]) (λ_=>netB g n::H) (λk=>k<=r.length/\((List.range k).any λi=>(r.take i).contains (r.getD i 0))=false) (λk=>r.length-k) 0 ⟨Ti _,rfl⟩ ?_ (λw hw=>hw) ?_
  ·exact zc1
  rintro k ⟨hk,hi⟩ K hK
  by_cases hlt:k<r.length
  ·have hgk:=XR (l:=r) (i:=k) hlt
   obtain⟨b,hb⟩:∃b,(r.take k).contains (r.getD k 0)=b:=⟨_,rfl⟩
   have hbm:decide (r.getD k 0∈r.take k)=b:=by rw[<-hb];simp
   have hcon:=λ{w:World}(hw:St B w0 (netB g n::H) w)=>Je (r.take k) (r.getD k 0) Yfj (cap:=cap) (YvW k (hr.cons (X:=netB g n)) hcap) hw
   rw[hbm]at hcon
   cases b with
   |true=>
    refine zX49 ?_<;>intros
    (repeat apply Ym);apply Ye;exact rfl;exact rfl
    have htw:YaC r=true:=Yg7 hlt hb
    exact⟨by rw[Tn htw],rfl⟩
   |false=>
    refine zX49 ?_<;>intros
    apply hK (k+1)
    ·exact⟨by omega,Yef hi hb⟩
    ·omega
    ·exact zc1
    exact zc20
  obtain rfl:k=r.length:=by omega
  clear hK
  have htw:YaC r=false:=hi
  rw[Tf (by rw[htw];decide)]
  have hdl:(r.drop 1).length=r.length-1:=TZ
  repeat'(first|(apply XV T (n':=(r.drop 1).length);(iterate 4 exact rfl);omega;(rw[hdl];rfl))|refine zgc ?_|(refine zge ?_ ?_<;>intro _<;>try exact zo)|fail)
  refine Yg (λ(k:Nat)=>[(57,.int .i64 k),(56,.int .i64 (r.drop 1).length),(55,.slice (subA A 1 cap 1) (r.drop 1).length (cap-1)),(3,.slice A r.length cap),(4,.pointer (some ⟨g,0,none⟩))]) (λ_=>netB g n::H) (λk=>k<=(r.drop 1).length/\((List.range k).any λi=>!YZ n.net (r.getD i 0) (r.getD (i+1) 0))=false) (λk=>(r.drop 1).length-k) 0 ⟨Ti _,rfl⟩ ?_ (λw hw=>hw) ?_
  ·exact zc1
  rintro k ⟨hk,hi⟩ K hK
  have hr1:Rd B w0 (netB g n::H) (subA A 1 cap 1) ((r.drop 1).flatMap numF):=Ys1 1 (hr.cons) hcap
  have hr0:Rd B w0 (netB g n::H) A (r.flatMap numF):=hr.cons
  by_cases hlt:k<(r.drop 1).length
  ·have hgk:=XR (l:=r) (i:=k) (by omega)
   have hgk1:(r.drop 1)[k]? =some (r.getD (k+1) 0):=by
    rw[RL,Nat.add_comm];exact XR (by omega)
   obtain⟨b,hb⟩:∃b,YZ n.net (r.getD k 0) (r.getD (k+1) 0)=b:=⟨_,rfl⟩
   have hus:=λ{w:World}(hw:St B w0 (netB g n::H) w)=>VW n (XS n.net (r.getD k 0) (r.getD (k+1) 0)) (hin.cons (X:=netB g n)) hw
   rw[Ygw hck,hb]at hus
   cases b with
   |true=>
    refine zX51 ?_<;>intros
    apply hK (k+1)
    ·exact⟨by omega,Yef hi (by rw[hb];rfl)⟩
    ·omega
    ·exact zc1
    exact zc20
   |false=>
    refine zX51 ?_<;>intros
    (repeat apply Ym);apply Ye;exact rfl;exact rfl
    have hbr:VY n.net r=true:=Yg7 (k:=k) (by omega) (by rw[hb];rfl)
    exact⟨by rw[Tn hbr],rfl⟩
  ·obtain rfl:k=(r.drop 1).length:=by omega
   clear hK
   refine zX1 ?_<;>intros
   (repeat apply Ym);apply Ye;exact rfl;exact rfl
   have hbr:VY n.net r=false:=by rw[hdl]at hi;exact hi
   exact⟨by rw[Tf (by rw[hbr];decide)],rfl⟩
open Go.RowKit Go.Eng Go.Nw
abbrev nrs(A:Option Addr)(cap:Nat)(l:List Int):HP:=sl 3 1 A l.length cap (l.flatMap numF)
theorem Yc2(A:Option Addr)(cap:Nat)(l:List Int)(z:Int):sl 3 1 A (l.length+1) cap (l.flatMap numF++#[Value.int .i64 z].toList)=nrs A cap (l++[z]):=by simp_all [nrs,numF]
def Zh(n:Net)(l:List Cel)(i:Nat):Bool:=
 !(JG n (XS n (YB (celL l i)) (toC (celL l i))))||((List.range l.length).any λk=>decide (k≠i)&&YC (celL l i) (celL l k))
   ||(!(X7 n (mar n (Yy n (YB (celL l i)) (toC (celL l i))).toNat) (Yz n l i (toC (celL l i)) l.length))||!(X7 n (mar n (Yy n (toC (celL l i)) (YB (celL l i))).toNat) (Yz n l i (YB (celL l i)) l.length)))
def Jh(n:Net)(l:List Cel):Bool:=decide (Yo n=0)&&(List.range l.length).all λi=>!(Zh n l i)
def atP(slot off:Int)(c:Cel):Bool:=decide (c.1=slot/\c.2.1=off)
end Go.Proofs.YtjlgijpmnfabcaaGreatDoor
namespace Go.Eng
open Go.RowKit
end Go.Eng
namespace Go.Proofs.YtjlgijpmnfabcaaGreatDoor
open Go.RowKit Go.Eng Go.Nw
theorem Zt{f:Nat->Int}:∀{r i0 i:Nat},(∀k,i0<=k->k<i->f k=0)->i0<=i->i<i0+r->f i≠0->YH f r i0=((i:Int),f i)
 |0,i0,i,_,h1,h2,_=>by omega
 |r+1,i0,i,h0,h1,h2,h3=>by
  unfold YH
  by_cases e:i0=i
  ·simp_all
  ·rw[Tn (h0 i0 (TI _) (by omega))]
   exact Zt (λk hk1 hk2=>h0 k (by omega) hk2) (by omega) (by omega) h3
theorem Z4{f:Nat->Int}{r i0:Nat}(h:∀k,i0<=k->k<i0+r->f k=0):YH f r i0=(-1,0):=by
 grind [YD,Ycx]
open Go.RowKit Go.Eng Go.Nw Go.Rt
def onP(id a b:Int)(c:Cel):Bool:=decide (Xo c=id/\YB c=a/\toC c=b)
def Xz(s:Sch)(id:Int)(l:Lk):List Cel:=s.cells.filter (onP id l.1 l.2.1)
def XH(len a:Int):List Cel->Nat->List (Cel×Int)
 |[],_=>[]
 |c::cs,k=>if c.1=a.tmod len/\k≠0 then(c,a)::XH len a cs (k-1)else XH len a cs k
def hopP(len:Int)(cs:List Cel):Nat->Nat->Int->List (Cel×Int)
 |0,_,_=>[]
 |f+1,k,a=>XH len a cs k++hopP len cs f (k-(XH len a cs k).length) (a+1)
def XA(x:List (Cel×Int))(a:Int):Int:=match x.getLast? with|some z=>z.2+1|none=>a
def Y9(l:Lk):Nat:=(l.2.2+1).toNat
def runP(len:Int)(C:Lk->List Cel)(endd:Int):List Lk->Int->List (Cel×Int)
 |[],_=>[]
 |l::ls,a=>if(hopP len (C l) (endd-a).toNat (Y9 l) a).length<Y9 l then hopP len (C l) (endd-a).toNat (Y9 l) a
  else hopP len (C l) (endd-a).toNat (Y9 l) a++runP len C endd ls (XA (hopP len (C l) (endd-a).toNat (Y9 l) a) a)
def XY(ls:List Lk):Nat:=(ls.map Y9).sum
theorem Q3(len a:Int):∀(cs:List Cel) (k:Nat),(XH len a cs k).length<=k
 |[],k=>Ti _
 |c::cs,k=>by
  unfold XH
  split
  ·have:=Q3 len a cs (k-1)
   grind
  ·exact Q3 len a cs k
theorem W6{len a:Int}:∀{cs:List Cel}{k:Nat}{z:Cel×Int},z∈XH len a cs k->z.2=a
 |[],k,z,h=>by cases h
 |c::cs,k,z,h=>by
  unfold XH at h
  split at h
  ·rcases TV.1 h with rfl|h
   ·rfl
   ·exact W6 h
  ·exact W6 h
theorem YnH(len a:Int):∀cs:List Cel,XH len a cs 0=[]:=λcs=>RS (Nat.le_zero.1 (Q3 len a cs 0))
theorem YbD(len:Int)(cs:List Cel):∀(f k:Nat) (a:Int),(hopP len cs f k a).length<=k
 |0,k,a=>Ti _
 |f+1,k,a=>by
  unfold hopP
  have h1:=Q3 len a cs k
  have h2:=YbD len cs f (k-(XH len a cs k).length) (a+1)
  grind
theorem YhK(len:Int)(cs:List Cel)(f:Nat)(a:Int):hopP len cs f 0 a=[]:=RS (Nat.le_zero.1 (YbD len cs f 0 a))
theorem Yly{len:Int}{cs:List Cel}:∀{f k:Nat}{a:Int}{z:Cel×Int},z∈hopP len cs f k a->a<=z.2/\z.2<a+f
 |0,k,a,z,h=>by cases h
 |f+1,k,a,z,h=>by
  rcases TU.1 h with h|h
  ·grind [W6]
  ·have:=Yly h;omega
theorem YbK(len:Int)(C:Lk->List Cel)(endd:Int):∀(ls:List Lk) (a:Int),(runP len C endd ls a).length<=XY ls
 |[],a=>Ti _
 |l::ls,a=>by
  have h1:=YbD len (C l) (endd-a).toNat (Y9 l) a
  have h2:=YbK len C endd ls (XA (hopP len (C l) (endd-a).toNat (Y9 l) a) a)
  grind [XY,runP]
variable {x:List (Cel×Int)}{a b endd:Int}
theorem Yoz(h:∀z∈x,a<=z.2/\z.2<b)(hab:a<=b):a<=XA x a/\XA x a<=b:=by
 unfold XA
 grind
theorem YbL{len:Int}{C:Lk->List Cel}{endd:Int}:∀{ls:List Lk}{a:Int}{z:Cel×Int},a<=endd->z∈runP len C endd ls a->a<=z.2/\z.2<endd
 |[],a,z,_,h=>by cases h
 |l::ls,a,z,hae,h=>by
  have hb:∀z∈hopP len (C l) (endd-a).toNat (Y9 l) a,a<=z.2/\z.2<endd:=λz hz=>by
   have:=Yly hz;omega
  unfold runP at h
  split at h
  ·grind
  ·rcases TU.1 h with h|h
   ·grind
   ·have h1:=Yoz hb hae
    have:=YbL h1.2 h
    omega
def Wx(len:Int)(C:Lk->List Cel)(endd:Int)(cs:List Cel)(ls:List Lk)(f k:Nat)(a at_:Int):List (Cel×Int):=
 if(hopP len cs f k a).length<k then hopP len cs f k a else hopP len cs f k a++runP len C endd ls (XA (hopP len cs f k a) at_)
theorem Yqc(len:Int)(C:Lk->List Cel)(endd:Int)(l:Lk)(ls:List Lk)(a:Int):runP len C endd (l::ls) a=Wx len C endd (C l) ls (endd-a).toNat (Y9 l) a a:=rfl
theorem YnO(len:Int)(C:Lk->List Cel)(endd:Int)(cs:List Cel)(ls:List Lk)(f:Nat)(a at_:Int):Wx len C endd cs ls f 0 a at_=runP len C endd ls at_:=by
 unfold Wx
 rw[YhK,Tf (RE _)]
 rfl
variable {C:Lk->List Cel}{cs cs':List Cel}{ls:List Lk}{k f:Nat}
theorem Yqm{len:Int}{at_:Int}(hk:k≠0):Wx len C endd cs ls 0 k a at_=[]:=by
 unfold Wx
 rw[Tn (by grind [hopP])]
 rfl
theorem Ymo{y:List (Cel×Int)}(hy:∀z∈y,z.2+1=b):XA (y++x) a=XA x (if y=[]then a else b):=by
 unfold XA
 cases hx:x.getLast? with
 |some z=>simp_all
 |none=>
  cases hy2:y.getLast? with
  |none=>
   simp_all
  |some z=>
   grind
theorem YnP(len:Int)(C:Lk->List Cel)(endd:Int)(cs:List Cel)(ls:List Lk)(f k:Nat)(a at_:Int):
 Wx len C endd cs ls (f+1) k a at_=XH len a cs k++Wx len C endd cs ls f (k-(XH len a cs k).length) (a+1) (if XH len a cs k=[]then at_ else a+1):=by
 have h1:hopP len cs (f+1) k a=XH len a cs k++hopP len cs f (k-(XH len a cs k).length) (a+1):=rfl
 unfold Wx
 rw[h1,Tq]
 by_cases h2:(hopP len cs f (k-(XH len a cs k).length) (a+1)).length<k-(XH len a cs k).length
 ·grind
 ·rw[Tf h2,Tf (by omega),Ymo (b:=a+1) (λz hz=>by rw[W6 hz]),Re]
def OQ(len:Int)(C:Lk->List Cel)(endd:Int)(cs cs':List Cel)(ls:List Lk)(f k:Nat)(a at_:Int):List (Cel×Int):=
 XH len a cs' k++Wx len C endd cs ls f (k-(XH len a cs' k).length) (a+1) (if XH len a cs' k=[]then at_ else a+1)
theorem Yp6(len:Int)(C:Lk->List Cel)(endd:Int)(cs:List Cel)(ls:List Lk)(f k:Nat)(a at_:Int):OQ len C endd cs cs ls f k a at_=Wx len C endd cs ls (f+1) k a at_:=(YnP ..).symm
theorem Yp7(len:Int)(C:Lk->List Cel)(endd:Int)(cs:List Cel)(ls:List Lk)(f k:Nat)(a at_:Int):OQ len C endd cs [] ls f k a at_=Wx len C endd cs ls f k (a+1) at_:=by
 simp[OQ,XH]
variable {c:Cel}
theorem Yp8{len:Int}{at_:Int}(h:c.1=a.tmod len)(hk:k≠0):
 OQ len C endd cs (c::cs') ls f k a at_=(c,a)::OQ len C endd cs cs' ls f (k-1) a (a+1):=by
 have h1:XH len a (c::cs') k=(c,a)::XH len a cs' (k-1):=by rw[XH,Tn ⟨h,hk⟩]
 unfold OQ
 grind
theorem YrS{len:Int}{at_:Int}(h:¬(c.1=a.tmod len/\k≠0)):
 OQ len C endd cs (c::cs') ls f k a at_=OQ len C endd cs cs' ls f k a at_:=by
 unfold OQ
 rw[XH,Tf h]
def runR(len:Int)(C:Lk->List Cel)(endd:Int):List Lk->Int->Option (List Int)
 |[],_=>some []
 |l::ls,a=>if(hopP len (C l) (endd-a).toNat (Y9 l) a).length<Y9 l then none
  else(runR len C endd ls (XA (hopP len (C l) (endd-a).toNat (Y9 l) a) a)).map λy=>(hopP len (C l) (endd-a).toNat (Y9 l) a).map Prod.snd++y
theorem Ygn(len:Int)(C:Lk->List Cel)(endd:Int):∀(ls:List Lk) (a:Int),runR len C endd ls a=if(runP len C endd ls a).length<XY ls then none else some ((runP len C endd ls a).map Prod.snd)
 |[],a=>rfl
 |l::ls,a=>by
  have h3:XY (l::ls)=Y9 l+XY ls:=by grind [XY]
  have hl:=YbD len (C l) (endd-a).toNat (Y9 l) a
  unfold runR runP
  by_cases h:(hopP len (C l) (endd-a).toNat (Y9 l) a).length<Y9 l
  ·grind
  ·rw[Tf h,Tf h,Ygn len C endd ls]
   grind
def Zo(n:Net)(r:List Int)(i:Nat):Lk:=lnk n (Yy n (r.getD i 0) (r.getD (i+1) 0)).toNat
def Yp(n:Net)(r:List Int):List Lk:=(List.range (r.length-1)).map (Zo n r)
def JD(n:Net)(s:Sch)(f:Flw)(r:List Int)(release:Int):Option (List Int):=runR s.len (Xz s f.1) (release+f.2.2.2.1) (Yp n r) release
def Jj(l:List Int):Int:=l.getD (l.length-1) 0
def J0(S:Int->Option (List Int))(len period:Int):Nat->Int->Int×Int×List Int->Option (Int×Int×List Int)
 |0,_,b=>some b
 |k+1,rel,b=>if len<=rel then some b else match S rel with
  |none=>none
  |some l=>J0 S len period k (rel+period) (if b.1<Jj l-rel+1 then(Jj l-rel+1,rel,l.map λz=>z-rel)else b)
def Jx(n:Net)(s:Sch)(f:Flw)(r:List Int):Option (Int×Int×List Int):=J0 (JD n s f r) s.len f.2.2.2.1 s.len.toNat f.2.2.2.2.1 (0,0,[])
def wayE(n:Net)(s:Sch)(f:Flw)(r:List Int):Int:=
 if Yo n≠0\/Y1 s=false\/Xv n.nodes f≠0 then 1 else if s.len.tmod f.2.2.2.1≠0 then 11 else X0 n f.2.1 f.2.2.1 r
def YP(n:Net)(s:Sch)(f:Flw)(r:List Int):(Int×Int×List Int)×Int:=
 if wayE n s f r≠0 then((0,0,[]),wayE n s f r)else match Jx n s f r with
  |none=>((0,0,[]),15)
  |some b=>(b,0)
def flwV(f:Flw):Value:=.agg #[.int .i64 f.1,.int .i64 f.2.1,.int .i64 f.2.2.1,.int .i64 f.2.2.2.1,.int .i64 f.2.2.2.2.1,.int .i64 f.2.2.2.2.2]
theorem YcB{l:List Flw}{i:Nat}(h:i<l.length):l[i]? =some (Xp l i):=by
 grind [Xp]
variable {B cap:Nat}{w0 w:World}{H:List HP}
theorem YjC(v nodes:Int)(gn:Nat)(hm:blk gn (.cells #[.int .i64 nodes] 3 (0,0))∈H)(hw:St B w0 H w):
 CX B w0 261 [.int .i64 v,.pointer (some ⟨gn,0,none⟩)] w λu K=>u=.bool (insE v nodes)/\K=H:=by
 refine Ya Tryz.func261 Tryz.ntmps261 rfl rfl hw ?_
 repeat'(first|refine zgc ?_|(refine zgf ?_ ?_<;>intro _<;>try exact zo)|fail)
 all_goals(
  apply Ye;exact rfl;exact rfl
  first
   |exact⟨by rw[show insE v nodes=true from Td (by omega)],rfl⟩
   |exact⟨by rw[show insE v nodes=false from Tj (by omega)],rfl⟩)
theorem YaX(nodes:Int)(f:Flw)(hw:St B w0 H w):
 CX B w0 160 [.int .i64 nodes,flwV f] w λv K=>v=.int .i64 (Xv nodes f)/\K=H:=by
 refine Ya Tryz.func160 Tryz.ntmps160 rfl rfl hw ?_
 obtain⟨e,he⟩:∃e,Xv nodes f=e:=⟨_,rfl⟩
 rw[he]
 by_cases hA:f.1<0\/255<f.1
 ·repeat'(first|(apply zg23;first|(refine zs52 ?_;intro _)|(refine zs53 ?_;intro _))|(apply zg29;(apply Yr;exact za;exact rfl))|refine zgd ?_|(refine zge ?_ ?_<;>intro _<;>try exact zo)|fail)
  all_goals(
   apply Yh H
   ·exact zk
   apply Ye;exact rfl;exact rfl
   refine⟨?_,rfl⟩
   rw[<-he]
   unfold Xv
   first
    |(rw[Tn (by first|exact .inl (by omega)|exact .inr (.inl (by omega))|exact .inr (.inr (.inl (by assumption)))|exact .inr (.inr (.inr (by assumption))))];done)
    |(rw[Tf (by rintro(h|h|h|h)<;>first|omega|simp_all)]
      first
       |(rw[Tn (by omega)];done)
       |(rw[Tf (by omega),Tn (by omega)];done)
       |(rw[Tf (by omega),Tf (by omega)];done)))
 ·repeat'(first|(apply zg23;first|(refine zs52 ?_;intro _)|(refine zs53 ?_;intro _))|(apply zg29;(apply Yr;exact za;exact rfl))|refine zgc ?_|(refine zge ?_ ?_<;>intro _<;>try exact zo)|fail)
  rename_i gn gf _ _
  repeat'(first|((first|apply Vr (cs:=[.pointer (some ⟨gn,0,none⟩)])|apply Vq (cs:=[.pointer (some ⟨gn,0,none⟩)]));exact rfl;exact Yvi;exact za;exact rfl;exactλ_ hw=>(YjC _ nodes gn zm hw);all_goals(intro hB;(try simp only[To,Rl]at hB);try exact zo))|refine zgd ?_|(refine zgf ?_ ?_<;>intro _<;>try exact zo)|fail)
  all_goals(
   apply Yh H
   ·exact zk
   apply Ye;exact rfl;exact rfl
   refine⟨?_,rfl⟩
   rw[<-he]
   unfold Xv
   first
    |(rw[Tn (by first|exact .inl (by omega)|exact .inr (.inl (by omega))|exact .inr (.inr (.inl (by assumption)))|exact .inr (.inr (.inr (by assumption))))];done)
    |(rw[Tf (by rintro(h|h|h|h)<;>first|omega|simp_all)]
      first
       |(rw[Tn (by omega)];done)
       |(rw[Tf (by omega),Tn (by omega)];done)
       |(rw[Tf (by omega),Tf (by omega)];done)))
variable {A:Option Addr}
theorem Xe(nodes:Int)(l:List Flw)(hl:l.length<=9223372036854775807)(hr:Rd B w0 H A (l.flatMap flwF))(hw:St B w0 H w):
 CX B w0 78 [.int .i64 nodes,.slice A l.length cap] w λv K=>v=.tuple #[.int .i64 (YE nodes l).1,.int .i64 (YE nodes l).2]/\K=H:=by
 refine Ya Tryz.func78 Tryz.ntmps78 rfl rfl hw ?_
 by_cases hn:nodes<2\/32<nodes
 ·have hE:YE nodes l=(-1,2):=by simp_all [YE]
  rw[hE]
  repeat'(first|refine zgc ?_|(refine zge ?_ ?_<;>intro _<;>try exact zo)|fail)
  all_goals(apply YN;(iterate 3 exact rfl);exact⟨rfl,rfl⟩)
 by_cases h16:16<l.length
 ·have hE:YE nodes l=(-1,8):=by simp_all [YE]
  rw[hE]
  refine zX1 ?_<;>intros
  exact zc81
 have hE:YE nodes l=YH (Xb nodes l) l.length 0:=by simp_all [YE,if_neg]
 rw[hE]
 refine zX1 ?_<;>intros
 refine Yg (λ(i:Nat)=>[(20,.int .i64 i),(19,.int .i64 l.length),(18,.slice A l.length cap),(0,.int .i64 nodes),(1,.slice A l.length cap)]) (λ_=>H) (λi=>i<=l.length/\∀k,k<i->Xb nodes l k=0) (λi=>l.length-i) 0 ⟨Ti _,λk hk=>absurd hk (RE _)⟩ ?_ (λw hw=>hw) ?_
 ·exact zc1
 rintro i ⟨hi,hall⟩ K hK
 by_cases hlt:i<l.length
 ·have hget:l[i]? =some (Xp l i):=YcB hlt
  have hbad:Xb nodes l i≠0->YH (Xb nodes l) l.length 0=((i:Int),Xb nodes l i):=λh=>Zt (λk _ hk=>hall k hk) (Ti _) (by omega) h
  have hstep:Xb nodes l i=0->∀k,k<i+1->Xb nodes l k=0:=λh k hk=>by
   exact YtQ
  by_cases he:Xv nodes (Xp l i)≠0
  ·have hf:Xb nodes l i=Xv nodes (Xp l i):=by unfold Xb;exact Tn he
   rw[hbad (by rw[hf];exact he),hf]
   repeat'(first|((first|apply Yb Yev|apply Yc Yev);exact za;exact rfl;exactλ_ hw=>(YaX nodes (Xp l i) hw))|refine zgd ?_|(refine zge ?_ ?_<;>intro _<;>try exact zo)|(refine zgh ?_;intro _)|fail)
   apply Yh H
   ·exact zc0
   exact zc10
  have he0:=Rw.1 he
  have hck:=λ{H':List HP}{w:World}(hw:St B w0 H' w)=>YaX nodes (Xp l i) hw
  rw[he0]at hck
  rcases Ss i with h0|h0
  ·subst h0
   have hf:Xb nodes l 0=0:=by unfold Xb;rw[Tf he,Tf (by omega)]
   repeat'(first|((first|apply Yb Yev|apply Yc Yev);exact za;exact rfl;exactλ_ hw=>(hck hw))|refine zgd ?_|(refine zge ?_ ?_<;>intro _<;>try exact zo)|(refine zgh ?_;intro _)|fail)
   apply hK (0+1)
   ·exact⟨by omega,hstep hf⟩
   ·omega
   ·exact zc1
   ·exact zc0
  have hget2:l[((i:Int)-1).toNat]? =some (Xp l (i-1)):=by
   rw[show((i:Int)-1).toNat=i-1 by omega]
   exact YcB (by omega)
  by_cases hle:(Xp l i).1<=(Xp l (i-1)).1
  ·have hf:Xb nodes l i=5:=by unfold Xb;rw[Tf he,Tn ⟨h0,hle⟩]
   rw[hbad (by rw[hf];decide),hf]
   refine zX42 ?_<;>intros
   apply Yh H
   ·exact zc0
   exact zc10
  ·have hf:Xb nodes l i=0:=by unfold Xb;rw[Tf he,Tf (λh=>hle h.2)]
   refine zX42 ?_<;>intros
   apply hK (i+1)
   ·exact⟨by omega,hstep hf⟩
   ·omega
   ·exact zc1
   ·exact zc0
 ·refine zX1 ?_<;>intros
  rw[show i=l.length by omega]at hall
  rw[Z4 λk _ hk=>hall k (by omega)]
  exact zc10
theorem YcO(p:Flw->Bool)(l:List Flw)(f:Nat)(cs:List Value)(hen:∀xs w,(callFunc f xs).run Tryz.prog w=.ok (.enter f xs) w)(hlen:l.length<=1000)(hr:Rd B w0 H A (l.flatMap flwF))
 (hp:∀a∈l,∀w,St B w0 H w->Calls Tryz.prog f ([flwV a]++cs).toArray w (Post B w0 λv K=>v=.bool (p a)/\K=H)) (hw:St B w0 H w):
 CX B w0 161 [.slice A l.length cap,.func (.func f) #[] cs.toArray] w λv K=>v=.int .i64 (Yl p l 0)/\K=H:=by
 refine Ya Tryz.func161 Tryz.ntmps161 rfl rfl hw ?_
 refine zX8 ?_
 refine Yg (λ(k:Nat)=>[(8,.int .i64 k),(7,.int .i64 l.length),(0,.slice A l.length cap),(1,.func (.func f) #[] cs.toArray)]) (λ_=>H) (λk=>k<=l.length/\Yl p l 0=Yl p (l.drop k) k) (λk=>l.length-k) 0 ⟨Ti _,by simp⟩ ?_ (λw hw=>hw) ?_
 ·exact zc1
 rintro k ⟨hk,hi⟩ K hK
 by_cases hlt:k<l.length
 ·obtain⟨a,ha⟩:∃a,l[k]? =some a:=⟨_,Ta hlt⟩
  have hpa:=hp a (Tc ha)
  rw[Ji p l ha]at hi
  refine zX10 ?_<;>intros
  cases hpv:p a
  ·rw[hpv]at hi
   refine zX11 ?_
   apply hK (k+1)
   ·grind
   ·omega
   ·exact zc1
   exact zc20
  exact zc9
 exact zc7
theorem YjA(f:Flw)(id:Int)(gi:Nat)(hm:blk gi (.cells #[.int .i64 id] 3 (0,0))∈H)(hw:St B w0 H w):
 CX B w0 321 [flwV f,.pointer (some ⟨gi,0,none⟩)] w λv K=>v=.bool (decide (f.1=id))/\K=H:=by
 refine Ya Tryz.func321 Tryz.ntmps321 rfl rfl hw ?_
 by_cases h:f.1=id
 ·rw[Td h]
  refine zX43 ?_<;>intros
  all_goals(apply Ym;exact zc13)
 ·rw[Tj h]
  refine zX43 ?_<;>intros
  all_goals(apply Ym;exact zc13)
theorem Yjz(l:List Flw)(id:Int)(hlen:l.length<=1000)(hr:Rd B w0 H A (l.flatMap flwF))(hw:St B w0 H w):
 CX B w0 239 [.slice A l.length cap,.int .i64 id] w λv K=>v=.int .i64 (Z3 l id)/\K=H:=by
 refine Ya Tryz.func239 Tryz.ntmps239 rfl rfl hw ?_
 repeat'(first|(apply zg29;(apply Yr;exact za;exact rfl))|refine zga ?_|(refine zgh ?_;intro _)|fail)
 rename_i gi
 first|apply Yb Yk2|apply Yc Yk2
 exact za
 exact rfl
 exactλ_ hw=>(YcO (λf=>decide (f.1=id)) l 321 [.pointer (some ⟨gi,0,none⟩)] Yvv hlen hr.cons (λf _ w hw=>YjA f id gi zm hw) hw)
 repeat'(first|refine zga ?_|fail)
 apply Yh H
 ·exact zk
 apply Ye;exact rfl;exact rfl
 exact⟨rfl,rfl⟩
theorem Ygf(s:SchM)(f:Flw)(gs:Nat)(hs:1<=s.len/\s.len<=512)(hf:1<=f.2.2.2.1/\f.2.2.2.1<=512)(hm:blk gs (.cells #[.int .i64 s.len,.int .i64 s.off,.slice s.A s.cells.length s.cap] 30 (0,0))∈H)(hw:St B w0 H w):
 CX B w0 187 [flwV f,.pointer (some ⟨gs,0,none⟩)] w λv K=>v=.bool (decide (s.len.tmod f.2.2.2.1≠0))/\K=H:=by
 refine Ya Tryz.func187 Tryz.ntmps187 rfl rfl hw ?_
 by_cases h:s.len.tmod f.2.2.2.1≠0
 ·rw[Td h]
  rw[Rn (by omega)]at h
  refine zX44 ?_<;>intros
  all_goals(apply Ym;exact zc13)
 ·rw[Tj h]
  rw[Rn (by omega)]at h
  refine zX44 ?_<;>intros
  all_goals(apply Ym;exact zc13)
theorem YcM{α:Type}(p:α->Bool)(l:List α):decide (0<=Yl p l 0)=l.any p:=by
 have h:=Ve p l 0 (by omega)
 grind
theorem WM(p:Flw->Bool)(l:List Flw)(f:Nat)(cs:List Value)(hen:∀xs w,(callFunc f xs).run Tryz.prog w=.ok (.enter f xs) w)(hlen:l.length<=1000)(hr:Rd B w0 H A (l.flatMap flwF))
 (hp:∀a∈l,∀w,St B w0 H w->Calls Tryz.prog f ([flwV a]++cs).toArray w (Post B w0 λv K=>v=.bool (p a)/\K=H)) (hw:St B w0 H w):
 CX B w0 79 [.slice A l.length cap,.func (.func f) #[] cs.toArray] w λv K=>v=.bool (l.any p)/\K=H:=by
 refine Ya Tryz.func79 Tryz.ntmps79 rfl rfl hw ?_
 rw[<-YcM]
 refine zX4 ?_
 first|apply Yb Yk2|apply Yc Yk2
 exact za
 exact rfl
 exactλ_ hw=>(YcO p l f cs hen hlen hr hp hw)
 by_cases h0:0<=Yl p l 0
 ·exact zc16
 ·exact zc16
end Go.Proofs.YtjlgijpmnfabcaaGreatDoor
namespace Go.Eng
open Go.RowKit
section
variable {P:Program}{B:Nat}{w0:World}{Q:Exit->Act->World->Prop}{env:Env}{H:List HP}{k:Nat}
def YQr(P:Program)(r:Nat)(ops:Array Oper)(Q:Exit->Act->World->Prop)(l:List Oper):Exit->Act->World->Prop
 |.normal,a,w=>wpListIn (Fence.wide.inRound r) 0 P ops Q l a w
 |e,a,w=>Q e a w
theorem Yau{r:Nat}{ops:Array Oper}{l:List Oper}(hlo:¬LetsOut Q):∀(os:List Oper) (a:Act) (w:World),os.all JL=true->wpList P ops (YQr P r ops Q l) os a w->wpListIn (Fence.wide.inRound r) 0 P ops Q (os++l) a w
 |[],_,_,_,h=>h
 |o::os,a,w,hc,h=>by
  simp only[Nu,Tm]at hc
  unfold wpList at h
  rw[TA]
  unfold wpListIn
  split
  ·rename_i hw
   rw[Tn hw]at h
   rcases h with h|⟨_,h⟩
   ·have h2:=Oper.wp_mono (λa w h=>Yau hlo os a w hc.2 h) h
    have hs:Oper.semAt (some r) a.eval o=execOp a.eval o:=by grind [Go.Oper.semAt_some,JL]
    refine⟨λf _=>trivial,?_⟩
    rw[Fence.inRound_round,hs]
    unfold Oper.wp at h2
    generalize(execOp a.eval o).run P w=res at h2⊢
    cases res with
    |ok x w'=>
     cases x<;>simp only[Oper.upon,Oper.uponIn]at h2⊢<;>first
      |exact h2
      |(refine⟨λhd=>by simp[Fence.wide]at hd,?_⟩
        refine CallsIn.mono (CallsIn.inRound r (callsIn_wide.2 h2)) λe w'' he=>?_
        cases e<;>exact he)
      |exact⟨λhd=>by simp[Fence.wide]at hd,Ybf h2⟩
      |exact h2.elim
    |halt x w'=>exact zc69
   ·exact(hlo h).elim
  ·rename_i hw
   rw[Tf hw]at h
   exact⟨λf _=>trivial,Yau hlo os _ w hc.2 h⟩
variable {n r:Nat}{ds:List Deferred}
theorem YgE{id:Nat}{l:List Oper}(k:Nat){l1 l2:List Oper}(h1:l.take k=l1)(h2:l.drop k=l2)(h:VL P none ⟨n,ds,some r⟩ B w0 l.toArray (YQr P r l.toArray Q l2) l1 env H):
 VC P ⟨n,ds,some r⟩ B w0 (.region id l.toArray false) Q env H:=by
 refine⟨λa w ha hw=>?_⟩
 intro hlo hc
 refine wpIn_region_lit ?_
 have hc2:l.all JL=true:=by grind [calm]
 have:=Yau hlo _ _ _ (by grind) (h.run a ha w hw)
 grind [RN]
theorem Ymk{ops:Array Oper}{d l:Nat}{x:Operand}{args:List Operand}{tys:Array TypeId}{ty:TypeId}{pos:String}{after:Array Edge}{gd:Option (Nat×Bool)}{vs:List Value}{rest:List Oper}(Φt Φf:List HP->Prop)
 (hgd:∀a:Act,Fits ⟨n,ds,none⟩ a env->Region.wanted ⟨some d,.call ⟨.value x,args.toArray,tys⟩,ty,pos,after,gd⟩ (yielded ops a.tmps)=true)
 (hx:evo env x=some (.func (.yield l) #[] #[])) (hargs:Args env args vs) (hn:Nat.ble (d+1) n=true) (hlo:¬LetsOut Q) (hpl:rest.all JL=true) (hy:Yb4 P l vs B w0 H Φt Φf)
 (ht:∀K,Φt K->VL P none ⟨n,ds,some r⟩ B w0 ops Q rest ((d,.bool true)::env) K)
 (hf:∀K,Φf K->VL P none ⟨n,ds,some r⟩ B w0 ops Q rest ((d,.bool false)::env) K):
 VQ ⟨n,ds,some r⟩ B w0 (YQr P r ops Q (⟨some d,.call ⟨.value x,args.toArray,tys⟩,ty,pos,after,gd⟩::rest)) .normal env H:=by
 refine⟨λa w ha hw=>?_⟩
 show wpListIn (Fence.wide.inRound r) 0 P ops Q _ a w
 unfold wpListIn
 rw[Tn (hgd a ⟨ha.defers,ha.size,ha.slot⟩)]
 refine⟨λf _=>trivial,?_⟩
 obtain⟨fn,tmps,assign,body,hrun,hround⟩:=hy w hw
 have hmap:args.toArray.map a.eval=vs.toArray:=by grind [Ua]
 have hs:Oper.semAt (some r) a.eval ⟨some d,.call ⟨.value x,args.toArray,tys⟩,ty,pos,after,gd⟩=execOp a.eval ⟨some d,.call ⟨.value x,args.toArray,tys⟩,ty,pos,after,gd⟩:=by grind [Go.Oper.semAt_some]
 rw[Fence.inRound_round,hs]
 have hex:(execOp a.eval ⟨some d,.call ⟨.value x,args.toArray,tys⟩,ty,pos,after,gd⟩).run P w=.ok (.round l fn tmps assign body) w:=zc32
 rw[hex,Oper.uponIn_round]
 refine⟨λhd=>by simp[Fence.wide]at hd,?_⟩
 have hround2:RoundIn (Fence.wide.inRound r) 0 P l fn tmps assign body w _:=hround
 refine RoundIn.mono hround2 ?_
 rintro e w' (⟨rfl,K',hΦ,hst⟩|⟨rfl,K',hΦ,hst⟩)
 ·exact UF hlo _ _ _ hpl ((ht K' hΦ).run _ (ha.put (TR hn) _) _ hst)
 ·exact UF hlo _ _ _ hpl ((hf K' hΦ).run _ (ha.put (TR hn) _) _ hst)
end
variable {B:Nat}{w0:World}{H K:List HP}
theorem St.inM{w:World}(hw:St B w0 K w)(hm:Eng.many H∈K):St B w0 H w:=by
 obtain⟨S,h1,h2⟩:=hw.at_ hm
 exact⟨hw.below,hw.le,Vm h2 h1⟩
variable {A:Option Addr}{xs:List Value}
theorem Rd.inM(h:Rd B w0 H A xs)(hm:Eng.many H∈K):Rd B w0 K A xs:=h.mono λ_ hw=>hw.inM hm
theorem Rd.many{L:List HP}{e size k cap:Nat}(hX:many L∈H)(hm:Eng.sl e size A k cap xs∈L):Rd B w0 H A xs:=λw hw j v hv=>by
 obtain⟨S,_,h2⟩:=hw.at_ hX
 obtain⟨S',_,h3,_⟩:=Ygq hm h2
 obtain⟨g,e1,hc,_⟩:=OA h3 hv
 grind
end Go.Eng
namespace Go.Proofs.YtjlgijpmnfabcaaGreatDoor
open Go.RowKit Go.Eng Go.Nw Go.Rt
variable {n:Net}
theorem Ol{a b:Int}(h:YZ n a b=true):0<=Yy n a b:=by
 simp_all [YZ]
variable {r:List Int}
theorem WQ{s t:Int}(h:Vy n s t r=0):(2<=r.length/\r.length<=9)/\r.any (offE n)=false/\(r.getD 0 0=s/\r.getD (r.length-1) 0=t)/\YaC r=false/\VY n r=false:=by
 unfold Vy at h
 by_cases h1:r.length<2
 all_goals grind
theorem Yhd(h:VY n r=false){i:Nat}(hi:i+1<r.length):YZ n (r.getD i 0) (r.getD (i+1) 0)=true:=by
 cases hg:YZ n (r.getD i 0) (r.getD (i+1) 0)with
 |true=>rfl
 |false=>
  grind [VY]
variable {A:Option Addr}{cap B:Nat}{w0 w:World}{H:List HP}
theorem YmD(n:NetM)(r:List Int)(hin:n.In B w0 H)(hck:Yo n.net=0)(hbr:VY n.net r=false)(hr:Rd B w0 H A (r.flatMap numF))(hlen:1<=r.length/\r.length<=1000)(hw:St B w0 H w):
 CX B w0 185 [n.val,.slice A r.length cap] w λv K=>v=.int .i64 (YoM n.net r)/\K=H:=by
 have hok:=YK hck
 obtain⟨hpw,hrw,hlk,hmg,hs1,hs2,hs3,hs4⟩:=id hin
 refine Ya Tryz.func185 Tryz.ntmps185 rfl rfl hw ?_
 (apply Xs;apply YX;apply YT;exact rfl;exact rfl;intro g)
 refine zX8 ?_
 refine Yg (λ(k:Nat)=>[(6,.int .i64 ((k:Int)+1)),(5,.int .i64 (U3 n.net r k)),(1,.slice A r.length cap),(2,.pointer (some ⟨g,0,none⟩))]) (λ_=>netB g n::H) (λk=>k+1<=r.length) (λk=>r.length-k) 0 hlen.1 ?_ (λw hw=>hw) ?_
 ·exact zc1
 intro k hk K hK
 have hbd:=Yer hok r k
 by_cases hlt:k+1<r.length
 ·have hgk:=XR (l:=r) (i:=k) (by omega)
  have hgk1:=XR (l:=r) (i:=k+1) (by omega)
  have ei:((k:Int)+1-1).toNat=k:=by omega
  have ei1:((k:Int)+1).toNat=k+1:=by omega
  rw[<-ei]at hgk
  rw[<-ei1]at hgk1
  have hgood:=Yhd hbr hlt
  have hf:=Ol hgood
  have hfl:=Zs hf
  have e7:n.net.links=n.links:=rfl
  rw[e7]at hfl
  have hlx:n.links[(Yy n.net (r.getD k 0) (r.getD (k+1) 0)).toNat]? =some (lnk n.net (Yy n.net (r.getD k 0) (r.getD (k+1) 0)).toNat):=QN n.net hfl
  have hlo:=YbF hok (r.getD k 0) (r.getD (k+1) 0)
  have hidx:=λ{w:World}(hw:St B w0 (netB g n::H) w)=>X8 n (r.getD k 0) (r.getD (k+1) 0) (hin.cons (X:=netB g n)) hw
  unfold XS at hidx
  rw[Tf (by simp[hck])]at hidx
  obtain⟨fi,hfi⟩:∃fi,Yy n.net (r.getD k 0) (r.getD (k+1) 0)=fi:=⟨_,rfl⟩
  obtain⟨lo,hlo2⟩:∃lo,YeV n.net (r.getD k 0) (r.getD (k+1) 0)=lo:=⟨_,rfl⟩
  have hst:U3 n.net r (k+1)=U3 n.net r k+(lo+1):=by rw[<-hlo2];rfl
  have hlo3:(lnk n.net fi.toNat).2.2=lo:=by rw[<-hfi];exact hlo2
  rw[hfi]at hidx hf hfl hlx
  rw[hlo2]at hlo
  rw[ei]at hgk
  rw[ei1]at hgk1
  obtain⟨lk,hlkk⟩:∃lk,lnk n.net fi.toNat=lk:=⟨_,rfl⟩
  rw[hlkk]at hlx hlo3
  rw[<-hlo3]at hlo
  have hgk':r[((k:Int)+1-1).toNat]? =some (r.getD k 0):=by rw[ei];exact hgk
  have hgk1':r[((k:Int)+1).toNat]? =some (r.getD (k+1) 0):=by rw[ei1];exact hgk1
  repeat'(first|((first|apply Yb en69|apply Yc en69);exact za;exact rfl;exactλ_ hw=>(hidx hw))|(apply zg28;refine zs84 ?_)|refine zgd ?_|(refine zge ?_ ?_<;>intro _<;>try exact zo)|fail)
  apply hK (k+1)
  ·omega
  ·omega
  ·rw[hst,<-hlo3];exact zc1
  exact zc20
 ·refine zX1 ?_<;>intros
  (repeat apply Ym);apply Ye;exact rfl;exact rfl
  have ek:r.length-1=k:=by omega
  exact⟨by unfold YoM;rw[ek],rfl⟩
theorem Yl2(n:NetM)(r:List Int)(hin:n.In B w0 H)(hr:Rd B w0 H A (r.flatMap numF))(hlen:r.length<=9223372036854775807)(hcap:r.length<=cap)(hw:St B w0 H w):
 CX B w0 98 [n.val,.slice A r.length cap] w λv K=>v=.tuple #[.int .i64 (Ygz n.net r).1,.int .i64 (Ygz n.net r).2]/\K=H:=by
 refine Ya Tryz.func98 Tryz.ntmps98 rfl rfl hw ?_
 unfold Ygz
 by_cases h0:Yo n.net=0
 rotate_left
 ·rw[Tn h0]
  refine zX47 ?_<;>intros
  (repeat apply Ym);exact zc81
 rw[Tf (λh=>h h0)]
 have hck:=λ{H:List HP}{w:World}(hin:n.In B w0 H) (hw:St B w0 H w)=>YV n hin hw
 rw[h0]at hck
 dsimp only
 have hf:=λ{H:List HP}{w:World}(s t:Int) (hin:n.In B w0 H) (hr:Rd B w0 H A (r.flatMap numF)) (hw:St B w0 H w)=>Ycs n s t r (cap:=cap) hin h0 hr hlen hcap hw
 by_cases hz:r.length=0
 ·have hf0:Vy n.net (r.getD 0 0) (r.getD (r.length-1) 0) r=9:=by unfold Vy;rw[Tn (by omega)]
  have hf1:Vy n.net 0 0 r=9:=by unfold Vy;rw[Tn (by omega)]
  have hff:=λ{H:List HP}{w:World}(hin:n.In B w0 H) (hr:Rd B w0 H A (r.flatMap numF)) (hw:St B w0 H w)=>hf 0 0 hin hr hw
  rw[hf1]at hff
  rw[hf0,Tn (by decide)]
  repeat'(first|((first|apply Yb en68|apply Yc en68);exact za;exact rfl;exactλ_ hw=>(hck hin.cons hw))|((first|apply Yb YaS|apply Yc YaS);exact za;exact rfl;exactλ_ hw=>(hff hin.cons hr.cons hw))|refine zgb ?_|(refine zge ?_ ?_<;>intro _<;>try exact zo)|(refine zgh ?_;intro _)|fail)
  (repeat apply Ym);exact zc10
 ·have hg0:=XR (l:=r) (i:=0) (by omega)
  have hg1:=XR (l:=r) (i:=r.length-1) (by omega)
  have hgi:((r.length:Int)-1).toNat=r.length-1:=by omega
  rw[<-hgi]at hg1
  have hff:=λ{H:List HP}{w:World}(hin:n.In B w0 H) (hr:Rd B w0 H A (r.flatMap numF)) (hw:St B w0 H w)=>hf (r.getD 0 0) (r.getD (r.length-1) 0) hin hr hw
  obtain⟨e,he⟩:∃e,Vy n.net (r.getD 0 0) (r.getD (r.length-1) 0) r=e:=⟨_,rfl⟩
  rw[he]at hff
  rw[he]
  rw[<-hgi]at hff
  by_cases hez:e=0
  ·subst hez
   obtain⟨⟨f1,f2⟩,_,_,_,f3⟩:=WQ he
   rw[Tf (by simp)]
   repeat'(first|((first|apply Yb en68|apply Yc en68);exact za;exact rfl;exactλ_ hw=>(hck hin.cons hw))|((first|apply Yb YaS|apply Yc YaS);exact za;exact rfl;exactλ_ hw=>(hff hin.cons hr.cons hw))|((first|apply Yb Ysp|apply Yc Ysp);exact za;exact rfl;exactλ_ hw=>(YmD n r hin.cons h0 f3 hr.cons (by omega) hw))|refine zgd ?_|(refine zge ?_ ?_<;>intro _<;>try exact zo)|(refine zgh ?_;intro _)|fail)
   (repeat apply Ym);exact zc10
  ·rw[Tn hez]
   repeat'(first|((first|apply Yb en68|apply Yc en68);exact za;exact rfl;exactλ_ hw=>(hck hin.cons hw))|((first|apply Yb YaS|apply Yc YaS);exact za;exact rfl;exactλ_ hw=>(hff hin.cons hr.cons hw))|refine zgd ?_|(refine zge ?_ ?_<;>intro _<;>try exact zo)|(refine zgh ?_;intro _)|fail)
   (repeat apply Ym);exact zc10
theorem YbO(n:NetM)(s t:Int)(r:List Int)(hin:n.In B w0 H)(hr:Rd B w0 H A (r.flatMap numF))(hlen:r.length<=9223372036854775807)(hcap:r.length<=cap)(hw:St B w0 H w):
 CX B w0 281 [n.val,.int .i64 s,.int .i64 t,.slice A r.length cap] w λv K=>v=.int .i64 (X0 n.net s t r)/\K=H:=by
 refine Ya Tryz.func281 Tryz.ntmps281 rfl rfl hw ?_
 unfold X0
 by_cases h0:Z2 n.net s t=0
 ·have hck:Yo n.net=0:=by
   unfold Z2 at h0
   omega
  have hen:=λ{H:List HP}{w:World}(hin:n.In B w0 H) (hw:St B w0 H w)=>Vh n s t hin hw
  rw[h0]at hen
  rw[Tf (λh=>h h0)]
  repeat'(first|((first|apply Yb OK|apply Yc OK);exact za;exact rfl;exactλ_ hw=>(hen hin.cons hw))|((first|apply Yb YaS|apply Yc YaS);exact za;exact rfl;exactλ_ hw=>(Ycs n s t r hin.cons hck hr.cons hlen hcap hw))|refine zgb ?_|(refine zge ?_ ?_<;>intro _<;>try exact zo)|(refine zgh ?_;intro _)|fail)
  (repeat apply Ym);exact zc13
 ·rw[Tn h0]
  repeat'(first|((first|apply Yb OK|apply Yc OK);exact za;exact rfl;exactλ_ hw=>(Vh n s t hin.cons hw))|refine zgb ?_|(refine zge ?_ ?_<;>intro _<;>try exact zo)|(refine zgh ?_;intro _)|fail)
  (repeat apply Ym);exact zc13
end Go.Proofs.YtjlgijpmnfabcaaGreatDoor
namespace Go.Eng
open Go.RowKit
def subL(i k:Nat)(l:List Value):List Value:=(l.drop i).take k
section
variable {P:Program}{B:Nat}{w0:World}{Q:Exit->Act->World->Prop}{env:Env}{H:List HP}{m:Mode}{n:Shp}{ops:Array Oper}{rest:List Oper}{d:Nat}{ty:TypeId}{pos:String}{after:Array Edge}
variable {t:Nat}
theorem Yi(T:Tab P){g i k:Nat}{cs:Array Value}{vs:List Value}{tt:TypeId}{fr:Nat×Nat}{x:Operand}(hx:evo env x=some (.pointer (some ⟨g,i,none⟩)))(hm:blk g (.cells cs tt fr)∈H)
 (ht:look T.ag t=some k) (hv:subL i k cs.toList=vs) (hk:Nat.beq vs.length k=true) (hn:Nat.ble (d+1) n.k=true) (h:VL P m n B w0 ops Q rest ((d,.agg vs.toArray)::env) H):
 VL P m n B w0 ops Q (⟨some d,.load t x,ty,pos,after,none⟩::rest) env H:=by
 refine WC T hx hm ht (Nat.eq_of_beq_eq_true hk) (λj v hj=>?_) hn h
 grind [subL]
end
def Yhe(l:List Oper)(k s:Nat):Bool:=match l[k]? with
 |some o=>match o.op with
  |.call c=>match c.callee with
   |.value (.tmp t)=>Nat.beq t s
   |_=>false
  |_=>false
 |none=>false
section
variable {P:Program}{B:Nat}{w0:World}{Q:Exit->Act->World->Prop}{env:Env}{H:List HP}
variable {n id r:Nat}{ds:List Deferred}{l l1 l2:List Oper}
theorem YgF(k s:Nat)(_ho:Yhe l k s=true)(h1:l.take k=l1)(h2:l.drop k=l2)(hlo:¬LetsOut Q)(h:VL P none ⟨n,ds,none⟩ B w0 l.toArray (YQ P l.toArray Q l2) l1 env H):
 VC P ⟨n,ds,none⟩ B w0 (.region id l.toArray false) Q env H:=YbS k h1 h2 hlo h
theorem Yfp(k s:Nat)(_ho:Yhe l k s=true)(h1:l.take k=l1)(h2:l.drop k=l2)(h:VL P none ⟨n,ds,some r⟩ B w0 l.toArray (YQr P r l.toArray Q l2) l1 env H):
 VC P ⟨n,ds,some r⟩ B w0 (.region id l.toArray false) Q env H:=YgE k h1 h2 h
end
section
variable {P:Program}{B:Nat}{w0:World}{env:Env}{H:List HP}
variable {n:Nat}{fn:Func}
theorem Yl4{gf:Nat}{c:Code}{lb:List Value}{xs:List (List Value)}{HI:List HP}(hf:P.funcs[gf]? =some fn)(hn:fn.ntmps=n)(hb:fn.body=some c)(hle:Nat.ble (lb.length+1) n=true)
 (h:∀(l:Nat) (S:Nat->List HP->Prop) (X:List HP->Prop),
  (∀(i:Nat) (args:List Value),xs[i]? =some args->∀(Y L:List HP),S i L->
   Yb4 P l args B w0 (Y++many L::HI) (λK=>∃L',S (i+1) L'/\K=Y++many L'::HI) (λK=>∃L',X L'/\K=Y++many L'::HI))->
  ∀L0,S 0 L0->VC P ⟨n,[],none⟩ B w0 c (bodyPostM Fence.wide 0 P fn (Post B w0 λ_ K=>(∃L,S xs.length L/\K=many L::HI)\/∃L,X L/\K=many L::HI)) (WF 0 (.func (.yield l) #[] #[]::lb)) (many L0::HI)):YbP P gf lb xs B w0 HI:=by
 intro l S X hy L0 h0 w hw
 exact callsIn_wide.2 (XZ (args:=.func (.yield l) #[] #[]::lb) hf hn hb hle hw (h l S X hy L0 h0))
variable {ds:List Deferred}
theorem Yq4{R:Ending->World->Prop}(h:VQ ⟨n,ds,none⟩ B w0 (bodyPostM Fence.wide 0 P fn R) .ret env H):VQ ⟨n,ds,none⟩ B w0 (bodyPostM Fence.wide 0 P fn R) .normal env H:=
 ⟨λa w ha hw=>h.run a w ha hw⟩
end
variable {H:List HP}{n t r:Nat}{fn:Func}
theorem YfF{P:Program}{B:Nat}{w0:World}{env:Env}{Φ:Value->List HP->Prop}{u s:Nat}{v x y z:Value}(hr:fn.results=#[.tmp t,.tmp u,.tmp s,.tmp r])(hv:get env t=some v)(hx:get env u=some x)(hy:get env s=some y)(hz:get env r=some z)(h:Φ (.tuple #[v,x,y,z]) H):
 VQ ⟨n,[],none⟩ B w0 (bodyPost P fn (Post B w0 Φ)) .ret env H:=
 ⟨λa w ha hw=>bodyPost_ret (v:=.tuple #[v,x,y,z]) (by simp[results,hr,Array.getD_eq_getD_getElem?,ha.slot t v hv,ha.slot u x hx,ha.slot s y hy,ha.slot r z hz]) ha.defers ⟨_,H,rfl,hw,h⟩⟩
theorem YnK{X:HP}(h:X∈H):∃R,Perm H [X,many R]/\Perm [X,many R] H:=by
 obtain⟨s,t,rfl⟩:=List.append_of_mem h
 exact⟨s++t,(Perm.closeT _).trans (Perm.pull X s t []),(Perm.push X s t []).trans (Perm.openT _)⟩
end Go.Eng
namespace Go.Proofs.YtjlgijpmnfabcaaGreatDoor
open Go.RowKit Go.Eng Go.Nw Go.Rt
abbrev Rqs:=Flw×List (List Int)
structure Clm where
 flow:Int
 routes:List (List Int)
 bounds:List Int
 worst:List Int
 slots:List (List Int)
deriving DecidableEq
def Yv0:Clm:=⟨0,[],[],[],[]⟩
def YR(q:List Rqs):List Flw:=q.map Prod.fst
def Yl1:Rqs:=((0,0,0,0,0,0),[])
def rqAt(q:List Rqs)(i:Nat):Rqs:=q.getD i Yl1
def rtAt(l:List (List Int))(k:Nat):List Int:=l.getD k []
def rtsE(n:Net)(x:Rqs):Int:=
 if x.2.length=0 then 14 else if 2<x.2.length then 8
 else if(YH (λk=>X0 n x.1.2.1 x.1.2.2.1 (rtAt x.2 k)) x.2.length 0).2≠0 then(YH (λk=>X0 n x.1.2.1 x.1.2.2.1 (rtAt x.2 k)) x.2.length 0).2
 else if x.2.length=2/\rtAt x.2 0=rtAt x.2 1 then 6 else 0
def rqsE(n:Net)(q:List Rqs):Int×Int:=
 if Yo n≠0 then(-1,1)else if(YE n.nodes (YR q)).2≠0 then YE n.nodes (YR q)
 else YH (λi=>rtsE n (rqAt q i)) q.length 0
def badR(n:Net)(s:Sch)(f:Flw)(r:List Int):Bool:=decide ((YP n s f r).2≠0\/f.2.2.2.2.2<(YP n s f r).1.1)
def Yhj(n:Net)(s:Sch)(x:Rqs)(l:List (List Int)):Clm:=
 ⟨x.1.1,l,l.map λr=>(YP n s x.1 r).1.1,l.map λr=>(YP n s x.1 r).1.2.1,l.map λr=>(YP n s x.1 r).1.2.2⟩
def JT(n:Net)(s:Sch)(x:Rqs):Bool:=x.2.any (badR n s x.1)
def clmE(n:Net)(s:Sch)(x:Rqs):Clm:=Yhj n s x x.2
def YO(n:Net)(q:List Rqs)(s:Sch):List Clm×(Int×Int):=
 if(rqsE n q).2≠0 then([],rqsE n q)else if(schE n (YR q) s).2≠0 then([],(-1,1))
 else if(YH (λi=>if JT n s (rqAt q i)=true then 15 else 0) q.length 0).2≠0 then([],YH (λi=>if JT n s (rqAt q i)=true then 15 else 0) q.length 0)
 else(q.map (clmE n s),(-1,0))
def Jd(c:List Clm)(i:Nat):Clm:=c.getD i Yv0
def chkE(n:Net)(q:List Rqs)(s:Sch)(c:List Clm):Int×Int:=
 if(YO n q s).2.2≠0 then(YO n q s).2 else if c.length≠(YO n q s).1.length then(-1,11)
 else YH (λi=>if Jd c i=Jd (YO n q s).1 i then 0 else 20) c.length 0
structure WayM where
 n:NetM
 s:SchM
 f:Flw
 A:Option Addr
 cap:Nat
 r:List Int
def WayM.val(x:WayM):Value:=.agg #[.int .i64 x.n.nodes,.slice x.n.pA x.n.rows.length x.n.pcap,.int .i64 x.n.noise,.int .i64 x.n.thr,.slice x.n.lA x.n.links.length x.n.lcap,.slice x.n.mA x.n.margin.length x.n.mcap,.int .i64 x.s.len,.int .i64 x.s.off,.slice x.s.A x.s.cells.length x.s.cap,.int .i64 x.f.1,.int .i64 x.f.2.1,.int .i64 x.f.2.2.1,.int .i64 x.f.2.2.2.1,.int .i64 x.f.2.2.2.2.1,.int .i64 x.f.2.2.2.2.2,.slice x.A x.r.length x.cap,.int .i64 0]
abbrev wayB(g:Nat)(x:WayM):HP:=blk g (.cells #[.int .i64 x.n.nodes,.slice x.n.pA x.n.rows.length x.n.pcap,.int .i64 x.n.noise,.int .i64 x.n.thr,.slice x.n.lA x.n.links.length x.n.lcap,.slice x.n.mA x.n.margin.length x.n.mcap,.int .i64 x.s.len,.int .i64 x.s.off,.slice x.s.A x.s.cells.length x.s.cap,.int .i64 x.f.1,.int .i64 x.f.2.1,.int .i64 x.f.2.2.1,.int .i64 x.f.2.2.2.1,.int .i64 x.f.2.2.2.2.1,.int .i64 x.f.2.2.2.2.2,.slice x.A x.r.length x.cap,.int .i64 0] 330 (0,0))
structure WayM.In(B:Nat)(w0:World)(H:List HP)(x:WayM):Prop where
 n:x.n.In B w0 H
 s:Rd B w0 H x.s.A (x.s.cells.flatMap celF)
 r:Rd B w0 H x.A (x.r.flatMap numF)
 sl:x.s.cells.length<=1000000000000
 rl:x.r.length<=1000000000000
 rc:x.r.length<=x.cap
variable {B:Nat}{w0:World}{H:List HP}{x:WayM}
theorem WayM.In.cons{X:HP}(h:x.In B w0 H):x.In B w0 (X::H):=⟨h.n.cons,h.s.cons,h.r.cons,h.sl,h.rl,h.rc⟩
theorem WayM.In.mono{H':List HP}(h:x.In B w0 H)(hH:∀w,St B w0 H' w->St B w0 H w):x.In B w0 H':=⟨h.n.mono hH,h.s.mono hH,h.r.mono hH,h.sl,h.rl,h.rc⟩
theorem YmW{nodes:Int}{f:Flw}(h:2<=nodes/\nodes<=32):((YE nodes [f]).2=0↔Xv nodes f=0):=by
 unfold YE
 have e:Xb nodes [f] 0=Xv nodes f:=by
  show(if Xv nodes f≠0 then Xv nodes f else if 0<0/\_ then 5 else 0)=_
  omega
 unfold YH YH
 grind
theorem YiN(x:WayM){w:World}(ht:TabsB B w0)(hi:x.In B w0 H)(hw:St B w0 H w):
 CX B w0 284 [x.val] w λv K=>v=.int .i64 (wayE x.n.net x.s.sch x.f x.r)/\K=H:=by
 refine Ya Tryz.func284 Tryz.ntmps284 rfl rfl hw ?_
 have p1:=λ{H':List HP}{w:World}(hin:x.n.In B w0 H') (hw:St B w0 H' w)=>YV x.n hin hw
 have p2:=λ{H':List HP}{w:World}(hr:Rd B w0 H' x.s.A (x.s.cells.flatMap celF)) (hw:St B w0 H' w)=>VH x.s ht hr hi.sl hw
 have p3:=λ{g cap:Nat}{H':List HP}{w:World}(hm:blk g (.cells #[.int .i64 x.f.1,.int .i64 x.f.2.1,.int .i64 x.f.2.2.1,.int .i64 x.f.2.2.2.1,.int .i64 x.f.2.2.2.2.1,.int .i64 x.f.2.2.2.2.2] 66 (0,0))∈H') (hw:St B w0 H' w)=>Xe x.n.nodes [x.f] (TR rfl) (A:=some ⟨g,0,none⟩) (cap:=cap) (show Rd B w0 H' _ ([x.f].flatMap flwF) from Rd.blk hm) hw
 have p4:=λ{H':List HP}{w:World}(hin:x.n.In B w0 H') (hr:Rd B w0 H' x.A (x.r.flatMap numF)) (hw:St B w0 H' w)=>YbO x.n x.f.2.1 x.f.2.2.1 x.r (cap:=x.cap) hin hr (TY hi.rl (by decide)) hi.rc hw
 have hn:=hi.n
 have hs:=hi.s
 have hr:=hi.r
 have hfo:=@YmW x.n.net.nodes x.f
 have hok:=λh:Yo x.n.net=0=>(YK h).n0
 have hok1:=λh:Yo x.n.net=0=>(YK h).n1
 have hpe:(Y3 x.s.sch).2=0↔Y1 x.s.sch=true:=by
  unfold Y3
  cases hf:Y1 x.s.sch with
  |true=>rw[Tf (by decide)];simp
  |false=>rw[Tn rfl];simp
 unfold wayE
 rw[show x.n.net.nodes=x.n.nodes from rfl]at*
 rw[show x.s.sch.len=x.s.len from rfl]at*
 obtain⟨c,hc⟩:∃c,Yo x.n.net=c:=⟨_,rfl⟩
 obtain⟨⟨t,e⟩,he⟩:∃e,Y3 x.s.sch=e:=⟨_,rfl⟩
 obtain⟨⟨i,a⟩,ha⟩:∃a,YE x.n.nodes [x.f]=a:=⟨_,rfl⟩
 obtain⟨k,hk⟩:∃k,X0 x.n.net x.f.2.1 x.f.2.2.1 x.r=k:=⟨_,rfl⟩
 rw[hc]at p1 hok hok1⊢
 rw[he]at p2 hpe
 rw[ha]at p3 hfo
 rw[hk]at p4⊢
 dsimp only at p2 p3 hpe hfo
 unfold WayM.val
 by_cases h1:c=0
 rotate_left
 ·rw[Tn (.inl h1)]
  repeat'(first|((first|apply Yb en68|apply Yc en68);exact za;exact rfl;exactλ_ hw=>(p1 hn.cons hw))|(apply Yi T;exact rfl;exact zm;exact rfl;exact zv;exact rfl;exact rfl)|refine zgb ?_|(refine zge ?_ ?_<;>intro _<;>try exact zo)|(refine zgh ?_;intro _)|fail)
  apply Yh H
  ·exact zc0
  exact zc4
 subst h1
 have hfo:=hfo ⟨hok rfl,hok1 rfl⟩
 by_cases h2:e=0
 rotate_left
 ·rw[Tn (.inr (.inl (by cases hf:Y1 x.s.sch with|false=>rfl|true=>exact absurd (hpe.2 hf) h2)))]
  repeat'(first|((first|apply Yb en68|apply Yc en68);exact za;exact rfl;exactλ_ hw=>(p1 hn.cons hw))|((first|apply Yb en11|apply Yc en11);exact za;exact rfl;exactλ_ hw=>(p2 hs.cons hw))|(apply Yi T;exact rfl;exact zm;exact rfl;exact zv;exact rfl;exact rfl)|refine zgc ?_|(refine zge ?_ ?_<;>intro _<;>try exact zo)|(refine zgh ?_;intro _)|fail)
  apply Yh H
  ·exact zc0
  exact zc4
 subst h2
 have hfe:=hpe.1 rfl
 by_cases h3:a=0
 rotate_left
 ·rw[Tn (.inr (.inr (λh=>h3 (hfo.2 h))))]
  repeat'(first|((first|apply Yb en68|apply Yc en68);exact za;exact rfl;exactλ_ hw=>(p1 hn.cons hw))|((first|apply Yb en11|apply Yc en11);exact za;exact rfl;exactλ_ hw=>(p2 hs.cons hw))|((first|apply Yb en78|apply Yc en78);exact za;exact rfl;exactλ_ hw=>(p3 zm hw))|(apply Yi T;exact rfl;exact zm;exact rfl;exact zv;exact rfl;exact rfl)|refine zgc ?_|(refine zge ?_ ?_<;>intro _<;>try exact zo)|(refine zgh ?_;intro _)|fail)
  apply Yh H
  ·exact zc0
  exact zc4
 subst h3
 have hfz:=hfo.1 rfl
 rw[Tf (by rintro(h|h|h);exact h rfl;rw[hfe]at h;cases h;exact h hfz)]
 have hp1:1<=x.f.2.2.2.1:=by
  unfold Xv at hfz
  split at hfz
  ·cases hfz
  split at hfz
  ·cases hfz
  omega
 have hsz:1<=x.s.len/\x.s.len<=512:=by
  have:=Rm (Xw.1 hfe).sized
  exact⟨this.1,this.2.1⟩
 rw[Rn (show 0<=x.s.len by omega)]
 by_cases h4:x.s.len%x.f.2.2.2.1=0
 rotate_left
 ·rw[Tn h4]
  repeat'(first|((first|apply Yb en68|apply Yc en68);exact za;exact rfl;exactλ_ hw=>(p1 hn.cons hw))|((first|apply Yb en11|apply Yc en11);exact za;exact rfl;exactλ_ hw=>(p2 hs.cons hw))|((first|apply Yb en78|apply Yc en78);exact za;exact rfl;exactλ_ hw=>(p3 zm hw))|(apply Yi T;exact rfl;exact zm;exact rfl;exact zv;exact rfl;exact rfl)|refine zgd ?_|(refine zge ?_ ?_<;>intro _<;>try exact zo)|(refine zgh ?_;intro _)|fail)
  apply Yh H
  ·exact zc0
  exact zc4
 rw[Tf (λh=>h h4)]
 repeat'(first|((first|apply Yb en68|apply Yc en68);exact za;exact rfl;exactλ_ hw=>(p1 hn.cons hw))|((first|apply Yb en11|apply Yc en11);exact za;exact rfl;exactλ_ hw=>(p2 hs.cons hw))|((first|apply Yb en78|apply Yc en78);exact za;exact rfl;exactλ_ hw=>(p3 zm hw))|((first|apply Yb YeB|apply Yc YeB);exact za;exact rfl;exactλ_ hw=>(p4 hn.cons.cons hr.cons.cons hw))|(apply Yi T;exact rfl;exact zm;exact rfl;exact zv;exact rfl;exact rfl)|refine zgd ?_|(refine zge ?_ ?_<;>intro _<;>try exact zo)|(refine zgh ?_;intro _)|fail)
 apply Yh H
 ·exact zc0
 exact zc4
variable {n:Net}{s:Sch}{f:Flw}{r:List Int}
theorem Ygx(h:wayE n s f r=0):Yo n=0/\Y1 s=true/\Xv n.nodes f=0/\s.len.tmod f.2.2.2.1=0/\X0 n f.2.1 f.2.2.1 r=0:=by
 unfold wayE at h
 grind
theorem W4(h:(YP n s f r).2=0):wayE n s f r=0/\∃b,Jx n s f r=some b/\YP n s f r=(b,0):=by
 unfold YP at h⊢
 grind
variable {q:List Rqs}{i:Nat}
theorem Vl(h:i<q.length):q[i]? =some (rqAt q i):=by
 grind [rqAt]
theorem Yir(h:i<q.length):rqAt q i∈q:=Tc (Vl h)
variable {x:Rqs}
theorem Yh3(h:x∈q):∃i,i<q.length/\rqAt q i=x:=by
 obtain⟨i,hi⟩:=TP.1 h
 have hl:=(Tu.1 hi).1
 exact⟨i,hl,Tv ((Vl hl).symm.trans hi)⟩
variable {l:List (List Int)}
theorem Yaz(h:i<l.length):l[i]? =some (rtAt l i):=by
 grind [rtAt]
theorem Yis(h:i<l.length):rtAt l i∈l:=Tc (Yaz h)
def Oa(n:Net)(s:Sch)(x:Rqs):Bool:=decide (x.2.length=1\/x.2.length=2/\rtAt x.2 0≠rtAt x.2 1)&&!(JT n s x)
theorem Yf2(h:JT n s x=false)(hr:r∈x.2):(YP n s x.1 r).2=0/\(YP n s x.1 r).1.1<=x.1.2.2.2.2.2:=by
 simp_all [JT,badR]
theorem Yqb(h:Oa n s x=true):rtsE n x=0:=by
 unfold Oa at h
 rw[Tm,To]at h
 have hl:=h.2
 simp only[RY]at hl
 have hc:(YH (λk=>X0 n x.1.2.1 x.1.2.2.1 (rtAt x.2 k)) x.2.length 0).2=0:=YD.2 λk _ hk=>
  (Ygx (W4 (Yf2 hl (Yis (l:=x.2) (i:=k) (by omega))).1).1).2.2.2.2
 unfold rtsE
 grind
theorem Ow(h:rtsE n x=0):x.2.length=1\/x.2.length=2/\rtAt x.2 0≠rtAt x.2 1:=by
 unfold rtsE at h
 grind
theorem Za:(YO n q s).2.2=0↔(schE n (YR q) s).2=0/\∀x∈q,Oa n s x=true:=by
 constructor
 ·intro h
  unfold YO at h
  by_cases h1:(rqsE n q).2=0
  rotate_left
  ·simp_all
  by_cases h2:(schE n (YR q) s).2=0
  rotate_left
  ·simp_all
  by_cases h3:(YH (λi=>if JT n s (rqAt q i)=true then 15 else 0) q.length 0).2=0
  rotate_left
  ·simp_all
  refine⟨h2,λx hx=>?_⟩
  obtain⟨i,hi,rfl⟩:=Yh3 hx
  have h4:=YD.1 h3 i (Ti _) (by omega)
  have h5:rtsE n (rqAt q i)=0:=by
   have hw:=Ob (Zw.1 h2).whole
   simp_all [rqsE,YD]
  grind [Oa,Ow]
 ·rintro⟨h2,h3⟩
  have hw:=Ob (Zw.1 h2).whole
  have h1:(rqsE n q).2=0:=by
   unfold rqsE
   grind [YD,Yqb,Yir]
  have h4:(YH (λi=>if JT n s (rqAt q i)=true then 15 else 0) q.length 0).2=0:=YD.2 λi _ hi=>by
   have:=h3 _ (Yir (q:=q) (i:=i) (by omega))
   simp_all [Oa]
  simp_all [YO]
theorem YkQ(h:(YO n q s).2.2=0):YO n q s=(q.map (clmE n s),(-1,0)):=by
 unfold YO at h⊢
 grind
structure Uo(x:WayM):Prop where
 ck:Yo x.n.net=0
 len:2<=x.r.length/\x.r.length<=9
 good:∀i,i+1<x.r.length->YZ x.n.net (x.r.getD i 0) (x.r.getD (i+1) 0)=true
 per:1<=x.f.2.2.2.1/\x.f.2.2.2.1<=512
 ph:0<=x.f.2.2.2.2.1/\x.f.2.2.2.2.1<x.f.2.2.2.1
 slen:1<=x.s.len/\x.s.len<=512
 few:x.s.cells.length<=512
variable {n:Net}{r:List Int}
theorem JA{s t:Int}(h:X0 n s t r=0):Yo n=0/\(2<=r.length/\r.length<=9)/\∀i,i+1<r.length->YZ n (r.getD i 0) (r.getD (i+1) 0)=true:=by
 unfold X0 at h
 by_cases h0:Z2 n s t=0
 rotate_left
 ·omega
 rw[Tf (λe=>e h0)]at h
 have hck:Yo n=0:=by
  unfold Z2 at h0
  omega
 obtain⟨h1,_,_,_,h2⟩:=WQ h
 grind [VY]
theorem Q9{x:WayM}(h:wayE x.n.net x.s.sch x.f x.r=0):Uo x:=by
 obtain⟨_,h2,h3,_,h5⟩:=Ygx h
 obtain⟨k1,k2,k3⟩:=JA h5
 have hfr:=Xw.1 h2
 have hsz:=Rm hfr.sized
 unfold Xv at h3
 split at h3
 ·cases h3
 split at h3
 ·cases h3
 exact⟨k1,k2,k3,by omega,by omega,⟨hsz.1,hsz.2.1⟩,hfr.few⟩
def JC(x:WayM):List (List Value):=(Yp x.n.net x.r).map λl=>[lkV l]
theorem O8{i:Nat}(h:i+1<r.length):(Yp n r)[i]? =some (Zo n r i):=by
 grind [Yp]
theorem VE:(Yp n r).length=r.length-1:=by grind [Yp]
variable {B:Nat}{w0:World}
theorem Ya7(x:WayM)(g:Nat)(hok:Uo x){HI:List HP}(hi:x.In B w0 HI)(hm:wayB g x∈HI):
 YbP Tryz.prog 398 [.pointer (some ⟨g,0,none⟩)] (JC x) B w0 HI:=by
 refine YbQ Tryz.func398 Tryz.ntmps398 rfl rfl ?_
 intro l SS X hy L0 h0
 have hck:=hok.ck
 have hlen:=hok.len
 have p1:=λ{H':List HP}{w:World}(a b:Int) (hin:x.n.In B w0 H') (hw:St B w0 H' w)=>X8 x.n a b hin hw
 have hix:∀a b:Int,XS x.n.net a b=Yy x.n.net a b:=λa b=>by simp_all [XS]
 unfold wayB at hm
 refine zX8 ?_
 refine Yg (λ(y:Nat×List HP)=>[(3,.int .i64 (y.1+1:Nat)),(0,.func (.yield l) #[] #[]),(1,.pointer (some ⟨g,0,none⟩))]) (λy=>many y.2::HI) (λy=>y.1+1<=x.r.length/\SS y.1 y.2) (λy=>x.r.length-1-y.1) (0,L0) ⟨by omega,h0⟩ ?_ (λw hw=>hw) ?_
 ·exact zc1
 rintro⟨i,L⟩ ⟨hile,hS⟩ K hK
 dsimp only at hile hS⊢
 by_cases hlt:i+1<x.r.length
 ·have hg:=hok.good i hlt
  have hf:=Ol hg
  have hfl:=Zs hf
  have hlx:x.n.links[(Yy x.n.net (x.r.getD i 0) (x.r.getD (i+1) 0)).toNat]? =some (lnk x.n.net (Yy x.n.net (x.r.getD i 0) (x.r.getD (i+1) 0)).toNat):=QN x.n.net hfl
  have hla:Zo x.n.net x.r i=lnk x.n.net (Yy x.n.net (x.r.getD i 0) (x.r.getD (i+1) 0)).toNat:=rfl
  have hg0:=XR (l:=x.r) (i:=i) (by omega)
  have hg1:=XR (l:=x.r) (i:=i+1) (by omega)
  have hgi:((((i+1:Nat):Int)-1).toNat)=i:=by omega
  have hgi1:(((i+1:Nat):Int).toNat)=i+1:=by omega
  have hll:(Yy x.n.net (x.r.getD i 0) (x.r.getD (i+1) 0)).toNat<x.n.links.length:=hfl
  have p2:=λ{H':List HP}{w:World}(hin:x.n.In B w0 H') (hw:St B w0 H' w)=>p1 (x.r.getD i 0) (x.r.getD (i+1) 0) hin hw
  rw[hix]at p2
  have hx:(JC x)[i]? =some [lkV (Zo x.n.net x.r i)]:=by
   unfold JC;rw[TJ,O8 hlt];rfl
  rw[hla]at hx
  obtain⟨a,ha⟩:∃a,x.r.getD i 0=a:=⟨_,rfl⟩
  obtain⟨b,hb⟩:∃b,x.r.getD (i+1) 0=b:=⟨_,rfl⟩
  rw[ha]at hg0 p2 hlx hll hf hx
  rw[hb]at hg1 p2 hlx hll hf hx
  obtain⟨z,hz⟩:∃z,Yy x.n.net a b=z:=⟨_,rfl⟩
  rw[hz]at p2 hlx hll hf hx
  obtain⟨lk,hlk⟩:∃k,lnk x.n.net z.toNat=k:=⟨_,rfl⟩
  rw[hlk]at hlx hx
  obtain⟨R,hR1,hR2⟩:=YnK hm
  have hg0i:x.r[(((i+1:Nat):Int)-1).toNat]? =some a:=by rw[hgi];exact hg0
  have hg1i:x.r[((i+1:Nat):Int).toNat]? =some b:=by rw[hgi1];exact hg1
  have hwb:∀w,St B w0 (many L::(blk g (.cells #[.int .i64 x.n.nodes,.slice x.n.pA x.n.rows.length x.n.pcap,.int .i64 x.n.noise,.int .i64 x.n.thr,.slice x.n.lA x.n.links.length x.n.lcap,.slice x.n.mA x.n.margin.length x.n.mcap,.int .i64 x.s.len,.int .i64 x.s.off,.slice x.s.A x.s.cells.length x.s.cap,.int .i64 x.f.1,.int .i64 x.f.2.1,.int .i64 x.f.2.2.1,.int .i64 x.f.2.2.2.1,.int .i64 x.f.2.2.2.2.1,.int .i64 x.f.2.2.2.2.2,.slice x.A x.r.length x.cap,.int .i64 0] 330 (0,0)))::[many R]) w->St B w0 (many L::HI) w:=λw hw=>hw.perm (Perm.cons _ hR2)
  have hl0:0<=lk.2.2/\lk.2.2<=7:=by
   have h1:=(YK hck).lk z.toNat hll
   rw[<-hlk];exact⟨h1.l0,h1.l1⟩
  have hiK:x.In B w0 [wayB g x,many R]:=hi.mono λw hw=>hw.perm hR2
  have hrr:=hiK.r
  have hlr:=hiK.n.lk
  unfold wayB at hiK hrr hlr
  refine XD (blk g (.cells #[.int .i64 x.n.nodes,.slice x.n.pA x.n.rows.length x.n.pcap,.int .i64 x.n.noise,.int .i64 x.n.thr,.slice x.n.lA x.n.links.length x.n.lcap,.slice x.n.mA x.n.margin.length x.n.mcap,.int .i64 x.s.len,.int .i64 x.s.off,.slice x.s.A x.s.cells.length x.s.cap,.int .i64 x.f.1,.int .i64 x.f.2.1,.int .i64 x.f.2.2.1,.int .i64 x.f.2.2.2.1,.int .i64 x.f.2.2.2.2.1,.int .i64 x.f.2.2.2.2.2,.slice x.A x.r.length x.cap,.int .i64 0] 330 (0,0))::many L::[many R]) (λw hw=>hw.perm ((Perm.cons _ hR1).trans (Perm.swap _ _ _))) ?_
  refine zX3 ?_<;>intros
  apply JH (.n1 0 (.n1 1 (.n1 2 (.n1 3 (.n1 4 (.n1 5 (.n1 6 (.n1 7 (.n1 8 (.n1 9 (.n1 10 (.n1 11 (.n1 12 (.n1 13 (.n1 14 (.n1 15 (.n2 16 (.n1 17 (.n1 18 (.n1 19 .done))) 19 (.n1 16 (.n1 17 (.n1 18 .done)))))))))))))))))))) [20] [true,false,true]
  kernel_rfl
  kernel_rfl
  exact zy
  (simp only[Yd,nthO];rfl)
  repeat'(first|(apply Yi T;exact rfl;exact zm;exact rfl;exact zv;exact rfl;exact rfl)|(apply Yj;try exact zl)|apply(zs91 ?_ ?_)|(apply Y7;try exact zl)|refine zgd ?_|(refine zgh ?_;intro _)|fail)
  all_goals(
   first|apply Yb en69|apply Yc en69
   exact za
   exact rfl
   exactλ_ hw=>(p2 (hiK.mono zk).n hw)
   repeat'(first|(refine YgF 2 37 rfl rfl rfl (by rintro⟨_,_,_,_,h,_⟩;cases h) ?_)|(apply Yj;try exact zl)|(apply Y7;try exact zl)|refine zgd ?_|(refine zgh ?_;intro _)|fail)
   rename_i g5
   rw[show lk.2.2+0=lk.2.2 from Int.add_zero _]
   apply Yh (blk g5 (.cells #[.int .i64 lk.1,.int .i64 lk.2.1,.int .i64 lk.2.2] 145 (0,0))::many L::HI)
   ·intro w hw
    have h5:St B w0 (blk g5 (.cells #[.int .i64 lk.1,.int .i64 lk.2.1,.int .i64 lk.2.2] 145 (0,0))::many L::blk g (.cells #[.int .i64 x.n.nodes,.slice x.n.pA x.n.rows.length x.n.pcap,.int .i64 x.n.noise,.int .i64 x.n.thr,.slice x.n.lA x.n.links.length x.n.lcap,.slice x.n.mA x.n.margin.length x.n.mcap,.int .i64 x.s.len,.int .i64 x.s.off,.slice x.s.A x.s.cells.length x.s.cap,.int .i64 x.f.1,.int .i64 x.f.2.1,.int .i64 x.f.2.2.1,.int .i64 x.f.2.2.2.1,.int .i64 x.f.2.2.2.2.1,.int .i64 x.f.2.2.2.2.2,.slice x.A x.r.length x.cap,.int .i64 0] 330 (0,0))::[many R]) w:=by
     revert w
     exact zk
    exact h5.perm (Perm.cons _ (Perm.cons _ hR2))
   have hY:=hy _ _ hx [blk g5 (.cells #[.int .i64 lk.1,.int .i64 lk.2.1,.int .i64 lk.2.2] 145 (0,0))] L hS
   apply Yb3 _ _ (hy:=hY)
   ·exact Ybl
   ·exact rfl
   ·exact za
   ·exact rfl
   ·rintro⟨_,_,_,_,h,_⟩;cases h
   ·rintro _ ⟨L',hS',rfl⟩
    repeat'(first|refine zgd ?_|fail)
    apply hK (i+1,L')
    ·exact⟨by show i+1+1<=_;omega,hS'⟩
    ·dsimp only;omega
    ·exact zu
    ·exactλw hw=>hw.tail
   ·rintro _ ⟨L',hX',rfl⟩
    repeat'(first|refine zgd ?_|fail)
    apply Yh (many L'::HI)
    ·exactλw hw=>hw.tail
    apply UV;exact rfl
    exact .inr ⟨L',hX',rfl⟩)
 ·refine zX1 ?_<;>intros
  apply Jb;exact rfl
  have hl0:i=(JC x).length:=by unfold JC;rw[Tt,VE];omega
  rw[hl0]at hS
  exact .inl ⟨L,hS,rfl⟩
def Yr5(g:Nat):Value:=.func (.func 398) #[] #[.pointer (some ⟨g,0,none⟩)]
theorem YcW(x:WayM){H:List HP}{w:World}(hw:St B w0 H w):
 CX B w0 345 [x.val] w λv K=>∃g,v=Yr5 g/\K=wayB g x::H:=by
 refine Ya Tryz.func345 Tryz.ntmps345 rfl rfl hw ?_
 repeat'(first|((refine zs52 ?_;intro _))|((apply Yr;exact za;exact rfl))|refine zga ?_|fail)
 apply Ye;exact rfl;exact rfl
 exact⟨_,rfl,rfl⟩
variable {B i:Nat}{w0 w:World}{H:List HP}
theorem Yhg(x:WayM)(l:Lk)(g gl:Nat)(c:Cel)(hm:wayB g x∈H)(hml:blk gl (.cells #[.int .i64 l.1,.int .i64 l.2.1,.int .i64 l.2.2] 145 (0,0))∈H)(hw:St B w0 H w):
 CX B w0 399 [celV c,.pointer (some ⟨g,0,none⟩),.pointer (some ⟨gl,0,none⟩)] w λv K=>v=.bool (!(onP x.f.1 l.1 l.2.1 c))/\K=H:=by
 refine Ya Tryz.func399 Tryz.ntmps399 rfl rfl hw ?_
 unfold wayB at hm
 have hb:onP x.f.1 l.1 l.2.1 c=true↔c.2.2.2.2=x.f.1/\c.2.2.1=l.1/\c.2.2.2.1=l.2.1:=by unfold onP Xo YB toC;simp_all
 obtain⟨b,hbe⟩:∃b,onP x.f.1 l.1 l.2.1 c=b:=⟨_,rfl⟩
 rw[hbe]at hb⊢
 repeat'(first|refine zgc ?_|(refine zge ?_ ?_<;>intro _<;>try exact zo)|(refine zgh ?_;intro _)|fail)
 all_goals(
  apply Yh H
  ·exact zk
  apply Ye;exact rfl;exact rfl
  cases b<;>simp at hb<;>first|exact⟨rfl,rfl⟩|(exfalso;omega))
theorem Yjh(x:WayM)(l:Lk)(hfew:x.s.cells.length<=1000)(hr:Rd B w0 H x.s.A (x.s.cells.flatMap celF))(hw:St B w0 H w):
 CX B w0 346 [x.val,lkV l] w λv K=>∃A cap,v=.slice A (Xz x.s.sch x.f.1 l).length cap/\K=cels A cap (Xz x.s.sch x.f.1 l)::H:=by
 refine Ya Tryz.func346 Tryz.ntmps346 rfl rfl hw ?_
 unfold WayM.val lkV
 repeat'(first|refine zgb ?_|(refine zgh ?_;intro _)|fail)
 rename_i gw gl
 apply Yf _ Yew
 exact za
 exact rfl
 exactλ_ hw=>(Z0 x.s.cells (by omega) hr.cons.cons (hw))
 rintro _ _ ⟨A',cap',rfl,rfl⟩
 repeat'(first|(apply zg29;(apply Yr;exact za;exact rfl))|fail)
 apply Yf _ Yk5
 exact za
 exact rfl
 exactλ_ hw=>(V0 (λc=>!(onP x.f.1 l.1 l.2.1 c)) x.s.cells 399 [.pointer (some ⟨gw,0,none⟩),.pointer (some ⟨gl,0,none⟩)] YvB hfew (λc _ X w hw=>Yhg x l gw gl c (TS _ (by unfold wayB;exact zm)) (TS _ zm) hw) (hw))
 rintro _ _ ⟨rfl,rfl⟩
 have e:x.s.cells.filter (λc=>!!(onP x.f.1 l.1 l.2.1 c))=Xz x.s.sch x.f.1 l:=Nk λc _=>Bool.not_not _
 rw[e]
 repeat'(first|refine zga ?_|fail)
 apply Yh (cels A' cap' (Xz x.s.sch x.f.1 l)::H)
 ·exact zk
 apply Ye;exact rfl;exact rfl
 exact⟨A',cap',rfl,rfl⟩
variable {x:WayM}{l:Lk}
theorem QM(hok:Uo x)(h:(Yp x.n.net x.r)[i]? =some l):i+1<x.r.length/\0<=l.2.2/\l.2.2<=7:=by
 have hi:=(Tu.1 h).1
 rw[VE]at hi
 have hi:i+1<x.r.length:=by omega
 rw[O8 hi]at h
 have hg:=hok.good i hi
 have h1:=(YK hok.ck).lk _ (Zs (Ol hg))
 have e:=Tv h
 unfold Zo at e
 have h2:=h1.l0;have h3:=h1.l1
 simp_all
theorem YeX{ls:List Lk}(h:ls[i]? =some l):XY (ls.take (i+1))=XY (ls.take i)+Y9 l:=by
 grind [XY,TF]
theorem Wa{args:List Value}(h:(JC x)[i]? =some args):∃l,(Yp x.n.net x.r)[i]? =some l/\args=[lkV l]:=by
 unfold JC at h
 grind
theorem QP{x:WayM}(hok:Uo x):∀i,XY ((Yp x.n.net x.r).take i)<=8*i
 |0=>TI _
 |i+1=>by
  have ih:=QP hok i
  cases h:(Yp x.n.net x.r)[i]? with
  |none=>
   grind [TL]
  |some l=>
   rw[YeX h]
   have:=QM hok h
   grind [Y9]
theorem Yh8(x:WayM)(hok:Uo x)(hi:x.In B w0 H)(hw:St B w0 H w):
 CX B w0 407 [x.val] w λv K=>v=.int .i64 (XY (Yp x.n.net x.r))/\K=H:=by
 refine XZ Tryz.func407 Tryz.ntmps407 rfl rfl hw ?_
 unfold WayM.val
 refine zX25 ?_<;>intros
 rename_i g gN
 apply Yf _ YsG
 exact za
 exact rfl
 exactλ_ hw=>(YcW x (hw))
 rintro _ _ ⟨g2,rfl,rfl⟩
 refine zX8 ?_
 have hl9:=hok.len
 have hiK:x.In B w0 (wayB g2 x::wayB g x::H):=hi.cons.cons
 refine X5 (gf:=398) (lb:=[.pointer (some ⟨g2,0,none⟩)]) (xs:=JC x) (wayB g2 x::wayB g x::H) (λz:Int=>[blk gN (.cells #[.int .i64 z] 3 (0,0))]) (λi z=>z=(XY ((Yp x.n.net x.r).take i):Int)) (λ_ _=>False) 0 rfl YsP (Ya7 x g2 hok hiK (.head _)) rfl ?_ (by kernel_rfl) (by kernel_rfl) ?_ rfl ?_ ?_ (λ_ _ _ h=>h.elim)
 ·grind [TP,Wa]
 ·unfold wayB
  simp only[TA,TE]
  exact zc0
 ·rintro l k args R z hk hI
  obtain⟨lk,hlk,rfl⟩:=Wa hk
  have hbd:=QM hok hlk
  have hne:=QP hok k
  have hst:=YeX hlk
  try dsimp only at hI
  dsimp only[Ul,List.cons_append,List.nil_append]
  unfold lkV
  refine zX64 ?_<;>intros
  apply Jv (Yu Yq)
  intro R'
  unfold wayB
  refine zX2 ?_
  apply VX (z+(lk.2.2+1))
  ·show z+(lk.2.2+1)=_
   rw[hI,hst]
   unfold Y9
   omega
  ·dsimp only[List.cons_append,List.nil_append]
   exact zc0
 ·rintro D z hI
  try dsimp only at hI
  have hle:(JC x).length=(Yp x.n.net x.r).length:=by unfold JC;exact Yfm
  rw[hle,TM]at hI
  dsimp only[List.cons_append,List.nil_append]
  unfold wayB
  refine zX11 ?_
  apply Zr Yq
  apply VQ_m
  apply Yh H
  ·exact zc0
  apply Ye;exact rfl;exact rfl
  exact⟨by rw[hI],rfl⟩
open Go.RowKit Go.Eng Go.Nw
def netN(g:Nat)(n:NetM):HP:=blk g (.cells #[.int .i64 n.nodes,.slice n.pA n.rows.length n.pcap,.int .i64 n.noise,.int .i64 n.thr,.slice n.lA n.links.length n.lcap,.slice n.mA n.margin.length n.mcap] 26 (0,0))
theorem Ybs(n:NetM)(l:List Flw)(s:SchM)(hck:Yo n.net=0)(hlen:l.length<=1000)(hl:s.cells.length<=1000000000000){A:Option Addr}{cap B:Nat}{w0:World}{H:List HP}{w:World}(hin:n.In B w0 H)(hrf:Rd B w0 H A (l.flatMap flwF))(hr:Rd B w0 H s.A (s.cells.flatMap celF))(hw:St B w0 H w):
 CX B w0 188 [n.val,.slice A l.length cap,s.val] w λv K=>v=.tuple #[.int .i64 (Jz n.net l s.sch).1,.int .i64 (Jz n.net l s.sch).2]/\K=H:=by
 refine Ya Tryz.func188 Tryz.ntmps188 rfl rfl hw ?_
 have e4:s.sch.cells.length=s.cells.length:=rfl
 have hE:Jz n.net l s.sch=YH (VZ n.net l s.sch) s.cells.length 0:=rfl
 rw[hE]
 refine zX70 ?_<;>intros
 rename_i gn gs
 refine Yg (λ(i:Nat)=>[(13,.int .i64 i),(12,.int .i64 s.cells.length),(11,.slice s.A s.cells.length s.cap),(3,.pointer (some ⟨gn,0,none⟩)),(5,.pointer (some ⟨gs,0,none⟩)),(1,.slice A l.length cap)])
  (λ_=>blk gs (.cells #[.int .i64 s.len,.int .i64 s.off,.slice s.A s.cells.length s.cap] 30 (0,0))::netN gn n::H) (λi=>i<=s.cells.length/\∀k,k<i->VZ n.net l s.sch k=0) (λi=>s.cells.length-i) 0 ⟨Ti _,λk hk=>absurd hk (RE _)⟩ ?_ (λw hw=>hw) ?_
 ·exact zc1
 rintro i ⟨hi,hall⟩ K hK
 unfold netN
 have hrc:=λ(X:HP)=>((hr.cons (X:=netN gn n)).cons (X:=blk gs (.cells #[.int .i64 s.len,.int .i64 s.off,.slice s.A s.cells.length s.cap] 30 (0,0)))).cons (X:=X)
 by_cases hlt:i<s.cells.length
 ·have hget:s.cells[i]? =some (Yn s.sch i):=YU (s:=s.sch) hlt
  have hbad:VZ n.net l s.sch i≠0->YH (VZ n.net l s.sch) s.cells.length 0=((i:Int),VZ n.net l s.sch i):=λh=>Zt (λk _ hk=>hall k hk) (Ti _) (by omega) h
  have hstep:VZ n.net l s.sch i=0->∀k,k<i+1->VZ n.net l s.sch k=0:=λh k hk=>by
   exact YtQ
  obtain⟨c,hc⟩:∃c,Yn s.sch i=c:=⟨_,rfl⟩
  have hce:VZ n.net l s.sch i=if Zv s.sch c=false then 2 else if YZ n.net (YB c) (toC c)=false\/Z3 l (Xo c)<0 then 7 else if 0<i/\Y4 (Yn s.sch (i-1)) c=false then 5 else 0:=by
   unfold VZ
   rw[hc]
  rw[hc]at hget
  have hplc:=λ{H':List HP}{w:World}(hw:St B w0 H' w)=>Ybd s c hw
  cases hp:Zv s.sch c with
  |false=>
   rw[hp]at hplc
   rw[hp,Tn rfl]at hce
   rw[hbad (by rw[hce];decide),hce]
   repeat'(first|((first|apply Yb OI|apply Yc OI);exact za;exact rfl;exactλ_ hw=>(hplc hw))|refine zgd ?_|(refine zge ?_ ?_<;>intro _<;>try exact zo)|(refine zgh ?_;intro _)|fail)
   apply Yh H
   ·exact zc0
   exact zc10
  |true=>
  rw[hp]at hplc
  rw[hp,Tf (by decide)]at hce
  have hix:=λ{H':List HP}{w:World}(hin:n.In B w0 H') (hw:St B w0 H' w)=>X8 n c.2.2.1 c.2.2.2.1 hin hw
  have hus:=λ{H':List HP}{w:World}(hin:n.In B w0 H') (hw:St B w0 H' w)=>VW n (XS n.net c.2.2.1 c.2.2.2.1) hin hw
  rw[YiK hck]at hus
  have hfi:=λ{H':List HP}{w:World}(hr:Rd B w0 H' A (l.flatMap flwF)) (hw:St B w0 H' w)=>Yjz l c.2.2.2.2 hlen (cap:=cap) hr hw
  have hgf:YZ n.net (YB c) (toC c)=YZ n.net c.2.2.1 c.2.2.2.1:=rfl
  have hff:Z3 l (Xo c)=Z3 l c.2.2.2.2:=rfl
  by_cases hg:YZ n.net c.2.2.1 c.2.2.2.1=false\/Z3 l c.2.2.2.2<0
  ·rw[hgf,hff,Tn hg]at hce
   rw[hbad (by rw[hce];decide),hce]
   cases hgd:YZ n.net c.2.2.1 c.2.2.2.1 with
   |false=>
    rw[hgd]at hus
    repeat'(first|((first|apply Yb OI|apply Yc OI);exact za;exact rfl;exactλ_ hw=>(hplc hw))|((first|apply Yb en69|apply Yc en69);exact za;exact rfl;exactλ_ hw=>(hix hin.cons.cons.cons hw))|((first|apply Yb J3|apply Yc J3);exact za;exact rfl;exactλ_ hw=>(hus hin.cons.cons.cons hw))|(apply zg28;refine zs84 ?_)|refine zgd ?_|(refine zge ?_ ?_<;>intro _<;>try exact zo)|(refine zgh ?_;intro _)|fail)
    apply Yh H
    ·exact zc0
    exact zc10
   |true=>
    have hneg:Z3 l c.2.2.2.2<0:=hg.elim (λh=>by rw[hgd]at h;cases h) id
    rw[hgd]at hus
    refine zX73 ?_<;>intros
    apply Yh H
    ·exact zc0
    exact zc10
  have hgd:YZ n.net c.2.2.1 c.2.2.2.1=true:=by
   cases h:YZ n.net c.2.2.1 c.2.2.2.1 with
   |true=>rfl
   |false=>exact absurd (.inl h) hg
  have hpos:¬Z3 l c.2.2.2.2<0:=λh=>hg (.inr h)
  rw[hgf,hff,Tf hg]at hce
  rw[hgd]at hus
  rcases Ss i with h0|h0
  ·subst h0
   rw[Tf (by omega)]at hce
   refine zX73 ?_<;>intros
   apply hK (0+1)
   ·exact⟨by omega,hstep hce⟩
   ·omega
   ·exact zc1
   ·unfold netN
    exact zc0
  have hget2:s.cells[((i:Int)-1).toNat]? =some (Yn s.sch (i-1)):=Yte
  obtain⟨p,hpv⟩:∃p,Yn s.sch (i-1)=p:=⟨_,rfl⟩
  rw[hpv]at hce hget2
  have hcl:=Yaj p c
  have hcm:=λ{H':List HP}{w:World}(hw:St B w0 H' w)=>OG p c hw
  obtain⟨q,hq⟩:∃q,cmpV (nums p) (nums c)=q:=⟨_,rfl⟩
  rw[hq]at hcl hcm
  by_cases hlt2:q<0
  ·rw[hcl.1 hlt2,Tf (by simp)]at hce
   refine zX74 ?_<;>intros
   apply hK (i+1)
   ·exact⟨by omega,hstep hce⟩
   ·omega
   ·exact zc1
   ·unfold netN
    exact zc0
  ·have hnl:Y4 p c=false:=by
    cases h:Y4 p c with
    |false=>rfl
    |true=>exact absurd (hcl.2 h) hlt2
   rw[hnl,Tn ⟨h0,rfl⟩]at hce
   rw[hbad (by rw[hce];decide),hce]
   refine zX74 ?_<;>intros
   apply Yh H
   ·exact zc0
   exact zc10
 ·refine zX1 ?_<;>intros
  rw[show i=s.cells.length by omega]at hall
  rw[Z4 λk _ hk=>hall k (by omega)]
  apply Yh H
  ·exact zc0
  exact zc10
def runW(x:WayM)(a:Int):List (Cel×Int):=runP x.s.len (Xz x.s.sch x.f.1) (a+x.f.2.2.2.1) (Yp x.n.net x.r) a
def cntV(z:Cel×Int):List Value:=[celV z.1,.int .i64 z.2]
def Yhl(x:WayM)(a:Int):List (List Value):=(runW x a).map cntV
structure CtM where
 c:Nat
 a:Int
 L:List HP
structure CuM where
 k:Nat
 slot:Int
 a:Int
 c:Nat
 L:List HP
structure CvM where
 j:Nat
 k:Nat
 a:Int
 c:Nat
 L:List HP
variable {α:Type}{c:Nat}
theorem Yqn{W r:List α}{z:α}(hc:c<=W.length)(h:W=W.take c++z::r):W[c]? =some z/\c+1<=W.length/\W=W.take (c+1)++r:=by
 grind
theorem YiF{W:List α}(hc:c<=W.length)(h:W=W.take c++[]):c=W.length:=by
 grind
theorem Qx(x:WayM)(at0:Int)(hok:Uo x)(hat:0<=at0/\at0<=1000000)(ga gw:Nat){B:Nat}{w0:World}{H:List HP}(hi:x.In B w0 H):
 YbP Tryz.prog 344 [.pointer (some ⟨ga,0,none⟩),.pointer (some ⟨gw,0,none⟩)] (Yhl x at0) B w0 (intB ga at0::wayB gw x::H):=by
 refine Yl4 Tryz.func344 Tryz.ntmps344 rfl rfl ?_
 intro l SS XX hy L0 h0
 have hper:=hok.per
 have hslen:=hok.slen
 obtain⟨W,hW⟩:∃W,runW x at0=W:=⟨_,rfl⟩
 have hxs:Yhl x at0=W.map cntV:=by unfold Yhl;rw[hW]
 rw[hxs]at hy⊢
 rw[Tt]
 obtain⟨endd,hend⟩:∃e,at0+x.f.2.2.2.1=e:=⟨_,rfl⟩
 unfold runW at hW
 rw[hend]at hW
 unfold intB at hy⊢
 iterate 3 (first|refine zga ?_|(refine zgh ?_;intro _)|fail)
 rename_i gy
 apply Yof
 apply YfG
 apply Xs
 refine ZH (λz:Nat×Nat=>[(5,.pointer (some ⟨z.2,0,none⟩)),(4,.pointer (some ⟨z.1,0,none⟩)),(3,.pointer (some ⟨gy,0,none⟩)),(1,.pointer (some ⟨ga,0,none⟩)),(2,.pointer (some ⟨gw,0,none⟩))])
  (λz=>intB z.1 at0::many L0::intB z.2 endd::blk gy (.cells #[.func (.yield l) #[] #[]] 385 (0,0))::intB ga at0::wayB gw x::H) ?_ ?_
 ·intro K hK
  refine zX9 ?_
  apply JH (.n1 0 (.n1 1 (.n1 2 (.n1 3 (.n1 4 (.n1 5 (.n2 6 (.n1 7 (.n1 8 .done)) 7 (.n1 6 (.n1 8 .done))))))))) [9] [false,false,true,true]
  kernel_rfl
  kernel_rfl
  exact zy
  (simp only[Yd,nthO];rfl)
  repeat'(first|(apply Yj;try exact zl)|apply(zs91 ?_ ?_)|(apply Y7;try exact zl)|refine zgd ?_|(refine zgh ?_;intro _)|fail)
  ·rename_i a b
   rw[hend]
   apply hK (a,b)
   ·exact zc1
   ·unfold intB
    dsimp only
    exact zc0
  ·rename_i a b
   rw[hend]
   apply hK (b,a)
   ·exact zc1
   ·unfold intB
    dsimp only
    exact zc0
 rintro⟨g4,g5⟩
 unfold intB
 dsimp only
 refine zX8 ?_
 apply Yf _ YsG
 exact za
 exact rfl
 exactλ_ hw=>(YcW x (hw))
 rintro _ _ ⟨g2,rfl,rfl⟩
 refine zX8 ?_
 have hiK:x.In B w0 (wayB g2 x::blk g5 (.cells #[.int .i64 endd] 3 (0,0))::blk gy (.cells #[.func (.yield l) #[] #[]] 385 (0,0))::blk ga (.cells #[.int .i64 at0] 3 (0,0))::wayB gw x::H):=hi.cons.cons.cons.cons.cons
 refine X5 (gf:=398) (lb:=[.pointer (some ⟨g2,0,none⟩)]) (xs:=JC x) (wayB g2 x::blk g5 (.cells #[.int .i64 endd] 3 (0,0))::blk gy (.cells #[.func (.yield l) #[] #[]] 385 (0,0))::blk ga (.cells #[.int .i64 at0] 3 (0,0))::wayB gw x::H) (λy:CtM=>[blk g4 (.cells #[.int .i64 y.a] 3 (0,0)),many y.L])
  (λk y=>y.c<=W.length/\W=W.take y.c++runP x.s.len (Xz x.s.sch x.f.1) endd ((Yp x.n.net x.r).drop k) y.a/\SS y.c y.L/\at0<=y.a/\y.a<=endd)
  (λe K=>e=.ret/\∃a L,(SS W.length L\/XX L)/\K=[blk g4 (.cells #[.int .i64 a] 3 (0,0)),many L]) ⟨0,at0,L0⟩ rfl YsP (Ya7 x g2 hok hiK (.head _)) rfl ?_ (by kernel_rfl) (by kernel_rfl) ?_ ⟨Ti _,by simpa using hW.symm,h0,SK _,by show at0<=endd;omega⟩ ?_ ?_ ?_
 ·intro args h
  obtain⟨k,hk⟩:=TP.1 h
  obtain⟨l,_,rfl⟩:=Wa hk
  rfl
 ·simp only[TA,TE]
  exact zc0
 ·rintro l2 k args R ⟨c,a,L⟩ hk ⟨hc,hWk,hS,ha0,ha1⟩
  obtain⟨lk,hlk,rfl⟩:=Wa hk
  have hbd:=QM hok hlk
  dsimp only at hc hWk hS ha0 ha1
  dsimp only[Ul,List.cons_append,List.nil_append]
  unfold lkV
  refine zX64 ?_<;>intros
  rename_i gl
  apply Jv (Yu Yq)
  intro R'
  refine zX11 ?_
  have hfew:=hok.few
  apply Yf _ Yvw
  exact za
  exact rfl
  exactλ_ hw=>(Yjh x lk (by omega) (hi.mono zc0).s (hw))
  rintro _ _ ⟨A,cap,rfl,rfl⟩
  have hcsl:(Xz x.s.sch x.f.1 lk).length<=512:=TY (Ry _ _) hfew
  have hdk:(Yp x.n.net x.r).drop k=lk::(Yp x.n.net x.r).drop (k+1):=by
   obtain⟨h1,h2⟩:=Tu.1 hlk
   rw[<-h2];exact Rh h1
  rw[hdk,Yqc]at hWk
  obtain⟨cs,hcs⟩:∃cs,Xz x.s.sch x.f.1 lk=cs:=⟨_,rfl⟩
  obtain⟨ls,hls⟩:∃ls,(Yp x.n.net x.r).drop (k+1)=ls:=⟨_,rfl⟩
  obtain⟨C,hC⟩:∃C,Xz x.s.sch x.f.1=C:=⟨_,rfl⟩
  rw[hcs,hls,hC]at hWk
  rw[hcs]at hcsl⊢
  rw[hC,hls]
  unfold cels
  refine zX8 ?_
  rw[show lk.2.2+1=((Y9 lk:Nat):Int) from by unfold Y9;omega]
  have hnl8:Y9 lk<=8:=by unfold Y9;omega
  refine Yg (λz:CuM=>[(9,.int .i64 z.slot),(7,.int .i64 (z.k:Nat)),(8,.slice A cs.length cap),(6,.pointer (some ⟨gl,0,none⟩)),(5,.pointer (some ⟨g5,0,none⟩)),(4,.pointer (some ⟨g4,0,none⟩)),(3,.pointer (some ⟨gy,0,none⟩)),(1,.pointer (some ⟨ga,0,none⟩)),(2,.pointer (some ⟨gw,0,none⟩))])
   (λz=>R'::blk g4 (.cells #[.int .i64 z.a] 3 (0,0))::many z.L::sl 48 5 A cs.length cap (cs.flatMap celF)::blk gl (.cells #[.int .i64 lk.1,.int .i64 lk.2.1,.int .i64 lk.2.2] 145 (0,0))::wayB g2 x::blk g5 (.cells #[.int .i64 endd] 3 (0,0))::blk gy (.cells #[.func (.yield l) #[] #[]] 385 (0,0))::blk ga (.cells #[.int .i64 at0] 3 (0,0))::wayB gw x::H)
   (λz=>z.c<=W.length/\W=W.take z.c++Wx x.s.len C endd cs ls (endd-z.slot).toNat z.k z.slot z.a/\SS z.c z.L/\(at0<=z.a/\z.a<=endd)/\(at0<=z.slot/\z.slot<=endd)/\z.k<=8) (λz=>(endd-z.slot).toNat) ⟨Y9 lk,a,a,c,L⟩ ⟨hc,hWk,hS,⟨ha0,ha1⟩,⟨ha0,ha1⟩,hnl8⟩ ?_ ?_ ?_
  ·exact zc1
  ·exact zc0
  rintro⟨kk,slot,a,c,L⟩ ⟨hc,hWk,hS,⟨ha0,ha1⟩,⟨hs0,hs1⟩,hk8⟩ K hK
  dsimp only at hc hWk hS ha0 ha1 hs0 hs1 hk8⊢
  by_cases hk0:kk=0
  ·subst hk0
   rw[YnO]at hWk
   clear hK
   refine zX1 ?_<;>intros
   apply VX (CtM.mk c a L)
   ·exact⟨hc,hWk,hS,ha0,ha1⟩
   ·dsimp only[List.cons_append,List.nil_append]
    exact zc0
  by_cases hse:endd<=slot
  ·rw[show(endd-slot).toNat=0 by omega,Yqm hk0]at hWk
   have hce:=YiF hc hWk
   rw[hce]at hS
   clear hK
   refine zX24 ?_<;>intros
   apply Qo [blk g4 (.cells #[.int .i64 a] 3 (0,0)),many L]
   ·exact⟨rfl,a,L,.inl hS,rfl⟩
   ·dsimp only[List.cons_append,List.nil_append]
    exact zc0
  obtain⟨f,hf⟩:∃f,(endd-(slot+1)).toNat=f:=⟨_,rfl⟩
  have hf1:(endd-slot).toNat=f+1:=by omega
  have hmt:slot.tmod x.s.len=slot%x.s.len:=Rn (by omega)
  rw[hf1,<-Yp6]at hWk
  repeat'(first|refine zgb ?_|(refine zgf ?_ ?_<;>intro _<;>try exact zo)|fail)
  refine Yg (λy:CvM=>[(37,.int .i64 (y.j:Nat)),(36,.int .i64 cs.length),(35,.slice A cs.length cap),(9,.int .i64 slot),(7,.int .i64 (y.k:Nat)),(8,.slice A cs.length cap),(6,.pointer (some ⟨gl,0,none⟩)),(5,.pointer (some ⟨g5,0,none⟩)),(4,.pointer (some ⟨g4,0,none⟩)),(3,.pointer (some ⟨gy,0,none⟩)),(1,.pointer (some ⟨ga,0,none⟩)),(2,.pointer (some ⟨gw,0,none⟩))])
   (λy=>R'::blk g4 (.cells #[.int .i64 y.a] 3 (0,0))::many y.L::sl 48 5 A cs.length cap (cs.flatMap celF)::blk gl (.cells #[.int .i64 lk.1,.int .i64 lk.2.1,.int .i64 lk.2.2] 145 (0,0))::wayB g2 x::blk g5 (.cells #[.int .i64 endd] 3 (0,0))::blk gy (.cells #[.func (.yield l) #[] #[]] 385 (0,0))::blk ga (.cells #[.int .i64 at0] 3 (0,0))::wayB gw x::H)
   (λy=>y.j<=cs.length/\y.c<=W.length/\W=W.take y.c++OQ x.s.len C endd cs (cs.drop y.j) ls f y.k slot y.a/\SS y.c y.L/\(at0<=y.a/\y.a<=endd)/\y.k<=8) (λy=>cs.length-y.j) ⟨0,kk,a,c,L⟩ ⟨Ti _,hc,hWk,hS,⟨ha0,ha1⟩,hk8⟩ ?_ ?_ ?_
  ·exact zc1
  ·exact zc0
  clear hWk hS hc hk0 hk8 ha0 ha1
  rintro⟨j,kk,a,c,L⟩ ⟨hj,hc,hWk,hS,⟨ha0,ha1⟩,hk8⟩ K2 hK2
  dsimp only at hj hc hWk hS ha0 ha1 hk8⊢
  by_cases hjl:j<cs.length
  rotate_left
  ·obtain rfl:j=cs.length:=by omega
   rw[R9,Yp7]at hWk
   clear hK2
   refine zX1 ?_<;>intros
   apply hK ⟨kk,slot+1,a,c,L⟩
   ·exact⟨hc,by rw[hf];exact hWk,hS,⟨ha0,ha1⟩,⟨by show at0<=slot+1;omega,by show slot+1<=endd;omega⟩,hk8⟩
   ·exact zc47
   ·exact zc1
   exact zc20
  obtain⟨d,hd⟩:∃d,cs[j]? =some d:=⟨_,Ta hjl⟩
  have hdj:cs.drop j=d::cs.drop (j+1):=by
   obtain⟨h1,h2⟩:=Tu.1 hd
   rw[<-h2];exact Rh h1
  rw[hdj]at hWk
  by_cases hcd:d.1=slot%x.s.len/\kk≠0
  ·obtain⟨hcd1,hcd2⟩:=hcd
   obtain⟨k3,rfl⟩:∃k3,kk=k3+1:=⟨kk-1,by omega⟩
   rw[Yp8 (by rw[hmt];exact hcd1) hcd2,R7]at hWk
   obtain⟨hx,hc1,hW1⟩:=Yqn hc hWk
   have hx:(W.map cntV)[c]? =some [celV d,.int .i64 slot]:=by rw[TJ,hx];rfl
   repeat'(first|(refine Yfp 3 57 rfl rfl rfl ?_)|refine zgd ?_|(refine zgf ?_ ?_<;>intro _<;>try exact zo)|(refine zgh ?_;intro _)|fail)
   first|(rename_i gc _ _;guard_hyp gc:Nat)|(rename_i gc _;guard_hyp gc:Nat)|(rename_i gc _ _ _;guard_hyp gc:Nat)
   rw[show((k3+1:Nat):Int)-1=(k3:Int) by omega]
   apply Yh (R'::blk gc (.cells #[.int .i64 d.1,.int .i64 d.2.1,.int .i64 d.2.2.1,.int .i64 d.2.2.2.1,.int .i64 d.2.2.2.2] 48 (0,0))::sl 48 5 A cs.length cap (cs.flatMap celF)::blk gl (.cells #[.int .i64 lk.1,.int .i64 lk.2.1,.int .i64 lk.2.2] 145 (0,0))::blk g4 (.cells #[.int .i64 (slot+1)] 3 (0,0))::wayB g2 x::blk g5 (.cells #[.int .i64 endd] 3 (0,0))::blk gy (.cells #[.func (.yield l) #[] #[]] 385 (0,0))::many L::blk ga (.cells #[.int .i64 at0] 3 (0,0))::wayB gw x::H)
   ·exact zc0
   have hY:=hy c _ hx [R',blk gc (.cells #[.int .i64 d.1,.int .i64 d.2.1,.int .i64 d.2.2.1,.int .i64 d.2.2.2.1,.int .i64 d.2.2.2.2] 48 (0,0)),sl 48 5 A cs.length cap (cs.flatMap celF),blk gl (.cells #[.int .i64 lk.1,.int .i64 lk.2.1,.int .i64 lk.2.2] 145 (0,0)),blk g4 (.cells #[.int .i64 (slot+1)] 3 (0,0)),wayB g2 x,blk g5 (.cells #[.int .i64 endd] 3 (0,0)),blk gy (.cells #[.func (.yield l) #[] #[]] 385 (0,0))] L hS
   apply Ymk _ _ (hy:=hY)
   ·exact Ybl
   ·exact rfl
   ·exact YqB
   ·exact rfl
   ·exact zc42
   ·exact rfl
   ·rintro _ ⟨L',hS',rfl⟩
    dsimp only[List.cons_append,List.nil_append]
    refine zX2 ?_
    apply hK2 ⟨j+1,k3,slot+1,c+1,L'⟩
    ·exact⟨by show j+1<=_;omega,hc1,hW1,hS',⟨by show at0<=slot+1;omega,by show slot+1<=endd;omega⟩,by show k3<=8;omega⟩
    ·exact zc47
    ·exact zc1
    ·exact zc0
   ·rintro _ ⟨L',hX',rfl⟩
    dsimp only[List.cons_append,List.nil_append]
    refine zX2 ?_
    apply Qo [blk g4 (.cells #[.int .i64 (slot+1)] 3 (0,0)),many L']
    ·exact⟨rfl,slot+1,L',.inr hX',rfl⟩
    ·dsimp only[List.cons_append,List.nil_append]
     exact zc0
  ·rw[YrS (by rw[hmt];exact hcd)]at hWk
   repeat'(first|refine zgd ?_|(refine zgf ?_ ?_<;>intro _<;>try exact zo)|(refine zgh ?_;intro _)|fail)
   all_goals(
    apply hK2 ⟨j+1,kk,a,c,L⟩
    ·exact⟨by show j+1<=_;omega,hc,hWk,hS,⟨ha0,ha1⟩,hk8⟩
    ·dsimp only;omega
    ·exact zu
    ·exact zk)
 ·rintro D ⟨c,a,L⟩ ⟨hc,hWk,hS,ha0,ha1⟩
  dsimp only at hc hWk hS ha0 ha1
  have hle:(JC x).length=(Yp x.n.net x.r).length:=by unfold JC;exact Yfm
  rw[hle,R9]at hWk
  have hce:=YiF hc hWk
  rw[hce]at hS
  dsimp only[List.cons_append,List.nil_append]
  refine zX11 ?_
  apply Yq4
  apply Zr Yq
  apply VQ_m
  apply Yh (many L::blk ga (.cells #[.int .i64 at0] 3 (0,0))::wayB gw x::H)
  ·exact zc0
  apply UV;exact rfl
  exact .inl ⟨L,hS,rfl⟩
 ·rintro D _ _ ⟨rfl,a,L,hSL,rfl⟩ _
  dsimp only[List.cons_append,List.nil_append]
  refine zX2 ?_
  apply Zr Yq
  apply VQ_m
  apply Yh (many L::blk ga (.cells #[.int .i64 at0] 3 (0,0))::wayB gw x::H)
  ·exact zc0
  apply UV;exact rfl
  rcases hSL with h|h
  ·exact .inl ⟨L,h,rfl⟩
  ·exact .inr ⟨L,h,rfl⟩
variable {A A2:Option Addr}{cap cap2 B:Nat}{w0 w:World}{H:List HP}
theorem Jq(l m:List Int)(hlen:l.length<=1000000000000)(_hlen2:m.length<=1000000000000)(hr:Rd B w0 H A (l.flatMap numF))(hr2:Rd B w0 H A2 (m.flatMap numF))(hw:St B w0 H w):
 CX B w0 110 [.slice A l.length cap,.slice A2 m.length cap2] w λu K=>u=.bool (decide (l=m))/\K=H:=by
 refine Ya Tryz.func110 Tryz.ntmps110 rfl rfl hw ?_
 by_cases hll:l.length=m.length
 rotate_left
 ·exact zc11
 refine zX3 ?_<;>intros
 refine Yg (λ(k:Nat)=>[(5,.int .i64 k),(0,.slice A l.length cap),(1,.slice A2 m.length cap2)]) (λ_=>H) (λk=>k<=l.length/\l.take k=m.take k) (λk=>l.length-k) 0 ⟨Ti _,by simp⟩ ?_ (λw hw=>hw) ?_
 ·exact zc1
 rintro k ⟨hk,hi⟩ K hK
 by_cases hlt:k<l.length
 ·obtain⟨a,ha⟩:∃a,l[k]? =some a:=⟨_,Ta hlt⟩
  obtain⟨b,hb⟩:∃b,m[k]? =some b:=⟨_,Ta (by omega)⟩
  by_cases hab:a=b
  ·refine zX0 ?_<;>intros
   apply hK (k+1)
   ·exact YqK
   ·omega
   ·exact zc1
   exact zc20
  ·refine zX0 ?_<;>intros
   apply Ye;exact rfl;exact rfl
   exact⟨by rw[Tj λe=>by rw[e,hb]at ha;exact hab (Tv ha).symm],rfl⟩
 exact zc28
theorem Ww(l m:List RowM)(hlen:l.length<=1000000000000)(_hlen2:m.length<=1000000000000)(hl2:∀r∈l,r.xs.length<=1000000000000)(hm2:∀r∈m,r.xs.length<=1000000000000)(hr:Rd B w0 H A (l.flatMap rowF))(hr2:Rd B w0 H A2 (m.flatMap rowF))(hrl:∀r∈l,Rd B w0 H r.A (r.xs.flatMap numF))(hrm:∀r∈m,Rd B w0 H r.A (r.xs.flatMap numF))(hw:St B w0 H w):
 CX B w0 49 [.slice A l.length cap,.slice A2 m.length cap2] w λu K=>u=.bool (decide (l.map (·.xs)=m.map (·.xs)))/\K=H:=by
 refine Ya Tryz.func49 Tryz.ntmps49 rfl rfl hw ?_
 by_cases hll:l.length=m.length
 rotate_left
 ·exact zc17
 refine zX3 ?_<;>intros
 refine Yg (λ(k:Nat)=>[(5,.int .i64 k),(0,.slice A l.length cap),(1,.slice A2 m.length cap2)]) (λ_=>H) (λk=>k<=l.length/\(l.take k).map (·.xs)=(m.take k).map (·.xs)) (λk=>l.length-k) 0 ⟨Ti _,by simp⟩ ?_ (λw hw=>hw) ?_
 ·exact zc1
 rintro k ⟨hk,hi⟩ K hK
 by_cases hlt:k<l.length
 ·obtain⟨a,ha⟩:∃a,l[k]? =some a:=⟨_,Ta hlt⟩
  obtain⟨b,hb⟩:∃b,m[k]? =some b:=⟨_,Ta (by omega)⟩
  have ham:=Tc ha
  have hbm:=Tc hb
  have hss:=λ{w:World}(hw:St B w0 H w)=>Jq a.xs b.xs (cap:=a.cap) (cap2:=b.cap) (hl2 a ham) (hm2 b hbm) (hrl a ham) (hrm b hbm) hw
  by_cases hab:a.xs=b.xs
  ·rw[Td hab]at hss
   refine zX65 ?_<;>intros
   apply hK (k+1)
   ·exact zc44
   ·omega
   ·exact zc1
   exact zc20
  ·rw[Tj hab]at hss
   refine zX65 ?_<;>intros
   exact zc22
 exact zc28
def rowQ(r:RowM):HP:=ints r.A r.cap r.xs
end Go.Proofs.YtjlgijpmnfabcaaGreatDoor
