/- Lemmas. -/
import Derived.Lib.AtoiAllCases
import Derived.Test.YtambgjgljcadlaaGreatDoorQ9
import Derived.Test.YtambgjgljcadlaaGreatDoorQ10
set_option maxRecDepth 100000
set_option maxHeartbeats 8000000
set_option linter.all false
namespace Go.Proofs.YtambgjgljcadlaaGreatDoor
open Go.RowKit Go.Eng Go.Nw Go.Rt
variable {l:List Int}{A:Option Addr}{cap B k:Nat}{w0:World}{H:List HP}
theorem YwM(k:Nat)(hr:Rd B w0 H A (l.flatMap numF))(hc:l.length<=cap):Rd B w0 H (subA A 0 cap 1) ((l.take k).flatMap numF):=by
 have h:=Rd.sub (f:=numF) (q:=1) (o:=0) (k:=k) (λ_=>rfl) hr hc
 simp_all
theorem Yug(o:Nat)(hr:Rd B w0 H A (l.flatMap numF))(hc:l.length<=cap):Rd B w0 H (subA A o cap 1) ((l.drop o).flatMap numF):=by
 have h:=Rd.sub (f:=numF) (q:=1) (o:=o) (k:=(l.drop o).length) (λ_=>rfl) hr hc
 grind
variable {p:Nat->Bool}
theorem YeY(h:(List.range k).any p=false)(h2:p k=false):(List.range (k+1)).any p=false:=by
 grind
theorem YhK{n:Nat}(hk:k<n)(h:p k=true):(List.range n).any p=true:=by grind
theorem Yc8(n:NetM)(s t:Int)(r:List Int){w:World}(hin:n.In B w0 H)(hck:Yo n.net=0)(hr:Rd B w0 H A (r.flatMap numF))(hlen:r.length<=9223372036854775807)(hcap:r.length<=cap)(hw:St B w0 H w):
 CX B w0 164 [n.val,.int .i64 s,.int .i64 t,.slice A r.length cap] w λv K=>v=.int .i64 (Ue n.net s t r)/\K=H:=by
 refine Yc Tryz.func164 Tryz.ntmps164 rfl rfl hw ?_
 (apply Xi;apply YU;apply YB;exact rfl;exact rfl;intro g)
 have hnm:netB g n∈netB g n::H:=TB
 unfold Ue
 by_cases h1:r.length<2
 ·rw[Tm h1]
  refine zX0 ?_<;>intros
  exact zc68
 rw[Td h1]
 by_cases h2:9<r.length
 ·rw[Tm h2]
  refine zX22 ?_<;>intros
  exact zc68
 rw[Td h2]
 have hoff:=λ{w:World}(hw:St B w0 (netB g n::H) w)=>Q7 (λa:Int=>Value.int .i64 a) (offE n.net) r 235 [.pointer (some ⟨g,0,none⟩)] Ywi hlen (cap:=cap) (hr.cons) (λa _ w hw=>Yie n a g hnm hw) hw
 obtain⟨b3,h3⟩:∃b,r.any (offE n.net)=b:=⟨_,rfl⟩
 rw[h3]at hoff⊢
 cases b3 with
 |true=>
  rw[Tm rfl]
  refine zX48 ?_<;>intros
  exact zc68
 |false=>
  rw[Td (by decide)]
  have hg0:=Zc (l:=r) (i:=0) (by omega)
  have hg1:=Zc (l:=r) (i:=r.length-1) (by omega)
  have hgi:((r.length:Int)-1).toNat=r.length-1:=by omega
  rw[<-hgi]at hg1
  by_cases h4:r.getD 0 0≠s\/r.getD (r.length-1) 0≠t
  ·rw[Tm h4]
   rw[<-hgi]at h4
   repeat'(first|((first|apply Ya YlW|apply Yb YlW);exact za;exact rfl;exactλ_ hw=>(hoff hw))|(apply zg29;(apply Yp;exact za;exact rfl))|refine zgd ?_|(refine zgf ?_ ?_<;>intro _<;>try exact zo)|fail)
   all_goals first
    |((repeat apply Yl);apply Yd;exact rfl;exact rfl;exact⟨rfl,rfl⟩)
    |skip
   done
  rw[Td h4]
  rw[<-hgi]at h4
  refine zX48 ?_<;>intros
  refine Yj (λ(k:Nat)=>[(43,.int .i64 k),(42,.int .i64 r.length),(41,.slice A r.length cap),(3,.slice A r.length cap),(4,.pointer (some ⟨g,0,none⟩))]) (λ_=>netB g n::H) (λk=>k<=r.length/\((List.range k).any λi=>(r.take i).contains (r.getD i 0))=false) (λk=>r.length-k) 0 ⟨Tj _,rfl⟩ ?_ (λw hw=>hw) ?_
  ·exact zc1
  rintro k ⟨hk,hi⟩ K hK
  by_cases hlt:k<r.length
  ·have hgk:=Zc (l:=r) (i:=k) hlt
   obtain⟨b,hb⟩:∃b,(r.take k).contains (r.getD k 0)=b:=⟨_,rfl⟩
   have hbm:decide (r.getD k 0∈r.take k)=b:=by rw[<-hb];simp
   have hcon:=λ{w:World}(hw:St B w0 (netB g n::H) w)=>Jy (r.take k) (r.getD k 0) zc92 (cap:=cap) (YwM k (hr.cons (X:=netB g n)) hcap) hw
   rw[hbm]at hcon
   cases b with
   |true=>
    refine zX49 ?_<;>intros
    (repeat apply Yl);apply Yd;exact rfl;exact rfl
    have htw:Ybd r=true:=YhK hlt hb
    exact⟨by rw[Tm htw],rfl⟩
   |false=>
    refine zX49 ?_<;>intros
    apply hK (k+1)
    ·exact⟨by omega,YeY hi hb⟩
    ·omega
    ·exact zc1
    exact zc19
  obtain rfl:k=r.length:=by omega
  clear hK
  have htw:Ybd r=false:=hi
  rw[Td (by rw[htw];decide)]
  have hdl:(r.drop 1).length=r.length-1:=TZ
  repeat'(first|(apply Jn T (n':=(r.drop 1).length);(iterate 4 exact rfl);omega;(rw[hdl];rfl))|refine zgc ?_|(refine zge ?_ ?_<;>intro _<;>try exact zo)|fail)
  refine Yj (λ(k:Nat)=>[(57,.int .i64 k),(56,.int .i64 (r.drop 1).length),(55,.slice (subA A 1 cap 1) (r.drop 1).length (cap-1)),(3,.slice A r.length cap),(4,.pointer (some ⟨g,0,none⟩))]) (λ_=>netB g n::H) (λk=>k<=(r.drop 1).length/\((List.range k).any λi=>!YG n.net (r.getD i 0) (r.getD (i+1) 0))=false) (λk=>(r.drop 1).length-k) 0 ⟨Tj _,rfl⟩ ?_ (λw hw=>hw) ?_
  ·exact zc1
  rintro k ⟨hk,hi⟩ K hK
  have hr1:Rd B w0 (netB g n::H) (subA A 1 cap 1) ((r.drop 1).flatMap numF):=Yug 1 (hr.cons) hcap
  have hr0:Rd B w0 (netB g n::H) A (r.flatMap numF):=hr.cons
  by_cases hlt:k<(r.drop 1).length
  ·have hgk:=Zc (l:=r) (i:=k) (by omega)
   have hgk1:(r.drop 1)[k]? =some (r.getD (k+1) 0):=by
    rw[RX,Nat.add_comm];exact Zc (by omega)
   obtain⟨b,hb⟩:∃b,YG n.net (r.getD k 0) (r.getD (k+1) 0)=b:=⟨_,rfl⟩
   have hus:=λ{w:World}(hw:St B w0 (netB g n::H) w)=>Uo n (Zd n.net (r.getD k 0) (r.getD (k+1) 0)) (hin.cons (X:=netB g n)) hw
   rw[Yhf hck,hb]at hus
   cases b with
   |true=>
    refine zX51 ?_<;>intros
    apply hK (k+1)
    ·exact⟨by omega,YeY hi (by rw[hb];rfl)⟩
    ·omega
    ·exact zc1
    exact zc19
   |false=>
    refine zX51 ?_<;>intros
    (repeat apply Yl);apply Yd;exact rfl;exact rfl
    have hbr:Ut n.net r=true:=YhK (k:=k) (by omega) (by rw[hb];rfl)
    exact⟨by rw[Tm hbr],rfl⟩
  ·obtain rfl:k=(r.drop 1).length:=by omega
   clear hK
   refine zX1 ?_<;>intros
   (repeat apply Yl);apply Yd;exact rfl;exact rfl
   have hbr:Ut n.net r=false:=by rw[hdl]at hi;exact hi
   exact⟨by rw[Td (by rw[hbr];decide)],rfl⟩
open Go.RowKit Go.Eng Go.Nw
def ZH(n:Net)(l:List Cel)(i:Nat):Bool:=
 !(Ve n (Zd n (YC (celL l i)) (toC (celL l i))))||((List.range l.length).any λk=>decide (k≠i)&&YH (celL l i) (celL l k))
   ||(!(Zk n (mar n (YA n (YC (celL l i)) (toC (celL l i))).toNat) (Yz n l i (toC (celL l i)) l.length))||!(Zk n (mar n (YA n (toC (celL l i)) (YC (celL l i))).toNat) (Yz n l i (YC (celL l i)) l.length)))
def JC(n:Net)(l:List Cel):Bool:=decide (Yo n=0)&&(List.range l.length).all λi=>!(ZH n l i)
def atP(slot off:Int)(c:Cel):Bool:=decide (c.1=slot/\c.2.1=off)
def onP(id a b:Int)(c:Cel):Bool:=decide (Xr c=id/\YC c=a/\toC c=b)
def Xu(s:Sch)(id:Int)(l:Lk):List Cel:=s.cells.filter (onP id l.1 l.2.1)
def Xh(len a:Int):List Cel->Nat->List (Cel×Int)
 |[],_=>[]
 |c::cs,k=>if c.1=a.tmod len/\k≠0 then(c,a)::Xh len a cs (k-1)else Xh len a cs k
def hopP(len:Int)(cs:List Cel):Nat->Nat->Int->List (Cel×Int)
 |0,_,_=>[]
 |f+1,k,a=>Xh len a cs k++hopP len cs f (k-(Xh len a cs k).length) (a+1)
def Y1(x:List (Cel×Int))(a:Int):Int:=match x.getLast? with|some z=>z.2+1|none=>a
def Y8(l:Lk):Nat:=(l.2.2+1).toNat
def runP(len:Int)(C:Lk->List Cel)(endd:Int):List Lk->Int->List (Cel×Int)
 |[],_=>[]
 |l::ls,a=>if(hopP len (C l) (endd-a).toNat (Y8 l) a).length<Y8 l then hopP len (C l) (endd-a).toNat (Y8 l) a
  else hopP len (C l) (endd-a).toNat (Y8 l) a++runP len C endd ls (Y1 (hopP len (C l) (endd-a).toNat (Y8 l) a) a)
def Xv(ls:List Lk):Nat:=(ls.map Y8).sum
theorem OO(len a:Int):∀(cs:List Cel) (k:Nat),(Xh len a cs k).length<=k
 |[],k=>Tj _
 |c::cs,k=>by
  unfold Xh
  split
  ·rename_i h
   have:=OO len a cs (k-1)
   rw[TG];omega
  ·exact OO len a cs k
theorem Wg{len a:Int}:∀{cs:List Cel}{k:Nat}{z:Cel×Int},z∈Xh len a cs k->z.2=a
 |[],k,z,h=>by cases h
 |c::cs,k,z,h=>by
  unfold Xh at h
  split at h
  ·rcases TI.1 h with rfl|h
   ·rfl
   ·exact Wg h
  ·exact Wg h
theorem Yok(len a:Int):∀cs:List Cel,Xh len a cs 0=[]:=λcs=>SL (Nat.le_zero.1 (OO len a cs 0))
theorem Yad(len:Int)(cs:List Cel):∀(f k:Nat) (a:Int),(hopP len cs f k a).length<=k
 |0,k,a=>Tj _
 |f+1,k,a=>by
  unfold hopP
  have h1:=OO len a cs k
  have h2:=Yad len cs f (k-(Xh len a cs k).length) (a+1)
  rw[Tq];omega
theorem Yiw(len:Int)(cs:List Cel)(f:Nat)(a:Int):hopP len cs f 0 a=[]:=SL (Nat.le_zero.1 (Yad len cs f 0 a))
theorem Ycd{len:Int}{cs:List Cel}:∀{f k:Nat}{a:Int}{z:Cel×Int},z∈hopP len cs f k a->a<=z.2/\z.2<a+f
 |0,k,a,z,h=>by cases h
 |f+1,k,a,z,h=>by
  unfold hopP at h
  rcases TJ.1 h with h|h
  ·have:=Wg h;omega
  ·have:=Ycd h;omega
theorem YaA(len:Int)(C:Lk->List Cel)(endd:Int):∀(ls:List Lk) (a:Int),(runP len C endd ls a).length<=Xv ls
 |[],a=>Tj _
 |l::ls,a=>by
  have h1:=Yad len (C l) (endd-a).toNat (Y8 l) a
  have h2:=YaA len C endd ls (Y1 (hopP len (C l) (endd-a).toNat (Y8 l) a) a)
  have h3:Xv (l::ls)=Y8 l+Xv ls:=by unfold Xv;rw[Ru,Nx]
  unfold runP
  split
  ·omega
  ·rw[Tq];omega
variable {x:List (Cel×Int)}{a b endd:Int}
theorem Ype(h:∀z∈x,a<=z.2/\z.2<b)(hab:a<=b):a<=Y1 x a/\Y1 x a<=b:=by
 unfold Y1
 cases hx:x.getLast? with
 |none=>exact⟨Ry _,hab⟩
 |some z=>
  have:=h z (Nu hx)
  simp only
  omega
theorem Yg2{len:Int}{C:Lk->List Cel}{endd:Int}:∀{ls:List Lk}{a:Int}{z:Cel×Int},a<=endd->z∈runP len C endd ls a->a<=z.2/\z.2<endd
 |[],a,z,_,h=>by cases h
 |l::ls,a,z,hae,h=>by
  have hb:∀z∈hopP len (C l) (endd-a).toNat (Y8 l) a,a<=z.2/\z.2<endd:=λz hz=>by
   have:=Ycd hz;omega
  unfold runP at h
  split at h
  ·exact hb z h
  ·rcases TJ.1 h with h|h
   ·exact hb z h
   ·have h1:=Ype hb hae
    have:=Yg2 h1.2 h
    omega
def W4(len:Int)(C:Lk->List Cel)(endd:Int)(cs:List Cel)(ls:List Lk)(f k:Nat)(a at_:Int):List (Cel×Int):=
 if(hopP len cs f k a).length<k then hopP len cs f k a else hopP len cs f k a++runP len C endd ls (Y1 (hopP len cs f k a) at_)
theorem YqR(len:Int)(C:Lk->List Cel)(endd:Int)(l:Lk)(ls:List Lk)(a:Int):runP len C endd (l::ls) a=W4 len C endd (C l) ls (endd-a).toNat (Y8 l) a a:=rfl
theorem Yot(len:Int)(C:Lk->List Cel)(endd:Int)(cs:List Cel)(ls:List Lk)(f:Nat)(a at_:Int):W4 len C endd cs ls f 0 a at_=runP len C endd ls at_:=by
 unfold W4
 rw[Yiw,Td (R9 _)]
 rfl
variable {C:Lk->List Cel}{cs cs':List Cel}{ls:List Lk}{k f:Nat}
theorem Yq1{len:Int}{at_:Int}(hk:k≠0):W4 len C endd cs ls 0 k a at_=[]:=by
 unfold W4
 rw[Tm (by simp[hopP];omega)]
 rfl
theorem YmY{y:List (Cel×Int)}(hy:∀z∈y,z.2+1=b):Y1 (y++x) a=Y1 x (if y=[]then a else b):=by
 unfold Y1
 cases hx:x.getLast? with
 |some z=>rw[List.getLast?_append,hx];rfl
 |none=>
  obtain rfl:=S0.1 hx
  rw[Rx]
  cases hy2:y.getLast? with
  |none=>
   obtain rfl:=S0.1 hy2
   rfl
  |some z=>
   have hne:y≠[]:=λe=>by rw[e]at hy2;cases hy2
   rw[Td hne]
   exact hy z (Nu hy2)
theorem You(len:Int)(C:Lk->List Cel)(endd:Int)(cs:List Cel)(ls:List Lk)(f k:Nat)(a at_:Int):
 W4 len C endd cs ls (f+1) k a at_=Xh len a cs k++W4 len C endd cs ls f (k-(Xh len a cs k).length) (a+1) (if Xh len a cs k=[]then at_ else a+1):=by
 have hl:=OO len a cs k
 have h1:hopP len cs (f+1) k a=Xh len a cs k++hopP len cs f (k-(Xh len a cs k).length) (a+1):=rfl
 unfold W4
 rw[h1,Tq]
 by_cases h2:(hopP len cs f (k-(Xh len a cs k).length) (a+1)).length<k-(Xh len a cs k).length
 ·rw[Tm h2,Tm (by omega)]
 ·rw[Td h2,Td (by omega),YmY (b:=a+1) (λz hz=>by rw[Wg hz]),T0]
def Qt(len:Int)(C:Lk->List Cel)(endd:Int)(cs cs':List Cel)(ls:List Lk)(f k:Nat)(a at_:Int):List (Cel×Int):=
 Xh len a cs' k++W4 len C endd cs ls f (k-(Xh len a cs' k).length) (a+1) (if Xh len a cs' k=[]then at_ else a+1)
theorem YqJ(len:Int)(C:Lk->List Cel)(endd:Int)(cs:List Cel)(ls:List Lk)(f k:Nat)(a at_:Int):Qt len C endd cs cs ls f k a at_=W4 len C endd cs ls (f+1) k a at_:=(You ..).symm
theorem YqM(len:Int)(C:Lk->List Cel)(endd:Int)(cs:List Cel)(ls:List Lk)(f k:Nat)(a at_:Int):Qt len C endd cs [] ls f k a at_=W4 len C endd cs ls f k (a+1) at_:=by
 simp[Qt,Xh]
variable {c:Cel}
theorem YqN{len:Int}{at_:Int}(h:c.1=a.tmod len)(hk:k≠0):
 Qt len C endd cs (c::cs') ls f k a at_=(c,a)::Qt len C endd cs cs' ls f (k-1) a (a+1):=by
 have h1:Xh len a (c::cs') k=(c,a)::Xh len a cs' (k-1):=by rw[Xh,Tm ⟨h,hk⟩]
 unfold Qt
 rw[h1,TG,Td (List.cons_ne_nil _ _),show k-((Xh len a cs' (k-1)).length+1)=k-1-(Xh len a cs' (k-1)).length by omega]
 simp
theorem YsT{len:Int}{at_:Int}(h:¬(c.1=a.tmod len/\k≠0)):
 Qt len C endd cs (c::cs') ls f k a at_=Qt len C endd cs cs' ls f k a at_:=by
 unfold Qt
 rw[Xh,Td h]
def runR(len:Int)(C:Lk->List Cel)(endd:Int):List Lk->Int->Option (List Int)
 |[],_=>some []
 |l::ls,a=>if(hopP len (C l) (endd-a).toNat (Y8 l) a).length<Y8 l then none
  else(runR len C endd ls (Y1 (hopP len (C l) (endd-a).toNat (Y8 l) a) a)).map λy=>(hopP len (C l) (endd-a).toNat (Y8 l) a).map Prod.snd++y
theorem Yck(len:Int)(C:Lk->List Cel)(endd:Int):∀(ls:List Lk) (a:Int),runR len C endd ls a=if(runP len C endd ls a).length<Xv ls then none else some ((runP len C endd ls a).map Prod.snd)
 |[],a=>rfl
 |l::ls,a=>by
  have h3:Xv (l::ls)=Y8 l+Xv ls:=by unfold Xv;rw[Ru,Nx]
  have hl:=Yad len (C l) (endd-a).toNat (Y8 l) a
  unfold runR runP
  by_cases h:(hopP len (C l) (endd-a).toNat (Y8 l) a).length<Y8 l
  ·rw[Tm h,Tm h,Tm (by omega)]
  ·rw[Td h,Td h,Yck len C endd ls]
   by_cases h4:(runP len C endd ls (Y1 (hopP len (C l) (endd-a).toNat (Y8 l) a) a)).length<Xv ls
   ·rw[Tm h4,Tm (by rw[Tq];omega)];rfl
   ·rw[Td h4,Td (by rw[Tq];omega)];simp
def ZO(n:Net)(r:List Int)(i:Nat):Lk:=lnk n (YA n (r.getD i 0) (r.getD (i+1) 0)).toNat
def Yr(n:Net)(r:List Int):List Lk:=(List.range (r.length-1)).map (ZO n r)
def Vb(n:Net)(s:Sch)(f:Flw)(r:List Int)(release:Int):Option (List Int):=runR s.len (Xu s f.1) (release+f.2.2.2.1) (Yr n r) release
def Je(l:List Int):Int:=l.getD (l.length-1) 0
def Vz(S:Int->Option (List Int))(len period:Int):Nat->Int->Int×Int×List Int->Option (Int×Int×List Int)
 |0,_,b=>some b
 |k+1,rel,b=>if len<=rel then some b else match S rel with
  |none=>none
  |some l=>Vz S len period k (rel+period) (if b.1<Je l-rel+1 then(Je l-rel+1,rel,l.map λz=>z-rel)else b)
def ZL(n:Net)(s:Sch)(f:Flw)(r:List Int):Option (Int×Int×List Int):=Vz (Vb n s f r) s.len f.2.2.2.1 s.len.toNat f.2.2.2.2.1 (0,0,[])
def wayE(n:Net)(s:Sch)(f:Flw)(r:List Int):Int:=
 if Yo n≠0\/Xm s=false\/XD n.nodes f≠0 then 1 else if s.len.tmod f.2.2.2.1≠0 then 11 else Zy n f.2.1 f.2.2.1 r
def YT(n:Net)(s:Sch)(f:Flw)(r:List Int):(Int×Int×List Int)×Int:=
 if wayE n s f r≠0 then((0,0,[]),wayE n s f r)else match ZL n s f r with
  |none=>((0,0,[]),15)
  |some b=>(b,0)
abbrev nrs(A:Option Addr)(cap:Nat)(l:List Int):HP:=sl 3 1 A l.length cap (l.flatMap numF)
theorem YdL(A:Option Addr)(cap:Nat)(l:List Int)(z:Int):sl 3 1 A (l.length+1) cap (l.flatMap numF++#[Value.int .i64 z].toList)=nrs A cap (l++[z]):=by simp[nrs,List.flatMap_append,numF]
end Go.Proofs.YtambgjgljcadlaaGreatDoor
namespace Go.Eng
open Go.RowKit
end Go.Eng
namespace Go.Proofs.YtambgjgljcadlaaGreatDoor
open Go.RowKit Go.Eng Go.Nw
theorem Zu{f:Nat->Int}:∀{r i0 i:Nat},(∀k,i0<=k->k<i->f k=0)->i0<=i->i<i0+r->f i≠0->YD f r i0=((i:Int),f i)
 |0,i0,i,_,h1,h2,_=>by omega
 |r+1,i0,i,h0,h1,h2,h3=>by
  unfold YD
  by_cases e:i0=i
  ·subst e;rw[Td h3]
  ·rw[Tm (h0 i0 (TK _) (by omega))]
   exact Zu (λk hk1 hk2=>h0 k (by omega) hk2) (by omega) (by omega) h3
theorem Zv{f:Nat->Int}{r i0:Nat}(h:∀k,i0<=k->k<i0+r->f k=0):YD f r i0=(-1,0):=by
 have h2:=YI.2 h
 exact Prod.ext (Ydc h2) h2
def flwV(f:Flw):Value:=.agg #[.int .i64 f.1,.int .i64 f.2.1,.int .i64 f.2.2.1,.int .i64 f.2.2.2.1,.int .i64 f.2.2.2.2.1,.int .i64 f.2.2.2.2.2]
theorem Ydg{l:List Flw}{i:Nat}(h:i<l.length):l[i]? =some (Xg l i):=by
 grind [Xg]
variable {B cap:Nat}{w0 w:World}{H:List HP}
theorem Ykn(v nodes:Int)(gn:Nat)(hm:blk gn (.cells #[.int .i64 nodes] 3 (0,0))∈H)(hw:St B w0 H w):
 CX B w0 204 [.int .i64 v,.pointer (some ⟨gn,0,none⟩)] w λu K=>u=.bool (insE v nodes)/\K=H:=by
 refine Yc Tryz.func204 Tryz.ntmps204 rfl rfl hw ?_
 repeat'(first|refine zgc ?_|(refine zgf ?_ ?_<;>intro _<;>try exact zo)|fail)
 all_goals(
  apply Yd;exact rfl;exact rfl
  first
   |exact⟨by rw[show insE v nodes=true from Ti (by omega)],rfl⟩
   |exact⟨by rw[show insE v nodes=false from Tn (by omega)],rfl⟩)
theorem Ybv(nodes:Int)(f:Flw)(hw:St B w0 H w):
 CX B w0 115 [.int .i64 nodes,flwV f] w λv K=>v=.int .i64 (XD nodes f)/\K=H:=by
 refine Yc Tryz.func115 Tryz.ntmps115 rfl rfl hw ?_
 obtain⟨e,he⟩:∃e,XD nodes f=e:=⟨_,rfl⟩
 rw[he]
 by_cases hA:f.1<0\/255<f.1
 ·repeat'(first|(apply zg23;first|(refine zs52 ?_;intro _)|(refine zs53 ?_;intro _))|(apply zg29;(apply Yp;exact za;exact rfl))|refine zgd ?_|(refine zgf ?_ ?_<;>intro _<;>try exact zo)|fail)
  all_goals(
   apply Yi H
   ·exact zk
   apply Yd;exact rfl;exact rfl
   refine⟨?_,rfl⟩
   rw[<-he]
   unfold XD
   first
    |(rw[Tm (by first|exact .inl (by omega)|exact .inr (.inl (by omega))|exact .inr (.inr (.inl (by assumption)))|exact .inr (.inr (.inr (by assumption))))];done)
    |(rw[Td (by rintro(h|h|h|h)<;>first|omega|simp_all)]
      first
       |(rw[Tm (by omega)];done)
       |(rw[Td (by omega),Tm (by omega)];done)
       |(rw[Td (by omega),Td (by omega)];done)))
 ·repeat'(first|(apply zg23;first|(refine zs52 ?_;intro _)|(refine zs53 ?_;intro _))|(apply zg29;(apply Yp;exact za;exact rfl))|refine zgc ?_|(refine zgf ?_ ?_<;>intro _<;>try exact zo)|fail)
  rename_i gn gf _ _
  repeat'(first|((first|apply JZ (cs:=[.pointer (some ⟨gn,0,none⟩)])|apply JY (cs:=[.pointer (some ⟨gn,0,none⟩)]));exact rfl;exact Yv8;exact za;exact rfl;exactλ_ hw=>(Ykn _ nodes gn zm hw);all_goals(intro hB;(try simp only[Tt,T9]at hB);try exact zo))|refine zgd ?_|(refine zgf ?_ ?_<;>intro _<;>try exact zo)|fail)
  all_goals(
   apply Yi H
   ·exact zk
   apply Yd;exact rfl;exact rfl
   refine⟨?_,rfl⟩
   rw[<-he]
   unfold XD
   first
    |(rw[Tm (by first|exact .inl (by omega)|exact .inr (.inl (by omega))|exact .inr (.inr (.inl (by assumption)))|exact .inr (.inr (.inr (by assumption))))];done)
    |(rw[Td (by rintro(h|h|h|h)<;>first|omega|simp_all)]
      first
       |(rw[Tm (by omega)];done)
       |(rw[Td (by omega),Tm (by omega)];done)
       |(rw[Td (by omega),Td (by omega)];done)))
variable {A:Option Addr}
theorem Y0(nodes:Int)(l:List Flw)(hl:l.length<=9223372036854775807)(hr:Rd B w0 H A (l.flatMap flwF))(hw:St B w0 H w):
 CX B w0 74 [.int .i64 nodes,.slice A l.length cap] w λv K=>v=.tuple #[.int .i64 (Yy nodes l).1,.int .i64 (Yy nodes l).2]/\K=H:=by
 refine Yc Tryz.func74 Tryz.ntmps74 rfl rfl hw ?_
 by_cases hn:nodes<2\/32<nodes
 ·have hE:Yy nodes l=(-1,2):=by simp_all [Yy]
  rw[hE]
  repeat'(first|refine zgc ?_|(refine zgf ?_ ?_<;>intro _<;>try exact zo)|fail)
  all_goals(apply Yx;(iterate 3 exact rfl);exact⟨rfl,rfl⟩)
 by_cases h16:16<l.length
 ·have hE:Yy nodes l=(-1,8):=by simp_all [Yy]
  rw[hE]
  refine zX39 ?_<;>intros
  exact zc69
 have hE:Yy nodes l=YD (Xt nodes l) l.length 0:=by simp_all [Yy,if_neg]
 rw[hE]
 refine zX39 ?_<;>intros
 refine Yj (λ(i:Nat)=>[(20,.int .i64 i),(19,.int .i64 l.length),(18,.slice A l.length cap),(0,.int .i64 nodes),(1,.slice A l.length cap)]) (λ_=>H) (λi=>i<=l.length/\∀k,k<i->Xt nodes l k=0) (λi=>l.length-i) 0 ⟨Tj _,λk hk=>absurd hk (R9 _)⟩ ?_ (λw hw=>hw) ?_
 ·exact zc1
 rintro i ⟨hi,hall⟩ K hK
 by_cases hlt:i<l.length
 ·have hget:l[i]? =some (Xg l i):=Ydg hlt
  have hbad:Xt nodes l i≠0->YD (Xt nodes l) l.length 0=((i:Int),Xt nodes l i):=λh=>Zu (λk _ hk=>hall k hk) (Tj _) (by omega) h
  have hstep:Xt nodes l i=0->∀k,k<i+1->Xt nodes l k=0:=λh k hk=>by
   exact YuL
  by_cases he:XD nodes (Xg l i)≠0
  ·have hf:Xt nodes l i=XD nodes (Xg l i):=by unfold Xt;exact Tm he
   rw[hbad (by rw[hf];exact he),hf]
   repeat'(first|((first|apply Ya YlH|apply Yb YlH);exact za;exact rfl;exactλ_ hw=>(Ybv nodes (Xg l i) hw))|refine zgd ?_|(refine zge ?_ ?_<;>intro _<;>try exact zo)|(refine zgh ?_;intro _)|fail)
   apply Yi H
   ·exact zc0
   exact zc10
  have he0:=TN.1 he
  have hck:=λ{H':List HP}{w:World}(hw:St B w0 H' w)=>Ybv nodes (Xg l i) hw
  rw[he0]at hck
  rcases S5 i with h0|h0
  ·subst h0
   have hf:Xt nodes l 0=0:=by unfold Xt;rw[Td he,Td (by omega)]
   refine zX41 ?_<;>intros
   apply hK (0+1)
   ·exact⟨by omega,hstep hf⟩
   ·omega
   ·exact zc1
   ·exact zc0
  have hget2:l[((i:Int)-1).toNat]? =some (Xg l (i-1)):=by
   rw[show((i:Int)-1).toNat=i-1 by omega]
   exact Ydg (by omega)
  by_cases hle:(Xg l i).1<=(Xg l (i-1)).1
  ·have hf:Xt nodes l i=5:=by unfold Xt;rw[Td he,Tm ⟨h0,hle⟩]
   rw[hbad (by rw[hf];decide),hf]
   refine zX41 ?_<;>intros
   apply Yi H
   ·exact zc0
   exact zc10
  ·have hf:Xt nodes l i=0:=by unfold Xt;rw[Td he,Td (λh=>hle h.2)]
   refine zX41 ?_<;>intros
   apply hK (i+1)
   ·exact⟨by omega,hstep hf⟩
   ·omega
   ·exact zc1
   ·exact zc0
 ·refine zX1 ?_<;>intros
  rw[show i=l.length by omega]at hall
  rw[Zv λk _ hk=>hall k (by omega)]
  exact zc10
theorem Ydt(p:Flw->Bool)(l:List Flw)(f:Nat)(cs:List Value)(hen:∀xs w,(callFunc f xs).run Tryz.prog w=.ok (.enter f xs) w)(hlen:l.length<=1000)(hr:Rd B w0 H A (l.flatMap flwF))
 (hp:∀a∈l,∀w,St B w0 H w->Calls Tryz.prog f ([flwV a]++cs).toArray w (Post B w0 λv K=>v=.bool (p a)/\K=H)) (hw:St B w0 H w):
 CX B w0 140 [.slice A l.length cap,.func (.func f) #[] cs.toArray] w λv K=>v=.int .i64 (Ym p l 0)/\K=H:=by
 refine Yc Tryz.func140 Tryz.ntmps140 rfl rfl hw ?_
 refine zX7 ?_
 refine Yj (λ(k:Nat)=>[(8,.int .i64 k),(7,.int .i64 l.length),(0,.slice A l.length cap),(1,.func (.func f) #[] cs.toArray)]) (λ_=>H) (λk=>k<=l.length/\Ym p l 0=Ym p (l.drop k) k) (λk=>l.length-k) 0 ⟨Tj _,by simp⟩ ?_ (λw hw=>hw) ?_
 ·exact zc1
 rintro k ⟨hk,hi⟩ K hK
 by_cases hlt:k<l.length
 ·obtain⟨a,ha⟩:∃a,l[k]? =some a:=⟨_,Ta hlt⟩
  have hpa:=hp a (Tf ha)
  rw[Vn p l ha]at hi
  refine zX8 ?_<;>intros
  cases hpv:p a
  ·rw[hpv]at hi
   refine zX9 ?_
   apply hK (k+1)
   ·grind
   ·omega
   ·exact zc1
   exact zc19
  exact zc9
 exact zc7
theorem Ykk(f:Flw)(id:Int)(gi:Nat)(hm:blk gi (.cells #[.int .i64 id] 3 (0,0))∈H)(hw:St B w0 H w):
 CX B w0 247 [flwV f,.pointer (some ⟨gi,0,none⟩)] w λv K=>v=.bool (decide (f.1=id))/\K=H:=by
 refine Yc Tryz.func247 Tryz.ntmps247 rfl rfl hw ?_
 by_cases h:f.1=id
 ·rw[Ti h]
  refine zX42 ?_<;>intros
  all_goals(apply Yl;exact zc13)
 ·rw[Tn h]
  refine zX42 ?_<;>intros
  all_goals(apply Yl;exact zc13)
theorem Ykj(l:List Flw)(id:Int)(hlen:l.length<=1000)(hr:Rd B w0 H A (l.flatMap flwF))(hw:St B w0 H w):
 CX B w0 183 [.slice A l.length cap,.int .i64 id] w λv K=>v=.int .i64 (Jd l id)/\K=H:=by
 refine Yc Tryz.func183 Tryz.ntmps183 rfl rfl hw ?_
 repeat'(first|(apply zg29;(apply Yp;exact za;exact rfl))|refine zga ?_|(refine zgh ?_;intro _)|fail)
 rename_i gi
 first|apply Ya YlK|apply Yb YlK
 exact za
 exact rfl
 exactλ_ hw=>(Ydt (λf=>decide (f.1=id)) l 247 [.pointer (some ⟨gi,0,none⟩)] Ywj hlen hr.cons (λf _ w hw=>Ykk f id gi zm hw) hw)
 repeat'(first|refine zga ?_|fail)
 apply Yi H
 ·exact zk
 apply Yd;exact rfl;exact rfl
 exact⟨rfl,rfl⟩
theorem YgQ(s:SchM)(f:Flw)(gs:Nat)(hs:1<=s.len/\s.len<=512)(hf:1<=f.2.2.2.1/\f.2.2.2.1<=512)(hm:blk gs (.cells #[.int .i64 s.len,.int .i64 s.off,.slice s.A s.cells.length s.cap] 30 (0,0))∈H)(hw:St B w0 H w):
 CX B w0 168 [flwV f,.pointer (some ⟨gs,0,none⟩)] w λv K=>v=.bool (decide (s.len.tmod f.2.2.2.1≠0))/\K=H:=by
 refine Yc Tryz.func168 Tryz.ntmps168 rfl rfl hw ?_
 by_cases h:s.len.tmod f.2.2.2.1≠0
 ·rw[Ti h]
  rw[RJ (by omega)]at h
  refine zX43 ?_<;>intros
  all_goals(apply Yl;exact zc13)
 ·rw[Tn h]
  rw[RJ (by omega)]at h
  refine zX43 ?_<;>intros
  all_goals(apply Yl;exact zc13)
theorem Ydr{α:Type}(p:α->Bool)(l:List α):decide (0<=Ym p l 0)=l.any p:=by
 have h:=VO p l 0 (by omega)
 grind
theorem Oj(p:Flw->Bool)(l:List Flw)(f:Nat)(cs:List Value)(hen:∀xs w,(callFunc f xs).run Tryz.prog w=.ok (.enter f xs) w)(hlen:l.length<=1000)(hr:Rd B w0 H A (l.flatMap flwF))
 (hp:∀a∈l,∀w,St B w0 H w->Calls Tryz.prog f ([flwV a]++cs).toArray w (Post B w0 λv K=>v=.bool (p a)/\K=H)) (hw:St B w0 H w):
 CX B w0 75 [.slice A l.length cap,.func (.func f) #[] cs.toArray] w λv K=>v=.bool (l.any p)/\K=H:=by
 refine Yc Tryz.func75 Tryz.ntmps75 rfl rfl hw ?_
 rw[<-Ydr]
 refine zX4 ?_
 first|apply Ya YlK|apply Yb YlK
 exact za
 exact rfl
 exactλ_ hw=>(Ydt p l f cs hen hlen hr hp hw)
 by_cases h0:0<=Ym p l 0
 ·exact zc15
 ·exact zc15
end Go.Proofs.YtambgjgljcadlaaGreatDoor
namespace Go.Eng
open Go.RowKit
section
variable {P:Program}{B:Nat}{w0:World}{Q:Exit->Act->World->Prop}{env:Env}{H:List HP}{k:Nat}
def YQr(P:Program)(r:Nat)(ops:Array Oper)(Q:Exit->Act->World->Prop)(l:List Oper):Exit->Act->World->Prop
 |.normal,a,w=>wpListIn (Fence.wide.inRound r) 0 P ops Q l a w
 |e,a,w=>Q e a w
theorem Ya3{r:Nat}{ops:Array Oper}{l:List Oper}(hlo:¬LetsOut Q):∀(os:List Oper) (a:Act) (w:World),os.all Vg=true->wpList P ops (YQr P r ops Q l) os a w->wpListIn (Fence.wide.inRound r) 0 P ops Q (os++l) a w
 |[],_,_,_,h=>h
 |o::os,a,w,hc,h=>by
  simp only[NW,To]at hc
  unfold wpList at h
  rw[TF]
  unfold wpListIn
  split
  ·rename_i hw
   rw[Tm hw]at h
   rcases h with h|⟨_,h⟩
   ·have h2:=Oper.wp_mono (λa w h=>Ya3 hlo os a w hc.2 h) h
    have hs:Oper.semAt (some r) a.eval o=execOp a.eval o:=Oper.semAt_some r _ o λc e=>by
     have hp:=hc.1
     unfold Vg at hp
     rw[e]at hp
     cases hp
    refine⟨λf _=>trivial,?_⟩
    rw[Fence.inRound_round,hs]
    unfold Oper.wp at h2
    generalize(execOp a.eval o).run P w=res at h2⊢
    cases res with
    |ok x w'=>
     cases x<;>simp only[Oper.upon,Oper.uponIn]at h2⊢<;>first
      |exact h2
      |(refine⟨λhd=>by simp[Fence.wide]at hd,?_⟩
        refine CallsIn.mono (CallsIn.inRound r (callsIn_wide.2 h2)) λe w'' he=>?_
        cases e<;>exact he)
      |exact⟨λhd=>by simp[Fence.wide]at hd,YbO h2⟩
      |exact h2.elim
    |halt x w'=>cases x<;>simp only[Oper.upon,Oper.uponIn]at h2⊢<;>first|exact h2|exact h2.elim
   ·exact(hlo h).elim
  ·rename_i hw
   rw[Td hw]at h
   exact⟨λf _=>trivial,Ya3 hlo os _ w hc.2 h⟩
variable {n r:Nat}{ds:List Deferred}
theorem Yhm{id:Nat}{l:List Oper}(k:Nat){l1 l2:List Oper}(h1:l.take k=l1)(h2:l.drop k=l2)(h:VL P none ⟨n,ds,some r⟩ B w0 l.toArray (YQr P r l.toArray Q l2) l1 env H):
 VC P ⟨n,ds,some r⟩ B w0 (.region id l.toArray false) Q env H:=by
 refine⟨λa w ha hw=>?_⟩
 intro hlo hc
 refine wpIn_region_lit ?_
 have hc2:l.all Vg=true:=by simpa [calm]using hc
 have:=Ya3 hlo _ _ _ (by rw[<-h1];exact T8.2 λx hx=>T8.1 hc2 x (SU hx)) (h.run a ha w hw)
 rw[<-h1,<-h2,Rk]at this
 exact this
theorem YmU{ops:Array Oper}{d l:Nat}{x:Operand}{args:List Operand}{tys:Array TypeId}{ty:TypeId}{pos:String}{after:Array Edge}{gd:Option (Nat×Bool)}{vs:List Value}{rest:List Oper}(Φt Φf:List HP->Prop)
 (hgd:∀a:Act,Fits ⟨n,ds,none⟩ a env->Region.wanted ⟨some d,.call ⟨.value x,args.toArray,tys⟩,ty,pos,after,gd⟩ (yielded ops a.tmps)=true)
 (hx:evo env x=some (.func (.yield l) #[] #[])) (hargs:Args env args vs) (hn:Nat.ble (d+1) n=true) (hlo:¬LetsOut Q) (hpl:rest.all Vg=true) (hy:YcB P l vs B w0 H Φt Φf)
 (ht:∀K,Φt K->VL P none ⟨n,ds,some r⟩ B w0 ops Q rest ((d,.bool true)::env) K)
 (hf:∀K,Φf K->VL P none ⟨n,ds,some r⟩ B w0 ops Q rest ((d,.bool false)::env) K):
 VQ ⟨n,ds,some r⟩ B w0 (YQr P r ops Q (⟨some d,.call ⟨.value x,args.toArray,tys⟩,ty,pos,after,gd⟩::rest)) .normal env H:=by
 refine⟨λa w ha hw=>?_⟩
 show wpListIn (Fence.wide.inRound r) 0 P ops Q _ a w
 unfold wpListIn
 rw[Tm (hgd a ⟨ha.defers,ha.size,ha.slot⟩)]
 refine⟨λf _=>trivial,?_⟩
 obtain⟨fn,tmps,assign,body,hrun,hround⟩:=hy w hw
 have hmap:args.toArray.map a.eval=vs.toArray:=by rw[NQ,UE ha _ _ hargs]
 have hs:Oper.semAt (some r) a.eval ⟨some d,.call ⟨.value x,args.toArray,tys⟩,ty,pos,after,gd⟩=execOp a.eval ⟨some d,.call ⟨.value x,args.toArray,tys⟩,ty,pos,after,gd⟩:=Oper.semAt_some r _ _ λc e=>by cases e
 rw[Fence.inRound_round,hs]
 have hex:(execOp a.eval ⟨some d,.call ⟨.value x,args.toArray,tys⟩,ty,pos,after,gd⟩).run P w=.ok (.round l fn tmps assign body) w:=by
  simp only[execOp,resolve,ha.eval hx,hmap,Deferred.ofValue,Sem.run_bind,Sem.run_pure,Result.andThen_ok,invoke]
  simpa using hrun
 rw[hex,Oper.uponIn_round]
 refine⟨λhd=>by simp[Fence.wide]at hd,?_⟩
 have hround2:RoundIn (Fence.wide.inRound r) 0 P l fn tmps assign body w _:=hround
 refine RoundIn.mono hround2 ?_
 rintro e w' (⟨rfl,K',hΦ,hst⟩|⟨rfl,K',hΦ,hst⟩)
 ·exact U8 hlo _ _ _ hpl ((ht K' hΦ).run _ (ha.put (Ri hn) _) _ hst)
 ·exact U8 hlo _ _ _ hpl ((hf K' hΦ).run _ (ha.put (Ri hn) _) _ hst)
end
variable {B:Nat}{w0:World}{H K:List HP}
theorem St.inM{w:World}(hw:St B w0 K w)(hm:Eng.many H∈K):St B w0 H w:=by
 obtain⟨S,h1,h2⟩:=hw.at_ hm
 exact⟨hw.below,hw.le,V4 h2 h1⟩
variable {A:Option Addr}{xs:List Value}
theorem Rd.inM(h:Rd B w0 H A xs)(hm:Eng.many H∈K):Rd B w0 K A xs:=h.mono λ_ hw=>hw.inM hm
theorem Rd.many{L:List HP}{e size k cap:Nat}(hX:many L∈H)(hm:Eng.sl e size A k cap xs∈L):Rd B w0 H A xs:=λw hw j v hv=>by
 obtain⟨S,_,h2⟩:=hw.at_ hX
 obtain⟨S',_,h3,_⟩:=Yg8 hm h2
 obtain⟨g,e1,hc,_⟩:=YaC h3 hv
 exact⟨g,0,e1,by rw[RH];exact hc⟩
end Go.Eng
namespace Go.Proofs.YtambgjgljcadlaaGreatDoor
open Go.RowKit Go.Eng Go.Nw Go.Rt
variable {n:Net}
theorem U6{a b:Int}(h:YG n a b=true):0<=YA n a b:=by
 simp_all [YG]
variable {r:List Int}
theorem Yab{s t:Int}(h:Ue n s t r=0):(2<=r.length/\r.length<=9)/\r.any (offE n)=false/\(r.getD 0 0=s/\r.getD (r.length-1) 0=t)/\Ybd r=false/\Ut n r=false:=by
 unfold Ue at h
 by_cases h1:r.length<2
 all_goals grind
theorem YhW(h:Ut n r=false){i:Nat}(hi:i+1<r.length):YG n (r.getD i 0) (r.getD (i+1) 0)=true:=by
 cases hg:YG n (r.getD i 0) (r.getD (i+1) 0)with
 |true=>rfl
 |false=>
  grind [Ut]
variable {A:Option Addr}{cap B:Nat}{w0 w:World}{H:List HP}
theorem Yni(n:NetM)(r:List Int)(hin:n.In B w0 H)(hck:Yo n.net=0)(hbr:Ut n.net r=false)(hr:Rd B w0 H A (r.flatMap numF))(hlen:1<=r.length/\r.length<=1000)(hw:St B w0 H w):
 CX B w0 165 [n.val,.slice A r.length cap] w λv K=>v=.int .i64 (Yps n.net r)/\K=H:=by
 have hok:=YN hck
 obtain⟨hpw,hrw,hlk,hmg,hs1,hs2,hs3,hs4⟩:=id hin
 refine Yc Tryz.func165 Tryz.ntmps165 rfl rfl hw ?_
 (apply Xi;apply YU;apply YB;exact rfl;exact rfl;intro g)
 refine zX7 ?_
 refine Yj (λ(k:Nat)=>[(6,.int .i64 ((k:Int)+1)),(5,.int .i64 (Ws n.net r k)),(1,.slice A r.length cap),(2,.pointer (some ⟨g,0,none⟩))]) (λ_=>netB g n::H) (λk=>k+1<=r.length) (λk=>r.length-k) 0 hlen.1 ?_ (λw hw=>hw) ?_
 ·exact zc1
 intro k hk K hK
 have hbd:=Ye6 hok r k
 by_cases hlt:k+1<r.length
 ·have hgk:=Zc (l:=r) (i:=k) (by omega)
  have hgk1:=Zc (l:=r) (i:=k+1) (by omega)
  have ei:((k:Int)+1-1).toNat=k:=by omega
  have ei1:((k:Int)+1).toNat=k+1:=by omega
  rw[<-ei]at hgk
  rw[<-ei1]at hgk1
  have hgood:=YhW hbr hlt
  have hf:=U6 hgood
  have hfl:=ZG hf
  have e7:n.net.links=n.links:=rfl
  rw[e7]at hfl
  have hlx:n.links[(YA n.net (r.getD k 0) (r.getD (k+1) 0)).toNat]? =some (lnk n.net (YA n.net (r.getD k 0) (r.getD (k+1) 0)).toNat):=Yal n.net hfl
  have hlo:=Yan hok (r.getD k 0) (r.getD (k+1) 0)
  have hidx:=λ{w:World}(hw:St B w0 (netB g n::H) w)=>Zl n (r.getD k 0) (r.getD (k+1) 0) (hin.cons (X:=netB g n)) hw
  unfold Zd at hidx
  rw[Td (by simp[hck])]at hidx
  obtain⟨fi,hfi⟩:∃fi,YA n.net (r.getD k 0) (r.getD (k+1) 0)=fi:=⟨_,rfl⟩
  obtain⟨lo,hlo2⟩:∃lo,Yam n.net (r.getD k 0) (r.getD (k+1) 0)=lo:=⟨_,rfl⟩
  have hst:Ws n.net r (k+1)=Ws n.net r k+(lo+1):=by rw[<-hlo2];rfl
  have hlo3:(lnk n.net fi.toNat).2.2=lo:=by rw[<-hfi];exact hlo2
  rw[hfi]at hidx hf hfl hlx
  rw[hlo2]at hlo
  rw[ei]at hgk
  rw[ei1]at hgk1
  obtain⟨lk,hlkk⟩:∃lk,lnk n.net fi.toNat=lk:=⟨_,rfl⟩
  rw[hlkk]at hlx hlo3
  rw[<-hlo3]at hlo
  have hgk':r[((k:Int)+1-1).toNat]? =some (r.getD k 0):=by rw[ei];exact hgk
  have hgk1':r[((k:Int)+1).toNat]? =some (r.getD (k+1) 0):=by rw[ei1];exact hgk1
  repeat'(first|((first|apply Ya en45|apply Yb en45);exact za;exact rfl;exactλ_ hw=>(hidx hw))|(apply zg28;refine zs84 ?_)|refine zgd ?_|(refine zge ?_ ?_<;>intro _<;>try exact zo)|fail)
  apply hK (k+1)
  ·omega
  ·omega
  ·rw[hst,<-hlo3];exact zc1
  exact zc19
 ·refine zX1 ?_<;>intros
  (repeat apply Yl);apply Yd;exact rfl;exact rfl
  have ek:r.length-1=k:=by omega
  exact⟨by unfold Yps;rw[ek],rfl⟩
theorem YmD(n:NetM)(r:List Int)(hin:n.In B w0 H)(hr:Rd B w0 H A (r.flatMap numF))(hlen:r.length<=9223372036854775807)(hcap:r.length<=cap)(hw:St B w0 H w):
 CX B w0 95 [n.val,.slice A r.length cap] w λv K=>v=.tuple #[.int .i64 (Yhj n.net r).1,.int .i64 (Yhj n.net r).2]/\K=H:=by
 refine Yc Tryz.func95 Tryz.ntmps95 rfl rfl hw ?_
 unfold Yhj
 by_cases h0:Yo n.net=0
 rotate_left
 ·rw[Tm h0]
  refine zX46 ?_<;>intros
  (repeat apply Yl);exact zc69
 rw[Td (λh=>h h0)]
 have hck:=λ{H:List HP}{w:World}(hin:n.In B w0 H) (hw:St B w0 H w)=>Y9 n hin hw
 rw[h0]at hck
 dsimp only
 have hf:=λ{H:List HP}{w:World}(s t:Int) (hin:n.In B w0 H) (hr:Rd B w0 H A (r.flatMap numF)) (hw:St B w0 H w)=>Yc8 n s t r (cap:=cap) hin h0 hr hlen hcap hw
 by_cases hz:r.length=0
 ·have hf0:Ue n.net (r.getD 0 0) (r.getD (r.length-1) 0) r=9:=by unfold Ue;rw[Tm (by omega)]
  have hf1:Ue n.net 0 0 r=9:=by unfold Ue;rw[Tm (by omega)]
  have hff:=λ{H:List HP}{w:World}(hin:n.In B w0 H) (hr:Rd B w0 H A (r.flatMap numF)) (hw:St B w0 H w)=>hf 0 0 hin hr hw
  rw[hf1]at hff
  rw[hf0,Tm (by decide)]
  repeat'(first|((first|apply Ya en44|apply Yb en44);exact za;exact rfl;exactλ_ hw=>(hck hin.cons hw))|((first|apply Ya Ybp|apply Yb Ybp);exact za;exact rfl;exactλ_ hw=>(hff hin.cons hr.cons hw))|refine zgb ?_|(refine zgf ?_ ?_<;>intro _<;>try exact zo)|(refine zgh ?_;intro _)|fail)
  (repeat apply Yl);exact zc10
 ·have hg0:=Zc (l:=r) (i:=0) (by omega)
  have hg1:=Zc (l:=r) (i:=r.length-1) (by omega)
  have hgi:((r.length:Int)-1).toNat=r.length-1:=by omega
  rw[<-hgi]at hg1
  have hff:=λ{H:List HP}{w:World}(hin:n.In B w0 H) (hr:Rd B w0 H A (r.flatMap numF)) (hw:St B w0 H w)=>hf (r.getD 0 0) (r.getD (r.length-1) 0) hin hr hw
  obtain⟨e,he⟩:∃e,Ue n.net (r.getD 0 0) (r.getD (r.length-1) 0) r=e:=⟨_,rfl⟩
  rw[he]at hff
  rw[he]
  rw[<-hgi]at hff
  by_cases hez:e=0
  ·subst hez
   obtain⟨⟨f1,f2⟩,_,_,_,f3⟩:=Yab he
   rw[Td (by simp)]
   repeat'(first|((first|apply Ya en44|apply Yb en44);exact za;exact rfl;exactλ_ hw=>(hck hin.cons hw))|((first|apply Ya Ybp|apply Yb Ybp);exact za;exact rfl;exactλ_ hw=>(hff hin.cons hr.cons hw))|((first|apply Ya YtH|apply Yb YtH);exact za;exact rfl;exactλ_ hw=>(Yni n r hin.cons h0 f3 hr.cons (by omega) hw))|refine zgd ?_|(refine zgf ?_ ?_<;>intro _<;>try exact zo)|(refine zgh ?_;intro _)|fail)
   (repeat apply Yl);exact zc10
  ·rw[Tm hez]
   repeat'(first|((first|apply Ya en44|apply Yb en44);exact za;exact rfl;exactλ_ hw=>(hck hin.cons hw))|((first|apply Ya Ybp|apply Yb Ybp);exact za;exact rfl;exactλ_ hw=>(hff hin.cons hr.cons hw))|refine zgd ?_|(refine zgf ?_ ?_<;>intro _<;>try exact zo)|(refine zgh ?_;intro _)|fail)
   (repeat apply Yl);exact zc10
theorem Ycm(n:NetM)(s t:Int)(r:List Int)(hin:n.In B w0 H)(hr:Rd B w0 H A (r.flatMap numF))(hlen:r.length<=9223372036854775807)(hcap:r.length<=cap)(hw:St B w0 H w):
 CX B w0 238 [n.val,.int .i64 s,.int .i64 t,.slice A r.length cap] w λv K=>v=.int .i64 (Zy n.net s t r)/\K=H:=by
 refine Yc Tryz.func238 Tryz.ntmps238 rfl rfl hw ?_
 unfold Zy
 by_cases h0:Jo n.net s t=0
 ·have hck:Yo n.net=0:=by
   unfold Jo at h0
   omega
  have hen:=λ{H:List HP}{w:World}(hin:n.In B w0 H) (hw:St B w0 H w)=>VY n s t hin hw
  rw[h0]at hen
  rw[Td (λh=>h h0)]
  repeat'(first|((first|apply Ya Qn|apply Yb Qn);exact za;exact rfl;exactλ_ hw=>(hen hin.cons hw))|((first|apply Ya Ybp|apply Yb Ybp);exact za;exact rfl;exactλ_ hw=>(Yc8 n s t r hin.cons hck hr.cons hlen hcap hw))|refine zgb ?_|(refine zge ?_ ?_<;>intro _<;>try exact zo)|(refine zgh ?_;intro _)|fail)
  (repeat apply Yl);exact zc13
 ·rw[Tm h0]
  repeat'(first|((first|apply Ya Qn|apply Yb Qn);exact za;exact rfl;exactλ_ hw=>(VY n s t hin.cons hw))|refine zgb ?_|(refine zge ?_ ?_<;>intro _<;>try exact zo)|(refine zgh ?_;intro _)|fail)
  (repeat apply Yl);exact zc13
end Go.Proofs.YtambgjgljcadlaaGreatDoor
namespace Go.Eng
open Go.RowKit
def subL(i k:Nat)(l:List Value):List Value:=(l.drop i).take k
section
variable {P:Program}{B:Nat}{w0:World}{Q:Exit->Act->World->Prop}{env:Env}{H:List HP}{m:Mode}{n:Shp}{ops:Array Oper}{rest:List Oper}{d:Nat}{ty:TypeId}{pos:String}{after:Array Edge}
variable {t:Nat}
theorem Ye(T:Tab P){g i k:Nat}{cs:Array Value}{vs:List Value}{tt:TypeId}{fr:Nat×Nat}{x:Operand}(hx:evo env x=some (.pointer (some ⟨g,i,none⟩)))(hm:blk g (.cells cs tt fr)∈H)
 (ht:look T.ag t=some k) (hv:subL i k cs.toList=vs) (hk:Nat.beq vs.length k=true) (hn:Nat.ble (d+1) n.k=true) (h:VL P m n B w0 ops Q rest ((d,.agg vs.toArray)::env) H):
 VL P m n B w0 ops Q (⟨some d,.load t x,ty,pos,after,none⟩::rest) env H:=by
 refine Yhv T hx hm ht (Nat.eq_of_beq_eq_true hk) (λj v hj=>?_) hn h
 rw[<-hv,subL,Sl]at hj
 split at hj
 ·rw[RX]at hj
  simpa using hj
 ·cases hj
end
def YhY(l:List Oper)(k s:Nat):Bool:=match l[k]? with
 |some o=>match o.op with
  |.call c=>match c.callee with
   |.value (.tmp t)=>Nat.beq t s
   |_=>false
  |_=>false
 |none=>false
section
variable {P:Program}{B:Nat}{w0:World}{Q:Exit->Act->World->Prop}{env:Env}{H:List HP}
variable {n id r:Nat}{ds:List Deferred}{l l1 l2:List Oper}
theorem Yhn(k s:Nat)(_ho:YhY l k s=true)(h1:l.take k=l1)(h2:l.drop k=l2)(hlo:¬LetsOut Q)(h:VL P none ⟨n,ds,none⟩ B w0 l.toArray (YQ P l.toArray Q l2) l1 env H):
 VC P ⟨n,ds,none⟩ B w0 (.region id l.toArray false) Q env H:=Ycr k h1 h2 hlo h
theorem YfZ(k s:Nat)(_ho:YhY l k s=true)(h1:l.take k=l1)(h2:l.drop k=l2)(h:VL P none ⟨n,ds,some r⟩ B w0 l.toArray (YQr P r l.toArray Q l2) l1 env H):
 VC P ⟨n,ds,some r⟩ B w0 (.region id l.toArray false) Q env H:=Yhm k h1 h2 h
end
section
variable {P:Program}{B:Nat}{w0:World}{env:Env}{H:List HP}
variable {n:Nat}{fn:Func}
theorem YmF{gf:Nat}{c:Code}{lb:List Value}{xs:List (List Value)}{HI:List HP}(hf:P.funcs[gf]? =some fn)(hn:fn.ntmps=n)(hb:fn.body=some c)(hle:Nat.ble (lb.length+1) n=true)
 (h:∀(l:Nat) (S:Nat->List HP->Prop) (X:List HP->Prop),
  (∀(i:Nat) (args:List Value),xs[i]? =some args->∀(Y L:List HP),S i L->
   YcB P l args B w0 (Y++many L::HI) (λK=>∃L',S (i+1) L'/\K=Y++many L'::HI) (λK=>∃L',X L'/\K=Y++many L'::HI))->
  ∀L0,S 0 L0->VC P ⟨n,[],none⟩ B w0 c (bodyPostM Fence.wide 0 P fn (Post B w0 λ_ K=>(∃L,S xs.length L/\K=many L::HI)\/∃L,X L/\K=many L::HI)) (Of 0 (.func (.yield l) #[] #[]::lb)) (many L0::HI)):Yco P gf lb xs B w0 HI:=by
 intro l S X hy L0 h0 w hw
 exact callsIn_wide.2 (ZU (args:=.func (.yield l) #[] #[]::lb) hf hn hb hle hw (h l S X hy L0 h0))
variable {ds:List Deferred}
theorem YrQ{R:Ending->World->Prop}(h:VQ ⟨n,ds,none⟩ B w0 (bodyPostM Fence.wide 0 P fn R) .ret env H):VQ ⟨n,ds,none⟩ B w0 (bodyPostM Fence.wide 0 P fn R) .normal env H:=
 ⟨λa w ha hw=>h.run a w ha hw⟩
end
variable {H:List HP}{n t r:Nat}{fn:Func}
theorem Ygc{P:Program}{B:Nat}{w0:World}{env:Env}{Φ:Value->List HP->Prop}{u s:Nat}{v x y z:Value}(hr:fn.results=#[.tmp t,.tmp u,.tmp s,.tmp r])(hv:get env t=some v)(hx:get env u=some x)(hy:get env s=some y)(hz:get env r=some z)(h:Φ (.tuple #[v,x,y,z]) H):
 VQ ⟨n,[],none⟩ B w0 (bodyPost P fn (Post B w0 Φ)) .ret env H:=
 ⟨λa w ha hw=>bodyPost_ret (v:=.tuple #[v,x,y,z]) (by simp[results,hr,Array.getD_eq_getD_getElem?,ha.slot t v hv,ha.slot u x hx,ha.slot s y hy,ha.slot r z hz]) ha.defers ⟨_,H,rfl,hw,h⟩⟩
theorem Yoo{X:HP}(h:X∈H):∃R,Perm H [X,many R]/\Perm [X,many R] H:=by
 obtain⟨s,t,rfl⟩:=List.append_of_mem h
 exact⟨s++t,(Perm.closeT _).trans (Perm.pull X s t []),(Perm.push X s t []).trans (Perm.openT _)⟩
end Go.Eng
namespace Go.Proofs.YtambgjgljcadlaaGreatDoor
open Go.RowKit Go.Eng Go.Nw Go.Rt
abbrev Rqs:=Flw×List (List Int)
structure Clm where
 flow:Int
 routes:List (List Int)
 bounds:List Int
 worst:List Int
 slots:List (List Int)
deriving DecidableEq
def YwQ:Clm:=⟨0,[],[],[],[]⟩
def Ys(q:List Rqs):List Flw:=q.map Prod.fst
def YmB:Rqs:=((0,0,0,0,0,0),[])
def rqAt(q:List Rqs)(i:Nat):Rqs:=q.getD i YmB
def rtAt(l:List (List Int))(k:Nat):List Int:=l.getD k []
def rtsE(n:Net)(x:Rqs):Int:=
 if x.2.length=0 then 14 else if 2<x.2.length then 8
 else if(YD (λk=>Zy n x.1.2.1 x.1.2.2.1 (rtAt x.2 k)) x.2.length 0).2≠0 then(YD (λk=>Zy n x.1.2.1 x.1.2.2.1 (rtAt x.2 k)) x.2.length 0).2
 else if x.2.length=2/\rtAt x.2 0=rtAt x.2 1 then 6 else 0
def rqsE(n:Net)(q:List Rqs):Int×Int:=
 if Yo n≠0 then(-1,1)else if(Yy n.nodes (Ys q)).2≠0 then Yy n.nodes (Ys q)
 else YD (λi=>rtsE n (rqAt q i)) q.length 0
def badR(n:Net)(s:Sch)(f:Flw)(r:List Int):Bool:=decide ((YT n s f r).2≠0\/f.2.2.2.2.2<(YT n s f r).1.1)
def Yh2(n:Net)(s:Sch)(x:Rqs)(l:List (List Int)):Clm:=
 ⟨x.1.1,l,l.map λr=>(YT n s x.1 r).1.1,l.map λr=>(YT n s x.1 r).1.2.1,l.map λr=>(YT n s x.1 r).1.2.2⟩
def Jq(n:Net)(s:Sch)(x:Rqs):Bool:=x.2.any (badR n s x.1)
def clmE(n:Net)(s:Sch)(x:Rqs):Clm:=Yh2 n s x x.2
def YM(n:Net)(q:List Rqs)(s:Sch):List Clm×(Int×Int):=
 if(rqsE n q).2≠0 then([],rqsE n q)else if(schE n (Ys q) s).2≠0 then([],(-1,1))
 else if(YD (λi=>if Jq n s (rqAt q i)=true then 15 else 0) q.length 0).2≠0 then([],YD (λi=>if Jq n s (rqAt q i)=true then 15 else 0) q.length 0)
 else(q.map (clmE n s),(-1,0))
def Q6(c:List Clm)(i:Nat):Clm:=c.getD i YwQ
def chkE(n:Net)(q:List Rqs)(s:Sch)(c:List Clm):Int×Int:=
 if(YM n q s).2.2≠0 then(YM n q s).2 else if c.length≠(YM n q s).1.length then(-1,11)
 else YD (λi=>if Q6 c i=Q6 (YM n q s).1 i then 0 else 20) c.length 0
def minI:List Int->Int
 |[]=>0
 |a::l=>l.foldl (λx y=>if y<x then y else x) a
def maxI:List Int->Int
 |[]=>0
 |a::l=>l.foldl (λx y=>if x<y then y else x) a
def bndE(c:List Clm)(id:Int):Int×Bool:=
 match c.find? (λx=>decide (x.flow=id)&&decide (0<x.bounds.length))with
 |none=>(0,false)
 |some x=>(minI x.bounds,true)
def admB(c:List Clm)(f:Flw):Bool:=
 match c.find? (λx=>decide (x.flow=f.1))with
 |none=>false
 |some x=>decide (0<x.bounds.length)&&decide (maxI x.bounds<=f.2.2.2.2.2)
def Ykv(n:Net)(s:Sch)(f:Flw)(l:List (List Int)):Int×Int:=
 if l.length=0 then(0,14)else
 if(YD (λk=>wayE n s f (rtAt l k)) l.length 0).2≠0 then(0,(YD (λk=>wayE n s f (rtAt l k)) l.length 0).2)
 else if(l.foldl (λa r=>match ZL n s f r with|none=>a|some b=>if a=0\/b.1<a then b.1 else a) (0:Int))=0 then(0,15)
 else(l.foldl (λa r=>match ZL n s f r with|none=>a|some b=>if a=0\/b.1<a then b.1 else a) (0:Int),0)
structure WayM where
 n:NetM
 s:SchM
 f:Flw
 A:Option Addr
 cap:Nat
 r:List Int
def WayM.val(x:WayM):Value:=.agg #[.int .i64 x.n.nodes,.slice x.n.pA x.n.rows.length x.n.pcap,.int .i64 x.n.noise,.int .i64 x.n.thr,.slice x.n.lA x.n.links.length x.n.lcap,.slice x.n.mA x.n.margin.length x.n.mcap,.int .i64 x.s.len,.int .i64 x.s.off,.slice x.s.A x.s.cells.length x.s.cap,.int .i64 x.f.1,.int .i64 x.f.2.1,.int .i64 x.f.2.2.1,.int .i64 x.f.2.2.2.1,.int .i64 x.f.2.2.2.2.1,.int .i64 x.f.2.2.2.2.2,.slice x.A x.r.length x.cap,.int .i64 0]
abbrev wayB(g:Nat)(x:WayM):HP:=blk g (.cells #[.int .i64 x.n.nodes,.slice x.n.pA x.n.rows.length x.n.pcap,.int .i64 x.n.noise,.int .i64 x.n.thr,.slice x.n.lA x.n.links.length x.n.lcap,.slice x.n.mA x.n.margin.length x.n.mcap,.int .i64 x.s.len,.int .i64 x.s.off,.slice x.s.A x.s.cells.length x.s.cap,.int .i64 x.f.1,.int .i64 x.f.2.1,.int .i64 x.f.2.2.1,.int .i64 x.f.2.2.2.1,.int .i64 x.f.2.2.2.2.1,.int .i64 x.f.2.2.2.2.2,.slice x.A x.r.length x.cap,.int .i64 0] 314 (0,0))
structure WayM.In(B:Nat)(w0:World)(H:List HP)(x:WayM):Prop where
 n:x.n.In B w0 H
 s:Rd B w0 H x.s.A (x.s.cells.flatMap celF)
 r:Rd B w0 H x.A (x.r.flatMap numF)
 sl:x.s.cells.length<=1000000000000
 rl:x.r.length<=1000000000000
 rc:x.r.length<=x.cap
variable {B:Nat}{w0:World}{H:List HP}{x:WayM}
theorem WayM.In.cons{X:HP}(h:x.In B w0 H):x.In B w0 (X::H):=⟨h.n.cons,h.s.cons,h.r.cons,h.sl,h.rl,h.rc⟩
theorem WayM.In.mono{H':List HP}(h:x.In B w0 H)(hH:∀w,St B w0 H' w->St B w0 H w):x.In B w0 H':=⟨h.n.mono hH,h.s.mono hH,h.r.mono hH,h.sl,h.rl,h.rc⟩
theorem YnA{nodes:Int}{f:Flw}(h:2<=nodes/\nodes<=32):((Yy nodes [f]).2=0↔XD nodes f=0):=by
 unfold Yy
 have e:Xt nodes [f] 0=XD nodes f:=by
  show(if XD nodes f≠0 then XD nodes f else if 0<0/\_ then 5 else 0)=_
  omega
 unfold YD YD
 grind
theorem Yjx(x:WayM){w:World}(ht:TabsB B w0)(hi:x.In B w0 H)(hw:St B w0 H w):
 CX B w0 242 [x.val] w λv K=>v=.int .i64 (wayE x.n.net x.s.sch x.f x.r)/\K=H:=by
 refine Yc Tryz.func242 Tryz.ntmps242 rfl rfl hw ?_
 have p1:=λ{H':List HP}{w:World}(hin:x.n.In B w0 H') (hw:St B w0 H' w)=>Y9 x.n hin hw
 have p2:=λ{H':List HP}{w:World}(hr:Rd B w0 H' x.s.A (x.s.cells.flatMap celF)) (hw:St B w0 H' w)=>QO x.s ht hr hi.sl hw
 have p3:=λ{g cap:Nat}{H':List HP}{w:World}(hm:blk g (.cells #[.int .i64 x.f.1,.int .i64 x.f.2.1,.int .i64 x.f.2.2.1,.int .i64 x.f.2.2.2.1,.int .i64 x.f.2.2.2.2.1,.int .i64 x.f.2.2.2.2.2] 53 (0,0))∈H') (hw:St B w0 H' w)=>Y0 x.n.nodes [x.f] (Ri rfl) (A:=some ⟨g,0,none⟩) (cap:=cap) (show Rd B w0 H' _ ([x.f].flatMap flwF) from Rd.blk hm) hw
 have p4:=λ{H':List HP}{w:World}(hin:x.n.In B w0 H') (hr:Rd B w0 H' x.A (x.r.flatMap numF)) (hw:St B w0 H' w)=>Ycm x.n x.f.2.1 x.f.2.2.1 x.r (cap:=x.cap) hin hr (Rh hi.rl (by decide)) hi.rc hw
 have hn:=hi.n
 have hs:=hi.s
 have hr:=hi.r
 have hfo:=@YnA x.n.net.nodes x.f
 have hok:=λh:Yo x.n.net=0=>(YN h).n0
 have hok1:=λh:Yo x.n.net=0=>(YN h).n1
 have hpe:(ZR x.s.sch).2=0↔Xm x.s.sch=true:=by
  unfold ZR
  cases hf:Xm x.s.sch with
  |true=>rw[Td (by decide)];simp
  |false=>rw[Tm rfl];simp
 unfold wayE
 rw[show x.n.net.nodes=x.n.nodes from rfl]at*
 rw[show x.s.sch.len=x.s.len from rfl]at*
 obtain⟨c,hc⟩:∃c,Yo x.n.net=c:=⟨_,rfl⟩
 obtain⟨⟨t,e⟩,he⟩:∃e,ZR x.s.sch=e:=⟨_,rfl⟩
 obtain⟨⟨i,a⟩,ha⟩:∃a,Yy x.n.nodes [x.f]=a:=⟨_,rfl⟩
 obtain⟨k,hk⟩:∃k,Zy x.n.net x.f.2.1 x.f.2.2.1 x.r=k:=⟨_,rfl⟩
 rw[hc]at p1 hok hok1⊢
 rw[he]at p2 hpe
 rw[ha]at p3 hfo
 rw[hk]at p4⊢
 dsimp only at p2 p3 hpe hfo
 unfold WayM.val
 by_cases h1:c=0
 rotate_left
 ·rw[Tm (.inl h1)]
  repeat'(first|((first|apply Ya en44|apply Yb en44);exact za;exact rfl;exactλ_ hw=>(p1 hn.cons hw))|(apply Ye T;exact rfl;exact zm;exact rfl;exact zv;exact rfl;exact rfl)|refine zgb ?_|(refine zge ?_ ?_<;>intro _<;>try exact zo)|(refine zgh ?_;intro _)|fail)
  apply Yi H
  ·exact zc0
  exact zc5
 subst h1
 have hfo:=hfo ⟨hok rfl,hok1 rfl⟩
 by_cases h2:e=0
 rotate_left
 ·rw[Tm (.inr (.inl (by cases hf:Xm x.s.sch with|false=>rfl|true=>exact absurd (hpe.2 hf) h2)))]
  repeat'(first|((first|apply Ya en44|apply Yb en44);exact za;exact rfl;exactλ_ hw=>(p1 hn.cons hw))|((first|apply Ya en85|apply Yb en85);exact za;exact rfl;exactλ_ hw=>(p2 hs.cons hw))|(apply Ye T;exact rfl;exact zm;exact rfl;exact zv;exact rfl;exact rfl)|refine zgc ?_|(refine zge ?_ ?_<;>intro _<;>try exact zo)|(refine zgh ?_;intro _)|fail)
  apply Yi H
  ·exact zc0
  exact zc5
 subst h2
 have hfe:=hpe.1 rfl
 by_cases h3:a=0
 rotate_left
 ·rw[Tm (.inr (.inr (λh=>h3 (hfo.2 h))))]
  repeat'(first|((first|apply Ya en44|apply Yb en44);exact za;exact rfl;exactλ_ hw=>(p1 hn.cons hw))|((first|apply Ya en85|apply Yb en85);exact za;exact rfl;exactλ_ hw=>(p2 hs.cons hw))|((first|apply Ya en74|apply Yb en74);exact za;exact rfl;exactλ_ hw=>(p3 zm hw))|(apply Ye T;exact rfl;exact zm;exact rfl;exact zv;exact rfl;exact rfl)|refine zgc ?_|(refine zge ?_ ?_<;>intro _<;>try exact zo)|(refine zgh ?_;intro _)|fail)
  apply Yi H
  ·exact zc0
  exact zc5
 subst h3
 have hfz:=hfo.1 rfl
 rw[Td (by rintro(h|h|h);exact h rfl;rw[hfe]at h;cases h;exact h hfz)]
 have hp1:1<=x.f.2.2.2.1:=by
  unfold XD at hfz
  split at hfz
  ·cases hfz
  split at hfz
  ·cases hfz
  omega
 have hsz:1<=x.s.len/\x.s.len<=512:=by
  have:=TY (XV.1 hfe).sized
  exact⟨this.1,this.2.1⟩
 rw[RJ (show 0<=x.s.len by omega)]
 by_cases h4:x.s.len%x.f.2.2.2.1=0
 rotate_left
 ·rw[Tm h4]
  repeat'(first|((first|apply Ya en44|apply Yb en44);exact za;exact rfl;exactλ_ hw=>(p1 hn.cons hw))|((first|apply Ya en85|apply Yb en85);exact za;exact rfl;exactλ_ hw=>(p2 hs.cons hw))|((first|apply Ya en74|apply Yb en74);exact za;exact rfl;exactλ_ hw=>(p3 zm hw))|(apply Ye T;exact rfl;exact zm;exact rfl;exact zv;exact rfl;exact rfl)|refine zgd ?_|(refine zge ?_ ?_<;>intro _<;>try exact zo)|(refine zgh ?_;intro _)|fail)
  apply Yi H
  ·exact zc0
  exact zc5
 rw[Td (λh=>h h4)]
 repeat'(first|((first|apply Ya en44|apply Yb en44);exact za;exact rfl;exactλ_ hw=>(p1 hn.cons hw))|((first|apply Ya en85|apply Yb en85);exact za;exact rfl;exactλ_ hw=>(p2 hs.cons hw))|((first|apply Ya en74|apply Yb en74);exact za;exact rfl;exactλ_ hw=>(p3 zm hw))|((first|apply Ya Yfe|apply Yb Yfe);exact za;exact rfl;exactλ_ hw=>(p4 hn.cons.cons hr.cons.cons hw))|(apply Ye T;exact rfl;exact zm;exact rfl;exact zv;exact rfl;exact rfl)|refine zgd ?_|(refine zge ?_ ?_<;>intro _<;>try exact zo)|(refine zgh ?_;intro _)|fail)
 apply Yi H
 ·exact zc0
 exact zc5
variable {n:Net}{s:Sch}{f:Flw}{r:List Int}
theorem Ybe(h:wayE n s f r=0):Yo n=0/\Xm s=true/\XD n.nodes f=0/\s.len.tmod f.2.2.2.1=0/\Zy n f.2.1 f.2.2.1 r=0:=by
 unfold wayE at h
 split at h
 ·cases h
 rename_i h1
 split at h
 ·cases h
 rename_i h2
 refine⟨Nq λe=>h1 (.inl e),?_,Nq λe=>h1 (.inr (.inr e)),TN.1 h2,h⟩
 cases hf:Xm s with
 |true=>rfl
 |false=>exact absurd (.inr (.inl hf)) h1
theorem ON(h:(YT n s f r).2=0):wayE n s f r=0/\∃b,ZL n s f r=some b/\YT n s f r=(b,0):=by
 unfold YT at h⊢
 by_cases h1:wayE n s f r=0
 ·rw[Td (λe=>e h1)]at h⊢
  cases hb:ZL n s f r with
  |none=>rw[hb]at h;cases h
  |some b=>exact⟨h1,b,rfl,rfl⟩
 ·rw[Tm h1]at h
  exact absurd h h1
variable {q:List Rqs}{i:Nat}
theorem V3(h:i<q.length):q[i]? =some (rqAt q i):=by
 unfold rqAt;rw[Tu,Ta h];rfl
theorem Yay(h:i<q.length):rqAt q i∈q:=Tf (V3 h)
variable {x:Rqs}
theorem YdH(h:x∈q):∃i,i<q.length/\rqAt q i=x:=by
 obtain⟨i,hi⟩:=TO.1 h
 have hl:=(Tc.1 hi).1
 exact⟨i,hl,Tv ((V3 hl).symm.trans hi)⟩
variable {l:List (List Int)}
theorem YfL(h:i<l.length):l[i]? =some (rtAt l i):=by
 unfold rtAt;rw[Tu,Ta h];rfl
theorem Yjd(h:i<l.length):rtAt l i∈l:=Tf (YfL h)
def W5(n:Net)(s:Sch)(x:Rqs):Bool:=decide (x.2.length=1\/x.2.length=2/\rtAt x.2 0≠rtAt x.2 1)&&!(Jq n s x)
theorem Ycf(h:Jq n s x=false)(hr:r∈x.2):(YT n s x.1 r).2=0/\(YT n s x.1 r).1.1<=x.1.2.2.2.2.2:=by
 unfold Jq at h
 rw[RN]at h
 have:=h r hr
 unfold badR at this
 rw[Tt]at this
 omega
theorem YvB(h:W5 n s x=true):rtsE n x=0:=by
 unfold W5 at h
 rw[To,Tt]at h
 have hl:=h.2
 simp only[RO]at hl
 have hc:(YD (λk=>Zy n x.1.2.1 x.1.2.2.1 (rtAt x.2 k)) x.2.length 0).2=0:=YI.2 λk _ hk=>
  (Ybe (ON (Ycf hl (Yjd (l:=x.2) (i:=k) (by omega))).1).1).2.2.2.2
 unfold rtsE
 rw[Td (by omega),Td (by omega),Td (λe=>e hc)]
 rw[Td]
 rintro⟨h1,h2⟩
 rcases h.1 with h3|h3
 ·omega
 ·exact h3.2 h2
theorem Yaz(h:rtsE n x=0):x.2.length=1\/x.2.length=2/\rtAt x.2 0≠rtAt x.2 1:=by
 unfold rtsE at h
 split at h
 ·cases h
 split at h
 ·cases h
 split at h
 ·exact absurd h (by assumption)
 split at h
 ·cases h
 rename_i h1 h2 h3 h4
 by_cases h5:x.2.length=1
 ·exact .inl h5
 ·exact .inr ⟨by omega,λe=>h4 ⟨by omega,e⟩⟩
theorem XJ:(YM n q s).2.2=0↔(schE n (Ys q) s).2=0/\∀x∈q,W5 n s x=true:=by
 constructor
 ·intro h
  unfold YM at h
  by_cases h1:(rqsE n q).2=0
  rotate_left
  ·rw[Tm h1]at h;exact absurd h h1
  rw[Td (λe=>e h1)]at h
  by_cases h2:(schE n (Ys q) s).2=0
  rotate_left
  ·rw[Tm h2]at h;cases h
  rw[Td (λe=>e h2)]at h
  by_cases h3:(YD (λi=>if Jq n s (rqAt q i)=true then 15 else 0) q.length 0).2=0
  rotate_left
  ·rw[Tm h3]at h;exact absurd h h3
  refine⟨h2,λx hx=>?_⟩
  obtain⟨i,hi,rfl⟩:=YdH hx
  have h4:=YI.1 h3 i (Tj _) (by omega)
  have hl:Jq n s (rqAt q i)=false:=by
   cases hb:Jq n s (rqAt q i)with
   |false=>rfl
   |true=>simp only[hb,Tm]at h4;cases h4
  have h5:rtsE n (rqAt q i)=0:=by
   have hw:=Vt (X5.1 h2).whole
   unfold rqsE at h1
   rw[Td (λe=>e hw.1),Td (λe=>e hw.2.1)]at h1
   exact YI.1 h1 i (Tj _) (by omega)
  unfold W5
  rw[hl,Ti (Yaz h5)];rfl
 ·rintro⟨h2,h3⟩
  have hw:=Vt (X5.1 h2).whole
  have h1:(rqsE n q).2=0:=by
   unfold rqsE
   rw[Td (λe=>e hw.1),Td (λe=>e hw.2.1)]
   exact YI.2 λi _ hi=>YvB (h3 _ (Yay (by omega)))
  have h4:(YD (λi=>if Jq n s (rqAt q i)=true then 15 else 0) q.length 0).2=0:=YI.2 λi _ hi=>by
   have:=h3 _ (Yay (q:=q) (i:=i) (by omega))
   unfold W5 at this
   rw[To]at this
   have hl:=this.2
   simp only[RO]at hl
   rw[Td (by rw[hl];decide)]
  unfold YM
  rw[Td (λe=>e h1),Td (λe=>e h2),Td (λe=>e h4)]
theorem YlE(h:(YM n q s).2.2=0):YM n q s=(q.map (clmE n s),(-1,0)):=by
 unfold YM at h⊢
 split
 ·rename_i h1;rw[Tm h1]at h;exact absurd h h1
 rename_i h1
 rw[Td h1]at h
 split
 ·rename_i h2;rw[Tm h2]at h;cases h
 rename_i h2
 rw[Td h2]at h
 split
 ·rename_i h3;rw[Tm h3]at h;exact absurd h h3
 rfl
structure WO(x:WayM):Prop where
 ck:Yo x.n.net=0
 len:2<=x.r.length/\x.r.length<=9
 good:∀i,i+1<x.r.length->YG x.n.net (x.r.getD i 0) (x.r.getD (i+1) 0)=true
 per:1<=x.f.2.2.2.1/\x.f.2.2.2.1<=512
 ph:0<=x.f.2.2.2.2.1/\x.f.2.2.2.2.1<x.f.2.2.2.1
 slen:1<=x.s.len/\x.s.len<=512
 few:x.s.cells.length<=512
variable {n:Net}{r:List Int}
theorem J3{s t:Int}(h:Zy n s t r=0):Yo n=0/\(2<=r.length/\r.length<=9)/\∀i,i+1<r.length->YG n (r.getD i 0) (r.getD (i+1) 0)=true:=by
 unfold Zy at h
 by_cases h0:Jo n s t=0
 rotate_left
 ·omega
 rw[Td (λe=>e h0)]at h
 have hck:Yo n=0:=by
  unfold Jo at h0
  omega
 obtain⟨h1,_,_,_,h2⟩:=Yab h
 grind [Ut]
theorem Yhh{x:WayM}(h:wayE x.n.net x.s.sch x.f x.r=0):WO x:=by
 obtain⟨_,h2,h3,_,h5⟩:=Ybe h
 obtain⟨k1,k2,k3⟩:=J3 h5
 have hfr:=XV.1 h2
 have hsz:=TY hfr.sized
 unfold XD at h3
 split at h3
 ·cases h3
 split at h3
 ·cases h3
 exact⟨k1,k2,k3,by omega,by omega,⟨hsz.1,hsz.2.1⟩,hfr.few⟩
def J8(x:WayM):List (List Value):=(Yr x.n.net x.r).map λl=>[lkV l]
theorem QK{i:Nat}(h:i+1<r.length):(Yr n r)[i]? =some (ZO n r i):=by
 grind [Yr]
theorem Wz:(Yr n r).length=r.length-1:=by grind [Yr]
variable {B:Nat}{w0:World}
theorem YbH(x:WayM)(g:Nat)(hok:WO x){HI:List HP}(hi:x.In B w0 HI)(hm:wayB g x∈HI):
 Yco Tryz.prog 311 [.pointer (some ⟨g,0,none⟩)] (J8 x) B w0 HI:=by
 refine Ycp Tryz.func311 Tryz.ntmps311 rfl rfl ?_
 intro l SS X hy L0 h0
 have hck:=hok.ck
 have hlen:=hok.len
 have p1:=λ{H':List HP}{w:World}(a b:Int) (hin:x.n.In B w0 H') (hw:St B w0 H' w)=>Zl x.n a b hin hw
 have hix:∀a b:Int,Zd x.n.net a b=YA x.n.net a b:=λa b=>by simp_all [Zd]
 unfold wayB at hm
 refine zX7 ?_
 refine Yj (λ(y:Nat×List HP)=>[(3,.int .i64 (y.1+1:Nat)),(0,.func (.yield l) #[] #[]),(1,.pointer (some ⟨g,0,none⟩))]) (λy=>many y.2::HI) (λy=>y.1+1<=x.r.length/\SS y.1 y.2) (λy=>x.r.length-1-y.1) (0,L0) ⟨by omega,h0⟩ ?_ (λw hw=>hw) ?_
 ·exact zc1
 rintro⟨i,L⟩ ⟨hile,hS⟩ K hK
 dsimp only at hile hS⊢
 by_cases hlt:i+1<x.r.length
 ·have hg:=hok.good i hlt
  have hf:=U6 hg
  have hfl:=ZG hf
  have hlx:x.n.links[(YA x.n.net (x.r.getD i 0) (x.r.getD (i+1) 0)).toNat]? =some (lnk x.n.net (YA x.n.net (x.r.getD i 0) (x.r.getD (i+1) 0)).toNat):=Yal x.n.net hfl
  have hla:ZO x.n.net x.r i=lnk x.n.net (YA x.n.net (x.r.getD i 0) (x.r.getD (i+1) 0)).toNat:=rfl
  have hg0:=Zc (l:=x.r) (i:=i) (by omega)
  have hg1:=Zc (l:=x.r) (i:=i+1) (by omega)
  have hgi:((((i+1:Nat):Int)-1).toNat)=i:=by omega
  have hgi1:(((i+1:Nat):Int).toNat)=i+1:=by omega
  have hll:(YA x.n.net (x.r.getD i 0) (x.r.getD (i+1) 0)).toNat<x.n.links.length:=hfl
  have p2:=λ{H':List HP}{w:World}(hin:x.n.In B w0 H') (hw:St B w0 H' w)=>p1 (x.r.getD i 0) (x.r.getD (i+1) 0) hin hw
  rw[hix]at p2
  have hx:(J8 x)[i]? =some [lkV (ZO x.n.net x.r i)]:=by
   unfold J8;rw[TX,QK hlt];rfl
  rw[hla]at hx
  obtain⟨a,ha⟩:∃a,x.r.getD i 0=a:=⟨_,rfl⟩
  obtain⟨b,hb⟩:∃b,x.r.getD (i+1) 0=b:=⟨_,rfl⟩
  rw[ha]at hg0 p2 hlx hll hf hx
  rw[hb]at hg1 p2 hlx hll hf hx
  obtain⟨z,hz⟩:∃z,YA x.n.net a b=z:=⟨_,rfl⟩
  rw[hz]at p2 hlx hll hf hx
  obtain⟨lk,hlk⟩:∃k,lnk x.n.net z.toNat=k:=⟨_,rfl⟩
  rw[hlk]at hlx hx
  obtain⟨R,hR1,hR2⟩:=Yoo hm
  have hg0i:x.r[(((i+1:Nat):Int)-1).toNat]? =some a:=by rw[hgi];exact hg0
  have hg1i:x.r[((i+1:Nat):Int).toNat]? =some b:=by rw[hgi1];exact hg1
  have hwb:∀w,St B w0 (many L::(blk g (.cells #[.int .i64 x.n.nodes,.slice x.n.pA x.n.rows.length x.n.pcap,.int .i64 x.n.noise,.int .i64 x.n.thr,.slice x.n.lA x.n.links.length x.n.lcap,.slice x.n.mA x.n.margin.length x.n.mcap,.int .i64 x.s.len,.int .i64 x.s.off,.slice x.s.A x.s.cells.length x.s.cap,.int .i64 x.f.1,.int .i64 x.f.2.1,.int .i64 x.f.2.2.1,.int .i64 x.f.2.2.2.1,.int .i64 x.f.2.2.2.2.1,.int .i64 x.f.2.2.2.2.2,.slice x.A x.r.length x.cap,.int .i64 0] 314 (0,0)))::[many R]) w->St B w0 (many L::HI) w:=λw hw=>hw.perm (Perm.cons _ hR2)
  have hl0:0<=lk.2.2/\lk.2.2<=7:=by
   have h1:=(YN hck).lk z.toNat hll
   rw[<-hlk];exact⟨h1.l0,h1.l1⟩
  have hiK:x.In B w0 [wayB g x,many R]:=hi.mono λw hw=>hw.perm hR2
  have hrr:=hiK.r
  have hlr:=hiK.n.lk
  unfold wayB at hiK hrr hlr
  refine Xf (blk g (.cells #[.int .i64 x.n.nodes,.slice x.n.pA x.n.rows.length x.n.pcap,.int .i64 x.n.noise,.int .i64 x.n.thr,.slice x.n.lA x.n.links.length x.n.lcap,.slice x.n.mA x.n.margin.length x.n.mcap,.int .i64 x.s.len,.int .i64 x.s.off,.slice x.s.A x.s.cells.length x.s.cap,.int .i64 x.f.1,.int .i64 x.f.2.1,.int .i64 x.f.2.2.1,.int .i64 x.f.2.2.2.1,.int .i64 x.f.2.2.2.2.1,.int .i64 x.f.2.2.2.2.2,.slice x.A x.r.length x.cap,.int .i64 0] 314 (0,0))::many L::[many R]) (λw hw=>hw.perm ((Perm.cons _ hR1).trans (Perm.swap _ _ _))) ?_
  refine zX3 ?_<;>intros
  apply Up (.n1 0 (.n1 1 (.n1 2 (.n1 3 (.n1 4 (.n1 5 (.n1 6 (.n1 7 (.n1 8 (.n1 9 (.n1 10 (.n1 11 (.n1 12 (.n1 13 (.n1 14 (.n1 15 (.n2 16 (.n1 17 (.n1 18 (.n1 19 .done))) 19 (.n1 16 (.n1 17 (.n1 18 .done)))))))))))))))))))) [20] [true,false,true]
  kernel_rfl
  kernel_rfl
  exact zy
  (simp only[Yg,nthO];rfl)
  repeat'(first|(apply Ye T;exact rfl;exact zm;exact rfl;exact zv;exact rfl;exact rfl)|(apply Yk;try exact zl)|apply(zs91 ?_ ?_)|(apply Xa;try exact zl)|refine zgd ?_|(refine zgh ?_;intro _)|fail)
  all_goals(
   first|apply Ya en45|apply Yb en45
   exact za
   exact rfl
   exactλ_ hw=>(p2 (hiK.mono zk).n hw)
   repeat'(first|(refine Yhn 2 37 rfl rfl rfl (by rintro⟨_,_,_,_,h,_⟩;cases h) ?_)|(apply Yk;try exact zl)|(apply Xa;try exact zl)|refine zgd ?_|(refine zgh ?_;intro _)|fail)
   rename_i g5
   rw[show lk.2.2+0=lk.2.2 from N8 _]
   apply Yi (blk g5 (.cells #[.int .i64 lk.1,.int .i64 lk.2.1,.int .i64 lk.2.2] 124 (0,0))::many L::HI)
   ·intro w hw
    have h5:St B w0 (blk g5 (.cells #[.int .i64 lk.1,.int .i64 lk.2.1,.int .i64 lk.2.2] 124 (0,0))::many L::blk g (.cells #[.int .i64 x.n.nodes,.slice x.n.pA x.n.rows.length x.n.pcap,.int .i64 x.n.noise,.int .i64 x.n.thr,.slice x.n.lA x.n.links.length x.n.lcap,.slice x.n.mA x.n.margin.length x.n.mcap,.int .i64 x.s.len,.int .i64 x.s.off,.slice x.s.A x.s.cells.length x.s.cap,.int .i64 x.f.1,.int .i64 x.f.2.1,.int .i64 x.f.2.2.1,.int .i64 x.f.2.2.2.1,.int .i64 x.f.2.2.2.2.1,.int .i64 x.f.2.2.2.2.2,.slice x.A x.r.length x.cap,.int .i64 0] 314 (0,0))::[many R]) w:=by
     revert w
     exact zk
    exact h5.perm (Perm.cons _ (Perm.cons _ hR2))
   have hY:=hy _ _ hx [blk g5 (.cells #[.int .i64 lk.1,.int .i64 lk.2.1,.int .i64 lk.2.2] 124 (0,0))] L hS
   apply YcA _ _ (hy:=hY)
   ·exact YbX
   ·exact rfl
   ·exact za
   ·exact rfl
   ·rintro⟨_,_,_,_,h,_⟩;cases h
   ·rintro _ ⟨L',hS',rfl⟩
    repeat'(first|refine zgd ?_|fail)
    apply hK (i+1,L')
    ·exact⟨by show i+1+1<=_;omega,hS'⟩
    ·dsimp only;omega
    ·exact zu
    ·exactλw hw=>hw.tail
   ·rintro _ ⟨L',hX',rfl⟩
    repeat'(first|refine zgd ?_|fail)
    apply Yi (many L'::HI)
    ·exactλw hw=>hw.tail
    apply OW;exact rfl
    exact .inr ⟨L',hX',rfl⟩)
 ·refine zX1 ?_<;>intros
  apply VG;exact rfl
  have hl0:i=(J8 x).length:=by unfold J8;rw[TC,Wz];omega
  rw[hl0]at hS
  exact .inl ⟨L,hS,rfl⟩
def Ys4(g:Nat):Value:=.func (.func 311) #[] #[.pointer (some ⟨g,0,none⟩)]
theorem YdD(x:WayM){H:List HP}{w:World}(hw:St B w0 H w):
 CX B w0 275 [x.val] w λv K=>∃g,v=Ys4 g/\K=wayB g x::H:=by
 refine Yc Tryz.func275 Tryz.ntmps275 rfl rfl hw ?_
 repeat'(first|((refine zs52 ?_;intro _))|((apply Yp;exact za;exact rfl))|refine zga ?_|fail)
 apply Yd;exact rfl;exact rfl
 exact⟨_,rfl,rfl⟩
variable {B i:Nat}{w0 w:World}{H:List HP}
theorem Yh0(x:WayM)(l:Lk)(g gl:Nat)(c:Cel)(hm:wayB g x∈H)(hml:blk gl (.cells #[.int .i64 l.1,.int .i64 l.2.1,.int .i64 l.2.2] 124 (0,0))∈H)(hw:St B w0 H w):
 CX B w0 312 [celV c,.pointer (some ⟨g,0,none⟩),.pointer (some ⟨gl,0,none⟩)] w λv K=>v=.bool (!(onP x.f.1 l.1 l.2.1 c))/\K=H:=by
 refine Yc Tryz.func312 Tryz.ntmps312 rfl rfl hw ?_
 unfold wayB at hm
 have hb:onP x.f.1 l.1 l.2.1 c=true↔c.2.2.2.2=x.f.1/\c.2.2.1=l.1/\c.2.2.2.1=l.2.1:=by unfold onP Xr YC toC;simp_all
 obtain⟨b,hbe⟩:∃b,onP x.f.1 l.1 l.2.1 c=b:=⟨_,rfl⟩
 rw[hbe]at hb⊢
 repeat'(first|refine zgc ?_|(refine zge ?_ ?_<;>intro _<;>try exact zo)|(refine zgh ?_;intro _)|fail)
 all_goals(
  apply Yi H
  ·exact zk
  apply Yd;exact rfl;exact rfl
  cases b<;>simp at hb<;>first|exact⟨rfl,rfl⟩|(exfalso;omega))
theorem YjX(x:WayM)(l:Lk)(hfew:x.s.cells.length<=1000)(hr:Rd B w0 H x.s.A (x.s.cells.flatMap celF))(hw:St B w0 H w):
 CX B w0 276 [x.val,lkV l] w λv K=>∃A cap,v=.slice A (Xu x.s.sch x.f.1 l).length cap/\K=cels A cap (Xu x.s.sch x.f.1 l)::H:=by
 refine Yc Tryz.func276 Tryz.ntmps276 rfl rfl hw ?_
 unfold WayM.val lkV
 repeat'(first|refine zgb ?_|(refine zgh ?_;intro _)|fail)
 rename_i gw gl
 apply Yf _ Yia
 exact za
 exact rfl
 exactλ_ hw=>(Vj x.s.cells (by omega) hr.cons.cons (hw))
 rintro _ _ ⟨A',cap',rfl,rfl⟩
 repeat'(first|(apply zg29;(apply Yp;exact za;exact rfl))|fail)
 apply Yf _ YpE
 exact za
 exact rfl
 exactλ_ hw=>(Om (λc=>!(onP x.f.1 l.1 l.2.1 c)) x.s.cells 312 [.pointer (some ⟨gw,0,none⟩),.pointer (some ⟨gl,0,none⟩)] Ywr hfew (λc _ X w hw=>Yh0 x l gw gl c (TS _ (by unfold wayB;exact zm)) (TS _ zm) hw) (hw))
 rintro _ _ ⟨rfl,rfl⟩
 have e:x.s.cells.filter (λc=>!!(onP x.f.1 l.1 l.2.1 c))=Xu x.s.sch x.f.1 l:=SJ λc _=>Bool.not_not _
 rw[e]
 repeat'(first|refine zga ?_|fail)
 apply Yi (cels A' cap' (Xu x.s.sch x.f.1 l)::H)
 ·exact zk
 apply Yd;exact rfl;exact rfl
 exact⟨A',cap',rfl,rfl⟩
variable {x:WayM}{l:Lk}
theorem Yak(hok:WO x)(h:(Yr x.n.net x.r)[i]? =some l):i+1<x.r.length/\0<=l.2.2/\l.2.2<=7:=by
 have hi:=(Tc.1 h).1
 rw[Wz]at hi
 have hi:i+1<x.r.length:=by omega
 rw[QK hi]at h
 have hg:=hok.good i hi
 have h1:=(YN hok.ck).lk _ (ZG (U6 hg))
 have e:=Tv h
 unfold ZO at e
 have h2:=h1.l0;have h3:=h1.l1
 simp_all
theorem Yfw{ls:List Lk}(h:ls[i]? =some l):Xv (ls.take (i+1))=Xv (ls.take i)+Y8 l:=by
 grind [Xv,TM]
theorem Wy{args:List Value}(h:(J8 x)[i]? =some args):∃l,(Yr x.n.net x.r)[i]? =some l/\args=[lkV l]:=by
 unfold J8 at h
 grind
theorem Ycg{x:WayM}(hok:WO x):∀i,Xv ((Yr x.n.net x.r).take i)<=8*i
 |0=>TK _
 |i+1=>by
  have ih:=Ycg hok i
  cases h:(Yr x.n.net x.r)[i]? with
  |none=>
   grind [TL]
  |some l=>
   rw[Yfw h]
   have:=Yak hok h
   grind [Y8]
theorem YiS(x:WayM)(hok:WO x)(hi:x.In B w0 H)(hw:St B w0 H w):
 CX B w0 322 [x.val] w λv K=>v=.int .i64 (Xv (Yr x.n.net x.r))/\K=H:=by
 refine ZU Tryz.func322 Tryz.ntmps322 rfl rfl hw ?_
 unfold WayM.val
 refine zX23 ?_<;>intros
 rename_i g gN
 apply Yf _ YtV
 exact za
 exact rfl
 exactλ_ hw=>(YdD x (hw))
 rintro _ _ ⟨g2,rfl,rfl⟩
 refine zX7 ?_
 have hl9:=hok.len
 have hiK:x.In B w0 (wayB g2 x::wayB g x::H):=hi.cons.cons
 refine ZW (gf:=311) (lb:=[.pointer (some ⟨g2,0,none⟩)]) (xs:=J8 x) (wayB g2 x::wayB g x::H) (λz:Int=>[blk gN (.cells #[.int .i64 z] 3 (0,0))]) (λi z=>z=(Xv ((Yr x.n.net x.r).take i):Int)) (λ_ _=>False) 0 rfl Yt3 (YbH x g2 hok hiK (.head _)) rfl ?_ (by kernel_rfl) (by kernel_rfl) ?_ rfl ?_ ?_ (λ_ _ _ h=>h.elim)
 ·grind [TO,Wy]
 ·unfold wayB
  simp only[TF,TP]
  exact zc0
 ·rintro l k args R z hk hI
  obtain⟨lk,hlk,rfl⟩:=Wy hk
  have hbd:=Yak hok hlk
  have hne:=Ycg hok k
  have hst:=Yfw hlk
  try dsimp only at hI
  dsimp only[WF,List.cons_append,List.nil_append]
  unfold lkV
  repeat'(first|refine zgc ?_|(refine zgh ?_;intro _)|fail)
  apply VW (YJ Yw)
  intro R'
  unfold wayB
  refine zX2 ?_
  apply Wn (z+(lk.2.2+1))
  ·show z+(lk.2.2+1)=_
   rw[hI,hst]
   unfold Y8
   omega
  ·dsimp only[List.cons_append,List.nil_append]
   exact zc0
 ·rintro D z hI
  try dsimp only at hI
  have hle:(J8 x).length=(Yr x.n.net x.r).length:=by unfold J8;rw[TC]
  rw[hle,TQ]at hI
  dsimp only[List.cons_append,List.nil_append]
  unfold wayB
  refine zX9 ?_
  apply Jg Yw
  apply VQ_m
  apply Yi H
  ·exact zc0
  apply Yd;exact rfl;exact rfl
  exact⟨by rw[hI],rfl⟩
open Go.RowKit Go.Eng Go.Nw
def netN(g:Nat)(n:NetM):HP:=blk g (.cells #[.int .i64 n.nodes,.slice n.pA n.rows.length n.pcap,.int .i64 n.noise,.int .i64 n.thr,.slice n.lA n.links.length n.lcap,.slice n.mA n.margin.length n.mcap] 26 (0,0))
theorem Yb1(n:NetM)(l:List Flw)(s:SchM)(hck:Yo n.net=0)(hlen:l.length<=1000)(hl:s.cells.length<=1000000000000){A:Option Addr}{cap B:Nat}{w0:World}{H:List HP}{w:World}(hin:n.In B w0 H)(hrf:Rd B w0 H A (l.flatMap flwF))(hr:Rd B w0 H s.A (s.cells.flatMap celF))(hw:St B w0 H w):
 CX B w0 169 [n.val,.slice A l.length cap,s.val] w λv K=>v=.tuple #[.int .i64 (J2 n.net l s.sch).1,.int .i64 (J2 n.net l s.sch).2]/\K=H:=by
 refine Yc Tryz.func169 Tryz.ntmps169 rfl rfl hw ?_
 have e4:s.sch.cells.length=s.cells.length:=rfl
 have hE:J2 n.net l s.sch=YD (Ua n.net l s.sch) s.cells.length 0:=rfl
 rw[hE]
 refine zX68 ?_<;>intros
 rename_i gn gs
 refine Yj (λ(i:Nat)=>[(13,.int .i64 i),(12,.int .i64 s.cells.length),(11,.slice s.A s.cells.length s.cap),(3,.pointer (some ⟨gn,0,none⟩)),(5,.pointer (some ⟨gs,0,none⟩)),(1,.slice A l.length cap)])
  (λ_=>blk gs (.cells #[.int .i64 s.len,.int .i64 s.off,.slice s.A s.cells.length s.cap] 30 (0,0))::netN gn n::H) (λi=>i<=s.cells.length/\∀k,k<i->Ua n.net l s.sch k=0) (λi=>s.cells.length-i) 0 ⟨Tj _,λk hk=>absurd hk (R9 _)⟩ ?_ (λw hw=>hw) ?_
 ·exact zc1
 rintro i ⟨hi,hall⟩ K hK
 unfold netN
 have hrc:=λ(X:HP)=>((hr.cons (X:=netN gn n)).cons (X:=blk gs (.cells #[.int .i64 s.len,.int .i64 s.off,.slice s.A s.cells.length s.cap] 30 (0,0)))).cons (X:=X)
 by_cases hlt:i<s.cells.length
 ·have hget:s.cells[i]? =some (Yn s.sch i):=Xc (s:=s.sch) hlt
  have hbad:Ua n.net l s.sch i≠0->YD (Ua n.net l s.sch) s.cells.length 0=((i:Int),Ua n.net l s.sch i):=λh=>Zu (λk _ hk=>hall k hk) (Tj _) (by omega) h
  have hstep:Ua n.net l s.sch i=0->∀k,k<i+1->Ua n.net l s.sch k=0:=λh k hk=>by
   exact YuL
  obtain⟨c,hc⟩:∃c,Yn s.sch i=c:=⟨_,rfl⟩
  have hce:Ua n.net l s.sch i=if ZI s.sch c=false then 2 else if YG n.net (YC c) (toC c)=false\/Jd l (Xr c)<0 then 7 else if 0<i/\Xq (Yn s.sch (i-1)) c=false then 5 else 0:=by
   unfold Ua
   rw[hc]
  rw[hc]at hget
  have hplc:=λ{H':List HP}{w:World}(hw:St B w0 H' w)=>YbL s c hw
  cases hp:ZI s.sch c with
  |false=>
   rw[hp]at hplc
   rw[hp,Tm rfl]at hce
   rw[hbad (by rw[hce];decide),hce]
   repeat'(first|((first|apply Ya WU|apply Yb WU);exact za;exact rfl;exactλ_ hw=>(hplc hw))|refine zgd ?_|(refine zge ?_ ?_<;>intro _<;>try exact zo)|(refine zgh ?_;intro _)|fail)
   apply Yi H
   ·exact zc0
   exact zc10
  |true=>
  rw[hp]at hplc
  rw[hp,Td (by decide)]at hce
  have hix:=λ{H':List HP}{w:World}(hin:n.In B w0 H') (hw:St B w0 H' w)=>Zl n c.2.2.1 c.2.2.2.1 hin hw
  have hus:=λ{H':List HP}{w:World}(hin:n.In B w0 H') (hw:St B w0 H' w)=>Uo n (Zd n.net c.2.2.1 c.2.2.2.1) hin hw
  rw[Yjw hck]at hus
  have hfi:=λ{H':List HP}{w:World}(hr:Rd B w0 H' A (l.flatMap flwF)) (hw:St B w0 H' w)=>Ykj l c.2.2.2.2 hlen (cap:=cap) hr hw
  have hgf:YG n.net (YC c) (toC c)=YG n.net c.2.2.1 c.2.2.2.1:=rfl
  have hff:Jd l (Xr c)=Jd l c.2.2.2.2:=rfl
  by_cases hg:YG n.net c.2.2.1 c.2.2.2.1=false\/Jd l c.2.2.2.2<0
  ·rw[hgf,hff,Tm hg]at hce
   rw[hbad (by rw[hce];decide),hce]
   cases hgd:YG n.net c.2.2.1 c.2.2.2.1 with
   |false=>
    rw[hgd]at hus
    repeat'(first|((first|apply Ya WU|apply Yb WU);exact za;exact rfl;exactλ_ hw=>(hplc hw))|((first|apply Ya en45|apply Yb en45);exact za;exact rfl;exactλ_ hw=>(hix hin.cons.cons.cons hw))|((first|apply Ya JU|apply Yb JU);exact za;exact rfl;exactλ_ hw=>(hus hin.cons.cons.cons hw))|(apply zg28;refine zs84 ?_)|refine zgd ?_|(refine zge ?_ ?_<;>intro _<;>try exact zo)|(refine zgh ?_;intro _)|fail)
    apply Yi H
    ·exact zc0
    exact zc10
   |true=>
    have hneg:Jd l c.2.2.2.2<0:=hg.elim (λh=>by rw[hgd]at h;cases h) id
    rw[hgd]at hus
    repeat'(first|((first|apply Ya WU|apply Yb WU);exact za;exact rfl;exactλ_ hw=>(hplc hw))|((first|apply Ya en45|apply Yb en45);exact za;exact rfl;exactλ_ hw=>(hix hin.cons.cons.cons hw))|((first|apply Ya JU|apply Yb JU);exact za;exact rfl;exactλ_ hw=>(hus hin.cons.cons.cons hw))|((first|apply Ya Yfb|apply Yb Yfb);exact za;exact rfl;exactλ_ hw=>(hfi hrf.cons.cons.cons hw))|(apply zg28;refine zs84 ?_)|refine zgd ?_|(refine zge ?_ ?_<;>intro _<;>try exact zo)|(refine zgh ?_;intro _)|fail)
    apply Yi H
    ·exact zc0
    exact zc10
  have hgd:YG n.net c.2.2.1 c.2.2.2.1=true:=by
   cases h:YG n.net c.2.2.1 c.2.2.2.1 with
   |true=>rfl
   |false=>exact absurd (.inl h) hg
  have hpos:¬Jd l c.2.2.2.2<0:=λh=>hg (.inr h)
  rw[hgf,hff,Td hg]at hce
  rw[hgd]at hus
  rcases S5 i with h0|h0
  ·subst h0
   rw[Td (by omega)]at hce
   repeat'(first|((first|apply Ya WU|apply Yb WU);exact za;exact rfl;exactλ_ hw=>(hplc hw))|((first|apply Ya en45|apply Yb en45);exact za;exact rfl;exactλ_ hw=>(hix hin.cons.cons.cons hw))|((first|apply Ya JU|apply Yb JU);exact za;exact rfl;exactλ_ hw=>(hus hin.cons.cons.cons hw))|((first|apply Ya Yfb|apply Yb Yfb);exact za;exact rfl;exactλ_ hw=>(hfi hrf.cons.cons.cons hw))|(apply zg28;refine zs84 ?_)|refine zgd ?_|(refine zgf ?_ ?_<;>intro _<;>try exact zo)|(refine zgh ?_;intro _)|fail)
   apply hK (0+1)
   ·exact⟨by omega,hstep hce⟩
   ·omega
   ·exact zc1
   ·unfold netN
    exact zc0
  have hget2:s.cells[((i:Int)-1).toNat]? =some (Yn s.sch (i-1)):=zc94
  obtain⟨p,hpv⟩:∃p,Yn s.sch (i-1)=p:=⟨_,rfl⟩
  rw[hpv]at hce hget2
  have hcl:=YcT p c
  have hcm:=λ{H':List HP}{w:World}(hw:St B w0 H' w)=>Qh p c hw
  obtain⟨q,hq⟩:∃q,cmpV (nums p) (nums c)=q:=⟨_,rfl⟩
  rw[hq]at hcl hcm
  by_cases hlt2:q<0
  ·rw[hcl.1 hlt2,Td (by simp)]at hce
   refine zX73 ?_<;>intros
   apply hK (i+1)
   ·exact⟨by omega,hstep hce⟩
   ·omega
   ·exact zc1
   ·unfold netN
    exact zc0
  ·have hnl:Xq p c=false:=by
    cases h:Xq p c with
    |false=>rfl
    |true=>exact absurd (hcl.2 h) hlt2
   rw[hnl,Tm ⟨h0,rfl⟩]at hce
   rw[hbad (by rw[hce];decide),hce]
   refine zX73 ?_<;>intros
   apply Yi H
   ·exact zc0
   exact zc10
 ·refine zX1 ?_<;>intros
  rw[show i=s.cells.length by omega]at hall
  rw[Zv λk _ hk=>hall k (by omega)]
  apply Yi H
  ·exact zc0
  exact zc10
def runW(x:WayM)(a:Int):List (Cel×Int):=runP x.s.len (Xu x.s.sch x.f.1) (a+x.f.2.2.2.1) (Yr x.n.net x.r) a
def cntV(z:Cel×Int):List Value:=[celV z.1,.int .i64 z.2]
def YlF(x:WayM)(a:Int):List (List Value):=(runW x a).map cntV
structure CtM where
 c:Nat
 a:Int
 L:List HP
structure CuM where
 k:Nat
 slot:Int
 a:Int
 c:Nat
 L:List HP
structure CvM where
 j:Nat
 k:Nat
 a:Int
 c:Nat
 L:List HP
variable {α:Type}{c:Nat}
theorem Yq2{W r:List α}{z:α}(hc:c<=W.length)(h:W=W.take c++z::r):W[c]? =some z/\c+1<=W.length/\W=W.take (c+1)++r:=by
 grind
theorem Yjs{W:List α}(hc:c<=W.length)(h:W=W.take c++[]):c=W.length:=by
 grind
theorem Ygo(x:WayM)(at0:Int)(hok:WO x)(hat:0<=at0/\at0<=1000000)(ga gw:Nat){B:Nat}{w0:World}{H:List HP}(hi:x.In B w0 H):
 Yco Tryz.prog 274 [.pointer (some ⟨ga,0,none⟩),.pointer (some ⟨gw,0,none⟩)] (YlF x at0) B w0 (intB ga at0::wayB gw x::H):=by
 refine YmF Tryz.func274 Tryz.ntmps274 rfl rfl ?_
 intro l SS XX hy L0 h0
 have hper:=hok.per
 have hslen:=hok.slen
 obtain⟨W,hW⟩:∃W,runW x at0=W:=⟨_,rfl⟩
 have hxs:YlF x at0=W.map cntV:=by unfold YlF;rw[hW]
 rw[hxs]at hy⊢
 rw[TC]
 obtain⟨endd,hend⟩:∃e,at0+x.f.2.2.2.1=e:=⟨_,rfl⟩
 unfold runW at hW
 rw[hend]at hW
 unfold intB at hy⊢
 iterate 3 (first|refine zga ?_|(refine zgh ?_;intro _)|fail)
 rename_i gy
 apply YoX
 apply Ygd
 apply Xi
 refine ZV (λz:Nat×Nat=>[(5,.pointer (some ⟨z.2,0,none⟩)),(4,.pointer (some ⟨z.1,0,none⟩)),(3,.pointer (some ⟨gy,0,none⟩)),(1,.pointer (some ⟨ga,0,none⟩)),(2,.pointer (some ⟨gw,0,none⟩))])
  (λz=>intB z.1 at0::many L0::intB z.2 endd::blk gy (.cells #[.func (.yield l) #[] #[]] 360 (0,0))::intB ga at0::wayB gw x::H) ?_ ?_
 ·intro K hK
  repeat'(first|fail)
  apply Up (.n1 0 (.n1 1 (.n1 2 (.n1 3 (.n1 4 (.n1 5 (.n2 6 (.n1 7 (.n1 8 .done)) 7 (.n1 6 (.n1 8 .done))))))))) [9] [false,false,true,true]
  kernel_rfl
  kernel_rfl
  exact zy
  (simp only[Yg,nthO];rfl)
  repeat'(first|(apply Yk;try exact zl)|apply(zs91 ?_ ?_)|(apply Xa;try exact zl)|refine zgd ?_|(refine zgh ?_;intro _)|fail)
  ·rename_i a b
   rw[hend]
   apply hK (a,b)
   ·exact zc1
   ·unfold intB
    dsimp only
    exact zc0
  ·rename_i a b
   rw[hend]
   apply hK (b,a)
   ·exact zc1
   ·unfold intB
    dsimp only
    exact zc0
 rintro⟨g4,g5⟩
 unfold intB
 dsimp only
 refine zX7 ?_
 apply Yf _ YtV
 exact za
 exact rfl
 exactλ_ hw=>(YdD x (hw))
 rintro _ _ ⟨g2,rfl,rfl⟩
 refine zX7 ?_
 have hiK:x.In B w0 (wayB g2 x::blk g5 (.cells #[.int .i64 endd] 3 (0,0))::blk gy (.cells #[.func (.yield l) #[] #[]] 360 (0,0))::blk ga (.cells #[.int .i64 at0] 3 (0,0))::wayB gw x::H):=hi.cons.cons.cons.cons.cons
 refine ZW (gf:=311) (lb:=[.pointer (some ⟨g2,0,none⟩)]) (xs:=J8 x) (wayB g2 x::blk g5 (.cells #[.int .i64 endd] 3 (0,0))::blk gy (.cells #[.func (.yield l) #[] #[]] 360 (0,0))::blk ga (.cells #[.int .i64 at0] 3 (0,0))::wayB gw x::H) (λy:CtM=>[blk g4 (.cells #[.int .i64 y.a] 3 (0,0)),many y.L])
  (λk y=>y.c<=W.length/\W=W.take y.c++runP x.s.len (Xu x.s.sch x.f.1) endd ((Yr x.n.net x.r).drop k) y.a/\SS y.c y.L/\at0<=y.a/\y.a<=endd)
  (λe K=>e=.ret/\∃a L,(SS W.length L\/XX L)/\K=[blk g4 (.cells #[.int .i64 a] 3 (0,0)),many L]) ⟨0,at0,L0⟩ rfl Yt3 (YbH x g2 hok hiK (.head _)) rfl ?_ (by kernel_rfl) (by kernel_rfl) ?_ ⟨Tj _,by simpa using hW.symm,h0,Ry _,by show at0<=endd;omega⟩ ?_ ?_ ?_
 ·intro args h
  obtain⟨k,hk⟩:=TO.1 h
  obtain⟨l,_,rfl⟩:=Wy hk
  rfl
 ·simp only[TF,TP]
  exact zc0
 ·rintro l2 k args R ⟨c,a,L⟩ hk ⟨hc,hWk,hS,ha0,ha1⟩
  obtain⟨lk,hlk,rfl⟩:=Wy hk
  have hbd:=Yak hok hlk
  dsimp only at hc hWk hS ha0 ha1
  dsimp only[WF,List.cons_append,List.nil_append]
  unfold lkV
  repeat'(first|refine zgc ?_|(refine zgh ?_;intro _)|fail)
  rename_i gl
  apply VW (YJ Yw)
  intro R'
  refine zX9 ?_
  have hfew:=hok.few
  apply Yf _ Ywn
  exact za
  exact rfl
  exactλ_ hw=>(YjX x lk (by omega) (hi.mono zc0).s (hw))
  rintro _ _ ⟨A,cap,rfl,rfl⟩
  have hcsl:(Xu x.s.sch x.f.1 lk).length<=512:=Rh (RZ _ _) hfew
  have hdk:(Yr x.n.net x.r).drop k=lk::(Yr x.n.net x.r).drop (k+1):=by
   obtain⟨h1,h2⟩:=Tc.1 hlk
   rw[<-h2];exact Rm h1
  rw[hdk,YqR]at hWk
  obtain⟨cs,hcs⟩:∃cs,Xu x.s.sch x.f.1 lk=cs:=⟨_,rfl⟩
  obtain⟨ls,hls⟩:∃ls,(Yr x.n.net x.r).drop (k+1)=ls:=⟨_,rfl⟩
  obtain⟨C,hC⟩:∃C,Xu x.s.sch x.f.1=C:=⟨_,rfl⟩
  rw[hcs,hls,hC]at hWk
  rw[hcs]at hcsl⊢
  rw[hC,hls]
  unfold cels
  refine zX7 ?_
  rw[show lk.2.2+1=((Y8 lk:Nat):Int) from by unfold Y8;omega]
  have hnl8:Y8 lk<=8:=by unfold Y8;omega
  refine Yj (λz:CuM=>[(9,.int .i64 z.slot),(7,.int .i64 (z.k:Nat)),(8,.slice A cs.length cap),(6,.pointer (some ⟨gl,0,none⟩)),(5,.pointer (some ⟨g5,0,none⟩)),(4,.pointer (some ⟨g4,0,none⟩)),(3,.pointer (some ⟨gy,0,none⟩)),(1,.pointer (some ⟨ga,0,none⟩)),(2,.pointer (some ⟨gw,0,none⟩))])
   (λz=>R'::blk g4 (.cells #[.int .i64 z.a] 3 (0,0))::many z.L::sl 117 5 A cs.length cap (cs.flatMap celF)::blk gl (.cells #[.int .i64 lk.1,.int .i64 lk.2.1,.int .i64 lk.2.2] 124 (0,0))::wayB g2 x::blk g5 (.cells #[.int .i64 endd] 3 (0,0))::blk gy (.cells #[.func (.yield l) #[] #[]] 360 (0,0))::blk ga (.cells #[.int .i64 at0] 3 (0,0))::wayB gw x::H)
   (λz=>z.c<=W.length/\W=W.take z.c++W4 x.s.len C endd cs ls (endd-z.slot).toNat z.k z.slot z.a/\SS z.c z.L/\(at0<=z.a/\z.a<=endd)/\(at0<=z.slot/\z.slot<=endd)/\z.k<=8) (λz=>(endd-z.slot).toNat) ⟨Y8 lk,a,a,c,L⟩ ⟨hc,hWk,hS,⟨ha0,ha1⟩,⟨ha0,ha1⟩,hnl8⟩ ?_ ?_ ?_
  ·exact zc1
  ·exact zc0
  rintro⟨kk,slot,a,c,L⟩ ⟨hc,hWk,hS,⟨ha0,ha1⟩,⟨hs0,hs1⟩,hk8⟩ K hK
  dsimp only at hc hWk hS ha0 ha1 hs0 hs1 hk8⊢
  by_cases hk0:kk=0
  ·subst hk0
   rw[Yot]at hWk
   clear hK
   refine zX39 ?_<;>intros
   apply Wn (CtM.mk c a L)
   ·exact⟨hc,hWk,hS,ha0,ha1⟩
   ·dsimp only[List.cons_append,List.nil_append]
    exact zc0
  by_cases hse:endd<=slot
  ·rw[show(endd-slot).toNat=0 by omega,Yq1 hk0]at hWk
   have hce:=Yjs hc hWk
   rw[hce]at hS
   clear hK
   refine zX22 ?_<;>intros
   apply QX [blk g4 (.cells #[.int .i64 a] 3 (0,0)),many L]
   ·exact⟨rfl,a,L,.inl hS,rfl⟩
   ·dsimp only[List.cons_append,List.nil_append]
    exact zc0
  obtain⟨f,hf⟩:∃f,(endd-(slot+1)).toNat=f:=⟨_,rfl⟩
  have hf1:(endd-slot).toNat=f+1:=by omega
  have hmt:slot.tmod x.s.len=slot%x.s.len:=RJ (by omega)
  rw[hf1,<-YqJ]at hWk
  refine zX47 ?_<;>intros
  refine Yj (λy:CvM=>[(37,.int .i64 (y.j:Nat)),(36,.int .i64 cs.length),(35,.slice A cs.length cap),(9,.int .i64 slot),(7,.int .i64 (y.k:Nat)),(8,.slice A cs.length cap),(6,.pointer (some ⟨gl,0,none⟩)),(5,.pointer (some ⟨g5,0,none⟩)),(4,.pointer (some ⟨g4,0,none⟩)),(3,.pointer (some ⟨gy,0,none⟩)),(1,.pointer (some ⟨ga,0,none⟩)),(2,.pointer (some ⟨gw,0,none⟩))])
   (λy=>R'::blk g4 (.cells #[.int .i64 y.a] 3 (0,0))::many y.L::sl 117 5 A cs.length cap (cs.flatMap celF)::blk gl (.cells #[.int .i64 lk.1,.int .i64 lk.2.1,.int .i64 lk.2.2] 124 (0,0))::wayB g2 x::blk g5 (.cells #[.int .i64 endd] 3 (0,0))::blk gy (.cells #[.func (.yield l) #[] #[]] 360 (0,0))::blk ga (.cells #[.int .i64 at0] 3 (0,0))::wayB gw x::H)
   (λy=>y.j<=cs.length/\y.c<=W.length/\W=W.take y.c++Qt x.s.len C endd cs (cs.drop y.j) ls f y.k slot y.a/\SS y.c y.L/\(at0<=y.a/\y.a<=endd)/\y.k<=8) (λy=>cs.length-y.j) ⟨0,kk,a,c,L⟩ ⟨Tj _,hc,hWk,hS,⟨ha0,ha1⟩,hk8⟩ ?_ ?_ ?_
  ·exact zc1
  ·exact zc0
  clear hWk hS hc hk0 hk8 ha0 ha1
  rintro⟨j,kk,a,c,L⟩ ⟨hj,hc,hWk,hS,⟨ha0,ha1⟩,hk8⟩ K2 hK2
  dsimp only at hj hc hWk hS ha0 ha1 hk8⊢
  by_cases hjl:j<cs.length
  rotate_left
  ·obtain rfl:j=cs.length:=by omega
   rw[SR,YqM]at hWk
   clear hK2
   refine zX1 ?_<;>intros
   apply hK ⟨kk,slot+1,a,c,L⟩
   ·exact⟨hc,by rw[hf];exact hWk,hS,⟨ha0,ha1⟩,⟨by show at0<=slot+1;omega,by show slot+1<=endd;omega⟩,hk8⟩
   ·exact zc64
   ·exact zc1
   exact zc19
  obtain⟨d,hd⟩:∃d,cs[j]? =some d:=⟨_,Ta hjl⟩
  have hdj:cs.drop j=d::cs.drop (j+1):=by
   obtain⟨h1,h2⟩:=Tc.1 hd
   rw[<-h2];exact Rm h1
  rw[hdj]at hWk
  by_cases hcd:d.1=slot%x.s.len/\kk≠0
  ·obtain⟨hcd1,hcd2⟩:=hcd
   obtain⟨k3,rfl⟩:∃k3,kk=k3+1:=⟨kk-1,by omega⟩
   rw[YqN (by rw[hmt];exact hcd1) hcd2,Nl]at hWk
   obtain⟨hx,hc1,hW1⟩:=Yq2 hc hWk
   have hx:(W.map cntV)[c]? =some [celV d,.int .i64 slot]:=by rw[TX,hx];rfl
   repeat'(first|(refine YfZ 3 57 rfl rfl rfl ?_)|refine zgd ?_|(refine zge ?_ ?_<;>intro _<;>try exact zo)|(refine zgh ?_;intro _)|fail)
   first|(rename_i gc _ _;guard_hyp gc:Nat)|(rename_i gc _;guard_hyp gc:Nat)|(rename_i gc _ _ _;guard_hyp gc:Nat)
   rw[show((k3+1:Nat):Int)-1=(k3:Int) by omega]
   apply Yi (R'::blk gc (.cells #[.int .i64 d.1,.int .i64 d.2.1,.int .i64 d.2.2.1,.int .i64 d.2.2.2.1,.int .i64 d.2.2.2.2] 117 (0,0))::sl 117 5 A cs.length cap (cs.flatMap celF)::blk gl (.cells #[.int .i64 lk.1,.int .i64 lk.2.1,.int .i64 lk.2.2] 124 (0,0))::blk g4 (.cells #[.int .i64 (slot+1)] 3 (0,0))::wayB g2 x::blk g5 (.cells #[.int .i64 endd] 3 (0,0))::blk gy (.cells #[.func (.yield l) #[] #[]] 360 (0,0))::many L::blk ga (.cells #[.int .i64 at0] 3 (0,0))::wayB gw x::H)
   ·exact zc0
   have hY:=hy c _ hx [R',blk gc (.cells #[.int .i64 d.1,.int .i64 d.2.1,.int .i64 d.2.2.1,.int .i64 d.2.2.2.1,.int .i64 d.2.2.2.2] 117 (0,0)),sl 117 5 A cs.length cap (cs.flatMap celF),blk gl (.cells #[.int .i64 lk.1,.int .i64 lk.2.1,.int .i64 lk.2.2] 124 (0,0)),blk g4 (.cells #[.int .i64 (slot+1)] 3 (0,0)),wayB g2 x,blk g5 (.cells #[.int .i64 endd] 3 (0,0)),blk gy (.cells #[.func (.yield l) #[] #[]] 360 (0,0))] L hS
   apply YmU _ _ (hy:=hY)
   ·exact YbX
   ·exact rfl
   ·exact zc93
   ·exact rfl
   ·exact zc73
   ·exact rfl
   ·rintro _ ⟨L',hS',rfl⟩
    dsimp only[List.cons_append,List.nil_append]
    refine zX2 ?_
    apply hK2 ⟨j+1,k3,slot+1,c+1,L'⟩
    ·exact⟨by show j+1<=_;omega,hc1,hW1,hS',⟨by show at0<=slot+1;omega,by show slot+1<=endd;omega⟩,by show k3<=8;omega⟩
    ·exact zc64
    ·exact zc1
    ·exact zc0
   ·rintro _ ⟨L',hX',rfl⟩
    dsimp only[List.cons_append,List.nil_append]
    refine zX2 ?_
    apply QX [blk g4 (.cells #[.int .i64 (slot+1)] 3 (0,0)),many L']
    ·exact⟨rfl,slot+1,L',.inr hX',rfl⟩
    ·dsimp only[List.cons_append,List.nil_append]
     exact zc0
  ·rw[YsT (by rw[hmt];exact hcd)]at hWk
   repeat'(first|refine zgd ?_|(refine zge ?_ ?_<;>intro _<;>try exact zo)|(refine zgh ?_;intro _)|fail)
   all_goals(
    apply hK2 ⟨j+1,kk,a,c,L⟩
    ·exact⟨by show j+1<=_;omega,hc,hWk,hS,⟨ha0,ha1⟩,hk8⟩
    ·dsimp only;omega
    ·exact zu
    ·exact zk)
 ·rintro D ⟨c,a,L⟩ ⟨hc,hWk,hS,ha0,ha1⟩
  dsimp only at hc hWk hS ha0 ha1
  have hle:(J8 x).length=(Yr x.n.net x.r).length:=by unfold J8;rw[TC]
  rw[hle,SR]at hWk
  have hce:=Yjs hc hWk
  rw[hce]at hS
  dsimp only[List.cons_append,List.nil_append]
  refine zX9 ?_
  apply YrQ
  apply Jg Yw
  apply VQ_m
  apply Yi (many L::blk ga (.cells #[.int .i64 at0] 3 (0,0))::wayB gw x::H)
  ·exact zc0
  apply OW;exact rfl
  exact .inl ⟨L,hS,rfl⟩
 ·rintro D _ _ ⟨rfl,a,L,hSL,rfl⟩ _
  dsimp only[List.cons_append,List.nil_append]
  refine zX2 ?_
  apply Jg Yw
  apply VQ_m
  apply Yi (many L::blk ga (.cells #[.int .i64 at0] 3 (0,0))::wayB gw x::H)
  ·exact zc0
  apply OW;exact rfl
  rcases hSL with h|h
  ·exact .inl ⟨L,h,rfl⟩
  ·exact .inr ⟨L,h,rfl⟩
end Go.Proofs.YtambgjgljcadlaaGreatDoor
