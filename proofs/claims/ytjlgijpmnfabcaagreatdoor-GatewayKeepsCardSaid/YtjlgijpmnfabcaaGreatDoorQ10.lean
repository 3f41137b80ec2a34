/- Lemmas. -/
import Derived.Lib.AtoiAllCases
import Derived.Test.YtjlgijpmnfabcaaGreatDoorQ8
import Derived.Test.YtjlgijpmnfabcaaGreatDoorQ9
set_option maxRecDepth 100000
set_option maxHeartbeats 8000000
set_option linter.all false
namespace Go.Proofs.YtjlgijpmnfabcaaGreatDoor
open Go.RowKit Go.Eng Go.Nw
def Zm(n:Net)(l:List Cel)(i:Nat):Bool:=
 !(JJ n (XG n (Yr (celL l i)) (toC (celL l i))))||((List.range l.length).any λk=>decide (k≠i)&&YI (celL l i) (celL l k))
   ||(!(X8 n (mar n (YA n (Yr (celL l i)) (toC (celL l i))).toNat) (YD n l i (toC (celL l i)) l.length))||!(X8 n (mar n (YA n (toC (celL l i)) (Yr (celL l i))).toNat) (YD n l i (Yr (celL l i)) l.length)))
def Jm(n:Net)(l:List Cel):Bool:=decide (Yq n=0)&&(List.range l.length).all λi=>!(Zm n l i)
def atP(slot off:Int)(c:Cel):Bool:=decide (c.1=slot/\c.2.1=off)
abbrev nrs(A:Option Addr)(cap:Nat)(l:List Int):HP:=sl 3 1 A l.length cap (l.flatMap numF)
theorem WX(A:Option Addr)(cap:Nat)(l:List Int)(z:Int):sl 3 1 A (l.length+1) cap (l.flatMap numF++#[Value.int .i64 z].toList)=nrs A cap (l++[z]):=by simp_all [nrs,numF]
open Go.RowKit Go.Eng Go.Nw Go.Rt
def onP(id a b:Int)(c:Cel):Bool:=decide (Xr c=id/\Yr c=a/\toC c=b)
def Xx(s:Sch)(id:Int)(l:Lk):List Cel:=s.cells.filter (onP id l.1 l.2.1)
def Xy(len a:Int):List Cel->Nat->List (Cel×Int)
 |[],_=>[]
 |c::cs,k=>if c.1=a.tmod len/\k≠0 then(c,a)::Xy len a cs (k-1)else Xy len a cs k
def hopP(len:Int)(cs:List Cel):Nat->Nat->Int->List (Cel×Int)
 |0,_,_=>[]
 |f+1,k,a=>Xy len a cs k++hopP len cs f (k-(Xy len a cs k).length) (a+1)
def YC(x:List (Cel×Int))(a:Int):Int:=match x.getLast? with|some z=>z.2+1|none=>a
def YV(l:Lk):Nat:=(l.2.2+1).toNat
def runP(len:Int)(C:Lk->List Cel)(endd:Int):List Lk->Int->List (Cel×Int)
 |[],_=>[]
 |l::ls,a=>if(hopP len (C l) (endd-a).toNat (YV l) a).length<YV l then hopP len (C l) (endd-a).toNat (YV l) a
  else hopP len (C l) (endd-a).toNat (YV l) a++runP len C endd ls (YC (hopP len (C l) (endd-a).toNat (YV l) a) a)
def XF(ls:List Lk):Nat:=(ls.map YV).sum
theorem YdF(len a:Int):∀(cs:List Cel) (k:Nat),(Xy len a cs k).length<=k
 |[],k=>Ti _
 |c::cs,k=>by
  unfold Xy
  split
  ·have:=YdF len a cs (k-1)
   grind
  ·exact YdF len a cs k
theorem W8{len a:Int}:∀{cs:List Cel}{k:Nat}{z:Cel×Int},z∈Xy len a cs k->z.2=a
 |[],k,z,h=>by cases h
 |c::cs,k,z,h=>by
  unfold Xy at h
  split at h
  ·rcases Rr.1 h with rfl|h
   ·rfl
   ·exact W8 h
  ·exact W8 h
theorem Qw(len:Int)(cs:List Cel):∀(f k:Nat) (a:Int),(hopP len cs f k a).length<=k
 |0,k,a=>Ti _
 |f+1,k,a=>by
  unfold hopP
  have h1:=YdF len a cs k
  have h2:=Qw len cs f (k-(Xy len a cs k).length) (a+1)
  grind
theorem Ypq(len:Int)(cs:List Cel)(f:Nat)(a:Int):hopP len cs f 0 a=[]:=List.eq_nil_of_length_eq_zero (Nat.le_zero.1 (Qw len cs f 0 a))
theorem Of{len:Int}{cs:List Cel}:∀{f k:Nat}{a:Int}{z:Cel×Int},z∈hopP len cs f k a->a<=z.2/\z.2<a+f
 |0,k,a,z,h=>by cases h
 |f+1,k,a,z,h=>by
  rcases TJ.1 h with h|h
  ·grind [W8]
  ·have:=Of h;omega
theorem YbI(len:Int)(C:Lk->List Cel)(endd:Int):∀(ls:List Lk) (a:Int),(runP len C endd ls a).length<=XF ls
 |[],a=>Ti _
 |l::ls,a=>by
  have h1:=Qw len (C l) (endd-a).toNat (YV l) a
  have h2:=YbI len C endd ls (YC (hopP len (C l) (endd-a).toNat (YV l) a) a)
  grind [XF,runP]
variable {x:List (Cel×Int)}{a b endd:Int}
theorem Yoz(h:∀z∈x,a<=z.2/\z.2<b)(hab:a<=b):a<=YC x a/\YC x a<=b:=by
 unfold YC
 grind
theorem YbJ{len:Int}{C:Lk->List Cel}{endd:Int}:∀{ls:List Lk}{a:Int}{z:Cel×Int},a<=endd->z∈runP len C endd ls a->a<=z.2/\z.2<endd
 |[],a,z,_,h=>by cases h
 |l::ls,a,z,hae,h=>by
  have hb:∀z∈hopP len (C l) (endd-a).toNat (YV l) a,a<=z.2/\z.2<endd:=λz hz=>by
   have:=Of hz;omega
  unfold runP at h
  split at h
  ·grind
  ·rcases TJ.1 h with h|h
   ·grind
   ·have h1:=Yoz hb hae
    have:=YbJ h1.2 h
    omega
def Wp(len:Int)(C:Lk->List Cel)(endd:Int)(cs:List Cel)(ls:List Lk)(f k:Nat)(a at_:Int):List (Cel×Int):=
 if(hopP len cs f k a).length<k then hopP len cs f k a else hopP len cs f k a++runP len C endd ls (YC (hopP len cs f k a) at_)
theorem Yql(len:Int)(C:Lk->List Cel)(endd:Int)(l:Lk)(ls:List Lk)(a:Int):runP len C endd (l::ls) a=Wp len C endd (C l) ls (endd-a).toNat (YV l) a a:=rfl
theorem YnW(len:Int)(C:Lk->List Cel)(endd:Int)(cs:List Cel)(ls:List Lk)(f:Nat)(a at_:Int):Wp len C endd cs ls f 0 a at_=runP len C endd ls at_:=by
 unfold Wp
 rw[Ypq,Tf (RD _)]
 rfl
variable {C:Lk->List Cel}{cs cs':List Cel}{ls:List Lk}{k f:Nat}
theorem Yqt{len:Int}{at_:Int}(hk:k≠0):Wp len C endd cs ls 0 k a at_=[]:=by
 unfold Wp
 rw[Tm (by grind [hopP])]
 rfl
theorem Ymw{y:List (Cel×Int)}(hy:∀z∈y,z.2+1=b):YC (y++x) a=YC x (if y=[]then a else b):=by
 unfold YC
 cases hx:x.getLast? with
 |some z=>simp_all
 |none=>
  cases hy2:y.getLast? with
  |none=>
   simp_all
  |some z=>
   grind
theorem YnX(len:Int)(C:Lk->List Cel)(endd:Int)(cs:List Cel)(ls:List Lk)(f k:Nat)(a at_:Int):
 Wp len C endd cs ls (f+1) k a at_=Xy len a cs k++Wp len C endd cs ls f (k-(Xy len a cs k).length) (a+1) (if Xy len a cs k=[]then at_ else a+1):=by
 have h1:hopP len cs (f+1) k a=Xy len a cs k++hopP len cs f (k-(Xy len a cs k).length) (a+1):=rfl
 unfold Wp
 rw[h1,Tt]
 by_cases h2:(hopP len cs f (k-(Xy len a cs k).length) (a+1)).length<k-(Xy len a cs k).length
 ·grind
 ·rw[Tf h2,Tf (by omega),Ymw (b:=a+1) (λz hz=>by rw[W8 hz]),Ry]
def OG(len:Int)(C:Lk->List Cel)(endd:Int)(cs cs':List Cel)(ls:List Lk)(f k:Nat)(a at_:Int):List (Cel×Int):=
 Xy len a cs' k++Wp len C endd cs ls f (k-(Xy len a cs' k).length) (a+1) (if Xy len a cs' k=[]then at_ else a+1)
theorem Yqg(len:Int)(C:Lk->List Cel)(endd:Int)(cs:List Cel)(ls:List Lk)(f k:Nat)(a at_:Int):OG len C endd cs cs ls f k a at_=Wp len C endd cs ls (f+1) k a at_:=(YnX ..).symm
theorem Yqh(len:Int)(C:Lk->List Cel)(endd:Int)(cs:List Cel)(ls:List Lk)(f k:Nat)(a at_:Int):OG len C endd cs [] ls f k a at_=Wp len C endd cs ls f k (a+1) at_:=by
 simp[OG,Xy]
variable {c:Cel}
theorem Yqi{len:Int}{at_:Int}(h:c.1=a.tmod len)(hk:k≠0):
 OG len C endd cs (c::cs') ls f k a at_=(c,a)::OG len C endd cs cs' ls f (k-1) a (a+1):=by
 have h1:Xy len a (c::cs') k=(c,a)::Xy len a cs' (k-1):=by rw[Xy,Tm ⟨h,hk⟩]
 unfold OG
 grind
theorem Ysg{len:Int}{at_:Int}(h:¬(c.1=a.tmod len/\k≠0)):
 OG len C endd cs (c::cs') ls f k a at_=OG len C endd cs cs' ls f k a at_:=by
 unfold OG
 rw[Xy,Tf h]
def runR(len:Int)(C:Lk->List Cel)(endd:Int):List Lk->Int->Option (List Int)
 |[],_=>some []
 |l::ls,a=>if(hopP len (C l) (endd-a).toNat (YV l) a).length<YV l then none
  else(runR len C endd ls (YC (hopP len (C l) (endd-a).toNat (YV l) a) a)).map λy=>(hopP len (C l) (endd-a).toNat (YV l) a).map Prod.snd++y
theorem YgF(len:Int)(C:Lk->List Cel)(endd:Int):∀(ls:List Lk) (a:Int),runR len C endd ls a=if(runP len C endd ls a).length<XF ls then none else some ((runP len C endd ls a).map Prod.snd)
 |[],a=>rfl
 |l::ls,a=>by
  have h3:XF (l::ls)=YV l+XF ls:=by grind [XF]
  have hl:=Qw len (C l) (endd-a).toNat (YV l) a
  unfold runR runP
  by_cases h:(hopP len (C l) (endd-a).toNat (YV l) a).length<YV l
  ·grind
  ·rw[Tf h,Tf h,YgF len C endd ls]
   grind
def X9(n:Net)(r:List Int)(i:Nat):Lk:=lnk n (YA n (r.getD i 0) (r.getD (i+1) 0)).toNat
def YB(n:Net)(r:List Int):List Lk:=(List.range (r.length-1)).map (X9 n r)
def YdG(n:Net)(s:Sch)(f:Flw)(r:List Int)(release:Int):Option (List Int):=runR s.len (Xx s f.1) (release+f.2.2.2.1) (YB n r) release
def JA(l:List Int):Int:=l.getD (l.length-1) 0
def Vr(S:Int->Option (List Int))(len period:Int):Nat->Int->Int×Int×List Int->Option (Int×Int×List Int)
 |0,_,b=>some b
 |k+1,rel,b=>if len<=rel then some b else match S rel with
  |none=>none
  |some l=>Vr S len period k (rel+period) (if b.1<JA l-rel+1 then(JA l-rel+1,rel,l.map λz=>z-rel)else b)
def JY(n:Net)(s:Sch)(f:Flw)(r:List Int):Option (Int×Int×List Int):=Vr (YdG n s f r) s.len f.2.2.2.1 s.len.toNat f.2.2.2.2.1 (0,0,[])
def wayE(n:Net)(s:Sch)(f:Flw)(r:List Int):Int:=
 if Yq n≠0\/Xh s=false\/YX n.nodes f≠0 then 1 else if s.len.tmod f.2.2.2.1≠0 then 11 else X6 n f.2.1 f.2.2.1 r
def YN(n:Net)(s:Sch)(f:Flw)(r:List Int):(Int×Int×List Int)×Int:=
 if wayE n s f r≠0 then((0,0,[]),wayE n s f r)else match JY n s f r with
  |none=>((0,0,[]),15)
  |some b=>(b,0)
end Go.Proofs.YtjlgijpmnfabcaaGreatDoor
namespace Go.Eng
open Go.RowKit
end Go.Eng
namespace Go.Proofs.YtjlgijpmnfabcaaGreatDoor
open Go.RowKit Go.Eng Go.Nw
theorem Ze{f:Nat->Int}:∀{r i0 i:Nat},(∀k,i0<=k->k<i->f k=0)->i0<=i->i<i0+r->f i≠0->YG f r i0=((i:Int),f i)
 |0,i0,i,_,h1,h2,_=>by omega
 |r+1,i0,i,h0,h1,h2,h3=>by
  unfold YG
  by_cases e:i0=i
  ·simp_all
  ·rw[Tm (h0 i0 (TM _) (by omega))]
   exact Ze (λk hk1 hk2=>h0 k (by omega) hk2) (by omega) (by omega) h3
theorem Zy{f:Nat->Int}{r i0:Nat}(h:∀k,i0<=k->k<i0+r->f k=0):YG f r i0=(-1,0):=by
 grind [YF,YcG]
def flwV(f:Flw):Value:=.agg #[.int .i64 f.1,.int .i64 f.2.1,.int .i64 f.2.2.1,.int .i64 f.2.2.2.1,.int .i64 f.2.2.2.2.1,.int .i64 f.2.2.2.2.2]
theorem YcM{l:List Flw}{i:Nat}(h:i<l.length):l[i]? =some (Y1 l i):=by
 grind [Y1]
variable {B cap:Nat}{w0 w:World}{H:List HP}
theorem YjY(v nodes:Int)(gn:Nat)(hm:blk gn (.cells #[.int .i64 nodes] 3 (0,0))∈H)(hw:St B w0 H w):
 CX B w0 261 [.int .i64 v,.pointer (some ⟨gn,0,none⟩)] w λu K=>u=.bool (insE v nodes)/\K=H:=by
 refine Ya Tryz.func261 Tryz.ntmps261 rfl rfl hw ?_
 repeat'(first|refine zgc ?_|(refine zgf ?_ ?_<;>intro _<;>try exact zo)|fail)
 all_goals(
  apply Yd;exact rfl;exact rfl
  first
   |exact⟨by rw[show insE v nodes=true from Tj (by omega)],rfl⟩
   |exact⟨by rw[show insE v nodes=false from Tu (by omega)],rfl⟩)
theorem WJ(nodes:Int)(f:Flw)(hw:St B w0 H w):
 CX B w0 160 [.int .i64 nodes,flwV f] w λv K=>v=.int .i64 (YX nodes f)/\K=H:=by
 refine Ya Tryz.func160 Tryz.ntmps160 rfl rfl hw ?_
 obtain⟨e,he⟩:∃e,YX nodes f=e:=⟨_,rfl⟩
 rw[he]
 by_cases hA:f.1<0\/255<f.1
 ·repeat'(first|(apply zg23;first|(refine zs52 ?_;intro _)|(refine zs53 ?_;intro _))|(apply zg29;(apply Ys;exact za;exact rfl))|refine zgd ?_|(refine zge ?_ ?_<;>intro _<;>try exact zo)|fail)
  all_goals(
   apply Yh H
   ·exact zk
   apply Yd;exact rfl;exact rfl
   refine⟨?_,rfl⟩
   rw[<-he]
   unfold YX
   first
    |(rw[Tm (by first|exact .inl (by omega)|exact .inr (.inl (by omega))|exact .inr (.inr (.inl (by assumption)))|exact .inr (.inr (.inr (by assumption))))];done)
    |(rw[Tf (by rintro(h|h|h|h)<;>first|omega|simp_all)]
      first
       |(rw[Tm (by omega)];done)
       |(rw[Tf (by omega),Tm (by omega)];done)
       |(rw[Tf (by omega),Tf (by omega)];done)))
 ·repeat'(first|(apply zg23;first|(refine zs52 ?_;intro _)|(refine zs53 ?_;intro _))|(apply zg29;(apply Ys;exact za;exact rfl))|refine zgc ?_|(refine zge ?_ ?_<;>intro _<;>try exact zo)|fail)
  rename_i gn gf _ _
  repeat'(first|((first|apply ZW (cs:=[.pointer (some ⟨gn,0,none⟩)])|apply ZV (cs:=[.pointer (some ⟨gn,0,none⟩)]));exact rfl;exact Ywe;exact za;exact rfl;exactλ_ hw=>(YjY _ nodes gn zm hw);all_goals(intro hB;(try simp only[Tq,T0]at hB);try exact zo))|refine zgd ?_|(refine zgf ?_ ?_<;>intro _<;>try exact zo)|fail)
  all_goals(
   apply Yh H
   ·exact zk
   apply Yd;exact rfl;exact rfl
   refine⟨?_,rfl⟩
   rw[<-he]
   unfold YX
   first
    |(rw[Tm (by first|exact .inl (by omega)|exact .inr (.inl (by omega))|exact .inr (.inr (.inl (by assumption)))|exact .inr (.inr (.inr (by assumption))))];done)
    |(rw[Tf (by rintro(h|h|h|h)<;>first|omega|simp_all)]
      first
       |(rw[Tm (by omega)];done)
       |(rw[Tf (by omega),Tm (by omega)];done)
       |(rw[Tf (by omega),Tf (by omega)];done)))
variable {A:Option Addr}
theorem YW(nodes:Int)(l:List Flw)(hl:l.length<=9223372036854775807)(hr:Rd B w0 H A (l.flatMap flwF))(hw:St B w0 H w):
 CX B w0 78 [.int .i64 nodes,.slice A l.length cap] w λv K=>v=.tuple #[.int .i64 (Yx nodes l).1,.int .i64 (Yx nodes l).2]/\K=H:=by
 refine Ya Tryz.func78 Tryz.ntmps78 rfl rfl hw ?_
 by_cases hn:nodes<2\/32<nodes
 ·have hE:Yx nodes l=(-1,2):=by simp_all [Yx]
  rw[hE]
  repeat'(first|refine zgc ?_|(refine zge ?_ ?_<;>intro _<;>try exact zo)|fail)
  all_goals(apply Yu;(iterate 3 exact rfl);exact⟨rfl,rfl⟩)
 by_cases h16:16<l.length
 ·have hE:Yx nodes l=(-1,8):=by simp_all [Yx]
  rw[hE]
  refine zX1 ?_<;>intros
  exact zc86
 have hE:Yx nodes l=YG (Xj nodes l) l.length 0:=by simp_all [Yx,if_neg]
 rw[hE]
 refine zX1 ?_<;>intros
 refine Yi (λ(i:Nat)=>[(20,.int .i64 i),(19,.int .i64 l.length),(18,.slice A l.length cap),(0,.int .i64 nodes),(1,.slice A l.length cap)]) (λ_=>H) (λi=>i<=l.length/\∀k,k<i->Xj nodes l k=0) (λi=>l.length-i) 0 ⟨Ti _,λk hk=>absurd hk (RD _)⟩ ?_ (λw hw=>hw) ?_
 ·exact zc1
 rintro i ⟨hi,hall⟩ K hK
 by_cases hlt:i<l.length
 ·have hget:l[i]? =some (Y1 l i):=YcM hlt
  have hbad:Xj nodes l i≠0->YG (Xj nodes l) l.length 0=((i:Int),Xj nodes l i):=λh=>Ze (λk _ hk=>hall k hk) (Ti _) (by omega) h
  have hstep:Xj nodes l i=0->∀k,k<i+1->Xj nodes l k=0:=λh k hk=>by
   exact Yuu
  by_cases he:YX nodes (Y1 l i)≠0
  ·have hf:Xj nodes l i=YX nodes (Y1 l i):=by unfold Xj;exact Tm he
   rw[hbad (by rw[hf];exact he),hf]
   repeat'(first|((first|apply Yb YaM|apply Yc YaM);exact za;exact rfl;exactλ_ hw=>(WJ nodes (Y1 l i) hw))|refine zgd ?_|(refine zge ?_ ?_<;>intro _<;>try exact zo)|(refine zgh ?_;intro _)|fail)
   apply Yh H
   ·exact zc0
   exact zc10
  have he0:=T8.1 he
  have hck:=λ{H':List HP}{w:World}(hw:St B w0 H' w)=>WJ nodes (Y1 l i) hw
  rw[he0]at hck
  rcases Su i with h0|h0
  ·subst h0
   have hf:Xj nodes l 0=0:=by unfold Xj;rw[Tf he,Tf (by omega)]
   repeat'(first|((first|apply Yb YaM|apply Yc YaM);exact za;exact rfl;exactλ_ hw=>(hck hw))|refine zgd ?_|(refine zge ?_ ?_<;>intro _<;>try exact zo)|(refine zgh ?_;intro _)|fail)
   apply hK (0+1)
   ·exact⟨by omega,hstep hf⟩
   ·omega
   ·exact zc1
   ·exact zc0
  have hget2:l[((i:Int)-1).toNat]? =some (Y1 l (i-1)):=by
   rw[show((i:Int)-1).toNat=i-1 by omega]
   exact YcM (by omega)
  by_cases hle:(Y1 l i).1<=(Y1 l (i-1)).1
  ·have hf:Xj nodes l i=5:=by unfold Xj;rw[Tf he,Tm ⟨h0,hle⟩]
   rw[hbad (by rw[hf];decide),hf]
   refine zX44 ?_<;>intros
   apply Yh H
   ·exact zc0
   exact zc10
  ·have hf:Xj nodes l i=0:=by unfold Xj;rw[Tf he,Tf (λh=>hle h.2)]
   refine zX44 ?_<;>intros
   apply hK (i+1)
   ·exact⟨by omega,hstep hf⟩
   ·omega
   ·exact zc1
   ·exact zc0
 ·refine zX1 ?_<;>intros
  rw[show i=l.length by omega]at hall
  rw[Zy λk _ hk=>hall k (by omega)]
  exact zc10
theorem Yc0(p:Flw->Bool)(l:List Flw)(f:Nat)(cs:List Value)(hen:∀xs w,(callFunc f xs).run Tryz.prog w=.ok (.enter f xs) w)(hlen:l.length<=1000)(hr:Rd B w0 H A (l.flatMap flwF))
 (hp:∀a∈l,∀w,St B w0 H w->Calls Tryz.prog f ([flwV a]++cs).toArray w (Post B w0 λv K=>v=.bool (p a)/\K=H)) (hw:St B w0 H w):
 CX B w0 161 [.slice A l.length cap,.func (.func f) #[] cs.toArray] w λv K=>v=.int .i64 (Yp p l 0)/\K=H:=by
 refine Ya Tryz.func161 Tryz.ntmps161 rfl rfl hw ?_
 refine zX7 ?_
 refine Yi (λ(k:Nat)=>[(8,.int .i64 k),(7,.int .i64 l.length),(0,.slice A l.length cap),(1,.func (.func f) #[] cs.toArray)]) (λ_=>H) (λk=>k<=l.length/\Yp p l 0=Yp p (l.drop k) k) (λk=>l.length-k) 0 ⟨Ti _,by simp⟩ ?_ (λw hw=>hw) ?_
 ·exact zc1
 rintro k ⟨hk,hi⟩ K hK
 by_cases hlt:k<l.length
 ·obtain⟨a,ha⟩:∃a,l[k]? =some a:=⟨_,Ta hlt⟩
  have hpa:=hp a (Td ha)
  rw[JR p l ha]at hi
  refine zX8 ?_<;>intros
  cases hpv:p a
  ·rw[hpv]at hi
   refine zX9 ?_
   apply hK (k+1)
   ·grind
   ·omega
   ·exact zc1
   exact zc21
  exact zc9
 exact zc6
theorem YjV(f:Flw)(id:Int)(gi:Nat)(hm:blk gi (.cells #[.int .i64 id] 3 (0,0))∈H)(hw:St B w0 H w):
 CX B w0 321 [flwV f,.pointer (some ⟨gi,0,none⟩)] w λv K=>v=.bool (decide (f.1=id))/\K=H:=by
 refine Ya Tryz.func321 Tryz.ntmps321 rfl rfl hw ?_
 by_cases h:f.1=id
 ·rw[Tj h]
  refine zX45 ?_<;>intros
  all_goals(apply Yl;exact zc12)
 ·rw[Tu h]
  refine zX45 ?_<;>intros
  all_goals(apply Yl;exact zc12)
theorem YcC(l:List Flw)(id:Int)(hlen:l.length<=1000)(hr:Rd B w0 H A (l.flatMap flwF))(hw:St B w0 H w):
 CX B w0 239 [.slice A l.length cap,.int .i64 id] w λv K=>v=.int .i64 (ZG l id)/\K=H:=by
 refine Ya Tryz.func239 Tryz.ntmps239 rfl rfl hw ?_
 repeat'(first|(apply zg29;(apply Ys;exact za;exact rfl))|refine zga ?_|(refine zgh ?_;intro _)|fail)
 rename_i gi
 first|apply Yb Yll|apply Yc Yll
 exact za
 exact rfl
 exactλ_ hw=>(Yc0 (λf=>decide (f.1=id)) l 321 [.pointer (some ⟨gi,0,none⟩)] Ywq hlen hr.cons (λf _ w hw=>YjV f id gi zm hw) hw)
 repeat'(first|refine zga ?_|fail)
 apply Yh H
 ·exact zk
 apply Yd;exact rfl;exact rfl
 exact⟨rfl,rfl⟩
theorem Ygx(s:SchM)(f:Flw)(gs:Nat)(hs:1<=s.len/\s.len<=512)(hf:1<=f.2.2.2.1/\f.2.2.2.1<=512)(hm:blk gs (.cells #[.int .i64 s.len,.int .i64 s.off,.slice s.A s.cells.length s.cap] 30 (0,0))∈H)(hw:St B w0 H w):
 CX B w0 187 [flwV f,.pointer (some ⟨gs,0,none⟩)] w λv K=>v=.bool (decide (s.len.tmod f.2.2.2.1≠0))/\K=H:=by
 refine Ya Tryz.func187 Tryz.ntmps187 rfl rfl hw ?_
 by_cases h:s.len.tmod f.2.2.2.1≠0
 ·rw[Tj h]
  rw[Rj (by omega)]at h
  refine zX46 ?_<;>intros
  all_goals(apply Yl;exact zc12)
 ·rw[Tu h]
  rw[Rj (by omega)]at h
  refine zX46 ?_<;>intros
  all_goals(apply Yl;exact zc12)
theorem YcW{α:Type}(p:α->Bool)(l:List α):decide (0<=Yp p l 0)=l.any p:=by
 have h:=V1 p l 0 (by omega)
 grind
theorem WF(p:Flw->Bool)(l:List Flw)(f:Nat)(cs:List Value)(hen:∀xs w,(callFunc f xs).run Tryz.prog w=.ok (.enter f xs) w)(hlen:l.length<=1000)(hr:Rd B w0 H A (l.flatMap flwF))
 (hp:∀a∈l,∀w,St B w0 H w->Calls Tryz.prog f ([flwV a]++cs).toArray w (Post B w0 λv K=>v=.bool (p a)/\K=H)) (hw:St B w0 H w):
 CX B w0 79 [.slice A l.length cap,.func (.func f) #[] cs.toArray] w λv K=>v=.bool (l.any p)/\K=H:=by
 refine Ya Tryz.func79 Tryz.ntmps79 rfl rfl hw ?_
 rw[<-YcW]
 refine zX3 ?_
 first|apply Yb Yll|apply Yc Yll
 exact za
 exact rfl
 exactλ_ hw=>(Yc0 p l f cs hen hlen hr hp hw)
 by_cases h0:0<=Yp p l 0
 ·exact zc14
 ·exact zc14
end Go.Proofs.YtjlgijpmnfabcaaGreatDoor
namespace Go.Eng
open Go.RowKit
section
variable {P:Program}{B:Nat}{w0:World}{Q:Exit->Act->World->Prop}{env:Env}{H:List HP}{k:Nat}
def YQr(P:Program)(r:Nat)(ops:Array Oper)(Q:Exit->Act->World->Prop)(l:List Oper):Exit->Act->World->Prop
 |.normal,a,w=>wpListIn (Fence.wide.inRound r) 0 P ops Q l a w
 |e,a,w=>Q e a w
theorem Yan{r:Nat}{ops:Array Oper}{l:List Oper}(hlo:¬LetsOut Q):∀(os:List Oper) (a:Act) (w:World),os.all JN=true->wpList P ops (YQr P r ops Q l) os a w->wpListIn (Fence.wide.inRound r) 0 P ops Q (os++l) a w
 |[],_,_,_,h=>h
 |o::os,a,w,hc,h=>by
  simp only[NL,To]at hc
  unfold wpList at h
  rw[TB]
  unfold wpListIn
  split
  ·rename_i hw
   rw[Tm hw]at h
   rcases h with h|⟨_,h⟩
   ·have h2:=Oper.wp_mono (λa w h=>Yan hlo os a w hc.2 h) h
    have hs:Oper.semAt (some r) a.eval o=execOp a.eval o:=by grind [Go.Oper.semAt_some,JN]
    refine⟨λf _=>trivial,?_⟩
    rw[Fence.inRound_round,hs]
    unfold Oper.wp at h2
    generalize(execOp a.eval o).run P w=res at h2⊢
    cases res with
    |ok x w'=>
     cases x<;>simp only[Oper.upon,Oper.uponIn]at h2⊢<;>first
      |exact h2
      |(refine⟨λhd=>by simp[Fence.wide]at hd,?_⟩
        refine CallsIn.mono (CallsIn.inRound r (callsIn_wide.2 h2)) λe w'' he=>?_
        cases e<;>exact he)
      |exact⟨λhd=>by simp[Fence.wide]at hd,Ybd h2⟩
      |exact h2.elim
    |halt x w'=>exact zc74
   ·exact(hlo h).elim
  ·rename_i hw
   rw[Tf hw]at h
   exact⟨λf _=>trivial,Yan hlo os _ w hc.2 h⟩
variable {n r:Nat}{ds:List Deferred}
theorem Yg1{id:Nat}{l:List Oper}(k:Nat){l1 l2:List Oper}(h1:l.take k=l1)(h2:l.drop k=l2)(h:VL P none ⟨n,ds,some r⟩ B w0 l.toArray (YQr P r l.toArray Q l2) l1 env H):
 VC P ⟨n,ds,some r⟩ B w0 (.region id l.toArray false) Q env H:=by
 refine⟨λa w ha hw=>?_⟩
 intro hlo hc
 refine wpIn_region_lit ?_
 have hc2:l.all JN=true:=by grind [calm]
 have:=Yan hlo _ _ _ (by grind) (h.run a ha w hw)
 grind [Rx]
theorem Ymt{ops:Array Oper}{d l:Nat}{x:Operand}{args:List Operand}{tys:Array TypeId}{ty:TypeId}{pos:String}{after:Array Edge}{gd:Option (Nat×Bool)}{vs:List Value}{rest:List Oper}(Φt Φf:List HP->Prop)
 (hgd:∀a:Act,Fits ⟨n,ds,none⟩ a env->Region.wanted ⟨some d,.call ⟨.value x,args.toArray,tys⟩,ty,pos,after,gd⟩ (yielded ops a.tmps)=true)
 (hx:evo env x=some (.func (.yield l) #[] #[])) (hargs:Args env args vs) (hn:Nat.ble (d+1) n=true) (hlo:¬LetsOut Q) (hpl:rest.all JN=true) (hy:Yb2 P l vs B w0 H Φt Φf)
 (ht:∀K,Φt K->VL P none ⟨n,ds,some r⟩ B w0 ops Q rest ((d,.bool true)::env) K)
 (hf:∀K,Φf K->VL P none ⟨n,ds,some r⟩ B w0 ops Q rest ((d,.bool false)::env) K):
 VQ ⟨n,ds,some r⟩ B w0 (YQr P r ops Q (⟨some d,.call ⟨.value x,args.toArray,tys⟩,ty,pos,after,gd⟩::rest)) .normal env H:=by
 refine⟨λa w ha hw=>?_⟩
 show wpListIn (Fence.wide.inRound r) 0 P ops Q _ a w
 unfold wpListIn
 rw[Tm (hgd a ⟨ha.defers,ha.size,ha.slot⟩)]
 refine⟨λf _=>trivial,?_⟩
 obtain⟨fn,tmps,assign,body,hrun,hround⟩:=hy w hw
 have hmap:args.toArray.map a.eval=vs.toArray:=by grind [V4]
 have hs:Oper.semAt (some r) a.eval ⟨some d,.call ⟨.value x,args.toArray,tys⟩,ty,pos,after,gd⟩=execOp a.eval ⟨some d,.call ⟨.value x,args.toArray,tys⟩,ty,pos,after,gd⟩:=by grind [Go.Oper.semAt_some]
 rw[Fence.inRound_round,hs]
 have hex:(execOp a.eval ⟨some d,.call ⟨.value x,args.toArray,tys⟩,ty,pos,after,gd⟩).run P w=.ok (.round l fn tmps assign body) w:=zc27
 rw[hex,Oper.uponIn_round]
 refine⟨λhd=>by simp[Fence.wide]at hd,?_⟩
 have hround2:RoundIn (Fence.wide.inRound r) 0 P l fn tmps assign body w _:=hround
 refine RoundIn.mono hround2 ?_
 rintro e w' (⟨rfl,K',hΦ,hst⟩|⟨rfl,K',hΦ,hst⟩)
 ·exact Uy hlo _ _ _ hpl ((ht K' hΦ).run _ (ha.put (T9 hn) _) _ hst)
 ·exact Uy hlo _ _ _ hpl ((hf K' hΦ).run _ (ha.put (T9 hn) _) _ hst)
end
variable {B:Nat}{w0:World}{H K:List HP}
theorem St.inM{w:World}(hw:St B w0 K w)(hm:Eng.many H∈K):St B w0 H w:=by
 obtain⟨S,h1,h2⟩:=hw.at_ hm
 exact⟨hw.below,hw.le,Vm h2 h1⟩
variable {A:Option Addr}{xs:List Value}
theorem Rd.inM(h:Rd B w0 H A xs)(hm:Eng.many H∈K):Rd B w0 K A xs:=h.mono λ_ hw=>hw.inM hm
theorem Rd.many{L:List HP}{e size k cap:Nat}(hX:many L∈H)(hm:Eng.sl e size A k cap xs∈L):Rd B w0 H A xs:=λw hw j v hv=>by
 obtain⟨S,_,h2⟩:=hw.at_ hX
 obtain⟨S',_,h3,_⟩:=YgL hm h2
 obtain⟨g,e1,hc,_⟩:=QS h3 hv
 grind
end Go.Eng
namespace Go.Proofs.YtjlgijpmnfabcaaGreatDoor
open Go.RowKit Go.Eng Go.Nw Go.Rt
variable {n:Net}
theorem Uv{a b:Int}(h:Y5 n a b=true):0<=YA n a b:=by
 simp_all [Y5]
variable {r:List Int}
theorem Qs{s t:Int}(h:Vw n s t r=0):(2<=r.length/\r.length<=9)/\r.any (offE n)=false/\(r.getD 0 0=s/\r.getD (r.length-1) 0=t)/\Yaw r=false/\VP n r=false:=by
 unfold Vw at h
 by_cases h1:r.length<2
 all_goals grind
theorem Yhz(h:VP n r=false){i:Nat}(hi:i+1<r.length):Y5 n (r.getD i 0) (r.getD (i+1) 0)=true:=by
 cases hg:Y5 n (r.getD i 0) (r.getD (i+1) 0)with
 |true=>rfl
 |false=>
  grind [VP]
variable {A:Option Addr}{cap B:Nat}{w0 w:World}{H:List HP}
theorem YmN(n:NetM)(r:List Int)(hin:n.In B w0 H)(hck:Yq n.net=0)(hbr:VP n.net r=false)(hr:Rd B w0 H A (r.flatMap numF))(hlen:1<=r.length/\r.length<=1000)(hw:St B w0 H w):
 CX B w0 185 [n.val,.slice A r.length cap] w λv K=>v=.int .i64 (YoP n.net r)/\K=H:=by
 have hok:=YT hck
 obtain⟨hpw,hrw,hlk,hmg,hs1,hs2,hs3,hs4⟩:=id hin
 refine Ya Tryz.func185 Tryz.ntmps185 rfl rfl hw ?_
 (apply Y7;apply YM;apply YO;exact rfl;exact rfl;intro g)
 refine zX7 ?_
 refine Yi (λ(k:Nat)=>[(6,.int .i64 ((k:Int)+1)),(5,.int .i64 (UR n.net r k)),(1,.slice A r.length cap),(2,.pointer (some ⟨g,0,none⟩))]) (λ_=>netB g n::H) (λk=>k+1<=r.length) (λk=>r.length-k) 0 hlen.1 ?_ (λw hw=>hw) ?_
 ·exact zc1
 intro k hk K hK
 have hbd:=YeC hok r k
 by_cases hlt:k+1<r.length
 ·have hgk:=XU (l:=r) (i:=k) (by omega)
  have hgk1:=XU (l:=r) (i:=k+1) (by omega)
  have ei:((k:Int)+1-1).toNat=k:=by omega
  have ei1:((k:Int)+1).toNat=k+1:=by omega
  rw[<-ei]at hgk
  rw[<-ei1]at hgk1
  have hgood:=Yhz hbr hlt
  have hf:=Uv hgood
  have hfl:=Zl hf
  have e7:n.net.links=n.links:=rfl
  rw[e7]at hfl
  have hlx:n.links[(YA n.net (r.getD k 0) (r.getD (k+1) 0)).toNat]? =some (lnk n.net (YA n.net (r.getD k 0) (r.getD (k+1) 0)).toNat):=QH n.net hfl
  have hlo:=YbB hok (r.getD k 0) (r.getD (k+1) 0)
  have hidx:=λ{w:World}(hw:St B w0 (netB g n::H) w)=>XM n (r.getD k 0) (r.getD (k+1) 0) (hin.cons (X:=netB g n)) hw
  unfold XG at hidx
  rw[Tf (by simp[hck])]at hidx
  obtain⟨fi,hfi⟩:∃fi,YA n.net (r.getD k 0) (r.getD (k+1) 0)=fi:=⟨_,rfl⟩
  obtain⟨lo,hlo2⟩:∃lo,Yfb n.net (r.getD k 0) (r.getD (k+1) 0)=lo:=⟨_,rfl⟩
  have hst:UR n.net r (k+1)=UR n.net r k+(lo+1):=by rw[<-hlo2];rfl
  have hlo3:(lnk n.net fi.toNat).2.2=lo:=by rw[<-hfi];exact hlo2
  rw[hfi]at hidx hf hfl hlx
  rw[hlo2]at hlo
  rw[ei]at hgk
  rw[ei1]at hgk1
  obtain⟨lk,hlkk⟩:∃lk,lnk n.net fi.toNat=lk:=⟨_,rfl⟩
  rw[hlkk]at hlx hlo3
  rw[<-hlo3]at hlo
  have hgk':r[((k:Int)+1-1).toNat]? =some (r.getD k 0):=by rw[ei];exact hgk
  have hgk1':r[((k:Int)+1).toNat]? =some (r.getD (k+1) 0):=by rw[ei1];exact hgk1
  repeat'(first|((first|apply Yb en69|apply Yc en69);exact za;exact rfl;exactλ_ hw=>(hidx hw))|(apply zg28;refine zs84 ?_)|refine zgd ?_|(refine zge ?_ ?_<;>intro _<;>try exact zo)|fail)
  apply hK (k+1)
  ·omega
  ·omega
  ·rw[hst,<-hlo3];exact zc1
  exact zc21
 ·refine zX1 ?_<;>intros
  (repeat apply Yl);apply Yd;exact rfl;exact rfl
  have ek:r.length-1=k:=by omega
  exact⟨by unfold YoP;rw[ek],rfl⟩
theorem Yme(n:NetM)(r:List Int)(hin:n.In B w0 H)(hr:Rd B w0 H A (r.flatMap numF))(hlen:r.length<=9223372036854775807)(hcap:r.length<=cap)(hw:St B w0 H w):
 CX B w0 98 [n.val,.slice A r.length cap] w λv K=>v=.tuple #[.int .i64 (YgY n.net r).1,.int .i64 (YgY n.net r).2]/\K=H:=by
 refine Ya Tryz.func98 Tryz.ntmps98 rfl rfl hw ?_
 unfold YgY
 by_cases h0:Yq n.net=0
 rotate_left
 ·rw[Tm h0]
  refine zX49 ?_<;>intros
  (repeat apply Yl);exact zc86
 rw[Tf (λh=>h h0)]
 have hck:=λ{H:List HP}{w:World}(hin:n.In B w0 H) (hw:St B w0 H w)=>YY n hin hw
 rw[h0]at hck
 dsimp only
 have hf:=λ{H:List HP}{w:World}(s t:Int) (hin:n.In B w0 H) (hr:Rd B w0 H A (r.flatMap numF)) (hw:St B w0 H w)=>YcA n s t r (cap:=cap) hin h0 hr hlen hcap hw
 by_cases hz:r.length=0
 ·have hf0:Vw n.net (r.getD 0 0) (r.getD (r.length-1) 0) r=9:=by unfold Vw;rw[Tm (by omega)]
  have hf1:Vw n.net 0 0 r=9:=by unfold Vw;rw[Tm (by omega)]
  have hff:=λ{H:List HP}{w:World}(hin:n.In B w0 H) (hr:Rd B w0 H A (r.flatMap numF)) (hw:St B w0 H w)=>hf 0 0 hin hr hw
  rw[hf1]at hff
  rw[hf0,Tm (by decide)]
  repeat'(first|((first|apply Yb en68|apply Yc en68);exact za;exact rfl;exactλ_ hw=>(hck hin.cons hw))|((first|apply Yb YaN|apply Yc YaN);exact za;exact rfl;exactλ_ hw=>(hff hin.cons hr.cons hw))|refine zgb ?_|(refine zge ?_ ?_<;>intro _<;>try exact zo)|(refine zgh ?_;intro _)|fail)
  (repeat apply Yl);exact zc10
 ·have hg0:=XU (l:=r) (i:=0) (by omega)
  have hg1:=XU (l:=r) (i:=r.length-1) (by omega)
  have hgi:((r.length:Int)-1).toNat=r.length-1:=by omega
  rw[<-hgi]at hg1
  have hff:=λ{H:List HP}{w:World}(hin:n.In B w0 H) (hr:Rd B w0 H A (r.flatMap numF)) (hw:St B w0 H w)=>hf (r.getD 0 0) (r.getD (r.length-1) 0) hin hr hw
  obtain⟨e,he⟩:∃e,Vw n.net (r.getD 0 0) (r.getD (r.length-1) 0) r=e:=⟨_,rfl⟩
  rw[he]at hff
  rw[he]
  rw[<-hgi]at hff
  by_cases hez:e=0
  ·subst hez
   obtain⟨⟨f1,f2⟩,_,_,_,f3⟩:=Qs he
   rw[Tf (by simp)]
   repeat'(first|((first|apply Yb en68|apply Yc en68);exact za;exact rfl;exactλ_ hw=>(hck hin.cons hw))|((first|apply Yb YaN|apply Yc YaN);exact za;exact rfl;exactλ_ hw=>(hff hin.cons hr.cons hw))|((first|apply Yb YsR|apply Yc YsR);exact za;exact rfl;exactλ_ hw=>(YmN n r hin.cons h0 f3 hr.cons (by omega) hw))|refine zgd ?_|(refine zge ?_ ?_<;>intro _<;>try exact zo)|(refine zgh ?_;intro _)|fail)
   (repeat apply Yl);exact zc10
  ·rw[Tm hez]
   repeat'(first|((first|apply Yb en68|apply Yc en68);exact za;exact rfl;exactλ_ hw=>(hck hin.cons hw))|((first|apply Yb YaN|apply Yc YaN);exact za;exact rfl;exactλ_ hw=>(hff hin.cons hr.cons hw))|refine zgd ?_|(refine zge ?_ ?_<;>intro _<;>try exact zo)|(refine zgh ?_;intro _)|fail)
   (repeat apply Yl);exact zc10
theorem YbM(n:NetM)(s t:Int)(r:List Int)(hin:n.In B w0 H)(hr:Rd B w0 H A (r.flatMap numF))(hlen:r.length<=9223372036854775807)(hcap:r.length<=cap)(hw:St B w0 H w):
 CX B w0 281 [n.val,.int .i64 s,.int .i64 t,.slice A r.length cap] w λv K=>v=.int .i64 (X6 n.net s t r)/\K=H:=by
 refine Ya Tryz.func281 Tryz.ntmps281 rfl rfl hw ?_
 unfold X6
 by_cases h0:Jk n.net s t=0
 ·have hck:Yq n.net=0:=by
   unfold Jk at h0
   omega
  have hen:=λ{H:List HP}{w:World}(hin:n.In B w0 H) (hw:St B w0 H w)=>Vh n s t hin hw
  rw[h0]at hen
  rw[Tf (λh=>h h0)]
  repeat'(first|((first|apply Yb OB|apply Yc OB);exact za;exact rfl;exactλ_ hw=>(hen hin.cons hw))|((first|apply Yb YaN|apply Yc YaN);exact za;exact rfl;exactλ_ hw=>(YcA n s t r hin.cons hck hr.cons hlen hcap hw))|refine zgb ?_|(refine zge ?_ ?_<;>intro _<;>try exact zo)|(refine zgh ?_;intro _)|fail)
  (repeat apply Yl);exact zc12
 ·rw[Tm h0]
  repeat'(first|((first|apply Yb OB|apply Yc OB);exact za;exact rfl;exactλ_ hw=>(Vh n s t hin.cons hw))|refine zgb ?_|(refine zge ?_ ?_<;>intro _<;>try exact zo)|(refine zgh ?_;intro _)|fail)
  (repeat apply Yl);exact zc12
end Go.Proofs.YtjlgijpmnfabcaaGreatDoor
namespace Go.Eng
open Go.RowKit
def subL(i k:Nat)(l:List Value):List Value:=(l.drop i).take k
section
variable {P:Program}{B:Nat}{w0:World}{Q:Exit->Act->World->Prop}{env:Env}{H:List HP}{m:Mode}{n:Shp}{ops:Array Oper}{rest:List Oper}{d:Nat}{ty:TypeId}{pos:String}{after:Array Edge}
variable {t:Nat}
theorem Yf(T:Tab P){g i k:Nat}{cs:Array Value}{vs:List Value}{tt:TypeId}{fr:Nat×Nat}{x:Operand}(hx:evo env x=some (.pointer (some ⟨g,i,none⟩)))(hm:blk g (.cells cs tt fr)∈H)
 (ht:look T.ag t=some k) (hv:subL i k cs.toList=vs) (hk:Nat.beq vs.length k=true) (hn:Nat.ble (d+1) n.k=true) (h:VL P m n B w0 ops Q rest ((d,.agg vs.toArray)::env) H):
 VL P m n B w0 ops Q (⟨some d,.load t x,ty,pos,after,none⟩::rest) env H:=by
 refine Yha T hx hm ht (Nat.eq_of_beq_eq_true hk) (λj v hj=>?_) hn h
 grind [subL]
end
def YhB(l:List Oper)(k s:Nat):Bool:=match l[k]? with
 |some o=>match o.op with
  |.call c=>match c.callee with
   |.value (.tmp t)=>Nat.beq t s
   |_=>false
  |_=>false
 |none=>false
section
variable {P:Program}{B:Nat}{w0:World}{Q:Exit->Act->World->Prop}{env:Env}{H:List HP}
variable {n id r:Nat}{ds:List Deferred}{l l1 l2:List Oper}
theorem Yg2(k s:Nat)(_ho:YhB l k s=true)(h1:l.take k=l1)(h2:l.drop k=l2)(hlo:¬LetsOut Q)(h:VL P none ⟨n,ds,none⟩ B w0 l.toArray (YQ P l.toArray Q l2) l1 env H):
 VC P ⟨n,ds,none⟩ B w0 (.region id l.toArray false) Q env H:=YbQ k h1 h2 hlo h
theorem YfG(k s:Nat)(_ho:YhB l k s=true)(h1:l.take k=l1)(h2:l.drop k=l2)(h:VL P none ⟨n,ds,some r⟩ B w0 l.toArray (YQr P r l.toArray Q l2) l1 env H):
 VC P ⟨n,ds,some r⟩ B w0 (.region id l.toArray false) Q env H:=Yg1 k h1 h2 h
end
section
variable {P:Program}{B:Nat}{w0:World}{env:Env}{H:List HP}
variable {n:Nat}{fn:Func}
theorem Ymf{gf:Nat}{c:Code}{lb:List Value}{xs:List (List Value)}{HI:List HP}(hf:P.funcs[gf]? =some fn)(hn:fn.ntmps=n)(hb:fn.body=some c)(hle:Nat.ble (lb.length+1) n=true)
 (h:∀(l:Nat) (S:Nat->List HP->Prop) (X:List HP->Prop),
  (∀(i:Nat) (args:List Value),xs[i]? =some args->∀(Y L:List HP),S i L->
   Yb2 P l args B w0 (Y++many L::HI) (λK=>∃L',S (i+1) L'/\K=Y++many L'::HI) (λK=>∃L',X L'/\K=Y++many L'::HI))->
  ∀L0,S 0 L0->VC P ⟨n,[],none⟩ B w0 c (bodyPostM Fence.wide 0 P fn (Post B w0 λ_ K=>(∃L,S xs.length L/\K=many L::HI)\/∃L,X L/\K=many L::HI)) (WB 0 (.func (.yield l) #[] #[]::lb)) (many L0::HI)):YbN P gf lb xs B w0 HI:=by
 intro l S X hy L0 h0 w hw
 exact callsIn_wide.2 (X5 (args:=.func (.yield l) #[] #[]::lb) hf hn hb hle hw (h l S X hy L0 h0))
variable {ds:List Deferred}
theorem Yrg{R:Ending->World->Prop}(h:VQ ⟨n,ds,none⟩ B w0 (bodyPostM Fence.wide 0 P fn R) .ret env H):VQ ⟨n,ds,none⟩ B w0 (bodyPostM Fence.wide 0 P fn R) .normal env H:=
 ⟨λa w ha hw=>h.run a w ha hw⟩
end
variable {H:List HP}{n t r:Nat}{fn:Func}
theorem YfU{P:Program}{B:Nat}{w0:World}{env:Env}{Φ:Value->List HP->Prop}{u s:Nat}{v x y z:Value}(hr:fn.results=#[.tmp t,.tmp u,.tmp s,.tmp r])(hv:get env t=some v)(hx:get env u=some x)(hy:get env s=some y)(hz:get env r=some z)(h:Φ (.tuple #[v,x,y,z]) H):
 VQ ⟨n,[],none⟩ B w0 (bodyPost P fn (Post B w0 Φ)) .ret env H:=
 ⟨λa w ha hw=>bodyPost_ret (v:=.tuple #[v,x,y,z]) (by simp[results,hr,Array.getD_eq_getD_getElem?,ha.slot t v hv,ha.slot u x hx,ha.slot s y hy,ha.slot r z hz]) ha.defers ⟨_,H,rfl,hw,h⟩⟩
theorem YnR{X:HP}(h:X∈H):∃R,Perm H [X,many R]/\Perm [X,many R] H:=by
 obtain⟨s,t,rfl⟩:=List.append_of_mem h
 exact⟨s++t,(Perm.closeT _).trans (Perm.pull X s t []),(Perm.push X s t []).trans (Perm.openT _)⟩
end Go.Eng
namespace Go.Proofs.YtjlgijpmnfabcaaGreatDoor
open Go.RowKit Go.Eng Go.Nw Go.Rt
abbrev Rqs:=Flw×List (List Int)
structure Clm where
 flow:Int
 routes:List (List Int)
 bounds:List Int
 worst:List Int
 slots:List (List Int)
deriving DecidableEq
def Yw0:Clm:=⟨0,[],[],[],[]⟩
def YE(q:List Rqs):List Flw:=q.map Prod.fst
def Ymd:Rqs:=((0,0,0,0,0,0),[])
def rqAt(q:List Rqs)(i:Nat):Rqs:=q.getD i Ymd
def rtAt(l:List (List Int))(k:Nat):List Int:=l.getD k []
def rtsE(n:Net)(x:Rqs):Int:=
 if x.2.length=0 then 14 else if 2<x.2.length then 8
 else if(YG (λk=>X6 n x.1.2.1 x.1.2.2.1 (rtAt x.2 k)) x.2.length 0).2≠0 then(YG (λk=>X6 n x.1.2.1 x.1.2.2.1 (rtAt x.2 k)) x.2.length 0).2
 else if x.2.length=2/\rtAt x.2 0=rtAt x.2 1 then 6 else 0
def rqsE(n:Net)(q:List Rqs):Int×Int:=
 if Yq n≠0 then(-1,1)else if(Yx n.nodes (YE q)).2≠0 then Yx n.nodes (YE q)
 else YG (λi=>rtsE n (rqAt q i)) q.length 0
def badR(n:Net)(s:Sch)(f:Flw)(r:List Int):Bool:=decide ((YN n s f r).2≠0\/f.2.2.2.2.2<(YN n s f r).1.1)
def YhI(n:Net)(s:Sch)(x:Rqs)(l:List (List Int)):Clm:=
 ⟨x.1.1,l,l.map λr=>(YN n s x.1 r).1.1,l.map λr=>(YN n s x.1 r).1.2.1,l.map λr=>(YN n s x.1 r).1.2.2⟩
def Vz(n:Net)(s:Sch)(x:Rqs):Bool:=x.2.any (badR n s x.1)
def clmE(n:Net)(s:Sch)(x:Rqs):Clm:=YhI n s x x.2
def Y4(n:Net)(q:List Rqs)(s:Sch):List Clm×(Int×Int):=
 if(rqsE n q).2≠0 then([],rqsE n q)else if(schE n (YE q) s).2≠0 then([],(-1,1))
 else if(YG (λi=>if Vz n s (rqAt q i)=true then 15 else 0) q.length 0).2≠0 then([],YG (λi=>if Vz n s (rqAt q i)=true then 15 else 0) q.length 0)
 else(q.map (clmE n s),(-1,0))
def Qo(c:List Clm)(i:Nat):Clm:=c.getD i Yw0
def chkE(n:Net)(q:List Rqs)(s:Sch)(c:List Clm):Int×Int:=
 if(Y4 n q s).2.2≠0 then(Y4 n q s).2 else if c.length≠(Y4 n q s).1.length then(-1,11)
 else YG (λi=>if Qo c i=Qo (Y4 n q s).1 i then 0 else 20) c.length 0
def minI:List Int->Int
 |[]=>0
 |a::l=>l.foldl (λx y=>if y<x then y else x) a
def maxI:List Int->Int
 |[]=>0
 |a::l=>l.foldl (λx y=>if x<y then y else x) a
def bndE(c:List Clm)(id:Int):Int×Bool:=
 match c.find? (λx=>decide (x.flow=id)&&decide (0<x.bounds.length))with
 |none=>(0,false)
 |some x=>(minI x.bounds,true)
def admB(c:List Clm)(f:Flw):Bool:=
 match c.find? (λx=>decide (x.flow=f.1))with
 |none=>false
 |some x=>decide (0<x.bounds.length)&&decide (maxI x.bounds<=f.2.2.2.2.2)
def Yj9(n:Net)(s:Sch)(f:Flw)(l:List (List Int)):Int×Int:=
 if l.length=0 then(0,14)else
 if(YG (λk=>wayE n s f (rtAt l k)) l.length 0).2≠0 then(0,(YG (λk=>wayE n s f (rtAt l k)) l.length 0).2)
 else if(l.foldl (λa r=>match JY n s f r with|none=>a|some b=>if a=0\/b.1<a then b.1 else a) (0:Int))=0 then(0,15)
 else(l.foldl (λa r=>match JY n s f r with|none=>a|some b=>if a=0\/b.1<a then b.1 else a) (0:Int),0)
structure WayM where
 n:NetM
 s:SchM
 f:Flw
 A:Option Addr
 cap:Nat
 r:List Int
def WayM.val(x:WayM):Value:=.agg #[.int .i64 x.n.nodes,.slice x.n.pA x.n.rows.length x.n.pcap,.int .i64 x.n.noise,.int .i64 x.n.thr,.slice x.n.lA x.n.links.length x.n.lcap,.slice x.n.mA x.n.margin.length x.n.mcap,.int .i64 x.s.len,.int .i64 x.s.off,.slice x.s.A x.s.cells.length x.s.cap,.int .i64 x.f.1,.int .i64 x.f.2.1,.int .i64 x.f.2.2.1,.int .i64 x.f.2.2.2.1,.int .i64 x.f.2.2.2.2.1,.int .i64 x.f.2.2.2.2.2,.slice x.A x.r.length x.cap,.int .i64 0]
abbrev wayB(g:Nat)(x:WayM):HP:=blk g (.cells #[.int .i64 x.n.nodes,.slice x.n.pA x.n.rows.length x.n.pcap,.int .i64 x.n.noise,.int .i64 x.n.thr,.slice x.n.lA x.n.links.length x.n.lcap,.slice x.n.mA x.n.margin.length x.n.mcap,.int .i64 x.s.len,.int .i64 x.s.off,.slice x.s.A x.s.cells.length x.s.cap,.int .i64 x.f.1,.int .i64 x.f.2.1,.int .i64 x.f.2.2.1,.int .i64 x.f.2.2.2.1,.int .i64 x.f.2.2.2.2.1,.int .i64 x.f.2.2.2.2.2,.slice x.A x.r.length x.cap,.int .i64 0] 330 (0,0))
structure WayM.In(B:Nat)(w0:World)(H:List HP)(x:WayM):Prop where
 n:x.n.In B w0 H
 s:Rd B w0 H x.s.A (x.s.cells.flatMap celF)
 r:Rd B w0 H x.A (x.r.flatMap numF)
 sl:x.s.cells.length<=1000000000000
 rl:x.r.length<=1000000000000
 rc:x.r.length<=x.cap
variable {B:Nat}{w0:World}{H:List HP}{x:WayM}
theorem WayM.In.cons{X:HP}(h:x.In B w0 H):x.In B w0 (X::H):=⟨h.n.cons,h.s.cons,h.r.cons,h.sl,h.rl,h.rc⟩
theorem WayM.In.mono{H':List HP}(h:x.In B w0 H)(hH:∀w,St B w0 H' w->St B w0 H w):x.In B w0 H':=⟨h.n.mono hH,h.s.mono hH,h.r.mono hH,h.sl,h.rl,h.rc⟩
theorem Ym3{nodes:Int}{f:Flw}(h:2<=nodes/\nodes<=32):((Yx nodes [f]).2=0↔YX nodes f=0):=by
 unfold Yx
 have e:Xj nodes [f] 0=YX nodes f:=by
  show(if YX nodes f≠0 then YX nodes f else if 0<0/\_ then 5 else 0)=_
  omega
 unfold YG YG
 grind
theorem Yi5(x:WayM){w:World}(ht:TabsB B w0)(hi:x.In B w0 H)(hw:St B w0 H w):
 CX B w0 284 [x.val] w λv K=>v=.int .i64 (wayE x.n.net x.s.sch x.f x.r)/\K=H:=by
 refine Ya Tryz.func284 Tryz.ntmps284 rfl rfl hw ?_
 have p1:=λ{H':List HP}{w:World}(hin:x.n.In B w0 H') (hw:St B w0 H' w)=>YY x.n hin hw
 have p2:=λ{H':List HP}{w:World}(hr:Rd B w0 H' x.s.A (x.s.cells.flatMap celF)) (hw:St B w0 H' w)=>O4 x.s ht hr hi.sl hw
 have p3:=λ{g cap:Nat}{H':List HP}{w:World}(hm:blk g (.cells #[.int .i64 x.f.1,.int .i64 x.f.2.1,.int .i64 x.f.2.2.1,.int .i64 x.f.2.2.2.1,.int .i64 x.f.2.2.2.2.1,.int .i64 x.f.2.2.2.2.2] 66 (0,0))∈H') (hw:St B w0 H' w)=>YW x.n.nodes [x.f] (T9 rfl) (A:=some ⟨g,0,none⟩) (cap:=cap) (show Rd B w0 H' _ ([x.f].flatMap flwF) from Rd.blk hm) hw
 have p4:=λ{H':List HP}{w:World}(hin:x.n.In B w0 H') (hr:Rd B w0 H' x.A (x.r.flatMap numF)) (hw:St B w0 H' w)=>YbM x.n x.f.2.1 x.f.2.2.1 x.r (cap:=x.cap) hin hr (TY hi.rl (by decide)) hi.rc hw
 have hn:=hi.n
 have hs:=hi.s
 have hr:=hi.r
 have hfo:=@Ym3 x.n.net.nodes x.f
 have hok:=λh:Yq x.n.net=0=>(YT h).n0
 have hok1:=λh:Yq x.n.net=0=>(YT h).n1
 have hpe:(ZM x.s.sch).2=0↔Xh x.s.sch=true:=by
  unfold ZM
  cases hf:Xh x.s.sch with
  |true=>rw[Tf (by decide)];simp
  |false=>rw[Tm rfl];simp
 unfold wayE
 rw[show x.n.net.nodes=x.n.nodes from rfl]at*
 rw[show x.s.sch.len=x.s.len from rfl]at*
 obtain⟨c,hc⟩:∃c,Yq x.n.net=c:=⟨_,rfl⟩
 obtain⟨⟨t,e⟩,he⟩:∃e,ZM x.s.sch=e:=⟨_,rfl⟩
 obtain⟨⟨i,a⟩,ha⟩:∃a,Yx x.n.nodes [x.f]=a:=⟨_,rfl⟩
 obtain⟨k,hk⟩:∃k,X6 x.n.net x.f.2.1 x.f.2.2.1 x.r=k:=⟨_,rfl⟩
 rw[hc]at p1 hok hok1⊢
 rw[he]at p2 hpe
 rw[ha]at p3 hfo
 rw[hk]at p4⊢
 dsimp only at p2 p3 hpe hfo
 unfold WayM.val
 by_cases h1:c=0
 rotate_left
 ·rw[Tm (.inl h1)]
  repeat'(first|((first|apply Yb en68|apply Yc en68);exact za;exact rfl;exactλ_ hw=>(p1 hn.cons hw))|(apply Yf T;exact rfl;exact zm;exact rfl;exact zv;exact rfl;exact rfl)|refine zgb ?_|(refine zge ?_ ?_<;>intro _<;>try exact zo)|(refine zgh ?_;intro _)|fail)
  apply Yh H
  ·exact zc0
  exact zc7
 subst h1
 have hfo:=hfo ⟨hok rfl,hok1 rfl⟩
 by_cases h2:e=0
 rotate_left
 ·rw[Tm (.inr (.inl (by cases hf:Xh x.s.sch with|false=>rfl|true=>exact absurd (hpe.2 hf) h2)))]
  repeat'(first|((first|apply Yb en68|apply Yc en68);exact za;exact rfl;exactλ_ hw=>(p1 hn.cons hw))|((first|apply Yb en11|apply Yc en11);exact za;exact rfl;exactλ_ hw=>(p2 hs.cons hw))|(apply Yf T;exact rfl;exact zm;exact rfl;exact zv;exact rfl;exact rfl)|refine zgc ?_|(refine zge ?_ ?_<;>intro _<;>try exact zo)|(refine zgh ?_;intro _)|fail)
  apply Yh H
  ·exact zc0
  exact zc7
 subst h2
 have hfe:=hpe.1 rfl
 by_cases h3:a=0
 rotate_left
 ·rw[Tm (.inr (.inr (λh=>h3 (hfo.2 h))))]
  repeat'(first|((first|apply Yb en68|apply Yc en68);exact za;exact rfl;exactλ_ hw=>(p1 hn.cons hw))|((first|apply Yb en11|apply Yc en11);exact za;exact rfl;exactλ_ hw=>(p2 hs.cons hw))|((first|apply Yb en78|apply Yc en78);exact za;exact rfl;exactλ_ hw=>(p3 zm hw))|(apply Yf T;exact rfl;exact zm;exact rfl;exact zv;exact rfl;exact rfl)|refine zgc ?_|(refine zge ?_ ?_<;>intro _<;>try exact zo)|(refine zgh ?_;intro _)|fail)
  apply Yh H
  ·exact zc0
  exact zc7
 subst h3
 have hfz:=hfo.1 rfl
 rw[Tf (by rintro(h|h|h);exact h rfl;rw[hfe]at h;cases h;exact h hfz)]
 have hp1:1<=x.f.2.2.2.1:=by
  unfold YX at hfz
  split at hfz
  ·cases hfz
  split at hfz
  ·cases hfz
  omega
 have hsz:1<=x.s.len/\x.s.len<=512:=by
  have:=TV (Jl.1 hfe).sized
  exact⟨this.1,this.2.1⟩
 rw[Rj (show 0<=x.s.len by omega)]
 by_cases h4:x.s.len%x.f.2.2.2.1=0
 rotate_left
 ·rw[Tm h4]
  repeat'(first|((first|apply Yb en68|apply Yc en68);exact za;exact rfl;exactλ_ hw=>(p1 hn.cons hw))|((first|apply Yb en11|apply Yc en11);exact za;exact rfl;exactλ_ hw=>(p2 hs.cons hw))|((first|apply Yb en78|apply Yc en78);exact za;exact rfl;exactλ_ hw=>(p3 zm hw))|(apply Yf T;exact rfl;exact zm;exact rfl;exact zv;exact rfl;exact rfl)|refine zgd ?_|(refine zge ?_ ?_<;>intro _<;>try exact zo)|(refine zgh ?_;intro _)|fail)
  apply Yh H
  ·exact zc0
  exact zc7
 rw[Tf (λh=>h h4)]
 repeat'(first|((first|apply Yb en68|apply Yc en68);exact za;exact rfl;exactλ_ hw=>(p1 hn.cons hw))|((first|apply Yb en11|apply Yc en11);exact za;exact rfl;exactλ_ hw=>(p2 hs.cons hw))|((first|apply Yb en78|apply Yc en78);exact za;exact rfl;exactλ_ hw=>(p3 zm hw))|((first|apply Yb YeL|apply Yc YeL);exact za;exact rfl;exactλ_ hw=>(p4 hn.cons.cons hr.cons.cons hw))|(apply Yf T;exact rfl;exact zm;exact rfl;exact zv;exact rfl;exact rfl)|refine zgd ?_|(refine zge ?_ ?_<;>intro _<;>try exact zo)|(refine zgh ?_;intro _)|fail)
 apply Yh H
 ·exact zc0
 exact zc7
variable {n:Net}{s:Sch}{f:Flw}{r:List Int}
theorem YgU(h:wayE n s f r=0):Yq n=0/\Xh s=true/\YX n.nodes f=0/\s.len.tmod f.2.2.2.1=0/\X6 n f.2.1 f.2.2.1 r=0:=by
 unfold wayE at h
 grind
theorem QO(h:(YN n s f r).2=0):wayE n s f r=0/\∃b,JY n s f r=some b/\YN n s f r=(b,0):=by
 unfold YN at h⊢
 grind
variable {q:List Rqs}{i:Nat}
theorem Vl(h:i<q.length):q[i]? =some (rqAt q i):=by
 grind [rqAt]
theorem QP(h:i<q.length):rqAt q i∈q:=Td (Vl h)
variable {x:Rqs}
theorem Yde(h:x∈q):∃i,i<q.length/\rqAt q i=x:=by
 obtain⟨i,hi⟩:=TN.1 h
 have hl:=(Tc.1 hi).1
 exact⟨i,hl,Tn ((Vl hl).symm.trans hi)⟩
variable {l:List (List Int)}
theorem Yfr(h:i<l.length):l[i]? =some (rtAt l i):=by
 grind [rtAt]
theorem YiJ(h:i<l.length):rtAt l i∈l:=Td (Yfr h)
def Ybj(n:Net)(s:Sch)(x:Rqs):Bool:=decide (x.2.length=1\/x.2.length=2/\rtAt x.2 0≠rtAt x.2 1)&&!(Vz n s x)
theorem QD(h:Vz n s x=false)(hr:r∈x.2):(YN n s x.1 r).2=0/\(YN n s x.1 r).1.1<=x.1.2.2.2.2.2:=by
 simp_all [Vz,badR]
theorem Yvm(h:Ybj n s x=true):rtsE n x=0:=by
 unfold Ybj at h
 rw[To,Tq]at h
 have hl:=h.2
 simp only[RX]at hl
 have hc:(YG (λk=>X6 n x.1.2.1 x.1.2.2.1 (rtAt x.2 k)) x.2.length 0).2=0:=YF.2 λk _ hk=>
  (YgU (QO (QD hl (YiJ (l:=x.2) (i:=k) (by omega))).1).1).2.2.2.2
 unfold rtsE
 grind
theorem YbH(h:rtsE n x=0):x.2.length=1\/x.2.length=2/\rtAt x.2 0≠rtAt x.2 1:=by
 unfold rtsE at h
 grind
theorem Jh:(Y4 n q s).2.2=0↔(schE n (YE q) s).2=0/\∀x∈q,Ybj n s x=true:=by
 constructor
 ·intro h
  unfold Y4 at h
  by_cases h1:(rqsE n q).2=0
  rotate_left
  ·simp_all
  by_cases h2:(schE n (YE q) s).2=0
  rotate_left
  ·simp_all
  by_cases h3:(YG (λi=>if Vz n s (rqAt q i)=true then 15 else 0) q.length 0).2=0
  rotate_left
  ·simp_all
  refine⟨h2,λx hx=>?_⟩
  obtain⟨i,hi,rfl⟩:=Yde hx
  have h4:=YF.1 h3 i (Ti _) (by omega)
  have h5:rtsE n (rqAt q i)=0:=by
   have hw:=JW (Vg.1 h2).whole
   simp_all [rqsE,YF]
  grind [Ybj,YbH]
 ·rintro⟨h2,h3⟩
  have hw:=JW (Vg.1 h2).whole
  have h1:(rqsE n q).2=0:=by
   unfold rqsE
   grind [YF,Yvm,QP]
  have h4:(YG (λi=>if Vz n s (rqAt q i)=true then 15 else 0) q.length 0).2=0:=YF.2 λi _ hi=>by
   have:=h3 _ (QP (q:=q) (i:=i) (by omega))
   simp_all [Ybj]
  simp_all [Y4]
theorem Yf3(h:(Y4 n q s).2.2=0):Y4 n q s=(q.map (clmE n s),(-1,0)):=by
 unfold Y4 at h⊢
 grind
structure We(x:WayM):Prop where
 ck:Yq x.n.net=0
 len:2<=x.r.length/\x.r.length<=9
 good:∀i,i+1<x.r.length->Y5 x.n.net (x.r.getD i 0) (x.r.getD (i+1) 0)=true
 per:1<=x.f.2.2.2.1/\x.f.2.2.2.1<=512
 ph:0<=x.f.2.2.2.2.1/\x.f.2.2.2.2.1<x.f.2.2.2.1
 slen:1<=x.s.len/\x.s.len<=512
 few:x.s.cells.length<=512
variable {n:Net}{r:List Int}
theorem ZY{s t:Int}(h:X6 n s t r=0):Yq n=0/\(2<=r.length/\r.length<=9)/\∀i,i+1<r.length->Y5 n (r.getD i 0) (r.getD (i+1) 0)=true:=by
 unfold X6 at h
 by_cases h0:Jk n s t=0
 rotate_left
 ·omega
 rw[Tf (λe=>e h0)]at h
 have hck:Yq n=0:=by
  unfold Jk at h0
  omega
 obtain⟨h1,_,_,_,h2⟩:=Qs h
 grind [VP]
theorem YgV{x:WayM}(h:wayE x.n.net x.s.sch x.f x.r=0):We x:=by
 obtain⟨_,h2,h3,_,h5⟩:=YgU h
 obtain⟨k1,k2,k3⟩:=ZY h5
 have hfr:=Jl.1 h2
 have hsz:=TV hfr.sized
 unfold YX at h3
 split at h3
 ·cases h3
 split at h3
 ·cases h3
 exact⟨k1,k2,k3,by omega,by omega,⟨hsz.1,hsz.2.1⟩,hfr.few⟩
def JG(x:WayM):List (List Value):=(YB x.n.net x.r).map λl=>[lkV l]
theorem O1{i:Nat}(h:i+1<r.length):(YB n r)[i]? =some (X9 n r i):=by
 grind [YB]
theorem UY:(YB n r).length=r.length-1:=by grind [YB]
variable {B:Nat}{w0:World}
theorem Ya5(x:WayM)(g:Nat)(hok:We x){HI:List HP}(hi:x.In B w0 HI)(hm:wayB g x∈HI):
 YbN Tryz.prog 398 [.pointer (some ⟨g,0,none⟩)] (JG x) B w0 HI:=by
 refine YbO Tryz.func398 Tryz.ntmps398 rfl rfl ?_
 intro l SS X hy L0 h0
 have hck:=hok.ck
 have hlen:=hok.len
 have p1:=λ{H':List HP}{w:World}(a b:Int) (hin:x.n.In B w0 H') (hw:St B w0 H' w)=>XM x.n a b hin hw
 have hix:∀a b:Int,XG x.n.net a b=YA x.n.net a b:=λa b=>by simp_all [XG]
 unfold wayB at hm
 refine zX7 ?_
 refine Yi (λ(y:Nat×List HP)=>[(3,.int .i64 (y.1+1:Nat)),(0,.func (.yield l) #[] #[]),(1,.pointer (some ⟨g,0,none⟩))]) (λy=>many y.2::HI) (λy=>y.1+1<=x.r.length/\SS y.1 y.2) (λy=>x.r.length-1-y.1) (0,L0) ⟨by omega,h0⟩ ?_ (λw hw=>hw) ?_
 ·exact zc1
 rintro⟨i,L⟩ ⟨hile,hS⟩ K hK
 dsimp only at hile hS⊢
 by_cases hlt:i+1<x.r.length
 ·have hg:=hok.good i hlt
  have hf:=Uv hg
  have hfl:=Zl hf
  have hlx:x.n.links[(YA x.n.net (x.r.getD i 0) (x.r.getD (i+1) 0)).toNat]? =some (lnk x.n.net (YA x.n.net (x.r.getD i 0) (x.r.getD (i+1) 0)).toNat):=QH x.n.net hfl
  have hla:X9 x.n.net x.r i=lnk x.n.net (YA x.n.net (x.r.getD i 0) (x.r.getD (i+1) 0)).toNat:=rfl
  have hg0:=XU (l:=x.r) (i:=i) (by omega)
  have hg1:=XU (l:=x.r) (i:=i+1) (by omega)
  have hgi:((((i+1:Nat):Int)-1).toNat)=i:=by omega
  have hgi1:(((i+1:Nat):Int).toNat)=i+1:=by omega
  have hll:(YA x.n.net (x.r.getD i 0) (x.r.getD (i+1) 0)).toNat<x.n.links.length:=hfl
  have p2:=λ{H':List HP}{w:World}(hin:x.n.In B w0 H') (hw:St B w0 H' w)=>p1 (x.r.getD i 0) (x.r.getD (i+1) 0) hin hw
  rw[hix]at p2
  have hx:(JG x)[i]? =some [lkV (X9 x.n.net x.r i)]:=by
   unfold JG;rw[TS,O1 hlt];rfl
  rw[hla]at hx
  obtain⟨a,ha⟩:∃a,x.r.getD i 0=a:=⟨_,rfl⟩
  obtain⟨b,hb⟩:∃b,x.r.getD (i+1) 0=b:=⟨_,rfl⟩
  rw[ha]at hg0 p2 hlx hll hf hx
  rw[hb]at hg1 p2 hlx hll hf hx
  obtain⟨z,hz⟩:∃z,YA x.n.net a b=z:=⟨_,rfl⟩
  rw[hz]at p2 hlx hll hf hx
  obtain⟨lk,hlk⟩:∃k,lnk x.n.net z.toNat=k:=⟨_,rfl⟩
  rw[hlk]at hlx hx
  obtain⟨R,hR1,hR2⟩:=YnR hm
  have hg0i:x.r[(((i+1:Nat):Int)-1).toNat]? =some a:=by rw[hgi];exact hg0
  have hg1i:x.r[((i+1:Nat):Int).toNat]? =some b:=by rw[hgi1];exact hg1
  have hwb:∀w,St B w0 (many L::(blk g (.cells #[.int .i64 x.n.nodes,.slice x.n.pA x.n.rows.length x.n.pcap,.int .i64 x.n.noise,.int .i64 x.n.thr,.slice x.n.lA x.n.links.length x.n.lcap,.slice x.n.mA x.n.margin.length x.n.mcap,.int .i64 x.s.len,.int .i64 x.s.off,.slice x.s.A x.s.cells.length x.s.cap,.int .i64 x.f.1,.int .i64 x.f.2.1,.int .i64 x.f.2.2.1,.int .i64 x.f.2.2.2.1,.int .i64 x.f.2.2.2.2.1,.int .i64 x.f.2.2.2.2.2,.slice x.A x.r.length x.cap,.int .i64 0] 330 (0,0)))::[many R]) w->St B w0 (many L::HI) w:=λw hw=>hw.perm (Perm.cons _ hR2)
  have hl0:0<=lk.2.2/\lk.2.2<=7:=by
   have h1:=(YT hck).lk z.toNat hll
   rw[<-hlk];exact⟨h1.l0,h1.l1⟩
  have hiK:x.In B w0 [wayB g x,many R]:=hi.mono λw hw=>hw.perm hR2
  have hrr:=hiK.r
  have hlr:=hiK.n.lk
  unfold wayB at hiK hrr hlr
  refine Y8 (blk g (.cells #[.int .i64 x.n.nodes,.slice x.n.pA x.n.rows.length x.n.pcap,.int .i64 x.n.noise,.int .i64 x.n.thr,.slice x.n.lA x.n.links.length x.n.lcap,.slice x.n.mA x.n.margin.length x.n.mcap,.int .i64 x.s.len,.int .i64 x.s.off,.slice x.s.A x.s.cells.length x.s.cap,.int .i64 x.f.1,.int .i64 x.f.2.1,.int .i64 x.f.2.2.1,.int .i64 x.f.2.2.2.1,.int .i64 x.f.2.2.2.2.1,.int .i64 x.f.2.2.2.2.2,.slice x.A x.r.length x.cap,.int .i64 0] 330 (0,0))::many L::[many R]) (λw hw=>hw.perm ((Perm.cons _ hR1).trans (Perm.swap _ _ _))) ?_
  refine zX5 ?_<;>intros
  apply J9 (.n1 0 (.n1 1 (.n1 2 (.n1 3 (.n1 4 (.n1 5 (.n1 6 (.n1 7 (.n1 8 (.n1 9 (.n1 10 (.n1 11 (.n1 12 (.n1 13 (.n1 14 (.n1 15 (.n2 16 (.n1 17 (.n1 18 (.n1 19 .done))) 19 (.n1 16 (.n1 17 (.n1 18 .done)))))))))))))))))))) [20] [true,false,true]
  kernel_rfl
  kernel_rfl
  exact zy
  (simp only[Ye,nthO];rfl)
  repeat'(first|(apply Yf T;exact rfl;exact zm;exact rfl;exact zv;exact rfl;exact rfl)|(apply Yj;try exact zl)|apply(zs91 ?_ ?_)|(apply Y3;try exact zl)|refine zgd ?_|(refine zgh ?_;intro _)|fail)
  all_goals(
   first|apply Yb en69|apply Yc en69
   exact za
   exact rfl
   exactλ_ hw=>(p2 (hiK.mono zk).n hw)
   repeat'(first|(refine Yg2 2 37 rfl rfl rfl (by rintro⟨_,_,_,_,h,_⟩;cases h) ?_)|(apply Yj;try exact zl)|(apply Y3;try exact zl)|refine zgd ?_|(refine zgh ?_;intro _)|fail)
   rename_i g5
   rw[show lk.2.2+0=lk.2.2 from Int.add_zero _]
   apply Yh (blk g5 (.cells #[.int .i64 lk.1,.int .i64 lk.2.1,.int .i64 lk.2.2] 145 (0,0))::many L::HI)
   ·intro w hw
    have h5:St B w0 (blk g5 (.cells #[.int .i64 lk.1,.int .i64 lk.2.1,.int .i64 lk.2.2] 145 (0,0))::many L::blk g (.cells #[.int .i64 x.n.nodes,.slice x.n.pA x.n.rows.length x.n.pcap,.int .i64 x.n.noise,.int .i64 x.n.thr,.slice x.n.lA x.n.links.length x.n.lcap,.slice x.n.mA x.n.margin.length x.n.mcap,.int .i64 x.s.len,.int .i64 x.s.off,.slice x.s.A x.s.cells.length x.s.cap,.int .i64 x.f.1,.int .i64 x.f.2.1,.int .i64 x.f.2.2.1,.int .i64 x.f.2.2.2.1,.int .i64 x.f.2.2.2.2.1,.int .i64 x.f.2.2.2.2.2,.slice x.A x.r.length x.cap,.int .i64 0] 330 (0,0))::[many R]) w:=by
     revert w
     exact zk
    exact h5.perm (Perm.cons _ (Perm.cons _ hR2))
   have hY:=hy _ _ hx [blk g5 (.cells #[.int .i64 lk.1,.int .i64 lk.2.1,.int .i64 lk.2.2] 145 (0,0))] L hS
   apply Yb1 _ _ (hy:=hY)
   ·exact Ybk
   ·exact rfl
   ·exact za
   ·exact rfl
   ·rintro⟨_,_,_,_,h,_⟩;cases h
   ·rintro _ ⟨L',hS',rfl⟩
    repeat'(first|refine zgd ?_|fail)
    apply hK (i+1,L')
    ·exact⟨by show i+1+1<=_;omega,hS'⟩
    ·dsimp only;omega
    ·exact zu
    ·exactλw hw=>hw.tail
   ·rintro _ ⟨L',hX',rfl⟩
    repeat'(first|refine zgd ?_|fail)
    apply Yh (many L'::HI)
    ·exactλw hw=>hw.tail
    apply ZR;exact rfl
    exact .inr ⟨L',hX',rfl⟩)
 ·refine zX1 ?_<;>intros
  apply Zk;exact rfl
  have hl0:i=(JG x).length:=by unfold JG;rw[Tv,UY];omega
  rw[hl0]at hS
  exact .inl ⟨L,hS,rfl⟩
def Yss(g:Nat):Value:=.func (.func 398) #[] #[.pointer (some ⟨g,0,none⟩)]
theorem Yc8(x:WayM){H:List HP}{w:World}(hw:St B w0 H w):
 CX B w0 345 [x.val] w λv K=>∃g,v=Yss g/\K=wayB g x::H:=by
 refine Ya Tryz.func345 Tryz.ntmps345 rfl rfl hw ?_
 repeat'(first|((refine zs52 ?_;intro _))|((apply Ys;exact za;exact rfl))|refine zga ?_|fail)
 apply Yd;exact rfl;exact rfl
 exact⟨_,rfl,rfl⟩
variable {B i:Nat}{w0 w:World}{H:List HP}
theorem YhD(x:WayM)(l:Lk)(g gl:Nat)(c:Cel)(hm:wayB g x∈H)(hml:blk gl (.cells #[.int .i64 l.1,.int .i64 l.2.1,.int .i64 l.2.2] 145 (0,0))∈H)(hw:St B w0 H w):
 CX B w0 399 [celV c,.pointer (some ⟨g,0,none⟩),.pointer (some ⟨gl,0,none⟩)] w λv K=>v=.bool (!(onP x.f.1 l.1 l.2.1 c))/\K=H:=by
 refine Ya Tryz.func399 Tryz.ntmps399 rfl rfl hw ?_
 unfold wayB at hm
 have hb:onP x.f.1 l.1 l.2.1 c=true↔c.2.2.2.2=x.f.1/\c.2.2.1=l.1/\c.2.2.2.1=l.2.1:=by unfold onP Xr Yr toC;simp_all
 obtain⟨b,hbe⟩:∃b,onP x.f.1 l.1 l.2.1 c=b:=⟨_,rfl⟩
 rw[hbe]at hb⊢
 repeat'(first|refine zgc ?_|(refine zge ?_ ?_<;>intro _<;>try exact zo)|(refine zgh ?_;intro _)|fail)
 all_goals(
  apply Yh H
  ·exact zk
  apply Yd;exact rfl;exact rfl
  cases b<;>simp at hb<;>first|exact⟨rfl,rfl⟩|(exfalso;omega))
theorem YjG(x:WayM)(l:Lk)(hfew:x.s.cells.length<=1000)(hr:Rd B w0 H x.s.A (x.s.cells.flatMap celF))(hw:St B w0 H w):
 CX B w0 346 [x.val,lkV l] w λv K=>∃A cap,v=.slice A (Xx x.s.sch x.f.1 l).length cap/\K=cels A cap (Xx x.s.sch x.f.1 l)::H:=by
 refine Ya Tryz.func346 Tryz.ntmps346 rfl rfl hw ?_
 unfold WayM.val lkV
 repeat'(first|refine zgb ?_|(refine zgh ?_;intro _)|fail)
 rename_i gw gl
 apply Yg _ Yln
 exact za
 exact rfl
 exactλ_ hw=>(VS x.s.cells (by omega) hr.cons.cons (hw))
 rintro _ _ ⟨A',cap',rfl,rfl⟩
 repeat'(first|(apply zg29;(apply Ys;exact za;exact rfl))|fail)
 apply Yg _ YsQ
 exact za
 exact rfl
 exactλ_ hw=>(YaJ (λc=>!(onP x.f.1 l.1 l.2.1 c)) x.s.cells 399 [.pointer (some ⟨gw,0,none⟩),.pointer (some ⟨gl,0,none⟩)] Ywy hfew (λc _ X w hw=>YhD x l gw gl c (Re _ (by unfold wayB;exact zm)) (Re _ zm) hw) (hw))
 rintro _ _ ⟨rfl,rfl⟩
 have e:x.s.cells.filter (λc=>!!(onP x.f.1 l.1 l.2.1 c))=Xx x.s.sch x.f.1 l:=NT λc _=>Bool.not_not _
 rw[e]
 repeat'(first|refine zga ?_|fail)
 apply Yh (cels A' cap' (Xx x.s.sch x.f.1 l)::H)
 ·exact zk
 apply Yd;exact rfl;exact rfl
 exact⟨A',cap',rfl,rfl⟩
variable {x:WayM}{l:Lk}
theorem QG(hok:We x)(h:(YB x.n.net x.r)[i]? =some l):i+1<x.r.length/\0<=l.2.2/\l.2.2<=7:=by
 have hi:=(Tc.1 h).1
 rw[UY]at hi
 have hi:i+1<x.r.length:=by omega
 rw[O1 hi]at h
 have hg:=hok.good i hi
 have h1:=(YT hok.ck).lk _ (Zl (Uv hg))
 have e:=Tn h
 unfold X9 at e
 have h2:=h1.l0;have h3:=h1.l1
 simp_all
theorem Yfe{ls:List Lk}(h:ls[i]? =some l):XF (ls.take (i+1))=XF (ls.take i)+YV l:=by
 grind [XF,TF]
theorem UX{args:List Value}(h:(JG x)[i]? =some args):∃l,(YB x.n.net x.r)[i]? =some l/\args=[lkV l]:=by
 unfold JG at h
 grind
theorem YbC{x:WayM}(hok:We x):∀i,XF ((YB x.n.net x.r).take i)<=8*i
 |0=>TM _
 |i+1=>by
  have ih:=YbC hok i
  cases h:(YB x.n.net x.r)[i]? with
  |none=>
   grind [TX]
  |some l=>
   rw[Yfe h]
   have:=QG hok h
   grind [YV]
theorem Yip(x:WayM)(hok:We x)(hi:x.In B w0 H)(hw:St B w0 H w):
 CX B w0 407 [x.val] w λv K=>v=.int .i64 (XF (YB x.n.net x.r))/\K=H:=by
 refine X5 Tryz.func407 Tryz.ntmps407 rfl rfl hw ?_
 unfold WayM.val
 refine zX24 ?_<;>intros
 rename_i g gN
 apply Yg _ Ytb
 exact za
 exact rfl
 exactλ_ hw=>(Yc8 x (hw))
 rintro _ _ ⟨g2,rfl,rfl⟩
 refine zX7 ?_
 have hl9:=hok.len
 have hiK:x.In B w0 (wayB g2 x::wayB g x::H):=hi.cons.cons
 refine X7 (gf:=398) (lb:=[.pointer (some ⟨g2,0,none⟩)]) (xs:=JG x) (wayB g2 x::wayB g x::H) (λz:Int=>[blk gN (.cells #[.int .i64 z] 3 (0,0))]) (λi z=>z=(XF ((YB x.n.net x.r).take i):Int)) (λ_ _=>False) 0 rfl Ytk (Ya5 x g2 hok hiK (.head _)) rfl ?_ (by kernel_rfl) (by kernel_rfl) ?_ rfl ?_ ?_ (λ_ _ _ h=>h.elim)
 ·grind [TN,UX]
 ·unfold wayB
  simp only[TB,TI]
  exact zc0
 ·rintro l k args R z hk hI
  obtain⟨lk,hlk,rfl⟩:=UX hk
  have hbd:=QG hok hlk
  have hne:=YbC hok k
  have hst:=Yfe hlk
  try dsimp only at hI
  dsimp only[Uc,List.cons_append,List.nil_append]
  unfold lkV
  repeat'(first|refine zgc ?_|(refine zgh ?_;intro _)|fail)
  apply JB (YR Yy)
  intro R'
  unfold wayB
  refine zX2 ?_
  apply VO (z+(lk.2.2+1))
  ·show z+(lk.2.2+1)=_
   rw[hI,hst]
   unfold YV
   omega
  ·dsimp only[List.cons_append,List.nil_append]
   exact zc0
 ·rintro D z hI
  try dsimp only at hI
  have hle:(JG x).length=(YB x.n.net x.r).length:=by unfold JG;rw[Tv]
  rw[hle,TL]at hI
  dsimp only[List.cons_append,List.nil_append]
  unfold wayB
  refine zX9 ?_
  apply Zx Yy
  apply VQ_m
  apply Yh H
  ·exact zc0
  apply Yd;exact rfl;exact rfl
  exact⟨by rw[hI],rfl⟩
open Go.RowKit Go.Eng Go.Nw
def netN(g:Nat)(n:NetM):HP:=blk g (.cells #[.int .i64 n.nodes,.slice n.pA n.rows.length n.pcap,.int .i64 n.noise,.int .i64 n.thr,.slice n.lA n.links.length n.lcap,.slice n.mA n.margin.length n.mcap] 26 (0,0))
theorem Ybq(n:NetM)(l:List Flw)(s:SchM)(hck:Yq n.net=0)(hlen:l.length<=1000)(hl:s.cells.length<=1000000000000){A:Option Addr}{cap B:Nat}{w0:World}{H:List HP}{w:World}(hin:n.In B w0 H)(hrf:Rd B w0 H A (l.flatMap flwF))(hr:Rd B w0 H s.A (s.cells.flatMap celF))(hw:St B w0 H w):
 CX B w0 188 [n.val,.slice A l.length cap,s.val] w λv K=>v=.tuple #[.int .i64 (JE n.net l s.sch).1,.int .i64 (JE n.net l s.sch).2]/\K=H:=by
 refine Ya Tryz.func188 Tryz.ntmps188 rfl rfl hw ?_
 have e4:s.sch.cells.length=s.cells.length:=rfl
 have hE:JE n.net l s.sch=YG (VR n.net l s.sch) s.cells.length 0:=rfl
 rw[hE]
 refine zX71 ?_<;>intros
 rename_i gn gs
 refine Yi (λ(i:Nat)=>[(13,.int .i64 i),(12,.int .i64 s.cells.length),(11,.slice s.A s.cells.length s.cap),(3,.pointer (some ⟨gn,0,none⟩)),(5,.pointer (some ⟨gs,0,none⟩)),(1,.slice A l.length cap)])
  (λ_=>blk gs (.cells #[.int .i64 s.len,.int .i64 s.off,.slice s.A s.cells.length s.cap] 30 (0,0))::netN gn n::H) (λi=>i<=s.cells.length/\∀k,k<i->VR n.net l s.sch k=0) (λi=>s.cells.length-i) 0 ⟨Ti _,λk hk=>absurd hk (RD _)⟩ ?_ (λw hw=>hw) ?_
 ·exact zc1
 rintro i ⟨hi,hall⟩ K hK
 unfold netN
 have hrc:=λ(X:HP)=>((hr.cons (X:=netN gn n)).cons (X:=blk gs (.cells #[.int .i64 s.len,.int .i64 s.off,.slice s.A s.cells.length s.cap] 30 (0,0)))).cons (X:=X)
 by_cases hlt:i<s.cells.length
 ·have hget:s.cells[i]? =some (Ym s.sch i):=Y0 (s:=s.sch) hlt
  have hbad:VR n.net l s.sch i≠0->YG (VR n.net l s.sch) s.cells.length 0=((i:Int),VR n.net l s.sch i):=λh=>Ze (λk _ hk=>hall k hk) (Ti _) (by omega) h
  have hstep:VR n.net l s.sch i=0->∀k,k<i+1->VR n.net l s.sch k=0:=λh k hk=>by
   exact Yuu
  obtain⟨c,hc⟩:∃c,Ym s.sch i=c:=⟨_,rfl⟩
  have hce:VR n.net l s.sch i=if ZC s.sch c=false then 2 else if Y5 n.net (Yr c) (toC c)=false\/ZG l (Xr c)<0 then 7 else if 0<i/\Xw (Ym s.sch (i-1)) c=false then 5 else 0:=by
   unfold VR
   rw[hc]
  rw[hc]at hget
  have hplc:=λ{H':List HP}{w:World}(hw:St B w0 H' w)=>Ybb s c hw
  cases hp:ZC s.sch c with
  |false=>
   rw[hp]at hplc
   rw[hp,Tm rfl]at hce
   rw[hbad (by rw[hce];decide),hce]
   repeat'(first|((first|apply Yb Ox|apply Yc Ox);exact za;exact rfl;exactλ_ hw=>(hplc hw))|refine zgd ?_|(refine zge ?_ ?_<;>intro _<;>try exact zo)|(refine zgh ?_;intro _)|fail)
   apply Yh H
   ·exact zc0
   exact zc10
  |true=>
  rw[hp]at hplc
  rw[hp,Tf (by decide)]at hce
  have hix:=λ{H':List HP}{w:World}(hin:n.In B w0 H') (hw:St B w0 H' w)=>XM n c.2.2.1 c.2.2.2.1 hin hw
  have hus:=λ{H':List HP}{w:World}(hin:n.In B w0 H') (hw:St B w0 H' w)=>VM n (XG n.net c.2.2.1 c.2.2.2.1) hin hw
  rw[Yi3 hck]at hus
  have hfi:=λ{H':List HP}{w:World}(hr:Rd B w0 H' A (l.flatMap flwF)) (hw:St B w0 H' w)=>YcC l c.2.2.2.2 hlen (cap:=cap) hr hw
  have hgf:Y5 n.net (Yr c) (toC c)=Y5 n.net c.2.2.1 c.2.2.2.1:=rfl
  have hff:ZG l (Xr c)=ZG l c.2.2.2.2:=rfl
  by_cases hg:Y5 n.net c.2.2.1 c.2.2.2.1=false\/ZG l c.2.2.2.2<0
  ·rw[hgf,hff,Tm hg]at hce
   rw[hbad (by rw[hce];decide),hce]
   cases hgd:Y5 n.net c.2.2.1 c.2.2.2.1 with
   |false=>
    rw[hgd]at hus
    repeat'(first|((first|apply Yb Ox|apply Yc Ox);exact za;exact rfl;exactλ_ hw=>(hplc hw))|((first|apply Yb en69|apply Yc en69);exact za;exact rfl;exactλ_ hw=>(hix hin.cons.cons.cons hw))|((first|apply Yb J4|apply Yc J4);exact za;exact rfl;exactλ_ hw=>(hus hin.cons.cons.cons hw))|(apply zg28;refine zs84 ?_)|refine zgd ?_|(refine zge ?_ ?_<;>intro _<;>try exact zo)|(refine zgh ?_;intro _)|fail)
    apply Yh H
    ·exact zc0
    exact zc10
   |true=>
    have hneg:ZG l c.2.2.2.2<0:=hg.elim (λh=>by rw[hgd]at h;cases h) id
    rw[hgd]at hus
    refine zX74 ?_<;>intros
    apply Yh H
    ·exact zc0
    exact zc10
  have hgd:Y5 n.net c.2.2.1 c.2.2.2.1=true:=by
   cases h:Y5 n.net c.2.2.1 c.2.2.2.1 with
   |true=>rfl
   |false=>exact absurd (.inl h) hg
  have hpos:¬ZG l c.2.2.2.2<0:=λh=>hg (.inr h)
  rw[hgf,hff,Tf hg]at hce
  rw[hgd]at hus
  rcases Su i with h0|h0
  ·subst h0
   rw[Tf (by omega)]at hce
   refine zX74 ?_<;>intros
   apply hK (0+1)
   ·exact⟨by omega,hstep hce⟩
   ·omega
   ·exact zc1
   ·unfold netN
    exact zc0
  have hget2:s.cells[((i:Int)-1).toNat]? =some (Ym s.sch (i-1)):=YtP
  obtain⟨p,hpv⟩:∃p,Ym s.sch (i-1)=p:=⟨_,rfl⟩
  rw[hpv]at hce hget2
  have hcl:=Yci p c
  have hcm:=λ{H':List HP}{w:World}(hw:St B w0 H' w)=>Ow p c hw
  obtain⟨q,hq⟩:∃q,cmpV (nums p) (nums c)=q:=⟨_,rfl⟩
  rw[hq]at hcl hcm
  by_cases hlt2:q<0
  ·rw[hcl.1 hlt2,Tf (by simp)]at hce
   refine zX75 ?_<;>intros
   apply hK (i+1)
   ·exact⟨by omega,hstep hce⟩
   ·omega
   ·exact zc1
   ·unfold netN
    exact zc0
  ·have hnl:Xw p c=false:=by
    cases h:Xw p c with
    |false=>rfl
    |true=>exact absurd (hcl.2 h) hlt2
   rw[hnl,Tm ⟨h0,rfl⟩]at hce
   rw[hbad (by rw[hce];decide),hce]
   refine zX75 ?_<;>intros
   apply Yh H
   ·exact zc0
   exact zc10
 ·refine zX1 ?_<;>intros
  rw[show i=s.cells.length by omega]at hall
  rw[Zy λk _ hk=>hall k (by omega)]
  apply Yh H
  ·exact zc0
  exact zc10
def runW(x:WayM)(a:Int):List (Cel×Int):=runP x.s.len (Xx x.s.sch x.f.1) (a+x.f.2.2.2.1) (YB x.n.net x.r) a
def cntV(z:Cel×Int):List Value:=[celV z.1,.int .i64 z.2]
def Yld(x:WayM)(a:Int):List (List Value):=(runW x a).map cntV
structure CtM where
 c:Nat
 a:Int
 L:List HP
structure CuM where
 k:Nat
 slot:Int
 a:Int
 c:Nat
 L:List HP
structure CvM where
 j:Nat
 k:Nat
 a:Int
 c:Nat
 L:List HP
variable {α:Type}{c:Nat}
theorem Yqu{W r:List α}{z:α}(hc:c<=W.length)(h:W=W.take c++z::r):W[c]? =some z/\c+1<=W.length/\W=W.take (c+1)++r:=by
 grind
theorem YiY{W:List α}(hc:c<=W.length)(h:W=W.take c++[]):c=W.length:=by
 grind
theorem Yf5(x:WayM)(at0:Int)(hok:We x)(hat:0<=at0/\at0<=1000000)(ga gw:Nat){B:Nat}{w0:World}{H:List HP}(hi:x.In B w0 H):
 YbN Tryz.prog 344 [.pointer (some ⟨ga,0,none⟩),.pointer (some ⟨gw,0,none⟩)] (Yld x at0) B w0 (intB ga at0::wayB gw x::H):=by
 refine Ymf Tryz.func344 Tryz.ntmps344 rfl rfl ?_
 intro l SS XX hy L0 h0
 have hper:=hok.per
 have hslen:=hok.slen
 obtain⟨W,hW⟩:∃W,runW x at0=W:=⟨_,rfl⟩
 have hxs:Yld x at0=W.map cntV:=by unfold Yld;rw[hW]
 rw[hxs]at hy⊢
 rw[Tv]
 obtain⟨endd,hend⟩:∃e,at0+x.f.2.2.2.1=e:=⟨_,rfl⟩
 unfold runW at hW
 rw[hend]at hW
 unfold intB at hy⊢
 iterate 3 (first|refine zga ?_|(refine zgh ?_;intro _)|fail)
 rename_i gy
 apply Yoi
 apply YfV
 apply Y7
 refine XE (λz:Nat×Nat=>[(5,.pointer (some ⟨z.2,0,none⟩)),(4,.pointer (some ⟨z.1,0,none⟩)),(3,.pointer (some ⟨gy,0,none⟩)),(1,.pointer (some ⟨ga,0,none⟩)),(2,.pointer (some ⟨gw,0,none⟩))])
  (λz=>intB z.1 at0::many L0::intB z.2 endd::blk gy (.cells #[.func (.yield l) #[] #[]] 385 (0,0))::intB ga at0::wayB gw x::H) ?_ ?_
 ·intro K hK
  repeat'(first|fail)
  apply J9 (.n1 0 (.n1 1 (.n1 2 (.n1 3 (.n1 4 (.n1 5 (.n2 6 (.n1 7 (.n1 8 .done)) 7 (.n1 6 (.n1 8 .done))))))))) [9] [false,false,true,true]
  kernel_rfl
  kernel_rfl
  exact zy
  (simp only[Ye,nthO];rfl)
  repeat'(first|(apply Yj;try exact zl)|apply(zs91 ?_ ?_)|(apply Y3;try exact zl)|refine zgd ?_|(refine zgh ?_;intro _)|fail)
  ·rename_i a b
   rw[hend]
   apply hK (a,b)
   ·exact zc1
   ·unfold intB
    dsimp only
    exact zc0
  ·rename_i a b
   rw[hend]
   apply hK (b,a)
   ·exact zc1
   ·unfold intB
    dsimp only
    exact zc0
 rintro⟨g4,g5⟩
 unfold intB
 dsimp only
 refine zX7 ?_
 apply Yg _ Ytb
 exact za
 exact rfl
 exactλ_ hw=>(Yc8 x (hw))
 rintro _ _ ⟨g2,rfl,rfl⟩
 refine zX7 ?_
 have hiK:x.In B w0 (wayB g2 x::blk g5 (.cells #[.int .i64 endd] 3 (0,0))::blk gy (.cells #[.func (.yield l) #[] #[]] 385 (0,0))::blk ga (.cells #[.int .i64 at0] 3 (0,0))::wayB gw x::H):=hi.cons.cons.cons.cons.cons
 refine X7 (gf:=398) (lb:=[.pointer (some ⟨g2,0,none⟩)]) (xs:=JG x) (wayB g2 x::blk g5 (.cells #[.int .i64 endd] 3 (0,0))::blk gy (.cells #[.func (.yield l) #[] #[]] 385 (0,0))::blk ga (.cells #[.int .i64 at0] 3 (0,0))::wayB gw x::H) (λy:CtM=>[blk g4 (.cells #[.int .i64 y.a] 3 (0,0)),many y.L])
  (λk y=>y.c<=W.length/\W=W.take y.c++runP x.s.len (Xx x.s.sch x.f.1) endd ((YB x.n.net x.r).drop k) y.a/\SS y.c y.L/\at0<=y.a/\y.a<=endd)
  (λe K=>e=.ret/\∃a L,(SS W.length L\/XX L)/\K=[blk g4 (.cells #[.int .i64 a] 3 (0,0)),many L]) ⟨0,at0,L0⟩ rfl Ytk (Ya5 x g2 hok hiK (.head _)) rfl ?_ (by kernel_rfl) (by kernel_rfl) ?_ ⟨Ti _,by simpa using hW.symm,h0,RB _,by show at0<=endd;omega⟩ ?_ ?_ ?_
 ·intro args h
  obtain⟨k,hk⟩:=TN.1 h
  obtain⟨l,_,rfl⟩:=UX hk
  rfl
 ·simp only[TB,TI]
  exact zc0
 ·rintro l2 k args R ⟨c,a,L⟩ hk ⟨hc,hWk,hS,ha0,ha1⟩
  obtain⟨lk,hlk,rfl⟩:=UX hk
  have hbd:=QG hok hlk
  dsimp only at hc hWk hS ha0 ha1
  dsimp only[Uc,List.cons_append,List.nil_append]
  unfold lkV
  repeat'(first|refine zgc ?_|(refine zgh ?_;intro _)|fail)
  rename_i gl
  apply JB (YR Yy)
  intro R'
  refine zX9 ?_
  have hfew:=hok.few
  apply Yg _ Ywt
  exact za
  exact rfl
  exactλ_ hw=>(YjG x lk (by omega) (hi.mono zc0).s (hw))
  rintro _ _ ⟨A,cap,rfl,rfl⟩
  have hcsl:(Xx x.s.sch x.f.1 lk).length<=512:=TY (RG _ _) hfew
  have hdk:(YB x.n.net x.r).drop k=lk::(YB x.n.net x.r).drop (k+1):=by
   obtain⟨h1,h2⟩:=Tc.1 hlk
   rw[<-h2];exact Rb h1
  rw[hdk,Yql]at hWk
  obtain⟨cs,hcs⟩:∃cs,Xx x.s.sch x.f.1 lk=cs:=⟨_,rfl⟩
  obtain⟨ls,hls⟩:∃ls,(YB x.n.net x.r).drop (k+1)=ls:=⟨_,rfl⟩
  obtain⟨C,hC⟩:∃C,Xx x.s.sch x.f.1=C:=⟨_,rfl⟩
  rw[hcs,hls,hC]at hWk
  rw[hcs]at hcsl⊢
  rw[hC,hls]
  unfold cels
  refine zX7 ?_
  rw[show lk.2.2+1=((YV lk:Nat):Int) from by unfold YV;omega]
  have hnl8:YV lk<=8:=by unfold YV;omega
  refine Yi (λz:CuM=>[(9,.int .i64 z.slot),(7,.int .i64 (z.k:Nat)),(8,.slice A cs.length cap),(6,.pointer (some ⟨gl,0,none⟩)),(5,.pointer (some ⟨g5,0,none⟩)),(4,.pointer (some ⟨g4,0,none⟩)),(3,.pointer (some ⟨gy,0,none⟩)),(1,.pointer (some ⟨ga,0,none⟩)),(2,.pointer (some ⟨gw,0,none⟩))])
   (λz=>R'::blk g4 (.cells #[.int .i64 z.a] 3 (0,0))::many z.L::sl 48 5 A cs.length cap (cs.flatMap celF)::blk gl (.cells #[.int .i64 lk.1,.int .i64 lk.2.1,.int .i64 lk.2.2] 145 (0,0))::wayB g2 x::blk g5 (.cells #[.int .i64 endd] 3 (0,0))::blk gy (.cells #[.func (.yield l) #[] #[]] 385 (0,0))::blk ga (.cells #[.int .i64 at0] 3 (0,0))::wayB gw x::H)
   (λz=>z.c<=W.length/\W=W.take z.c++Wp x.s.len C endd cs ls (endd-z.slot).toNat z.k z.slot z.a/\SS z.c z.L/\(at0<=z.a/\z.a<=endd)/\(at0<=z.slot/\z.slot<=endd)/\z.k<=8) (λz=>(endd-z.slot).toNat) ⟨YV lk,a,a,c,L⟩ ⟨hc,hWk,hS,⟨ha0,ha1⟩,⟨ha0,ha1⟩,hnl8⟩ ?_ ?_ ?_
  ·exact zc1
  ·exact zc0
  rintro⟨kk,slot,a,c,L⟩ ⟨hc,hWk,hS,⟨ha0,ha1⟩,⟨hs0,hs1⟩,hk8⟩ K hK
  dsimp only at hc hWk hS ha0 ha1 hs0 hs1 hk8⊢
  by_cases hk0:kk=0
  ·subst hk0
   rw[YnW]at hWk
   clear hK
   refine zX1 ?_<;>intros
   apply VO (CtM.mk c a L)
   ·exact⟨hc,hWk,hS,ha0,ha1⟩
   ·dsimp only[List.cons_append,List.nil_append]
    exact zc0
  by_cases hse:endd<=slot
  ·rw[show(endd-slot).toNat=0 by omega,Yqt hk0]at hWk
   have hce:=YiY hc hWk
   rw[hce]at hS
   clear hK
   refine zX23 ?_<;>intros
   apply Qd [blk g4 (.cells #[.int .i64 a] 3 (0,0)),many L]
   ·exact⟨rfl,a,L,.inl hS,rfl⟩
   ·dsimp only[List.cons_append,List.nil_append]
    exact zc0
  obtain⟨f,hf⟩:∃f,(endd-(slot+1)).toNat=f:=⟨_,rfl⟩
  have hf1:(endd-slot).toNat=f+1:=by omega
  have hmt:slot.tmod x.s.len=slot%x.s.len:=Rj (by omega)
  rw[hf1,<-Yqg]at hWk
  repeat'(first|refine zgb ?_|(refine zgf ?_ ?_<;>intro _<;>try exact zo)|fail)
  refine Yi (λy:CvM=>[(37,.int .i64 (y.j:Nat)),(36,.int .i64 cs.length),(35,.slice A cs.length cap),(9,.int .i64 slot),(7,.int .i64 (y.k:Nat)),(8,.slice A cs.length cap),(6,.pointer (some ⟨gl,0,none⟩)),(5,.pointer (some ⟨g5,0,none⟩)),(4,.pointer (some ⟨g4,0,none⟩)),(3,.pointer (some ⟨gy,0,none⟩)),(1,.pointer (some ⟨ga,0,none⟩)),(2,.pointer (some ⟨gw,0,none⟩))])
   (λy=>R'::blk g4 (.cells #[.int .i64 y.a] 3 (0,0))::many y.L::sl 48 5 A cs.length cap (cs.flatMap celF)::blk gl (.cells #[.int .i64 lk.1,.int .i64 lk.2.1,.int .i64 lk.2.2] 145 (0,0))::wayB g2 x::blk g5 (.cells #[.int .i64 endd] 3 (0,0))::blk gy (.cells #[.func (.yield l) #[] #[]] 385 (0,0))::blk ga (.cells #[.int .i64 at0] 3 (0,0))::wayB gw x::H)
   (λy=>y.j<=cs.length/\y.c<=W.length/\W=W.take y.c++OG x.s.len C endd cs (cs.drop y.j) ls f y.k slot y.a/\SS y.c y.L/\(at0<=y.a/\y.a<=endd)/\y.k<=8) (λy=>cs.length-y.j) ⟨0,kk,a,c,L⟩ ⟨Ti _,hc,hWk,hS,⟨ha0,ha1⟩,hk8⟩ ?_ ?_ ?_
  ·exact zc1
  ·exact zc0
  clear hWk hS hc hk0 hk8 ha0 ha1
  rintro⟨j,kk,a,c,L⟩ ⟨hj,hc,hWk,hS,⟨ha0,ha1⟩,hk8⟩ K2 hK2
  dsimp only at hj hc hWk hS ha0 ha1 hk8⊢
  by_cases hjl:j<cs.length
  rotate_left
  ·obtain rfl:j=cs.length:=by omega
   rw[SA,Yqh]at hWk
   clear hK2
   refine zX1 ?_<;>intros
   apply hK ⟨kk,slot+1,a,c,L⟩
   ·exact⟨hc,by rw[hf];exact hWk,hS,⟨ha0,ha1⟩,⟨by show at0<=slot+1;omega,by show slot+1<=endd;omega⟩,hk8⟩
   ·exact zc54
   ·exact zc1
   exact zc21
  obtain⟨d,hd⟩:∃d,cs[j]? =some d:=⟨_,Ta hjl⟩
  have hdj:cs.drop j=d::cs.drop (j+1):=by
   obtain⟨h1,h2⟩:=Tc.1 hd
   rw[<-h2];exact Rb h1
  rw[hdj]at hWk
  by_cases hcd:d.1=slot%x.s.len/\kk≠0
  ·obtain⟨hcd1,hcd2⟩:=hcd
   obtain⟨k3,rfl⟩:∃k3,kk=k3+1:=⟨kk-1,by omega⟩
   rw[Yqi (by rw[hmt];exact hcd1) hcd2,SY]at hWk
   obtain⟨hx,hc1,hW1⟩:=Yqu hc hWk
   have hx:(W.map cntV)[c]? =some [celV d,.int .i64 slot]:=by rw[TS,hx];rfl
   repeat'(first|(refine YfG 3 57 rfl rfl rfl ?_)|refine zgd ?_|(refine zgf ?_ ?_<;>intro _<;>try exact zo)|(refine zgh ?_;intro _)|fail)
   first|(rename_i gc _ _;guard_hyp gc:Nat)|(rename_i gc _;guard_hyp gc:Nat)|(rename_i gc _ _ _;guard_hyp gc:Nat)
   rw[show((k3+1:Nat):Int)-1=(k3:Int) by omega]
   apply Yh (R'::blk gc (.cells #[.int .i64 d.1,.int .i64 d.2.1,.int .i64 d.2.2.1,.int .i64 d.2.2.2.1,.int .i64 d.2.2.2.2] 48 (0,0))::sl 48 5 A cs.length cap (cs.flatMap celF)::blk gl (.cells #[.int .i64 lk.1,.int .i64 lk.2.1,.int .i64 lk.2.2] 145 (0,0))::blk g4 (.cells #[.int .i64 (slot+1)] 3 (0,0))::wayB g2 x::blk g5 (.cells #[.int .i64 endd] 3 (0,0))::blk gy (.cells #[.func (.yield l) #[] #[]] 385 (0,0))::many L::blk ga (.cells #[.int .i64 at0] 3 (0,0))::wayB gw x::H)
   ·exact zc0
   have hY:=hy c _ hx [R',blk gc (.cells #[.int .i64 d.1,.int .i64 d.2.1,.int .i64 d.2.2.1,.int .i64 d.2.2.2.1,.int .i64 d.2.2.2.2] 48 (0,0)),sl 48 5 A cs.length cap (cs.flatMap celF),blk gl (.cells #[.int .i64 lk.1,.int .i64 lk.2.1,.int .i64 lk.2.2] 145 (0,0)),blk g4 (.cells #[.int .i64 (slot+1)] 3 (0,0)),wayB g2 x,blk g5 (.cells #[.int .i64 endd] 3 (0,0)),blk gy (.cells #[.func (.yield l) #[] #[]] 385 (0,0))] L hS
   apply Ymt _ _ (hy:=hY)
   ·exact Ybk
   ·exact rfl
   ·exact YqP
   ·exact rfl
   ·exact zc45
   ·exact rfl
   ·rintro _ ⟨L',hS',rfl⟩
    dsimp only[List.cons_append,List.nil_append]
    refine zX2 ?_
    apply hK2 ⟨j+1,k3,slot+1,c+1,L'⟩
    ·exact⟨by show j+1<=_;omega,hc1,hW1,hS',⟨by show at0<=slot+1;omega,by show slot+1<=endd;omega⟩,by show k3<=8;omega⟩
    ·exact zc54
    ·exact zc1
    ·exact zc0
   ·rintro _ ⟨L',hX',rfl⟩
    dsimp only[List.cons_append,List.nil_append]
    refine zX2 ?_
    apply Qd [blk g4 (.cells #[.int .i64 (slot+1)] 3 (0,0)),many L']
    ·exact⟨rfl,slot+1,L',.inr hX',rfl⟩
    ·dsimp only[List.cons_append,List.nil_append]
     exact zc0
  ·rw[Ysg (by rw[hmt];exact hcd)]at hWk
   repeat'(first|refine zgd ?_|(refine zgf ?_ ?_<;>intro _<;>try exact zo)|(refine zgh ?_;intro _)|fail)
   all_goals(
    apply hK2 ⟨j+1,kk,a,c,L⟩
    ·exact⟨by show j+1<=_;omega,hc,hWk,hS,⟨ha0,ha1⟩,hk8⟩
    ·dsimp only;omega
    ·exact zu
    ·exact zk)
 ·rintro D ⟨c,a,L⟩ ⟨hc,hWk,hS,ha0,ha1⟩
  dsimp only at hc hWk hS ha0 ha1
  have hle:(JG x).length=(YB x.n.net x.r).length:=by unfold JG;rw[Tv]
  rw[hle,SA]at hWk
  have hce:=YiY hc hWk
  rw[hce]at hS
  dsimp only[List.cons_append,List.nil_append]
  refine zX9 ?_
  apply Yrg
  apply Zx Yy
  apply VQ_m
  apply Yh (many L::blk ga (.cells #[.int .i64 at0] 3 (0,0))::wayB gw x::H)
  ·exact zc0
  apply ZR;exact rfl
  exact .inl ⟨L,hS,rfl⟩
 ·rintro D _ _ ⟨rfl,a,L,hSL,rfl⟩ _
  dsimp only[List.cons_append,List.nil_append]
  refine zX2 ?_
  apply Zx Yy
  apply VQ_m
  apply Yh (many L::blk ga (.cells #[.int .i64 at0] 3 (0,0))::wayB gw x::H)
  ·exact zc0
  apply ZR;exact rfl
  rcases hSL with h|h
  ·exact .inl ⟨L,h,rfl⟩
  ·exact .inr ⟨L,h,rfl⟩
end Go.Proofs.YtjlgijpmnfabcaaGreatDoor
namespace Go.Eng
open Go.RowKit
variable {B:Nat}{w0:World}{H:List HP}
theorem Yk5{P:Program}{env:Env}{n:Nat}(T:Tab P){fn:Func}{Φ:Value->List HP->Prop}{p g rt:Nat}{v:Value}{cs:Array Value}{tt:TypeId}{fr:Nat×Nat}(hr:fn.results=#[.cell p rt])(hp:get env p=some (.pointer (some ⟨g,0,none⟩)))
 (hm:Eng.blk g (.cells cs tt fr)∈H) (hv:nth cs.toList 0=some v) (ht:Eng.look T.sc rt=some ()) {H2:List HP}(hH:∀w,St B w0 H w->St B w0 H2 w) (h:Φ v H2):VQ ⟨n,[],none⟩ B w0 (bodyPost P fn (Post B w0 Φ)) .ret env H:=by
 refine⟨λa w ha hw=>bodyPost_ret (v:=v) ?_ ha.defers ⟨_,H2,rfl,hH w hw,h⟩⟩
 have hp':=ha.slot p _ hp
 rw[Ygn]at hv
 have hc:=Y9 (i:=0) (hw.blk hm).1
 simp[results,hr,Array.getD_eq_getD_getElem?,hp',asAddr,loadVar,Xv (T.scal ht).1,hc,hv]
end Go.Eng
namespace Go.Proofs.YtjlgijpmnfabcaaGreatDoor
open Go.RowKit Go.Eng Go.Nw
variable {s:Sch}{i B:Nat}
theorem YnZ(hi:i<s.cells.length)(h:∀j∈inI s (Ym s i).1 s.cells.length,j<i->YI (Ym s i) (Ym s j)=false):Z2 s i=false:=by
 unfold Z2
 rw[RY]
 intro j hj
 have hj:=Ru.1 hj
 rw[To,Tq]
 rintro⟨h1,h2⟩
 rw[h j (Og.2 ⟨by omega,h1⟩) hj]at h2
 cases h2
theorem Yn0{j:Nat}(hji:j<i)(hs:(Ym s j).1=(Ym s i).1)(ht:YI (Ym s i) (Ym s j)=true):Z2 s i=true:=by
 unfold Z2
 grind
variable {w0:World}{H:List HP}
theorem YkO(s:SchM)(i:Nat)(hi:i<s.cells.length)(hl:s.cells.length<=1000){w:World}(hr:Rd B w0 H s.A (s.cells.flatMap celF))(hw:St B w0 H w):
 CX B w0 189 [s.val,.int .i64 i] w λv K=>v=.bool (Z2 s.sch i)/\K=H:=by
 refine X5 Tryz.func189 Tryz.ntmps189 rfl rfl hw ?_
 have hget:s.cells[i]? =some (Ym s.sch i):=Y0 (s:=s.sch) hi
 obtain⟨c,hc⟩:∃c,Ym s.sch i=c:=⟨_,rfl⟩
 rw[hc]at hget
 refine zX76 ?_<;>intros
 rename_i gs gi gr gc
 apply Yg _ Yo2
 exact za
 exact rfl
 exactλ_ hw=>(YcY s c.1 (hw))
 rintro _ _ ⟨g1,g2,rfl,rfl⟩
 refine zX7 ?_
 have hr6:Rd B w0 (intB g2 c.1::schB g1 s::blk gc (.cells (celF c).toArray 48 (0,0))::blk gi (.cells #[.int .i64 i] 3 (0,0))::schB gs s::H) s.A (s.cells.flatMap celF):=hr.cons.cons.cons.cons.cons
 refine X7 (gf:=320) (lb:=[.pointer (some ⟨g1,0,none⟩),.pointer (some ⟨g2,0,none⟩)]) (xs:=inXs s.sch c.1) (intB g2 c.1::schB g1 s::blk gc (.cells (celF c).toArray 48 (0,0))::blk gi (.cells #[.int .i64 i] 3 (0,0))::schB gs s::H) (λ_:Unit=>[blk gr (.cells #[.bool false] 4 (0,0))])
  (λk _=>∀m j,m<k->(inI s.sch c.1 s.cells.length)[m]? =some j->j<i->YI c (Ym s.sch j)=false) (λe K=>e=.ret/\Z2 s.sch i=true/\K=[blk gr (.cells #[.bool true] 4 (0,0))]) () rfl Yo5 (YcX s c.1 g1 g2 hr6 (by omega) (.tail _ (.head _)) (.head _)) rfl ?_ (by kernel_rfl) (by kernel_rfl) ?_ (λm j h=>absurd h (RD _)) ?_ ?_ ?_
 ·grind [TN,WM]
 ·exact YtQ
 ·rintro l k args R ⟨⟩ hk hI
  obtain⟨j,hj,hlt,rfl⟩:=WM hk
  have hlt2:j<s.cells.length:=hlt
  dsimp only[Uc,List.cons_append,List.nil_append]
  have hgj:s.cells[j]? =some (Ym s.sch j):=Y0 (s:=s.sch) hlt
  have hjs:(Ym s.sch j).1=c.1:=(Og.1 (Td hj)).2
  obtain⟨d,hd⟩:∃d,Ym s.sch j=d:=⟨_,rfl⟩
  rw[hd]at hgj
  have htc:YI c d=true↔(c.2.2.1=d.2.2.1\/c.2.2.1=d.2.2.2.1\/c.2.2.2.1=d.2.2.1\/c.2.2.2.1=d.2.2.2.1):=by unfold YI Yr toC;rw[Tq]
  refine zX3 ?_
  apply JB Yy
  intro R'
  unfold intB schB
  have hr7:Rd B w0 (R'::blk gr (.cells #[.bool false] 4 (0,0))::intB g2 c.1::schB g1 s::blk gc (.cells (celF c).toArray 48 (0,0))::blk gi (.cells #[.int .i64 i] 3 (0,0))::schB gs s::H) s.A (s.cells.flatMap celF):=hr6.cons.cons
  unfold intB schB at hr7
  clear hr6
  repeat'(first|refine zgd ?_|(refine zgf ?_ ?_<;>intro _<;>try exact zo)|(refine zgh ?_;intro _)|fail)
  all_goals first
   |(refine Qd [blk gr (.cells #[.bool true] 4 (0,0))] ⟨rfl,?_,rfl⟩ ?_
     ·exact Yn0 (j:=j) (by omega) (by rw[hc];exact hjs) (by rw[hc,hd];exact htc.2 (by omega))
     ·dsimp only[List.cons_append,List.nil_append]
      exact zk
     done)
   |(refine VO () ?_ ?_
     ·intro m j2 hm hj2 hji
      rcases SL.1 hm with h|h
      ·exact hI m j2 h hj2 hji
      ·subst h
       obtain rfl:=Tn (hj.symm.trans hj2)
       rw[hd]
       exact Sl.2 λh=>by have:=htc.1 h;omega
     ·dsimp only[List.cons_append,List.nil_append]
      exact zk
     done)
 ·rintro D ⟨⟩ hI
  have htw:Z2 s.sch i=false:=YnZ hi λj hj hji=>by
   rw[hc]at hj⊢
   obtain⟨m,hm⟩:=TN.1 hj
   refine hI m j ?_ hm hji
   rw[inXs,Tv]
   exact(Tc.1 hm).1
  rw[htw]
  dsimp only[List.cons_append,List.nil_append]
  unfold intB schB
  refine zX2 ?_
  apply Zx Yy
  apply VQ_m
  apply Yk5 T (H2:=H);exact rfl;exact rfl;(focus exact zc2);exact rfl;exact rfl;(intro w hw;refine hw.perm ?_;focus exact zc5);exact zc84
 ·rintro D e K ⟨rfl,htw,rfl⟩ hjmp
  rw[htw]
  dsimp only[List.cons_append,List.nil_append]
  unfold intB schB
  refine zX2 ?_
  apply Zx Yy
  apply VQ_m
  apply Yk5 T (H2:=H);exact rfl;exact rfl;(focus exact zc2);exact rfl;exact rfl;(intro w hw;refine hw.perm ?_;focus exact zc5);exact zc84
open Go.RowKit Go.Eng Go.Nw Go.Rt
def rowQ(r:RowM):HP:=ints r.A r.cap r.xs
structure RqM where
 f:Flw
 A:Option Addr
 cap:Nat
 rows:List RowM
def rqF(x:RqM):List Value:=[.int .i64 x.f.1,.int .i64 x.f.2.1,.int .i64 x.f.2.2.1,.int .i64 x.f.2.2.2.1,.int .i64 x.f.2.2.2.2.1,.int .i64 x.f.2.2.2.2.2,.slice x.A x.rows.length x.cap]
def rqV(x:RqM):Value:=.agg #[.int .i64 x.f.1,.int .i64 x.f.2.1,.int .i64 x.f.2.2.1,.int .i64 x.f.2.2.2.1,.int .i64 x.f.2.2.2.2.1,.int .i64 x.f.2.2.2.2.2,.slice x.A x.rows.length x.cap]
def RqM.rq(x:RqM):Rqs:=(x.f,x.rows.map (·.xs))
abbrev netA(g:Nat)(n:NetM):HP:=blk g (.cells #[.int .i64 n.nodes,.slice n.pA n.rows.length n.pcap,.int .i64 n.noise,.int .i64 n.thr,.slice n.lA n.links.length n.lcap,.slice n.mA n.margin.length n.mcap] 26 (0,0))
abbrev schA(g:Nat)(s:SchM):HP:=blk g (.cells #[.int .i64 s.len,.int .i64 s.off,.slice s.A s.cells.length s.cap] 30 (0,0))
abbrev rqA(g:Nat)(x:RqM):HP:=blk g (.cells #[.int .i64 x.f.1,.int .i64 x.f.2.1,.int .i64 x.f.2.2.1,.int .i64 x.f.2.2.2.1,.int .i64 x.f.2.2.2.2.1,.int .i64 x.f.2.2.2.2.2,.slice x.A x.rows.length x.cap] 69 (0,0))
structure RqM.In(B:Nat)(w0:World)(H:List HP)(x:RqM):Prop where
 rt:Rd B w0 H x.A (x.rows.flatMap rowF)
 rw_:∀r∈x.rows,Rd B w0 H r.A (r.xs.flatMap numF)
 ln:x.rows.length<=1000000000000
 rl:∀r∈x.rows,r.xs.length<=1000000000000/\r.xs.length<=r.cap
variable {B:Nat}{w0:World}{H H':List HP}{x:RqM}
theorem RqM.In.mono(h:x.In B w0 H)(hH:∀w,St B w0 H' w->St B w0 H w):x.In B w0 H':=⟨h.rt.mono hH,λr hr=>(h.rw_ r hr).mono hH,h.ln,h.rl⟩
variable {X:HP}
theorem RqM.In.cons(h:x.In B w0 H):x.In B w0 (X::H):=h.mono λ_ hw=>hw.tail
structure QIn(B:Nat)(w0:World)(H:List HP)(A:Option Addr)(q:List RqM):Prop where
 rd:Rd B w0 H A (q.flatMap rqF)
 x:∀x∈q,x.In B w0 H
 ln:q.length<=1000000000000
variable {A:Option Addr}{q:List RqM}
theorem QIn.mono(h:QIn B w0 H A q)(hH:∀w,St B w0 H' w->St B w0 H w):QIn B w0 H' A q:=⟨h.rd.mono hH,λx hx=>(h.x x hx).mono hH,h.ln⟩
theorem QIn.cons(h:QIn B w0 H A q):QIn B w0 (X::H) A q:=h.mono λ_ hw=>hw.tail
structure ClM where
 flow:Int
 rA:Option Addr
 rcap:Nat
 rs:List RowM
 bA:Option Addr
 bcap:Nat
 bs:List Int
 wA:Option Addr
 wcap:Nat
 ws:List Int
 sA:Option Addr
 scap:Nat
 ss:List RowM
def clF(c:ClM):List Value:=[.int .i64 c.flow,.slice c.rA c.rs.length c.rcap,.slice c.bA c.bs.length c.bcap,.slice c.wA c.ws.length c.wcap,.slice c.sA c.ss.length c.scap]
def clV(c:ClM):Value:=.agg #[.int .i64 c.flow,.slice c.rA c.rs.length c.rcap,.slice c.bA c.bs.length c.bcap,.slice c.wA c.ws.length c.wcap,.slice c.sA c.ss.length c.scap]
def ClM.clm(c:ClM):Clm:=⟨c.flow,c.rs.map (·.xs),c.bs,c.ws,c.ss.map (·.xs)⟩
structure ClM.In(B:Nat)(w0:World)(H:List HP)(c:ClM):Prop where
 rt:Rd B w0 H c.rA (c.rs.flatMap rowF)
 rw_:∀r∈c.rs,Rd B w0 H r.A (r.xs.flatMap numF)
 bd:Rd B w0 H c.bA (c.bs.flatMap numF)
 ws:Rd B w0 H c.wA (c.ws.flatMap numF)
 st:Rd B w0 H c.sA (c.ss.flatMap rowF)
 sw:∀r∈c.ss,Rd B w0 H r.A (r.xs.flatMap numF)
 ln:c.rs.length<=1000000000000/\c.bs.length<=1000000000000/\c.ws.length<=1000000000000/\c.ss.length<=1000000000000
 rl:∀r∈c.rs,r.xs.length<=1000000000000
 sl:∀r∈c.ss,r.xs.length<=1000000000000
variable {c:ClM}
theorem ClM.In.mono(h:c.In B w0 H)(hH:∀w,St B w0 H' w->St B w0 H w):c.In B w0 H':=
 ⟨h.rt.mono hH,λr hr=>(h.rw_ r hr).mono hH,h.bd.mono hH,h.ws.mono hH,h.st.mono hH,λr hr=>(h.sw r hr).mono hH,h.ln,h.rl,h.sl⟩
theorem ClM.In.cons(h:c.In B w0 H):c.In B w0 (X::H):=h.mono λ_ hw=>hw.tail
structure CIn(B:Nat)(w0:World)(H:List HP)(A:Option Addr)(c:List ClM):Prop where
 rd:Rd B w0 H A (c.flatMap clF)
 x:∀x∈c,x.In B w0 H
 ln:c.length<=1000000000000
theorem CIn.mono{c:List ClM}(h:CIn B w0 H A c)(hH:∀w,St B w0 H' w->St B w0 H w):CIn B w0 H' A c:=⟨h.rd.mono hH,λx hx=>(h.x x hx).mono hH,h.ln⟩
theorem CIn.cons{c:List ClM}(h:CIn B w0 H A c):CIn B w0 (X::H) A c:=h.mono λ_ hw=>hw.tail
def clP(c:ClM):List HP:=[sl 104 1 c.rA c.rs.length c.rcap (c.rs.flatMap rowF),many (c.rs.map rowQ),nrs c.bA c.bcap c.bs,nrs c.wA c.wcap c.ws,sl 24 1 c.sA c.ss.length c.scap (c.ss.flatMap rowF),many (c.ss.map rowQ)]
def clQ(c:ClM):HP:=many (clP c)
def nilC(f:Int):ClM:=⟨f,none,0,[],none,0,[],none,0,[],none,0,[]⟩
theorem Yu2(hm:clQ c∈H)(hl:(c.rs.length<=1000000000000/\c.bs.length<=1000000000000/\c.ws.length<=1000000000000/\c.ss.length<=1000000000000)/\(∀r∈c.rs,r.xs.length<=1000000000000)/\∀r∈c.ss,r.xs.length<=1000000000000):c.In B w0 H:=by
 have hb:∀w,St B w0 H w->St B w0 (clP c) w:=λw hw=>hw.inM hm
 refine ClM.In.mono (H:=clP c) ?_ hb
 refine⟨.sl (.head _),λr hr=>?_,.sl (.tail _ (.tail _ (.head _))),.sl (.tail _ (.tail _ (.tail _ (.head _)))),.sl (.tail _ (.tail _ (.tail _ (.tail _ (.head _))))),λr hr=>?_,hl.1,hl.2.1,hl.2.2⟩
 ·exact Rd.many (L:=c.rs.map rowQ) (.tail _ (.head _)) (RA hr)
 ·exact Rd.many (L:=c.ss.map rowQ) (.tail _ (.tail _ (.tail _ (.tail _ (.tail _ (.head _)))))) (RA hr)
theorem Yir{w:World}(f:Int)(h:St B w0 H w):St B w0 (clQ (nilC f)::H) w:=by
 have h1:=(h.perm (.noMany H)).nilSlice 24 1
 have h2:=(((h1.nilSlice 3 1).nilSlice 3 1).perm (.noMany _)).nilSlice 104 1
 exact h2.perm (.close [_,_,_,_,_,_] H)
end Go.Proofs.YtjlgijpmnfabcaaGreatDoor
