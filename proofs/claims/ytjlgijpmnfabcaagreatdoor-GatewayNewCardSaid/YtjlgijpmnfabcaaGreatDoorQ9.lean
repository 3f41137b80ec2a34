/- Lemmas. -/
import Derived.Lib.AtoiAllCases
import Derived.Test.YtjlgijpmnfabcaaGreatDoorQ7
import Derived.Test.YtjlgijpmnfabcaaGreatDoorQ8
set_option maxRecDepth 100000
set_option maxHeartbeats 8000000
set_option linter.all false
namespace Go.Proofs.YtjlgijpmnfabcaaGreatDoor
open Go.RowKit Go.Eng Go.Nw
theorem Vx{f:Nat->Int}:∀{r i:Nat},(YC f r i).2≠0->∃k,i<=k/\k<i+r/\(YC f r i).2=f k/\f k≠0
 |0,i,h=>absurd rfl h
 |r+1,i,h=>by
  unfold YC at h⊢
  split at h
  ·rename_i h0
   rw[Tm h0]
   obtain⟨k,h1,h2,h3,h4⟩:=Vx h
   grind
  grind
def Yno(n:Net)(l:List Flw)(s:Sch):Prop:=∀c∈s.cells,YX n (YM c) (toC c)=true/\0<=Zv l (Zw c)
def Ynp(s:Sch):Prop:=s.cells.Pairwise λa b=>a.1=b.1->YE a b=false
def Yi3(n:Net)(s:Sch):Prop:=∀c∈s.cells,Vt n s.cells c=true
theorem Ypj(s:Sch)(k:Nat):repC s (k+1)=repC s k++s.cells.map (movC ((k:Int)*s.len)):=by
 grind [repC,RI]
variable {s t:Sch}{k i j:Nat}
theorem YbA{x:Cel}:x∈repC s k↔∃i,i<k/\∃c∈s.cells,x=movC ((i:Int)*s.len) c:=by
 unfold repC
 grind
theorem Yh3{L:Int}(hL:0<=L)(h:i<j):(i:Int)*L+L<=(j:Int)*L:=by
 have h1:((i:Int)+1)*L<=(j:Int)*L:=Sv (by omega) hL
 grind
variable {c:Cel}
theorem Yly(hf:Frm s)(hc:c∈s.cells):0<=c.1/\c.1<s.len:=by
 have:=hf.formed c hc
 simp_all [XC,XE,insE]
theorem Yfm(hf:Frm s){d:Cel}(hc:c∈s.cells)(hd:d∈s.cells)(h:c.1+(i:Int)*s.len=d.1+(j:Int)*s.len):i=j/\c.1=d.1:=by
 have h1:=Yly hf hc
 have h2:=Yly hf hd
 rcases SJ i j with h3|h3|h3
 ·have:=Yh3 (L:=s.len) (by omega) h3;omega
 ·simp_all
 ·have:=Yh3 (L:=s.len) (by omega) h3;omega
structure Rep(s t:Sch)(k:Nat):Prop where
 k1:1<=k
 frm:Frm s
 len:t.len=s.len*k
 off:t.off=s.off
 cells:t.cells=repC s k
 l512:s.len*k<=512
 c512:s.cells.length*k<=512
theorem Yc3{s:Sch}{p q:Cel->Bool}{j0:Nat}(hq:∀d∈s.cells,p (movC ((j0:Int)*s.len) d)=q d):∀{m:Nat},(∀j,j<m->j≠j0->∀d∈s.cells,p (movC ((j:Int)*s.len) d)=false)->(repC s m).filter p=if j0<m then(s.cells.filter q).map (movC ((j0:Int)*s.len))else []
 |0,_=>by simp[repC]
 |m+1,h=>by
  rw[Ypj,Su,Yc3 hq λj hj=>h j (by omega),List.filter_map]
  by_cases e:m=j0
  ·simp_all [List.filter_congr]
  ·have hz:s.cells.filter (p∘movC ((m:Int)*s.len))=[]:=by
    simp_all
   grind
theorem Yrq(n:Net)(node d:Int)(l:List Cel):sumC n node (l.map (movC d))=sumC n node l:=by
 unfold sumC
 rw[SV]
 rfl
theorem Rep.dist(h:Rep s t k)(n:Net)(hi:i<k)(hc:c∈s.cells)(node:Int):Um n t.cells (movC ((i:Int)*s.len) c) node=Um n s.cells c node:=by
 unfold Um
 rw[h.cells,Yc3 (j0:=i) (q:=λd=>Xb c d&&decide (d≠c)),Tm hi,Yrq]
 ·intro d hd
  have h2:(movC ((i:Int)*s.len) d≠movC ((i:Int)*s.len) c)↔d≠c:=by
   grind [movC]
  simp_all [Xb,movC]
 ·intro j hj hne d hd
  have:Xb (movC ((i:Int)*s.len) c) (movC ((j:Int)*s.len) d)=false:=by
   refine Tj ?_
   rintro⟨h3,_⟩
   exact hne (Yfm h.frm hd hc h3).1
  simp_all
theorem Rep.good(h:Rep s t k)(n:Net)(l:List Flw):Yno n l t↔Yno n l s:=by
 unfold Yno
 rw[h.cells]
 constructor
 ·intro hg c hc
  exact hg (movC (((0:Nat):Int)*s.len) c) (YbA.2 ⟨0,h.k1,c,hc,rfl⟩)
 ·intro hg x hx
  obtain⟨i,_,c,hc,rfl⟩:=YbA.1 hx
  exact hg c hc
theorem Rep.once(h:Rep s t k):Ynp t↔Ynp s:=by
 unfold Ynp
 rw[h.cells]
 unfold repC
 rw[List.pairwise_flatMap]
 constructor
 ·rintro⟨h1,_⟩
  have:=h1 0 (Ro.2 h.k1)
  rw[List.pairwise_map]at this
  exact this.imp λ{a b} hab e=>hab (by grind [movC])
 ·intro ho
  refine⟨λi _=>?_,?_⟩
  ·rw[List.pairwise_map]
   exact ho.imp λ{a b} hab e=>hab (by grind [movC])
  ·refine List.pairwise_lt_range.imp λ{i j} hij x hx y hy e=>?_
   obtain⟨a,ha,rfl⟩:=TI.1 hx
   obtain⟨b,hb,rfl⟩:=TI.1 hy
   have:=(Yfm h.frm ha hb e).1
   omega
theorem Rep.clear(h:Rep s t k)(n:Net):Yi3 n t↔Yi3 n s:=by
 have hc:∀i,i<k->∀c∈s.cells,Vt n t.cells (movC ((i:Int)*s.len) c)=Vt n s.cells c:=λi hi c hc=>by
  unfold Vt
  have e1:YM (movC ((i:Int)*s.len) c)=YM c:=rfl
  have e2:toC (movC ((i:Int)*s.len) c)=toC c:=rfl
  rw[e1,e2,h.dist n hi hc,h.dist n hi hc]
 unfold Yi3
 constructor
 ·intro hg c hcm
  rw[<-hc 0 h.k1 c hcm]
  exact hg _ (by rw[h.cells];exact YbA.2 ⟨0,h.k1,c,hcm,rfl⟩)
 ·intro hg x hx
  rw[h.cells]at hx
  grind [YbA]
open Go.RowKit Go.Eng Go.Nw Go.Rt
variable {l:List Int}{A:Option Addr}{cap B k:Nat}{w0:World}{H:List HP}
theorem YvW(k:Nat)(hr:Rd B w0 H A (l.flatMap numF))(hc:l.length<=cap):Rd B w0 H (subA A 0 cap 1) ((l.take k).flatMap numF):=by
 have h:=Rd.sub (f:=numF) (q:=1) (o:=0) (k:=k) (λ_=>rfl) hr hc
 simp_all
theorem YsM(o:Nat)(hr:Rd B w0 H A (l.flatMap numF))(hc:l.length<=cap):Rd B w0 H (subA A o cap 1) ((l.drop o).flatMap numF):=by
 have h:=Rd.sub (f:=numF) (q:=1) (o:=o) (k:=(l.drop o).length) (λ_=>rfl) hr hc
 grind
variable {p:Nat->Bool}
theorem Oc(h:(List.range k).any p=false)(h2:p k=false):(List.range (k+1)).any p=false:=by
 grind
theorem Qn{n:Nat}(hk:k<n)(h:p k=true):(List.range n).any p=true:=by grind
theorem Ycq(n:NetM)(s t:Int)(r:List Int){w:World}(hin:n.In B w0 H)(hck:Ym n.net=0)(hr:Rd B w0 H A (r.flatMap numF))(hlen:r.length<=9223372036854775807)(hcap:r.length<=cap)(hw:St B w0 H w):
 CX B w0 184 [n.val,.int .i64 s,.int .i64 t,.slice A r.length cap] w λv K=>v=.int .i64 (Jj n.net s t r)/\K=H:=by
 refine Yc Tryz.func184 Tryz.ntmps184 rfl rfl hw ?_
 (apply Y0;apply YL;apply Yy;exact rfl;exact rfl;intro g)
 have hnm:netB g n∈netB g n::H:=TM
 unfold Jj
 by_cases h1:r.length<2
 ·rw[Tm h1]
  refine zX0 ?_<;>intros
  exact zc21
 rw[Tf h1]
 by_cases h2:9<r.length
 ·rw[Tm h2]
  refine zX24 ?_<;>intros
  exact zc21
 rw[Tf h2]
 have hoff:=λ{w:World}(hw:St B w0 (netB g n::H) w)=>Qr (λa:Int=>Value.int .i64 a) (offE n.net) r 278 [.pointer (some ⟨g,0,none⟩)] Yve hlen (cap:=cap) (hr.cons) (λa _ w hw=>Yhn n a g hnm hw) hw
 obtain⟨b3,h3⟩:∃b,r.any (offE n.net)=b:=⟨_,rfl⟩
 rw[h3]at hoff⊢
 cases b3 with
 |true=>
  rw[Tm rfl]
  refine zX49 ?_<;>intros
  exact zc21
 |false=>
  rw[Tf (by decide)]
  have hg0:=Xd (l:=r) (i:=0) (by omega)
  have hg1:=Xd (l:=r) (i:=r.length-1) (by omega)
  have hgi:((r.length:Int)-1).toNat=r.length-1:=by omega
  rw[<-hgi]at hg1
  by_cases h4:r.getD 0 0≠s\/r.getD (r.length-1) 0≠t
  ·rw[Tm h4]
   rw[<-hgi]at h4
   repeat'(first|((first|apply Ya Yk5|apply Yb Yk5);exact za;exact rfl;exactλ_ hw=>(hoff hw))|(apply zg29;(apply Ys;exact za;exact rfl))|refine zgd ?_|(refine zgf ?_ ?_<;>intro _<;>try exact zo)|fail)
   all_goals first
    |((repeat apply Yk);apply Yd;exact rfl;exact rfl;exact⟨rfl,rfl⟩)
    |skip
   done
  rw[Tf h4]
  rw[<-hgi]at h4
  refine zX49 ?_<;>intros
  refine Yf (λ(k:Nat)=>[(43,.int .i64 k),(42,.int .i64 r.length),(41,.slice A r.length cap),(3,.slice A r.length cap),(4,.pointer (some ⟨g,0,none⟩))]) (λ_=>netB g n::H) (λk=>k<=r.length/\((List.range k).any λi=>(r.take i).contains (r.getD i 0))=false) (λk=>r.length-k) 0 ⟨Tc _,rfl⟩ ?_ (λw hw=>hw) ?_
  ·exact zc1
  rintro k ⟨hk,hi⟩ K hK
  by_cases hlt:k<r.length
  ·have hgk:=Xd (l:=r) (i:=k) hlt
   obtain⟨b,hb⟩:∃b,(r.take k).contains (r.getD k 0)=b:=⟨_,rfl⟩
   have hbm:decide (r.getD k 0∈r.take k)=b:=by rw[<-hb];simp
   have hcon:=λ{w:World}(hw:St B w0 (netB g n::H) w)=>Ji (r.take k) (r.getD k 0) Ydx (cap:=cap) (YvW k (hr.cons (X:=netB g n)) hcap) hw
   rw[hbm]at hcon
   cases b with
   |true=>
    refine zX50 ?_<;>intros
    (repeat apply Yk);apply Yd;exact rfl;exact rfl
    have htw:W8 r=true:=Qn hlt hb
    exact⟨by rw[Tm htw],rfl⟩
   |false=>
    refine zX50 ?_<;>intros
    apply hK (k+1)
    ·exact⟨by omega,Oc hi hb⟩
    ·omega
    ·exact zc1
    exact zc20
  obtain rfl:k=r.length:=by omega
  clear hK
  have htw:W8 r=false:=hi
  rw[Tf (by rw[htw];decide)]
  have hdl:(r.drop 1).length=r.length-1:=Rh
  repeat'(first|(apply JV T (n':=(r.drop 1).length);(iterate 4 exact rfl);omega;(rw[hdl];rfl))|refine zgc ?_|(refine zge ?_ ?_<;>intro _<;>try exact zo)|fail)
  refine Yf (λ(k:Nat)=>[(57,.int .i64 k),(56,.int .i64 (r.drop 1).length),(55,.slice (subA A 1 cap 1) (r.drop 1).length (cap-1)),(3,.slice A r.length cap),(4,.pointer (some ⟨g,0,none⟩))]) (λ_=>netB g n::H) (λk=>k<=(r.drop 1).length/\((List.range k).any λi=>!YX n.net (r.getD i 0) (r.getD (i+1) 0))=false) (λk=>(r.drop 1).length-k) 0 ⟨Tc _,rfl⟩ ?_ (λw hw=>hw) ?_
  ·exact zc1
  rintro k ⟨hk,hi⟩ K hK
  have hr1:Rd B w0 (netB g n::H) (subA A 1 cap 1) ((r.drop 1).flatMap numF):=YsM 1 (hr.cons) hcap
  have hr0:Rd B w0 (netB g n::H) A (r.flatMap numF):=hr.cons
  by_cases hlt:k<(r.drop 1).length
  ·have hgk:=Xd (l:=r) (i:=k) (by omega)
   have hgk1:(r.drop 1)[k]? =some (r.getD (k+1) 0):=by
    rw[Ss,Nat.add_comm];exact Xd (by omega)
   obtain⟨b,hb⟩:∃b,YX n.net (r.getD k 0) (r.getD (k+1) 0)=b:=⟨_,rfl⟩
   have hus:=λ{w:World}(hw:St B w0 (netB g n::H) w)=>VK n (Zb n.net (r.getD k 0) (r.getD (k+1) 0)) (hin.cons (X:=netB g n)) hw
   rw[Ygy hck,hb]at hus
   cases b with
   |true=>
    refine zX52 ?_<;>intros
    apply hK (k+1)
    ·exact⟨by omega,Oc hi (by rw[hb];rfl)⟩
    ·omega
    ·exact zc1
    exact zc20
   |false=>
    refine zX52 ?_<;>intros
    (repeat apply Yk);apply Yd;exact rfl;exact rfl
    have hbr:JS n.net r=true:=Qn (k:=k) (by omega) (by rw[hb];rfl)
    exact⟨by rw[Tm hbr],rfl⟩
  ·obtain rfl:k=(r.drop 1).length:=by omega
   clear hK
   refine zX1 ?_<;>intros
   (repeat apply Yk);apply Yd;exact rfl;exact rfl
   have hbr:JS n.net r=false:=by rw[hdl]at hi;exact hi
   exact⟨by rw[Tf (by rw[hbr];decide)],rfl⟩
open Go.ChangeShapes Go.WideShapes Go.ChangeAt Go.RowKit Go.Eng Go.Nw
open Go.ChangeMaps (open_string)
def flwF(f:Flw):List Value:=[.int .i64 f.1,.int .i64 f.2.1,.int .i64 f.2.2.1,.int .i64 f.2.2.2.1,.int .i64 f.2.2.2.2.1,.int .i64 f.2.2.2.2.2]
section
variable {H:Type}{enc:TypeId×Value->H}{W:World}{spare:Nat->Bool}{held:Bool}
abbrev CelG(c:Cel):Prop:=I64 c.1/\I64 c.2.1/\I64 c.2.2.1/\I64 c.2.2.2.1/\I64 c.2.2.2.2
abbrev FlwG(f:Flw):Prop:=I64 f.1/\I64 f.2.1/\I64 f.2.2.1/\I64 f.2.2.2.1/\I64 f.2.2.2.2.1/\I64 f.2.2.2.2.2
theorem Yq6:Opn enc Tryz.prog W spare held 48 celF CelG:=
 JL (Zd (ts:=[3,3,3,3,3]) (by kernel_rfl) (Yt op_i (Yt op_i (Yt op_i (Yt op_i (Yt op_i Jl)))))) (λx=>(x.1,x.2.1,x.2.2.1,x.2.2.2.1,x.2.2.2.2.1)) (λ_=>rfl) (λ_ h=>⟨h.1,h.2.1,h.2.2.1,h.2.2.2.1,h.2.2.2.2.1⟩)
theorem Yo5:Opn enc Tryz.prog W spare held 28 (λs:SlM Cel=>[s.val]) (SlG W celF CelG):=Zn (q:=5) Tryz.underlying28 (by kernel_rfl) (by decide) Yq6
theorem Yq7:Opn enc Tryz.prog W spare held 66 flwF FlwG:=
 JL (Zd (ts:=[3,3,3,3,3,3]) (by kernel_rfl) (Yt op_i (Yt op_i (Yt op_i (Yt op_i (Yt op_i (Yt op_i Jl))))))) (λx=>(x.1,x.2.1,x.2.2.1,x.2.2.2.1,x.2.2.2.2.1,x.2.2.2.2.2.1)) (λ_=>rfl) (λ_ h=>⟨h.1,h.2.1,h.2.2.1,h.2.2.2.1,h.2.2.2.2.1,h.2.2.2.2.2.1⟩)
structure SchG(W:World)(s:SchM):Prop where
 len:I64 s.len
 off:I64 s.off
 old:Old W s.A (s.cells.flatMap celF)
 few:s.cells.length<=9223372036854775807
 good:∀c∈s.cells,CelG c
 cap:s.cells.length<=s.cap
def schF(s:SchM):List Value:=[.int .i64 s.len,.int .i64 s.off,.slice s.A s.cells.length s.cap]
theorem Yue:Opn enc Tryz.prog W spare held 30 schF (SchG W):=
 JL (Zd (ts:=[3,3,28]) (by kernel_rfl) (Yt op_i (Yt op_i (Yt Yo5 Jl))))
  (λx=>⟨x.1,x.2.1,x.2.2.1.A,x.2.2.1.cap,x.2.2.1.xs⟩) (λx=>by simp[schF,numF,SlM.val])
  (λx h=>by
   obtain⟨h1,h2,h3,_⟩:=h
   exact⟨h1,h2,h3.old,T0 h3.len maxL,h3.good,h3.cap⟩)
end
abbrev nrs(A:Option Addr)(cap:Nat)(l:List Int):HP:=sl 3 1 A l.length cap (l.flatMap numF)
theorem J0(A:Option Addr)(cap:Nat)(l:List Int)(z:Int):sl 3 1 A (l.length+1) cap (l.flatMap numF++#[Value.int .i64 z].toList)=nrs A cap (l++[z]):=by simp_all [nrs,numF]
def Zy(n:Net)(l:List Cel)(i:Nat):Bool:=
 !(JQ n (Zb n (YM (celL l i)) (toC (celL l i))))||((List.range l.length).any λk=>decide (k≠i)&&YE (celL l i) (celL l k))
   ||(!(Zh n (mar n (Yu n (YM (celL l i)) (toC (celL l i))).toNat) (Yz n l i (toC (celL l i)) l.length))||!(Zh n (mar n (Yu n (toC (celL l i)) (YM (celL l i))).toNat) (Yz n l i (YM (celL l i)) l.length)))
def Jm(n:Net)(l:List Cel):Bool:=decide (Ym n=0)&&(List.range l.length).all λi=>!(Zy n l i)
def atP(slot off:Int)(c:Cel):Bool:=decide (c.1=slot/\c.2.1=off)
end Go.Proofs.YtjlgijpmnfabcaaGreatDoor
namespace Go.Eng
open Go.RowKit
end Go.Eng
namespace Go.Proofs.YtjlgijpmnfabcaaGreatDoor
open Go.RowKit Go.Eng Go.Nw
theorem Xa{f:Nat->Int}:∀{r i0 i:Nat},(∀k,i0<=k->k<i->f k=0)->i0<=i->i<i0+r->f i≠0->YC f r i0=((i:Int),f i)
 |0,i0,i,_,h1,h2,_=>by omega
 |r+1,i0,i,h0,h1,h2,h3=>by
  unfold YC
  by_cases e:i0=i
  ·simp_all
  ·rw[Tm (h0 i0 (TQ _) (by omega))]
   exact Xa (λk hk1 hk2=>h0 k (by omega) hk2) (by omega) (by omega) h3
theorem Xj{f:Nat->Int}{r i0:Nat}(h:∀k,i0<=k->k<i0+r->f k=0):YC f r i0=(-1,0):=by
 grind [YF,Ycv]
open Go.RowKit Go.Eng Go.Nw Go.Rt
def onP(id a b:Int)(c:Cel):Bool:=decide (Zw c=id/\YM c=a/\toC c=b)
def VB(s:Sch)(id:Int)(l:Lk):List Cel:=s.cells.filter (onP id l.1 l.2.1)
def XB(len a:Int):List Cel->Nat->List (Cel×Int)
 |[],_=>[]
 |c::cs,k=>if c.1=a.tmod len/\k≠0 then(c,a)::XB len a cs (k-1)else XB len a cs k
def hopP(len:Int)(cs:List Cel):Nat->Nat->Int->List (Cel×Int)
 |0,_,_=>[]
 |f+1,k,a=>XB len a cs k++hopP len cs f (k-(XB len a cs k).length) (a+1)
def JD(x:List (Cel×Int))(a:Int):Int:=match x.getLast? with|some z=>z.2+1|none=>a
def Y6(l:Lk):Nat:=(l.2.2+1).toNat
def runP(len:Int)(C:Lk->List Cel)(endd:Int):List Lk->Int->List (Cel×Int)
 |[],_=>[]
 |l::ls,a=>if(hopP len (C l) (endd-a).toNat (Y6 l) a).length<Y6 l then hopP len (C l) (endd-a).toNat (Y6 l) a
  else hopP len (C l) (endd-a).toNat (Y6 l) a++runP len C endd ls (JD (hopP len (C l) (endd-a).toNat (Y6 l) a) a)
def ZP(ls:List Lk):Nat:=(ls.map Y6).sum
theorem Ydj(len a:Int):∀(cs:List Cel) (k:Nat),(XB len a cs k).length<=k
 |[],k=>Tc _
 |c::cs,k=>by
  unfold XB
  split
  ·have:=Ydj len a cs (k-1)
   grind
  ·exact Ydj len a cs k
theorem QY{len a:Int}:∀{cs:List Cel}{k:Nat}{z:Cel×Int},z∈XB len a cs k->z.2=a
 |[],k,z,h=>by cases h
 |c::cs,k,z,h=>by
  unfold XB at h
  split at h
  ·rcases RA.1 h with rfl|h
   ·rfl
   ·exact QY h
  ·exact QY h
theorem Oh(len:Int)(cs:List Cel):∀(f k:Nat) (a:Int),(hopP len cs f k a).length<=k
 |0,k,a=>Tc _
 |f+1,k,a=>by
  unfold hopP
  have h1:=Ydj len a cs k
  have h2:=Oh len cs f (k-(XB len a cs k).length) (a+1)
  grind
theorem YhG(len:Int)(cs:List Cel)(f:Nat)(a:Int):hopP len cs f 0 a=[]:=List.eq_nil_of_length_eq_zero (Nat.le_zero.1 (Oh len cs f 0 a))
theorem YfY{len:Int}{cs:List Cel}:∀{f k:Nat}{a:Int}{z:Cel×Int},z∈hopP len cs f k a->a<=z.2/\z.2<a+f
 |0,k,a,z,h=>by cases h
 |f+1,k,a,z,h=>by
  rcases Re.1 h with h|h
  ·grind [QY]
  ·have:=YfY h;omega
theorem YbB(len:Int)(C:Lk->List Cel)(endd:Int):∀(ls:List Lk) (a:Int),(runP len C endd ls a).length<=ZP ls
 |[],a=>Tc _
 |l::ls,a=>by
  have h1:=Oh len (C l) (endd-a).toNat (Y6 l) a
  have h2:=YbB len C endd ls (JD (hopP len (C l) (endd-a).toNat (Y6 l) a) a)
  grind [ZP,runP]
variable {x:List (Cel×Int)}{a b endd:Int}
theorem Yg0(h:∀z∈x,a<=z.2/\z.2<b)(hab:a<=b):a<=JD x a/\JD x a<=b:=by
 unfold JD
 grind
theorem YbC{len:Int}{C:Lk->List Cel}{endd:Int}:∀{ls:List Lk}{a:Int}{z:Cel×Int},a<=endd->z∈runP len C endd ls a->a<=z.2/\z.2<endd
 |[],a,z,_,h=>by cases h
 |l::ls,a,z,hae,h=>by
  have hb:∀z∈hopP len (C l) (endd-a).toNat (Y6 l) a,a<=z.2/\z.2<endd:=λz hz=>by
   have:=YfY hz;omega
  unfold runP at h
  split at h
  ·grind
  ·rcases Re.1 h with h|h
   ·grind
   ·have h1:=Yg0 hb hae
    have:=YbC h1.2 h
    omega
def Ws(len:Int)(C:Lk->List Cel)(endd:Int)(cs:List Cel)(ls:List Lk)(f k:Nat)(a at_:Int):List (Cel×Int):=
 if(hopP len cs f k a).length<k then hopP len cs f k a else hopP len cs f k a++runP len C endd ls (JD (hopP len cs f k a) at_)
theorem Ypr(len:Int)(C:Lk->List Cel)(endd:Int)(l:Lk)(ls:List Lk)(a:Int):runP len C endd (l::ls) a=Ws len C endd (C l) ls (endd-a).toNat (Y6 l) a a:=rfl
theorem Yng(len:Int)(C:Lk->List Cel)(endd:Int)(cs:List Cel)(ls:List Lk)(f:Nat)(a at_:Int):Ws len C endd cs ls f 0 a at_=runP len C endd ls at_:=by
 unfold Ws
 rw[YhG,Tf (Rj _)]
 rfl
variable {C:Lk->List Cel}{cs cs':List Cel}{ls:List Lk}{k f:Nat}
theorem Ypy{len:Int}{at_:Int}(hk:k≠0):Ws len C endd cs ls 0 k a at_=[]:=by
 unfold Ws
 rw[Tm (by grind [hopP])]
 rfl
theorem Yl3{y:List (Cel×Int)}(hy:∀z∈y,z.2+1=b):JD (y++x) a=JD x (if y=[]then a else b):=by
 unfold JD
 cases hx:x.getLast? with
 |some z=>simp_all
 |none=>
  cases hy2:y.getLast? with
  |none=>
   simp_all
  |some z=>
   grind
theorem Ynh(len:Int)(C:Lk->List Cel)(endd:Int)(cs:List Cel)(ls:List Lk)(f k:Nat)(a at_:Int):
 Ws len C endd cs ls (f+1) k a at_=XB len a cs k++Ws len C endd cs ls f (k-(XB len a cs k).length) (a+1) (if XB len a cs k=[]then at_ else a+1):=by
 have h1:hopP len cs (f+1) k a=XB len a cs k++hopP len cs f (k-(XB len a cs k).length) (a+1):=rfl
 unfold Ws
 rw[h1,Tq]
 by_cases h2:(hopP len cs f (k-(XB len a cs k).length) (a+1)).length<k-(XB len a cs k).length
 ·grind
 ·rw[Tf h2,Tf (by omega),Yl3 (b:=a+1) (λz hz=>by rw[QY hz]),Rq]
def OP(len:Int)(C:Lk->List Cel)(endd:Int)(cs cs':List Cel)(ls:List Lk)(f k:Nat)(a at_:Int):List (Cel×Int):=
 XB len a cs' k++Ws len C endd cs ls f (k-(XB len a cs' k).length) (a+1) (if XB len a cs' k=[]then at_ else a+1)
theorem Ypl(len:Int)(C:Lk->List Cel)(endd:Int)(cs:List Cel)(ls:List Lk)(f k:Nat)(a at_:Int):OP len C endd cs cs ls f k a at_=Ws len C endd cs ls (f+1) k a at_:=(Ynh ..).symm
theorem Ypm(len:Int)(C:Lk->List Cel)(endd:Int)(cs:List Cel)(ls:List Lk)(f k:Nat)(a at_:Int):OP len C endd cs [] ls f k a at_=Ws len C endd cs ls f k (a+1) at_:=by
 simp[OP,XB]
variable {c:Cel}
theorem Ypn{len:Int}{at_:Int}(h:c.1=a.tmod len)(hk:k≠0):
 OP len C endd cs (c::cs') ls f k a at_=(c,a)::OP len C endd cs cs' ls f (k-1) a (a+1):=by
 have h1:XB len a (c::cs') k=(c,a)::XB len a cs' (k-1):=by rw[XB,Tm ⟨h,hk⟩]
 unfold OP
 grind
theorem Yri{len:Int}{at_:Int}(h:¬(c.1=a.tmod len/\k≠0)):
 OP len C endd cs (c::cs') ls f k a at_=OP len C endd cs cs' ls f k a at_:=by
 unfold OP
 rw[XB,Tf h]
def runR(len:Int)(C:Lk->List Cel)(endd:Int):List Lk->Int->Option (List Int)
 |[],_=>some []
 |l::ls,a=>if(hopP len (C l) (endd-a).toNat (Y6 l) a).length<Y6 l then none
  else(runR len C endd ls (JD (hopP len (C l) (endd-a).toNat (Y6 l) a) a)).map λy=>(hopP len (C l) (endd-a).toNat (Y6 l) a).map Prod.snd++y
theorem Ylx(len:Int)(C:Lk->List Cel)(endd:Int):∀(ls:List Lk) (a:Int),runR len C endd ls a=if(runP len C endd ls a).length<ZP ls then none else some ((runP len C endd ls a).map Prod.snd)
 |[],a=>rfl
 |l::ls,a=>by
  have h3:ZP (l::ls)=Y6 l+ZP ls:=by grind [ZP]
  have hl:=Oh len (C l) (endd-a).toNat (Y6 l) a
  unfold runR runP
  by_cases h:(hopP len (C l) (endd-a).toNat (Y6 l) a).length<Y6 l
  ·grind
  ·rw[Tf h,Tf h,Ylx len C endd ls]
   grind
def XK(n:Net)(r:List Int)(i:Nat):Lk:=lnk n (Yu n (r.getD i 0) (r.getD (i+1) 0)).toNat
def YH(n:Net)(r:List Int):List Lk:=(List.range (r.length-1)).map (XK n r)
def JO(n:Net)(s:Sch)(f:Flw)(r:List Int)(release:Int):Option (List Int):=runR s.len (VB s f.1) (release+f.2.2.2.1) (YH n r) release
def ZB(l:List Int):Int:=l.getD (l.length-1) 0
def WA(S:Int->Option (List Int))(len period:Int):Nat->Int->Int×Int×List Int->Option (Int×Int×List Int)
 |0,_,b=>some b
 |k+1,rel,b=>if len<=rel then some b else match S rel with
  |none=>none
  |some l=>WA S len period k (rel+period) (if b.1<ZB l-rel+1 then(ZB l-rel+1,rel,l.map λz=>z-rel)else b)
def V7(n:Net)(s:Sch)(f:Flw)(r:List Int):Option (Int×Int×List Int):=WA (JO n s f r) s.len f.2.2.2.1 s.len.toNat f.2.2.2.2.1 (0,0,[])
def wayE(n:Net)(s:Sch)(f:Flw)(r:List Int):Int:=
 if Ym n≠0\/Xw s=false\/Xl n.nodes f≠0 then 1 else if s.len.tmod f.2.2.2.1≠0 then 11 else Xu n f.2.1 f.2.2.1 r
def Xm(n:Net)(s:Sch)(f:Flw)(r:List Int):(Int×Int×List Int)×Int:=
 if wayE n s f r≠0 then((0,0,[]),wayE n s f r)else match V7 n s f r with
  |none=>((0,0,[]),15)
  |some b=>(b,0)
def flwV(f:Flw):Value:=.agg #[.int .i64 f.1,.int .i64 f.2.1,.int .i64 f.2.2.1,.int .i64 f.2.2.2.1,.int .i64 f.2.2.2.2.1,.int .i64 f.2.2.2.2.2]
theorem Vy{l:List Flw}{i:Nat}(h:i<l.length):l[i]? =some (Y3 l i):=by
 grind [Y3]
variable {B cap:Nat}{w0 w:World}{H:List HP}
theorem YjC(v nodes:Int)(gn:Nat)(hm:blk gn (.cells #[.int .i64 nodes] 3 (0,0))∈H)(hw:St B w0 H w):
 CX B w0 261 [.int .i64 v,.pointer (some ⟨gn,0,none⟩)] w λu K=>u=.bool (insE v nodes)/\K=H:=by
 refine Yc Tryz.func261 Tryz.ntmps261 rfl rfl hw ?_
 repeat'(first|refine zgc ?_|(refine zgf ?_ ?_<;>intro _<;>try exact zo)|fail)
 all_goals(
  apply Yd;exact rfl;exact rfl
  first
   |exact⟨by rw[show insE v nodes=true from Ti (by omega)],rfl⟩
   |exact⟨by rw[show insE v nodes=false from Tj (by omega)],rfl⟩)
theorem YaP(nodes:Int)(f:Flw)(hw:St B w0 H w):
 CX B w0 160 [.int .i64 nodes,flwV f] w λv K=>v=.int .i64 (Xl nodes f)/\K=H:=by
 refine Yc Tryz.func160 Tryz.ntmps160 rfl rfl hw ?_
 obtain⟨e,he⟩:∃e,Xl nodes f=e:=⟨_,rfl⟩
 rw[he]
 by_cases hA:f.1<0\/255<f.1
 ·repeat'(first|(apply zg23;first|(refine zs52 ?_;intro _)|(refine zs53 ?_;intro _))|(apply zg29;(apply Ys;exact za;exact rfl))|refine zgd ?_|(refine zgf ?_ ?_<;>intro _<;>try exact zo)|fail)
  all_goals(
   apply Yg H
   ·exact zk
   apply Yd;exact rfl;exact rfl
   refine⟨?_,rfl⟩
   rw[<-he]
   unfold Xl
   first
    |(rw[Tm (by first|exact .inl (by omega)|exact .inr (.inl (by omega))|exact .inr (.inr (.inl (by assumption)))|exact .inr (.inr (.inr (by assumption))))];done)
    |(rw[Tf (by rintro(h|h|h|h)<;>first|omega|simp_all)]
      first
       |(rw[Tm (by omega)];done)
       |(rw[Tf (by omega),Tm (by omega)];done)
       |(rw[Tf (by omega),Tf (by omega)];done)))
 ·repeat'(first|(apply zg23;first|(refine zs52 ?_;intro _)|(refine zs53 ?_;intro _))|(apply zg29;(apply Ys;exact za;exact rfl))|refine zgc ?_|(refine zgf ?_ ?_<;>intro _<;>try exact zo)|fail)
  rename_i gn gf _ _
  repeat'(first|((first|apply JB (cs:=[.pointer (some ⟨gn,0,none⟩)])|apply JA (cs:=[.pointer (some ⟨gn,0,none⟩)]));exact rfl;exact Yva;exact za;exact rfl;exactλ_ hw=>(YjC _ nodes gn zm hw);all_goals(intro hB;(try simp only[To,Tv]at hB);try exact zo))|refine zgd ?_|(refine zgf ?_ ?_<;>intro _<;>try exact zo)|fail)
  all_goals(
   apply Yg H
   ·exact zk
   apply Yd;exact rfl;exact rfl
   refine⟨?_,rfl⟩
   rw[<-he]
   unfold Xl
   first
    |(rw[Tm (by first|exact .inl (by omega)|exact .inr (.inl (by omega))|exact .inr (.inr (.inl (by assumption)))|exact .inr (.inr (.inr (by assumption))))];done)
    |(rw[Tf (by rintro(h|h|h|h)<;>first|omega|simp_all)]
      first
       |(rw[Tm (by omega)];done)
       |(rw[Tf (by omega),Tm (by omega)];done)
       |(rw[Tf (by omega),Tf (by omega)];done)))
variable {A:Option Addr}
theorem YZ(nodes:Int)(l:List Flw)(hl:l.length<=9223372036854775807)(hr:Rd B w0 H A (l.flatMap flwF))(hw:St B w0 H w):
 CX B w0 78 [.int .i64 nodes,.slice A l.length cap] w λv K=>v=.tuple #[.int .i64 (YA nodes l).1,.int .i64 (YA nodes l).2]/\K=H:=by
 refine Yc Tryz.func78 Tryz.ntmps78 rfl rfl hw ?_
 by_cases hn:nodes<2\/32<nodes
 ·have hE:YA nodes l=(-1,2):=by simp_all [YA]
  rw[hE]
  repeat'(first|refine zgc ?_|(refine zgf ?_ ?_<;>intro _<;>try exact zo)|fail)
  all_goals(apply Yo;(iterate 3 exact rfl);exact⟨rfl,rfl⟩)
 by_cases h16:16<l.length
 ·have hE:YA nodes l=(-1,8):=by simp_all [YA]
  rw[hE]
  refine zX41 ?_<;>intros
  exact zc47
 have hE:YA nodes l=YC (YT nodes l) l.length 0:=by simp_all [YA,if_neg]
 rw[hE]
 refine zX41 ?_<;>intros
 refine Yf (λ(i:Nat)=>[(20,.int .i64 i),(19,.int .i64 l.length),(18,.slice A l.length cap),(0,.int .i64 nodes),(1,.slice A l.length cap)]) (λ_=>H) (λi=>i<=l.length/\∀k,k<i->YT nodes l k=0) (λi=>l.length-i) 0 ⟨Tc _,λk hk=>absurd hk (Rj _)⟩ ?_ (λw hw=>hw) ?_
 ·exact zc1
 rintro i ⟨hi,hall⟩ K hK
 by_cases hlt:i<l.length
 ·have hget:l[i]? =some (Y3 l i):=Vy hlt
  have hbad:YT nodes l i≠0->YC (YT nodes l) l.length 0=((i:Int),YT nodes l i):=λh=>Xa (λk _ hk=>hall k hk) (Tc _) (by omega) h
  have hstep:YT nodes l i=0->∀k,k<i+1->YT nodes l k=0:=λh k hk=>by
   exact YpV
  by_cases he:Xl nodes (Y3 l i)≠0
  ·have hf:YT nodes l i=Xl nodes (Y3 l i):=by unfold YT;exact Tm he
   rw[hbad (by rw[hf];exact he),hf]
   repeat'(first|((first|apply Ya YkQ|apply Yb YkQ);exact za;exact rfl;exactλ_ hw=>(YaP nodes (Y3 l i) hw))|refine zgd ?_|(refine zge ?_ ?_<;>intro _<;>try exact zo)|(refine zgh ?_;intro _)|fail)
   apply Yg H
   ·exact zc0
   exact zc8
  have he0:=TK.1 he
  have hck:=λ{H':List HP}{w:World}(hw:St B w0 H' w)=>YaP nodes (Y3 l i) hw
  rw[he0]at hck
  rcases RE i with h0|h0
  ·subst h0
   have hf:YT nodes l 0=0:=by unfold YT;rw[Tf he,Tf (by omega)]
   refine zX43 ?_<;>intros
   apply hK (0+1)
   ·exact YlF
   ·omega
   ·exact zc1
   ·exact zc0
  have hget2:l[((i:Int)-1).toNat]? =some (Y3 l (i-1)):=Yto
  by_cases hle:(Y3 l i).1<=(Y3 l (i-1)).1
  ·have hf:YT nodes l i=5:=by unfold YT;rw[Tf he,Tm ⟨h0,hle⟩]
   rw[hbad (by rw[hf];decide),hf]
   refine zX43 ?_<;>intros
   apply Yg H
   ·exact zc0
   exact zc8
  ·have hf:YT nodes l i=0:=YtF
   refine zX43 ?_<;>intros
   apply hK (i+1)
   ·exact YlF
   ·omega
   ·exact zc1
   ·exact zc0
 ·refine zX1 ?_<;>intros
  rw[show i=l.length by omega]at hall
  rw[Xj λk _ hk=>hall k (by omega)]
  exact zc8
theorem YcK(p:Flw->Bool)(l:List Flw)(f:Nat)(cs:List Value)(hen:∀xs w,(callFunc f xs).run Tryz.prog w=.ok (.enter f xs) w)(hlen:l.length<=1000)(hr:Rd B w0 H A (l.flatMap flwF))
 (hp:∀a∈l,∀w,St B w0 H w->Calls Tryz.prog f ([flwV a]++cs).toArray w (Post B w0 λv K=>v=.bool (p a)/\K=H)) (hw:St B w0 H w):
 CX B w0 161 [.slice A l.length cap,.func (.func f) #[] cs.toArray] w λv K=>v=.int .i64 (Yq p l 0)/\K=H:=by
 refine Yc Tryz.func161 Tryz.ntmps161 rfl rfl hw ?_
 refine zX7 ?_
 refine Yf (λ(k:Nat)=>[(8,.int .i64 k),(7,.int .i64 l.length),(0,.slice A l.length cap),(1,.func (.func f) #[] cs.toArray)]) (λ_=>H) (λk=>k<=l.length/\Yq p l 0=Yq p (l.drop k) k) (λk=>l.length-k) 0 ⟨Tc _,by simp⟩ ?_ (λw hw=>hw) ?_
 ·exact zc1
 rintro k ⟨hk,hi⟩ K hK
 by_cases hlt:k<l.length
 ·obtain⟨a,ha⟩:∃a,l[k]? =some a:=⟨_,Ta hlt⟩
  have hpa:=hp a (Td ha)
  rw[ZX p l ha]at hi
  refine zX8 ?_<;>intros
  cases hpv:p a
  ·rw[hpv]at hi
   refine zX9 ?_
   apply hK (k+1)
   ·grind
   ·omega
   ·exact zc1
   exact zc20
  exact zc10
 exact zc7
theorem Yjy(f:Flw)(id:Int)(gi:Nat)(hm:blk gi (.cells #[.int .i64 id] 3 (0,0))∈H)(hw:St B w0 H w):
 CX B w0 321 [flwV f,.pointer (some ⟨gi,0,none⟩)] w λv K=>v=.bool (decide (f.1=id))/\K=H:=by
 refine Yc Tryz.func321 Tryz.ntmps321 rfl rfl hw ?_
 by_cases h:f.1=id
 ·rw[Ti h]
  refine zX21 ?_<;>intros
  all_goals(apply Yk;exact zc13)
 ·rw[Tj h]
  refine zX21 ?_<;>intros
  all_goals(apply Yk;exact zc13)
theorem Yjx(l:List Flw)(id:Int)(hlen:l.length<=1000)(hr:Rd B w0 H A (l.flatMap flwF))(hw:St B w0 H w):
 CX B w0 239 [.slice A l.length cap,.int .i64 id] w λv K=>v=.int .i64 (Zv l id)/\K=H:=by
 refine Yc Tryz.func239 Tryz.ntmps239 rfl rfl hw ?_
 repeat'(first|(apply zg29;(apply Ys;exact za;exact rfl))|refine zga ?_|(refine zgh ?_;intro _)|fail)
 rename_i gi
 first|apply Ya YkR|apply Yb YkR
 exact za
 exact rfl
 exactλ_ hw=>(YcK (λf=>decide (f.1=id)) l 321 [.pointer (some ⟨gi,0,none⟩)] Yvl hlen hr.cons (λf _ w hw=>Yjy f id gi zm hw) hw)
 repeat'(first|refine zga ?_|fail)
 apply Yg H
 ·exact zk
 apply Yd;exact rfl;exact rfl
 exact⟨rfl,rfl⟩
theorem Ygd(s:SchM)(f:Flw)(gs:Nat)(hs:1<=s.len/\s.len<=512)(hf:1<=f.2.2.2.1/\f.2.2.2.1<=512)(hm:blk gs (.cells #[.int .i64 s.len,.int .i64 s.off,.slice s.A s.cells.length s.cap] 30 (0,0))∈H)(hw:St B w0 H w):
 CX B w0 187 [flwV f,.pointer (some ⟨gs,0,none⟩)] w λv K=>v=.bool (decide (s.len.tmod f.2.2.2.1≠0))/\K=H:=by
 refine Yc Tryz.func187 Tryz.ntmps187 rfl rfl hw ?_
 by_cases h:s.len.tmod f.2.2.2.1≠0
 ·rw[Ti h]
  rw[Rb (by omega)]at h
  refine zX44 ?_<;>intros
  all_goals(apply Yk;exact zc13)
 ·rw[Tj h]
  rw[Rb (by omega)]at h
  refine zX44 ?_<;>intros
  all_goals(apply Yk;exact zc13)
theorem YcI{α:Type}(p:α->Bool)(l:List α):decide (0<=Yq p l 0)=l.any p:=by
 have h:=VY p l 0 (by omega)
 grind
theorem WE(p:Flw->Bool)(l:List Flw)(f:Nat)(cs:List Value)(hen:∀xs w,(callFunc f xs).run Tryz.prog w=.ok (.enter f xs) w)(hlen:l.length<=1000)(hr:Rd B w0 H A (l.flatMap flwF))
 (hp:∀a∈l,∀w,St B w0 H w->Calls Tryz.prog f ([flwV a]++cs).toArray w (Post B w0 λv K=>v=.bool (p a)/\K=H)) (hw:St B w0 H w):
 CX B w0 79 [.slice A l.length cap,.func (.func f) #[] cs.toArray] w λv K=>v=.bool (l.any p)/\K=H:=by
 refine Yc Tryz.func79 Tryz.ntmps79 rfl rfl hw ?_
 rw[<-YcI]
 refine zX4 ?_
 first|apply Ya YkR|apply Yb YkR
 exact za
 exact rfl
 exactλ_ hw=>(YcK p l f cs hen hlen hr hp hw)
 by_cases h0:0<=Yq p l 0
 ·exact zc16
 ·exact zc16
end Go.Proofs.YtjlgijpmnfabcaaGreatDoor
namespace Go.Eng
open Go.RowKit
section
variable {P:Program}{B:Nat}{w0:World}{Q:Exit->Act->World->Prop}{env:Env}{H:List HP}{k:Nat}
def YQr(P:Program)(r:Nat)(ops:Array Oper)(Q:Exit->Act->World->Prop)(l:List Oper):Exit->Act->World->Prop
 |.normal,a,w=>wpListIn (Fence.wide.inRound r) 0 P ops Q l a w
 |e,a,w=>Q e a w
theorem Yaq{r:Nat}{ops:Array Oper}{l:List Oper}(hlo:¬LetsOut Q):∀(os:List Oper) (a:Act) (w:World),os.all JU=true->wpList P ops (YQr P r ops Q l) os a w->wpListIn (Fence.wide.inRound r) 0 P ops Q (os++l) a w
 |[],_,_,_,h=>h
 |o::os,a,w,hc,h=>by
  simp only[Ni,Tt]at hc
  unfold wpList at h
  rw[TF]
  unfold wpListIn
  split
  ·rename_i hw
   rw[Tm hw]at h
   rcases h with h|⟨_,h⟩
   ·have h2:=Oper.wp_mono (λa w h=>Yaq hlo os a w hc.2 h) h
    have hs:Oper.semAt (some r) a.eval o=execOp a.eval o:=by grind [Go.Oper.semAt_some,JU]
    refine⟨λf _=>trivial,?_⟩
    rw[Fence.inRound_round,hs]
    unfold Oper.wp at h2
    generalize(execOp a.eval o).run P w=res at h2⊢
    cases res with
    |ok x w'=>
     cases x<;>simp only[Oper.upon,Oper.uponIn]at h2⊢<;>first
      |exact h2
      |(refine⟨λhd=>by simp[Fence.wide]at hd,?_⟩
        refine CallsIn.mono (CallsIn.inRound r (callsIn_wide.2 h2)) λe w'' he=>?_
        cases e<;>exact he)
      |exact⟨λhd=>by simp[Fence.wide]at hd,Ya7 h2⟩
      |exact h2.elim
    |halt x w'=>exact zc75
   ·exact(hlo h).elim
  ·rename_i hw
   rw[Tf hw]at h
   exact⟨λf _=>trivial,Yaq hlo os _ w hc.2 h⟩
variable {n r:Nat}{ds:List Deferred}
theorem YgF{id:Nat}{l:List Oper}(k:Nat){l1 l2:List Oper}(h1:l.take k=l1)(h2:l.drop k=l2)(h:VL P none ⟨n,ds,some r⟩ B w0 l.toArray (YQr P r l.toArray Q l2) l1 env H):
 VC P ⟨n,ds,some r⟩ B w0 (.region id l.toArray false) Q env H:=by
 refine⟨λa w ha hw=>?_⟩
 intro hlo hc
 refine wpIn_region_lit ?_
 have hc2:l.all JU=true:=by grind [calm]
 have:=Yaq hlo _ _ _ (by grind) (h.run a ha w hw)
 grind [RG]
theorem Yl0{ops:Array Oper}{d l:Nat}{x:Operand}{args:List Operand}{tys:Array TypeId}{ty:TypeId}{pos:String}{after:Array Edge}{gd:Option (Nat×Bool)}{vs:List Value}{rest:List Oper}(Φt Φf:List HP->Prop)
 (hgd:∀a:Act,Fits ⟨n,ds,none⟩ a env->Region.wanted ⟨some d,.call ⟨.value x,args.toArray,tys⟩,ty,pos,after,gd⟩ (yielded ops a.tmps)=true)
 (hx:evo env x=some (.func (.yield l) #[] #[])) (hargs:Args env args vs) (hn:Nat.ble (d+1) n=true) (hlo:¬LetsOut Q) (hpl:rest.all JU=true) (hy:YbW P l vs B w0 H Φt Φf)
 (ht:∀K,Φt K->VL P none ⟨n,ds,some r⟩ B w0 ops Q rest ((d,.bool true)::env) K)
 (hf:∀K,Φf K->VL P none ⟨n,ds,some r⟩ B w0 ops Q rest ((d,.bool false)::env) K):
 VQ ⟨n,ds,some r⟩ B w0 (YQr P r ops Q (⟨some d,.call ⟨.value x,args.toArray,tys⟩,ty,pos,after,gd⟩::rest)) .normal env H:=by
 refine⟨λa w ha hw=>?_⟩
 show wpListIn (Fence.wide.inRound r) 0 P ops Q _ a w
 unfold wpListIn
 rw[Tm (hgd a ⟨ha.defers,ha.size,ha.slot⟩)]
 refine⟨λf _=>trivial,?_⟩
 obtain⟨fn,tmps,assign,body,hrun,hround⟩:=hy w hw
 have hmap:args.toArray.map a.eval=vs.toArray:=by grind [V1]
 have hs:Oper.semAt (some r) a.eval ⟨some d,.call ⟨.value x,args.toArray,tys⟩,ty,pos,after,gd⟩=execOp a.eval ⟨some d,.call ⟨.value x,args.toArray,tys⟩,ty,pos,after,gd⟩:=by grind [Go.Oper.semAt_some]
 rw[Fence.inRound_round,hs]
 have hex:(execOp a.eval ⟨some d,.call ⟨.value x,args.toArray,tys⟩,ty,pos,after,gd⟩).run P w=.ok (.round l fn tmps assign body) w:=zc36
 rw[hex,Oper.uponIn_round]
 refine⟨λhd=>by simp[Fence.wide]at hd,?_⟩
 have hround2:RoundIn (Fence.wide.inRound r) 0 P l fn tmps assign body w _:=hround
 refine RoundIn.mono hround2 ?_
 rintro e w' (⟨rfl,K',hΦ,hst⟩|⟨rfl,K',hΦ,hst⟩)
 ·exact Ut hlo _ _ _ hpl ((ht K' hΦ).run _ (ha.put (TV hn) _) _ hst)
 ·exact Ut hlo _ _ _ hpl ((hf K' hΦ).run _ (ha.put (TV hn) _) _ hst)
end
variable {B:Nat}{w0:World}{H K:List HP}
theorem St.inM{w:World}(hw:St B w0 K w)(hm:Eng.many H∈K):St B w0 H w:=by
 obtain⟨S,h1,h2⟩:=hw.at_ hm
 exact⟨hw.below,hw.le,Vn h2 h1⟩
variable {A:Option Addr}{xs:List Value}
theorem Rd.inM(h:Rd B w0 H A xs)(hm:Eng.many H∈K):Rd B w0 K A xs:=h.mono λ_ hw=>hw.inM hm
theorem Rd.many{L:List HP}{e size k cap:Nat}(hX:many L∈H)(hm:Eng.sl e size A k cap xs∈L):Rd B w0 H A xs:=λw hw j v hv=>by
 obtain⟨S,_,h2⟩:=hw.at_ hX
 obtain⟨S',_,h3,_⟩:=Ygt hm h2
 obtain⟨g,e1,hc,_⟩:=QX h3 hv
 grind
end Go.Eng
namespace Go.Proofs.YtjlgijpmnfabcaaGreatDoor
open Go.RowKit Go.Eng Go.Nw Go.Rt
variable {n:Net}
theorem Vl{a b:Int}(h:YX n a b=true):0<=Yu n a b:=by
 simp_all [YX]
variable {r:List Int}
theorem Qv{s t:Int}(h:Jj n s t r=0):(2<=r.length/\r.length<=9)/\r.any (offE n)=false/\(r.getD 0 0=s/\r.getD (r.length-1) 0=t)/\W8 r=false/\JS n r=false:=by
 unfold Jj at h
 by_cases h1:r.length<2
 all_goals grind
theorem Yg6(h:JS n r=false){i:Nat}(hi:i+1<r.length):YX n (r.getD i 0) (r.getD (i+1) 0)=true:=by
 cases hg:YX n (r.getD i 0) (r.getD (i+1) 0)with
 |true=>rfl
 |false=>
  grind [JS]
variable {A:Option Addr}{cap B:Nat}{w0 w:World}{H:List HP}
theorem Ymh(n:NetM)(r:List Int)(hin:n.In B w0 H)(hck:Ym n.net=0)(hbr:JS n.net r=false)(hr:Rd B w0 H A (r.flatMap numF))(hlen:1<=r.length/\r.length<=1000)(hw:St B w0 H w):
 CX B w0 185 [n.val,.slice A r.length cap] w λv K=>v=.int .i64 (Yn8 n.net r)/\K=H:=by
 have hok:=YN hck
 obtain⟨hpw,hrw,hlk,hmg,hs1,hs2,hs3,hs4⟩:=id hin
 refine Yc Tryz.func185 Tryz.ntmps185 rfl rfl hw ?_
 (apply Y0;apply YL;apply Yy;exact rfl;exact rfl;intro g)
 refine zX7 ?_
 refine Yf (λ(k:Nat)=>[(6,.int .i64 ((k:Int)+1)),(5,.int .i64 (UO n.net r k)),(1,.slice A r.length cap),(2,.pointer (some ⟨g,0,none⟩))]) (λ_=>netB g n::H) (λk=>k+1<=r.length) (λk=>r.length-k) 0 hlen.1 ?_ (λw hw=>hw) ?_
 ·exact zc1
 intro k hk K hK
 have hbd:=Yes hok r k
 by_cases hlt:k+1<r.length
 ·have hgk:=Xd (l:=r) (i:=k) (by omega)
  have hgk1:=Xd (l:=r) (i:=k+1) (by omega)
  have ei:((k:Int)+1-1).toNat=k:=by omega
  have ei1:((k:Int)+1).toNat=k+1:=by omega
  rw[<-ei]at hgk
  rw[<-ei1]at hgk1
  have hgood:=Yg6 hbr hlt
  have hf:=Vl hgood
  have hfl:=XM hf
  have e7:n.net.links=n.links:=rfl
  rw[e7]at hfl
  have hlx:n.links[(Yu n.net (r.getD k 0) (r.getD (k+1) 0)).toNat]? =some (lnk n.net (Yu n.net (r.getD k 0) (r.getD (k+1) 0)).toNat):=WP n.net hfl
  have hlo:=Ybx hok (r.getD k 0) (r.getD (k+1) 0)
  have hidx:=λ{w:World}(hw:St B w0 (netB g n::H) w)=>Zi n (r.getD k 0) (r.getD (k+1) 0) (hin.cons (X:=netB g n)) hw
  unfold Zb at hidx
  rw[Tf (by simp[hck])]at hidx
  obtain⟨fi,hfi⟩:∃fi,Yu n.net (r.getD k 0) (r.getD (k+1) 0)=fi:=⟨_,rfl⟩
  obtain⟨lo,hlo2⟩:∃lo,QJ n.net (r.getD k 0) (r.getD (k+1) 0)=lo:=⟨_,rfl⟩
  have hst:UO n.net r (k+1)=UO n.net r k+(lo+1):=by rw[<-hlo2];rfl
  have hlo3:(lnk n.net fi.toNat).2.2=lo:=by rw[<-hfi];exact hlo2
  rw[hfi]at hidx hf hfl hlx
  rw[hlo2]at hlo
  rw[ei]at hgk
  rw[ei1]at hgk1
  obtain⟨lk,hlkk⟩:∃lk,lnk n.net fi.toNat=lk:=⟨_,rfl⟩
  rw[hlkk]at hlx hlo3
  rw[<-hlo3]at hlo
  have hgk':r[((k:Int)+1-1).toNat]? =some (r.getD k 0):=by rw[ei];exact hgk
  have hgk1':r[((k:Int)+1).toNat]? =some (r.getD (k+1) 0):=by rw[ei1];exact hgk1
  repeat'(first|((first|apply Ya en69|apply Yb en69);exact za;exact rfl;exactλ_ hw=>(hidx hw))|(apply zg28;refine zs84 ?_)|refine zgd ?_|(refine zge ?_ ?_<;>intro _<;>try exact zo)|fail)
  apply hK (k+1)
  ·omega
  ·omega
  ·rw[hst,<-hlo3];exact zc1
  exact zc20
 ·refine zX1 ?_<;>intros
  (repeat apply Yk);apply Yd;exact rfl;exact rfl
  have ek:r.length-1=k:=by omega
  exact⟨by unfold Yn8;rw[ek],rfl⟩
theorem YlN(n:NetM)(r:List Int)(hin:n.In B w0 H)(hr:Rd B w0 H A (r.flatMap numF))(hlen:r.length<=9223372036854775807)(hcap:r.length<=cap)(hw:St B w0 H w):
 CX B w0 98 [n.val,.slice A r.length cap] w λv K=>v=.tuple #[.int .i64 (YgB n.net r).1,.int .i64 (YgB n.net r).2]/\K=H:=by
 refine Yc Tryz.func98 Tryz.ntmps98 rfl rfl hw ?_
 unfold YgB
 by_cases h0:Ym n.net=0
 rotate_left
 ·rw[Tm h0]
  refine zX47 ?_<;>intros
  (repeat apply Yk);exact zc47
 rw[Tf (λh=>h h0)]
 have hck:=λ{H:List HP}{w:World}(hin:n.In B w0 H) (hw:St B w0 H w)=>Y8 n hin hw
 rw[h0]at hck
 dsimp only
 have hf:=λ{H:List HP}{w:World}(s t:Int) (hin:n.In B w0 H) (hr:Rd B w0 H A (r.flatMap numF)) (hw:St B w0 H w)=>Ycq n s t r (cap:=cap) hin h0 hr hlen hcap hw
 by_cases hz:r.length=0
 ·have hf0:Jj n.net (r.getD 0 0) (r.getD (r.length-1) 0) r=9:=by unfold Jj;rw[Tm (by omega)]
  have hf1:Jj n.net 0 0 r=9:=by unfold Jj;rw[Tm (by omega)]
  have hff:=λ{H:List HP}{w:World}(hin:n.In B w0 H) (hr:Rd B w0 H A (r.flatMap numF)) (hw:St B w0 H w)=>hf 0 0 hin hr hw
  rw[hf1]at hff
  rw[hf0,Tm (by decide)]
  repeat'(first|((first|apply Ya en68|apply Yb en68);exact za;exact rfl;exactλ_ hw=>(hck hin.cons hw))|((first|apply Ya YaG|apply Yb YaG);exact za;exact rfl;exactλ_ hw=>(hff hin.cons hr.cons hw))|refine zgb ?_|(refine zgf ?_ ?_<;>intro _<;>try exact zo)|(refine zgh ?_;intro _)|fail)
  (repeat apply Yk);exact zc8
 ·have hg0:=Xd (l:=r) (i:=0) (by omega)
  have hg1:=Xd (l:=r) (i:=r.length-1) (by omega)
  have hgi:((r.length:Int)-1).toNat=r.length-1:=by omega
  rw[<-hgi]at hg1
  have hff:=λ{H:List HP}{w:World}(hin:n.In B w0 H) (hr:Rd B w0 H A (r.flatMap numF)) (hw:St B w0 H w)=>hf (r.getD 0 0) (r.getD (r.length-1) 0) hin hr hw
  obtain⟨e,he⟩:∃e,Jj n.net (r.getD 0 0) (r.getD (r.length-1) 0) r=e:=⟨_,rfl⟩
  rw[he]at hff
  rw[he]
  rw[<-hgi]at hff
  by_cases hez:e=0
  ·subst hez
   obtain⟨⟨f1,f2⟩,_,_,_,f3⟩:=Qv he
   rw[Tf (by simp)]
   repeat'(first|((first|apply Ya en68|apply Yb en68);exact za;exact rfl;exactλ_ hw=>(hck hin.cons hw))|((first|apply Ya YaG|apply Yb YaG);exact za;exact rfl;exactλ_ hw=>(hff hin.cons hr.cons hw))|((first|apply Ya YrW|apply Yb YrW);exact za;exact rfl;exactλ_ hw=>(Ymh n r hin.cons h0 f3 hr.cons (by omega) hw))|refine zgd ?_|(refine zgf ?_ ?_<;>intro _<;>try exact zo)|(refine zgh ?_;intro _)|fail)
   (repeat apply Yk);exact zc8
  ·rw[Tm hez]
   repeat'(first|((first|apply Ya en68|apply Yb en68);exact za;exact rfl;exactλ_ hw=>(hck hin.cons hw))|((first|apply Ya YaG|apply Yb YaG);exact za;exact rfl;exactλ_ hw=>(hff hin.cons hr.cons hw))|refine zgd ?_|(refine zgf ?_ ?_<;>intro _<;>try exact zo)|(refine zgh ?_;intro _)|fail)
   (repeat apply Yk);exact zc8
theorem YbH(n:NetM)(s t:Int)(r:List Int)(hin:n.In B w0 H)(hr:Rd B w0 H A (r.flatMap numF))(hlen:r.length<=9223372036854775807)(hcap:r.length<=cap)(hw:St B w0 H w):
 CX B w0 281 [n.val,.int .i64 s,.int .i64 t,.slice A r.length cap] w λv K=>v=.int .i64 (Xu n.net s t r)/\K=H:=by
 refine Yc Tryz.func281 Tryz.ntmps281 rfl rfl hw ?_
 unfold Xu
 by_cases h0:Zm n.net s t=0
 ·have hck:Ym n.net=0:=by
   unfold Zm at h0
   omega
  have hen:=λ{H:List HP}{w:World}(hin:n.In B w0 H) (hw:St B w0 H w)=>Vk n s t hin hw
  rw[h0]at hen
  rw[Tf (λh=>h h0)]
  repeat'(first|((first|apply Ya OI|apply Yb OI);exact za;exact rfl;exactλ_ hw=>(hen hin.cons hw))|((first|apply Ya YaG|apply Yb YaG);exact za;exact rfl;exactλ_ hw=>(Ycq n s t r hin.cons hck hr.cons hlen hcap hw))|refine zgb ?_|(refine zge ?_ ?_<;>intro _<;>try exact zo)|(refine zgh ?_;intro _)|fail)
  (repeat apply Yk);exact zc13
 ·rw[Tm h0]
  repeat'(first|((first|apply Ya OI|apply Yb OI);exact za;exact rfl;exactλ_ hw=>(Vk n s t hin.cons hw))|refine zgb ?_|(refine zge ?_ ?_<;>intro _<;>try exact zo)|(refine zgh ?_;intro _)|fail)
  (repeat apply Yk);exact zc13
end Go.Proofs.YtjlgijpmnfabcaaGreatDoor
namespace Go.Eng
open Go.RowKit
def subL(i k:Nat)(l:List Value):List Value:=(l.drop i).take k
section
variable {P:Program}{B:Nat}{w0:World}{Q:Exit->Act->World->Prop}{env:Env}{H:List HP}{m:Mode}{n:Shp}{ops:Array Oper}{rest:List Oper}{d:Nat}{ty:TypeId}{pos:String}{after:Array Edge}
variable {t:Nat}
theorem Ye(T:Tab P){g i k:Nat}{cs:Array Value}{vs:List Value}{tt:TypeId}{fr:Nat×Nat}{x:Operand}(hx:evo env x=some (.pointer (some ⟨g,i,none⟩)))(hm:blk g (.cells cs tt fr)∈H)
 (ht:look T.ag t=some k) (hv:subL i k cs.toList=vs) (hk:Nat.beq vs.length k=true) (hn:Nat.ble (d+1) n.k=true) (h:VL P m n B w0 ops Q rest ((d,.agg vs.toArray)::env) H):
 VL P m n B w0 ops Q (⟨some d,.load t x,ty,pos,after,none⟩::rest) env H:=by
 refine YgO T hx hm ht (Nat.eq_of_beq_eq_true hk) (λj v hj=>?_) hn h
 grind [subL]
end
def Yg8(l:List Oper)(k s:Nat):Bool:=match l[k]? with
 |some o=>match o.op with
  |.call c=>match c.callee with
   |.value (.tmp t)=>Nat.beq t s
   |_=>false
  |_=>false
 |none=>false
section
variable {P:Program}{B:Nat}{w0:World}{Q:Exit->Act->World->Prop}{env:Env}{H:List HP}
variable {n id r:Nat}{ds:List Deferred}{l l1 l2:List Oper}
theorem YgG(k s:Nat)(_ho:Yg8 l k s=true)(h1:l.take k=l1)(h2:l.drop k=l2)(hlo:¬LetsOut Q)(h:VL P none ⟨n,ds,none⟩ B w0 l.toArray (YQ P l.toArray Q l2) l1 env H):
 VC P ⟨n,ds,none⟩ B w0 (.region id l.toArray false) Q env H:=YbL k h1 h2 hlo h
theorem Yfw(k s:Nat)(_ho:Yg8 l k s=true)(h1:l.take k=l1)(h2:l.drop k=l2)(h:VL P none ⟨n,ds,some r⟩ B w0 l.toArray (YQr P r l.toArray Q l2) l1 env H):
 VC P ⟨n,ds,some r⟩ B w0 (.region id l.toArray false) Q env H:=YgF k h1 h2 h
end
section
variable {P:Program}{B:Nat}{w0:World}{env:Env}{H:List HP}
variable {n:Nat}{fn:Func}
theorem YlO{gf:Nat}{c:Code}{lb:List Value}{xs:List (List Value)}{HI:List HP}(hf:P.funcs[gf]? =some fn)(hn:fn.ntmps=n)(hb:fn.body=some c)(hle:Nat.ble (lb.length+1) n=true)
 (h:∀(l:Nat) (S:Nat->List HP->Prop) (X:List HP->Prop),
  (∀(i:Nat) (args:List Value),xs[i]? =some args->∀(Y L:List HP),S i L->
   YbW P l args B w0 (Y++many L::HI) (λK=>∃L',S (i+1) L'/\K=Y++many L'::HI) (λK=>∃L',X L'/\K=Y++many L'::HI))->
  ∀L0,S 0 L0->VC P ⟨n,[],none⟩ B w0 c (bodyPostM Fence.wide 0 P fn (Post B w0 λ_ K=>(∃L,S xs.length L/\K=many L::HI)\/∃L,X L/\K=many L::HI)) (Wz 0 (.func (.yield l) #[] #[]::lb)) (many L0::HI)):YbI P gf lb xs B w0 HI:=by
 intro l S X hy L0 h0 w hw
 exact callsIn_wide.2 (ZH (args:=.func (.yield l) #[] #[]::lb) hf hn hb hle hw (h l S X hy L0 h0))
variable {ds:List Deferred}
theorem Yqr{R:Ending->World->Prop}(h:VQ ⟨n,ds,none⟩ B w0 (bodyPostM Fence.wide 0 P fn R) .ret env H):VQ ⟨n,ds,none⟩ B w0 (bodyPostM Fence.wide 0 P fn R) .normal env H:=
 ⟨λa w ha hw=>h.run a w ha hw⟩
end
variable {H:List HP}{n t r:Nat}{fn:Func}
theorem VM{P:Program}{B:Nat}{w0:World}{env:Env}{Φ:Value->List HP->Prop}{u s:Nat}{v x y z:Value}(hr:fn.results=#[.tmp t,.tmp u,.tmp s,.tmp r])(hv:get env t=some v)(hx:get env u=some x)(hy:get env s=some y)(hz:get env r=some z)(h:Φ (.tuple #[v,x,y,z]) H):
 VQ ⟨n,[],none⟩ B w0 (bodyPost P fn (Post B w0 Φ)) .ret env H:=
 ⟨λa w ha hw=>bodyPost_ret (v:=.tuple #[v,x,y,z]) (by simp[results,hr,Array.getD_eq_getD_getElem?,ha.slot t v hv,ha.slot u x hx,ha.slot s y hy,ha.slot r z hz]) ha.defers ⟨_,H,rfl,hw,h⟩⟩
theorem Ynb{X:HP}(h:X∈H):∃R,Perm H [X,many R]/\Perm [X,many R] H:=by
 obtain⟨s,t,rfl⟩:=List.append_of_mem h
 exact⟨s++t,(Perm.closeT _).trans (Perm.pull X s t []),(Perm.push X s t []).trans (Perm.openT _)⟩
end Go.Eng
namespace Go.Proofs.YtjlgijpmnfabcaaGreatDoor
open Go.RowKit Go.Eng Go.Nw Go.Rt
abbrev Rqs:=Flw×List (List Int)
structure Clm where
 flow:Int
 routes:List (List Int)
 bounds:List Int
 worst:List Int
 slots:List (List Int)
deriving DecidableEq
def YvZ:Clm:=⟨0,[],[],[],[]⟩
def Y1(q:List Rqs):List Flw:=q.map Prod.fst
def YlL:Rqs:=((0,0,0,0,0,0),[])
def rqAt(q:List Rqs)(i:Nat):Rqs:=q.getD i YlL
def rtAt(l:List (List Int))(k:Nat):List Int:=l.getD k []
def rtsE(n:Net)(x:Rqs):Int:=
 if x.2.length=0 then 14 else if 2<x.2.length then 8
 else if(YC (λk=>Xu n x.1.2.1 x.1.2.2.1 (rtAt x.2 k)) x.2.length 0).2≠0 then(YC (λk=>Xu n x.1.2.1 x.1.2.2.1 (rtAt x.2 k)) x.2.length 0).2
 else if x.2.length=2/\rtAt x.2 0=rtAt x.2 1 then 6 else 0
def rqsE(n:Net)(q:List Rqs):Int×Int:=
 if Ym n≠0 then(-1,1)else if(YA n.nodes (Y1 q)).2≠0 then YA n.nodes (Y1 q)
 else YC (λi=>rtsE n (rqAt q i)) q.length 0
def badR(n:Net)(s:Sch)(f:Flw)(r:List Int):Bool:=decide ((Xm n s f r).2≠0\/f.2.2.2.2.2<(Xm n s f r).1.1)
def Qq(n:Net)(s:Sch)(x:Rqs)(l:List (List Int)):Clm:=
 ⟨x.1.1,l,l.map λr=>(Xm n s x.1 r).1.1,l.map λr=>(Xm n s x.1 r).1.2.1,l.map λr=>(Xm n s x.1 r).1.2.2⟩
def ZC(n:Net)(s:Sch)(x:Rqs):Bool:=x.2.any (badR n s x.1)
def clmE(n:Net)(s:Sch)(x:Rqs):Clm:=Qq n s x x.2
def YK(n:Net)(q:List Rqs)(s:Sch):List Clm×(Int×Int):=
 if(rqsE n q).2≠0 then([],rqsE n q)else if(schE n (Y1 q) s).2≠0 then([],(-1,1))
 else if(YC (λi=>if ZC n s (rqAt q i)=true then 15 else 0) q.length 0).2≠0 then([],YC (λi=>if ZC n s (rqAt q i)=true then 15 else 0) q.length 0)
 else(q.map (clmE n s),(-1,0))
def OA(c:List Clm)(i:Nat):Clm:=c.getD i YvZ
def chkE(n:Net)(q:List Rqs)(s:Sch)(c:List Clm):Int×Int:=
 if(YK n q s).2.2≠0 then(YK n q s).2 else if c.length≠(YK n q s).1.length then(-1,11)
 else YC (λi=>if OA c i=OA (YK n q s).1 i then 0 else 20) c.length 0
def minI:List Int->Int
 |[]=>0
 |a::l=>l.foldl (λx y=>if y<x then y else x) a
def bndE(c:List Clm)(id:Int):Int×Bool:=
 match c.find? (λx=>decide (x.flow=id)&&decide (0<x.bounds.length))with
 |none=>(0,false)
 |some x=>(minI x.bounds,true)
structure WayM where
 n:NetM
 s:SchM
 f:Flw
 A:Option Addr
 cap:Nat
 r:List Int
def WayM.val(x:WayM):Value:=.agg #[.int .i64 x.n.nodes,.slice x.n.pA x.n.rows.length x.n.pcap,.int .i64 x.n.noise,.int .i64 x.n.thr,.slice x.n.lA x.n.links.length x.n.lcap,.slice x.n.mA x.n.margin.length x.n.mcap,.int .i64 x.s.len,.int .i64 x.s.off,.slice x.s.A x.s.cells.length x.s.cap,.int .i64 x.f.1,.int .i64 x.f.2.1,.int .i64 x.f.2.2.1,.int .i64 x.f.2.2.2.1,.int .i64 x.f.2.2.2.2.1,.int .i64 x.f.2.2.2.2.2,.slice x.A x.r.length x.cap,.int .i64 0]
abbrev wayB(g:Nat)(x:WayM):HP:=blk g (.cells #[.int .i64 x.n.nodes,.slice x.n.pA x.n.rows.length x.n.pcap,.int .i64 x.n.noise,.int .i64 x.n.thr,.slice x.n.lA x.n.links.length x.n.lcap,.slice x.n.mA x.n.margin.length x.n.mcap,.int .i64 x.s.len,.int .i64 x.s.off,.slice x.s.A x.s.cells.length x.s.cap,.int .i64 x.f.1,.int .i64 x.f.2.1,.int .i64 x.f.2.2.1,.int .i64 x.f.2.2.2.1,.int .i64 x.f.2.2.2.2.1,.int .i64 x.f.2.2.2.2.2,.slice x.A x.r.length x.cap,.int .i64 0] 330 (0,0))
structure WayM.In(B:Nat)(w0:World)(H:List HP)(x:WayM):Prop where
 n:x.n.In B w0 H
 s:Rd B w0 H x.s.A (x.s.cells.flatMap celF)
 r:Rd B w0 H x.A (x.r.flatMap numF)
 sl:x.s.cells.length<=1000000000000
 rl:x.r.length<=1000000000000
 rc:x.r.length<=x.cap
variable {B:Nat}{w0:World}{H:List HP}{x:WayM}
theorem WayM.In.cons{X:HP}(h:x.In B w0 H):x.In B w0 (X::H):=⟨h.n.cons,h.s.cons,h.r.cons,h.sl,h.rl,h.rc⟩
theorem WayM.In.mono{H':List HP}(h:x.In B w0 H)(hH:∀w,St B w0 H' w->St B w0 H w):x.In B w0 H':=⟨h.n.mono hH,h.s.mono hH,h.r.mono hH,h.sl,h.rl,h.rc⟩
theorem Ymu{nodes:Int}{f:Flw}(h:2<=nodes/\nodes<=32):((YA nodes [f]).2=0↔Xl nodes f=0):=by
 unfold YA
 have e:YT nodes [f] 0=Xl nodes f:=by
  show(if Xl nodes f≠0 then Xl nodes f else if 0<0/\_ then 5 else 0)=_
  omega
 unfold YC YC
 grind
theorem YiR(x:WayM){w:World}(ht:TabsB B w0)(hi:x.In B w0 H)(hw:St B w0 H w):
 CX B w0 284 [x.val] w λv K=>v=.int .i64 (wayE x.n.net x.s.sch x.f x.r)/\K=H:=by
 refine Yc Tryz.func284 Tryz.ntmps284 rfl rfl hw ?_
 have p1:=λ{H':List HP}{w:World}(hin:x.n.In B w0 H') (hw:St B w0 H' w)=>Y8 x.n hin hw
 have p2:=λ{H':List HP}{w:World}(hr:Rd B w0 H' x.s.A (x.s.cells.flatMap celF)) (hw:St B w0 H' w)=>Yc1 x.s ht hr hi.sl hw
 have p3:=λ{g cap:Nat}{H':List HP}{w:World}(hm:blk g (.cells #[.int .i64 x.f.1,.int .i64 x.f.2.1,.int .i64 x.f.2.2.1,.int .i64 x.f.2.2.2.1,.int .i64 x.f.2.2.2.2.1,.int .i64 x.f.2.2.2.2.2] 66 (0,0))∈H') (hw:St B w0 H' w)=>YZ x.n.nodes [x.f] (TV rfl) (A:=some ⟨g,0,none⟩) (cap:=cap) (show Rd B w0 H' _ ([x.f].flatMap flwF) from Rd.blk hm) hw
 have p4:=λ{H':List HP}{w:World}(hin:x.n.In B w0 H') (hr:Rd B w0 H' x.A (x.r.flatMap numF)) (hw:St B w0 H' w)=>YbH x.n x.f.2.1 x.f.2.2.1 x.r (cap:=x.cap) hin hr (T0 hi.rl (by decide)) hi.rc hw
 have hn:=hi.n
 have hs:=hi.s
 have hr:=hi.r
 have hfo:=@Ymu x.n.net.nodes x.f
 have hok:=λh:Ym x.n.net=0=>(YN h).n0
 have hok1:=λh:Ym x.n.net=0=>(YN h).n1
 have hpe:(JN x.s.sch).2=0↔Xw x.s.sch=true:=by
  unfold JN
  cases hf:Xw x.s.sch with
  |true=>rw[Tf (by decide)];simp
  |false=>rw[Tm rfl];simp
 unfold wayE
 rw[show x.n.net.nodes=x.n.nodes from rfl]at*
 rw[show x.s.sch.len=x.s.len from rfl]at*
 obtain⟨c,hc⟩:∃c,Ym x.n.net=c:=⟨_,rfl⟩
 obtain⟨⟨t,e⟩,he⟩:∃e,JN x.s.sch=e:=⟨_,rfl⟩
 obtain⟨⟨i,a⟩,ha⟩:∃a,YA x.n.nodes [x.f]=a:=⟨_,rfl⟩
 obtain⟨k,hk⟩:∃k,Xu x.n.net x.f.2.1 x.f.2.2.1 x.r=k:=⟨_,rfl⟩
 rw[hc]at p1 hok hok1⊢
 rw[he]at p2 hpe
 rw[ha]at p3 hfo
 rw[hk]at p4⊢
 dsimp only at p2 p3 hpe hfo
 unfold WayM.val
 by_cases h1:c=0
 rotate_left
 ·rw[Tm (.inl h1)]
  repeat'(first|((first|apply Ya en68|apply Yb en68);exact za;exact rfl;exactλ_ hw=>(p1 hn.cons hw))|(apply Ye T;exact rfl;exact zm;exact rfl;exact zv;exact rfl;exact rfl)|refine zgb ?_|(refine zge ?_ ?_<;>intro _<;>try exact zo)|(refine zgh ?_;intro _)|fail)
  apply Yg H
  ·exact zc0
  exact zc3
 subst h1
 have hfo:=hfo ⟨hok rfl,hok1 rfl⟩
 by_cases h2:e=0
 rotate_left
 ·rw[Tm (.inr (.inl (by cases hf:Xw x.s.sch with|false=>rfl|true=>exact absurd (hpe.2 hf) h2)))]
  repeat'(first|((first|apply Ya en68|apply Yb en68);exact za;exact rfl;exactλ_ hw=>(p1 hn.cons hw))|((first|apply Ya en11|apply Yb en11);exact za;exact rfl;exactλ_ hw=>(p2 hs.cons hw))|(apply Ye T;exact rfl;exact zm;exact rfl;exact zv;exact rfl;exact rfl)|refine zgc ?_|(refine zge ?_ ?_<;>intro _<;>try exact zo)|(refine zgh ?_;intro _)|fail)
  apply Yg H
  ·exact zc0
  exact zc3
 subst h2
 have hfe:=hpe.1 rfl
 by_cases h3:a=0
 rotate_left
 ·rw[Tm (.inr (.inr (λh=>h3 (hfo.2 h))))]
  repeat'(first|((first|apply Ya en68|apply Yb en68);exact za;exact rfl;exactλ_ hw=>(p1 hn.cons hw))|((first|apply Ya en11|apply Yb en11);exact za;exact rfl;exactλ_ hw=>(p2 hs.cons hw))|((first|apply Ya en78|apply Yb en78);exact za;exact rfl;exactλ_ hw=>(p3 zm hw))|(apply Ye T;exact rfl;exact zm;exact rfl;exact zv;exact rfl;exact rfl)|refine zgc ?_|(refine zge ?_ ?_<;>intro _<;>try exact zo)|(refine zgh ?_;intro _)|fail)
  apply Yg H
  ·exact zc0
  exact zc3
 subst h3
 have hfz:=hfo.1 rfl
 rw[Tf (by rintro(h|h|h);exact h rfl;rw[hfe]at h;cases h;exact h hfz)]
 have hp1:1<=x.f.2.2.2.1:=by
  unfold Xl at hfz
  split at hfz
  ·cases hfz
  split at hfz
  ·cases hfz
  omega
 have hsz:1<=x.s.len/\x.s.len<=512:=by
  have:=TR (Za.1 hfe).sized
  exact⟨this.1,this.2.1⟩
 rw[Rb (show 0<=x.s.len by omega)]
 by_cases h4:x.s.len%x.f.2.2.2.1=0
 rotate_left
 ·rw[Tm h4]
  repeat'(first|((first|apply Ya en68|apply Yb en68);exact za;exact rfl;exactλ_ hw=>(p1 hn.cons hw))|((first|apply Ya en11|apply Yb en11);exact za;exact rfl;exactλ_ hw=>(p2 hs.cons hw))|((first|apply Ya en78|apply Yb en78);exact za;exact rfl;exactλ_ hw=>(p3 zm hw))|(apply Ye T;exact rfl;exact zm;exact rfl;exact zv;exact rfl;exact rfl)|refine zgd ?_|(refine zge ?_ ?_<;>intro _<;>try exact zo)|(refine zgh ?_;intro _)|fail)
  apply Yg H
  ·exact zc0
  exact zc3
 rw[Tf (λh=>h h4)]
 repeat'(first|((first|apply Ya en68|apply Yb en68);exact za;exact rfl;exactλ_ hw=>(p1 hn.cons hw))|((first|apply Ya en11|apply Yb en11);exact za;exact rfl;exactλ_ hw=>(p2 hs.cons hw))|((first|apply Ya en78|apply Yb en78);exact za;exact rfl;exactλ_ hw=>(p3 zm hw))|((first|apply Ya YeC|apply Yb YeC);exact za;exact rfl;exactλ_ hw=>(p4 hn.cons.cons hr.cons.cons hw))|(apply Ye T;exact rfl;exact zm;exact rfl;exact zv;exact rfl;exact rfl)|refine zgd ?_|(refine zge ?_ ?_<;>intro _<;>try exact zo)|(refine zgh ?_;intro _)|fail)
 apply Yg H
 ·exact zc0
 exact zc3
variable {n:Net}{s:Sch}{f:Flw}{r:List Int}
theorem YpF(h:wayE n s f r=0):Ym n=0/\Xw s=true/\Xl n.nodes f=0/\s.len.tmod f.2.2.2.1=0/\Xu n f.2.1 f.2.2.1 r=0:=by
 unfold wayE at h
 grind
theorem Yda(h:(Xm n s f r).2=0):wayE n s f r=0/\∃b,V7 n s f r=some b/\Xm n s f r=(b,0):=by
 unfold Xm at h⊢
 grind
variable {q:List Rqs}{i:Nat}
theorem Oq(h:i<q.length):q[i]? =some (rqAt q i):=by
 grind [rqAt]
theorem Yip(h:i<q.length):rqAt q i∈q:=Td (Oq h)
variable {x:Rqs}
theorem Yh0(h:x∈q):∃i,i<q.length/\rqAt q i=x:=by
 obtain⟨i,hi⟩:=TO.1 h
 have hl:=(Tn.1 hi).1
 exact⟨i,hl,Tz ((Oq hl).symm.trans hi)⟩
variable {l:List (List Int)}
theorem Yfg(h:i<l.length):l[i]? =some (rtAt l i):=by
 grind [rtAt]
theorem Ypq(h:i<l.length):rtAt l i∈l:=Td (Yfg h)
def YiQ(n:Net)(s:Sch)(x:Rqs):Bool:=decide (x.2.length=1\/x.2.length=2/\rtAt x.2 0≠rtAt x.2 1)&&!(ZC n s x)
theorem YqX(h:ZC n s x=false)(hr:r∈x.2):(Xm n s x.1 r).2=0/\(Xm n s x.1 r).1.1<=x.1.2.2.2.2.2:=by
 simp_all [ZC,badR]
theorem Yul(h:YiQ n s x=true):rtsE n x=0:=by
 unfold YiQ at h
 rw[Tt,To]at h
 have hl:=h.2
 simp only[SD]at hl
 have hc:(YC (λk=>Xu n x.1.2.1 x.1.2.2.1 (rtAt x.2 k)) x.2.length 0).2=0:=YF.2 λk _ hk=>
  (YpF (Yda (YqX hl (Ypq (l:=x.2) (i:=k) (by omega))).1).1).2.2.2.2
 unfold rtsE
 grind
theorem QV(h:rtsE n x=0):x.2.length=1\/x.2.length=2/\rtAt x.2 0≠rtAt x.2 1:=by
 unfold rtsE at h
 grind
theorem WB:(YK n q s).2.2=0↔(schE n (Y1 q) s).2=0/\∀x∈q,YiQ n s x=true:=by
 constructor
 ·intro h
  unfold YK at h
  by_cases h1:(rqsE n q).2=0
  rotate_left
  ·simp_all
  by_cases h2:(schE n (Y1 q) s).2=0
  rotate_left
  ·simp_all
  by_cases h3:(YC (λi=>if ZC n s (rqAt q i)=true then 15 else 0) q.length 0).2=0
  rotate_left
  ·simp_all
  refine⟨h2,λx hx=>?_⟩
  obtain⟨i,hi,rfl⟩:=Yh0 hx
  have h4:=YF.1 h3 i (Tc _) (by omega)
  have h5:rtsE n (rqAt q i)=0:=by
   have hw:=UD (Wd.1 h2).whole
   simp_all [rqsE,YF]
  grind [YiQ,QV]
 ·rintro⟨h2,h3⟩
  have hw:=UD (Wd.1 h2).whole
  have h1:(rqsE n q).2=0:=by
   unfold rqsE
   grind [YF,Yul,Yip]
  have h4:(YC (λi=>if ZC n s (rqAt q i)=true then 15 else 0) q.length 0).2=0:=YF.2 λi _ hi=>by
   have:=h3 _ (Yip (q:=q) (i:=i) (by omega))
   simp_all [YiQ]
  simp_all [YK]
theorem YfO(h:(YK n q s).2.2=0):YK n q s=(q.map (clmE n s),(-1,0)):=by
 unfold YK at h⊢
 grind
structure J7(x:WayM):Prop where
 ck:Ym x.n.net=0
 len:2<=x.r.length/\x.r.length<=9
 good:∀i,i+1<x.r.length->YX x.n.net (x.r.getD i 0) (x.r.getD (i+1) 0)=true
 per:1<=x.f.2.2.2.1/\x.f.2.2.2.1<=512
 ph:0<=x.f.2.2.2.2.1/\x.f.2.2.2.2.1<x.f.2.2.2.1
 slen:1<=x.s.len/\x.s.len<=512
 few:x.s.cells.length<=512
variable {n:Net}{r:List Int}
theorem JF{s t:Int}(h:Xu n s t r=0):Ym n=0/\(2<=r.length/\r.length<=9)/\∀i,i+1<r.length->YX n (r.getD i 0) (r.getD (i+1) 0)=true:=by
 unfold Xu at h
 by_cases h0:Zm n s t=0
 rotate_left
 ·omega
 rw[Tf (λe=>e h0)]at h
 have hck:Ym n=0:=by
  unfold Zm at h0
  omega
 obtain⟨h1,_,_,_,h2⟩:=Qv h
 grind [JS]
theorem YbF{x:WayM}(h:wayE x.n.net x.s.sch x.f x.r=0):J7 x:=by
 obtain⟨_,h2,h3,_,h5⟩:=YpF h
 obtain⟨k1,k2,k3⟩:=JF h5
 have hfr:=Za.1 h2
 have hsz:=TR hfr.sized
 unfold Xl at h3
 split at h3
 ·cases h3
 split at h3
 ·cases h3
 exact⟨k1,k2,k3,by omega,by omega,⟨hsz.1,hsz.2.1⟩,hfr.few⟩
def JH(x:WayM):List (List Value):=(YH x.n.net x.r).map λl=>[lkV l]
theorem UV{i:Nat}(h:i+1<r.length):(YH n r)[i]? =some (XK n r i):=by
 grind [YH]
theorem JJ{n:Net}{r:List Int}:(YH n r).length=r.length-1:=by grind [YH]
variable {B:Nat}{w0:World}
theorem YaZ(x:WayM)(g:Nat)(hok:J7 x){HI:List HP}(hi:x.In B w0 HI)(hm:wayB g x∈HI):
 YbI Tryz.prog 398 [.pointer (some ⟨g,0,none⟩)] (JH x) B w0 HI:=by
 refine YbJ Tryz.func398 Tryz.ntmps398 rfl rfl ?_
 intro l SS X hy L0 h0
 have hck:=hok.ck
 have hlen:=hok.len
 have p1:=λ{H':List HP}{w:World}(a b:Int) (hin:x.n.In B w0 H') (hw:St B w0 H' w)=>Zi x.n a b hin hw
 have hix:∀a b:Int,Zb x.n.net a b=Yu x.n.net a b:=λa b=>by simp_all [Zb]
 unfold wayB at hm
 refine zX7 ?_
 refine Yf (λ(y:Nat×List HP)=>[(3,.int .i64 (y.1+1:Nat)),(0,.func (.yield l) #[] #[]),(1,.pointer (some ⟨g,0,none⟩))]) (λy=>many y.2::HI) (λy=>y.1+1<=x.r.length/\SS y.1 y.2) (λy=>x.r.length-1-y.1) (0,L0) ⟨by omega,h0⟩ ?_ (λw hw=>hw) ?_
 ·exact zc1
 rintro⟨i,L⟩ ⟨hile,hS⟩ K hK
 dsimp only at hile hS⊢
 by_cases hlt:i+1<x.r.length
 ·have hg:=hok.good i hlt
  have hf:=Vl hg
  have hfl:=XM hf
  have hlx:x.n.links[(Yu x.n.net (x.r.getD i 0) (x.r.getD (i+1) 0)).toNat]? =some (lnk x.n.net (Yu x.n.net (x.r.getD i 0) (x.r.getD (i+1) 0)).toNat):=WP x.n.net hfl
  have hla:XK x.n.net x.r i=lnk x.n.net (Yu x.n.net (x.r.getD i 0) (x.r.getD (i+1) 0)).toNat:=rfl
  have hg0:=Xd (l:=x.r) (i:=i) (by omega)
  have hg1:=Xd (l:=x.r) (i:=i+1) (by omega)
  have hgi:((((i+1:Nat):Int)-1).toNat)=i:=by omega
  have hgi1:(((i+1:Nat):Int).toNat)=i+1:=by omega
  have hll:(Yu x.n.net (x.r.getD i 0) (x.r.getD (i+1) 0)).toNat<x.n.links.length:=hfl
  have p2:=λ{H':List HP}{w:World}(hin:x.n.In B w0 H') (hw:St B w0 H' w)=>p1 (x.r.getD i 0) (x.r.getD (i+1) 0) hin hw
  rw[hix]at p2
  have hx:(JH x)[i]? =some [lkV (XK x.n.net x.r i)]:=by
   unfold JH;rw[TU,UV hlt];rfl
  rw[hla]at hx
  obtain⟨a,ha⟩:∃a,x.r.getD i 0=a:=⟨_,rfl⟩
  obtain⟨b,hb⟩:∃b,x.r.getD (i+1) 0=b:=⟨_,rfl⟩
  rw[ha]at hg0 p2 hlx hll hf hx
  rw[hb]at hg1 p2 hlx hll hf hx
  obtain⟨z,hz⟩:∃z,Yu x.n.net a b=z:=⟨_,rfl⟩
  rw[hz]at p2 hlx hll hf hx
  obtain⟨lk,hlk⟩:∃k,lnk x.n.net z.toNat=k:=⟨_,rfl⟩
  rw[hlk]at hlx hx
  obtain⟨R,hR1,hR2⟩:=Ynb hm
  have hg0i:x.r[(((i+1:Nat):Int)-1).toNat]? =some a:=by rw[hgi];exact hg0
  have hg1i:x.r[((i+1:Nat):Int).toNat]? =some b:=by rw[hgi1];exact hg1
  have hwb:∀w,St B w0 (many L::(blk g (.cells #[.int .i64 x.n.nodes,.slice x.n.pA x.n.rows.length x.n.pcap,.int .i64 x.n.noise,.int .i64 x.n.thr,.slice x.n.lA x.n.links.length x.n.lcap,.slice x.n.mA x.n.margin.length x.n.mcap,.int .i64 x.s.len,.int .i64 x.s.off,.slice x.s.A x.s.cells.length x.s.cap,.int .i64 x.f.1,.int .i64 x.f.2.1,.int .i64 x.f.2.2.1,.int .i64 x.f.2.2.2.1,.int .i64 x.f.2.2.2.2.1,.int .i64 x.f.2.2.2.2.2,.slice x.A x.r.length x.cap,.int .i64 0] 330 (0,0)))::[many R]) w->St B w0 (many L::HI) w:=λw hw=>hw.perm (Perm.cons _ hR2)
  have hl0:0<=lk.2.2/\lk.2.2<=7:=by
   have h1:=(YN hck).lk z.toNat hll
   rw[<-hlk];exact⟨h1.l0,h1.l1⟩
  have hiK:x.In B w0 [wayB g x,many R]:=hi.mono λw hw=>hw.perm hR2
  have hrr:=hiK.r
  have hlr:=hiK.n.lk
  unfold wayB at hiK hrr hlr
  refine YW (blk g (.cells #[.int .i64 x.n.nodes,.slice x.n.pA x.n.rows.length x.n.pcap,.int .i64 x.n.noise,.int .i64 x.n.thr,.slice x.n.lA x.n.links.length x.n.lcap,.slice x.n.mA x.n.margin.length x.n.mcap,.int .i64 x.s.len,.int .i64 x.s.off,.slice x.s.A x.s.cells.length x.s.cap,.int .i64 x.f.1,.int .i64 x.f.2.1,.int .i64 x.f.2.2.1,.int .i64 x.f.2.2.2.1,.int .i64 x.f.2.2.2.2.1,.int .i64 x.f.2.2.2.2.2,.slice x.A x.r.length x.cap,.int .i64 0] 330 (0,0))::many L::[many R]) (λw hw=>hw.perm ((Perm.cons _ hR1).trans (Perm.swap _ _ _))) ?_
  refine zX3 ?_<;>intros
  apply JR (.n1 0 (.n1 1 (.n1 2 (.n1 3 (.n1 4 (.n1 5 (.n1 6 (.n1 7 (.n1 8 (.n1 9 (.n1 10 (.n1 11 (.n1 12 (.n1 13 (.n1 14 (.n1 15 (.n2 16 (.n1 17 (.n1 18 (.n1 19 .done))) 19 (.n1 16 (.n1 17 (.n1 18 .done)))))))))))))))))))) [20] [true,false,true]
  kernel_rfl
  kernel_rfl
  exact zy
  (simp only[Yh,nthO];rfl)
  repeat'(first|(apply Ye T;exact rfl;exact zm;exact rfl;exact zv;exact rfl;exact rfl)|(apply Yj;try exact zl)|apply(zs91 ?_ ?_)|(apply Y4;try exact zl)|refine zgd ?_|(refine zgh ?_;intro _)|fail)
  all_goals(
   first|apply Ya en69|apply Yb en69
   exact za
   exact rfl
   exactλ_ hw=>(p2 (hiK.mono zk).n hw)
   repeat'(first|(refine YgG 2 37 rfl rfl rfl (by rintro⟨_,_,_,_,h,_⟩;cases h) ?_)|(apply Yj;try exact zl)|(apply Y4;try exact zl)|refine zgd ?_|(refine zgh ?_;intro _)|fail)
   rename_i g5
   rw[show lk.2.2+0=lk.2.2 from Ny _]
   apply Yg (blk g5 (.cells #[.int .i64 lk.1,.int .i64 lk.2.1,.int .i64 lk.2.2] 145 (0,0))::many L::HI)
   ·intro w hw
    have h5:St B w0 (blk g5 (.cells #[.int .i64 lk.1,.int .i64 lk.2.1,.int .i64 lk.2.2] 145 (0,0))::many L::blk g (.cells #[.int .i64 x.n.nodes,.slice x.n.pA x.n.rows.length x.n.pcap,.int .i64 x.n.noise,.int .i64 x.n.thr,.slice x.n.lA x.n.links.length x.n.lcap,.slice x.n.mA x.n.margin.length x.n.mcap,.int .i64 x.s.len,.int .i64 x.s.off,.slice x.s.A x.s.cells.length x.s.cap,.int .i64 x.f.1,.int .i64 x.f.2.1,.int .i64 x.f.2.2.1,.int .i64 x.f.2.2.2.1,.int .i64 x.f.2.2.2.2.1,.int .i64 x.f.2.2.2.2.2,.slice x.A x.r.length x.cap,.int .i64 0] 330 (0,0))::[many R]) w:=by
     revert w
     exact zk
    exact h5.perm (Perm.cons _ (Perm.cons _ hR2))
   have hY:=hy _ _ hx [blk g5 (.cells #[.int .i64 lk.1,.int .i64 lk.2.1,.int .i64 lk.2.2] 145 (0,0))] L hS
   apply YbV _ _ (hy:=hY)
   ·exact Ybe
   ·exact rfl
   ·exact za
   ·exact rfl
   ·rintro⟨_,_,_,_,h,_⟩;cases h
   ·rintro _ ⟨L',hS',rfl⟩
    repeat'(first|refine zgd ?_|fail)
    apply hK (i+1,L')
    ·exact⟨by show i+1+1<=_;omega,hS'⟩
    ·dsimp only;omega
    ·exact zu
    ·exactλw hw=>hw.tail
   ·rintro _ ⟨L',hX',rfl⟩
    repeat'(first|refine zgd ?_|fail)
    apply Yg (many L'::HI)
    ·exactλw hw=>hw.tail
    apply Ob;exact rfl
    exact .inr ⟨L',hX',rfl⟩)
 ·refine zX1 ?_<;>intros
  apply Vd;exact rfl
  have hl0:i=(JH x).length:=by unfold JH;rw[Tu,JJ];omega
  rw[hl0]at hS
  exact .inl ⟨L,hS,rfl⟩
def Yru(g:Nat):Value:=.func (.func 398) #[] #[.pointer (some ⟨g,0,none⟩)]
theorem YcP(x:WayM){H:List HP}{w:World}(hw:St B w0 H w):
 CX B w0 345 [x.val] w λv K=>∃g,v=Yru g/\K=wayB g x::H:=by
 refine Yc Tryz.func345 Tryz.ntmps345 rfl rfl hw ?_
 repeat'(first|((refine zs52 ?_;intro _))|((apply Ys;exact za;exact rfl))|refine zga ?_|fail)
 apply Yd;exact rfl;exact rfl
 exact⟨_,rfl,rfl⟩
variable {B i:Nat}{w0 w:World}{H:List HP}
theorem Yha(x:WayM)(l:Lk)(g gl:Nat)(c:Cel)(hm:wayB g x∈H)(hml:blk gl (.cells #[.int .i64 l.1,.int .i64 l.2.1,.int .i64 l.2.2] 145 (0,0))∈H)(hw:St B w0 H w):
 CX B w0 399 [celV c,.pointer (some ⟨g,0,none⟩),.pointer (some ⟨gl,0,none⟩)] w λv K=>v=.bool (!(onP x.f.1 l.1 l.2.1 c))/\K=H:=by
 refine Yc Tryz.func399 Tryz.ntmps399 rfl rfl hw ?_
 unfold wayB at hm
 have hb:onP x.f.1 l.1 l.2.1 c=true↔c.2.2.2.2=x.f.1/\c.2.2.1=l.1/\c.2.2.2.1=l.2.1:=by unfold onP Zw YM toC;simp_all
 obtain⟨b,hbe⟩:∃b,onP x.f.1 l.1 l.2.1 c=b:=⟨_,rfl⟩
 rw[hbe]at hb⊢
 repeat'(first|refine zgc ?_|(refine zge ?_ ?_<;>intro _<;>try exact zo)|(refine zgh ?_;intro _)|fail)
 all_goals(
  apply Yg H
  ·exact zk
  apply Yd;exact rfl;exact rfl
  cases b<;>simp at hb<;>first|exact⟨rfl,rfl⟩|(exfalso;omega))
theorem Yji(x:WayM)(l:Lk)(hfew:x.s.cells.length<=1000)(hr:Rd B w0 H x.s.A (x.s.cells.flatMap celF))(hw:St B w0 H w):
 CX B w0 346 [x.val,lkV l] w λv K=>∃A cap,v=.slice A (VB x.s.sch x.f.1 l).length cap/\K=cels A cap (VB x.s.sch x.f.1 l)::H:=by
 refine Yc Tryz.func346 Tryz.ntmps346 rfl rfl hw ?_
 unfold WayM.val lkV
 repeat'(first|refine zgb ?_|(refine zgh ?_;intro _)|fail)
 rename_i gw gl
 apply Yi _ YkT
 exact za
 exact rfl
 exactλ_ hw=>(VN x.s.cells (by omega) hr.cons.cons (hw))
 rintro _ _ ⟨A',cap',rfl,rfl⟩
 repeat'(first|(apply zg29;(apply Ys;exact za;exact rfl))|fail)
 apply Yi _ YrV
 exact za
 exact rfl
 exactλ_ hw=>(YaF (λc=>!(onP x.f.1 l.1 l.2.1 c)) x.s.cells 399 [.pointer (some ⟨gw,0,none⟩),.pointer (some ⟨gl,0,none⟩)] Yvv hfew (λc _ X w hw=>Yha x l gw gl c (T9 _ (by unfold wayB;exact zm)) (T9 _ zm) hw) (hw))
 rintro _ _ ⟨rfl,rfl⟩
 have e:x.s.cells.filter (λc=>!!(onP x.f.1 l.1 l.2.1 c))=VB x.s.sch x.f.1 l:=Np λc _=>Bool.not_not _
 rw[e]
 repeat'(first|refine zga ?_|fail)
 apply Yg (cels A' cap' (VB x.s.sch x.f.1 l)::H)
 ·exact zk
 apply Yd;exact rfl;exact rfl
 exact⟨A',cap',rfl,rfl⟩
variable {x:WayM}{l:Lk}
theorem WN(hok:J7 x)(h:(YH x.n.net x.r)[i]? =some l):i+1<x.r.length/\0<=l.2.2/\l.2.2<=7:=by
 have hi:=(Tn.1 h).1
 rw[JJ]at hi
 have hi:i+1<x.r.length:=by omega
 rw[UV hi]at h
 have hg:=hok.good i hi
 have h1:=(YN hok.ck).lk _ (XM (Vl hg))
 have e:=Tz h
 unfold XK at e
 have h2:=h1.l0;have h3:=h1.l1
 simp_all
theorem Ye2{ls:List Lk}(h:ls[i]? =some l):ZP (ls.take (i+1))=ZP (ls.take i)+Y6 l:=by
 grind [ZP,TB]
theorem UU{args:List Value}(h:(JH x)[i]? =some args):∃l,(YH x.n.net x.r)[i]? =some l/\args=[lkV l]:=by
 unfold JH at h
 grind
theorem QK{x:WayM}(hok:J7 x):∀i,ZP ((YH x.n.net x.r).take i)<=8*i
 |0=>TQ _
 |i+1=>by
  have ih:=QK hok i
  cases h:(YH x.n.net x.r)[i]? with
  |none=>
   grind [TE]
  |some l=>
   rw[Ye2 h]
   have:=WN hok h
   grind [Y6]
theorem Yh5(x:WayM)(hok:J7 x)(hi:x.In B w0 H)(hw:St B w0 H w):
 CX B w0 407 [x.val] w λv K=>v=.int .i64 (ZP (YH x.n.net x.r))/\K=H:=by
 refine ZH Tryz.func407 Tryz.ntmps407 rfl rfl hw ?_
 unfold WayM.val
 refine zX25 ?_<;>intros
 rename_i g gN
 apply Yi _ Ysq
 exact za
 exact rfl
 exactλ_ hw=>(YcP x (hw))
 rintro _ _ ⟨g2,rfl,rfl⟩
 refine zX7 ?_
 have hl9:=hok.len
 have hiK:x.In B w0 (wayB g2 x::wayB g x::H):=hi.cons.cons
 refine ZI (gf:=398) (lb:=[.pointer (some ⟨g2,0,none⟩)]) (xs:=JH x) (wayB g2 x::wayB g x::H) (λz:Int=>[blk gN (.cells #[.int .i64 z] 3 (0,0))]) (λi z=>z=(ZP ((YH x.n.net x.r).take i):Int)) (λ_ _=>False) 0 rfl YsD (YaZ x g2 hok hiK (.head _)) rfl ?_ (by kernel_rfl) (by kernel_rfl) ?_ rfl ?_ ?_ (λ_ _ _ h=>h.elim)
 ·grind [TO,UU]
 ·unfold wayB
  simp only[TF,TG]
  exact zc0
 ·rintro l k args R z hk hI
  obtain⟨lk,hlk,rfl⟩:=UU hk
  have hbd:=WN hok hlk
  have hne:=QK hok k
  have hst:=Ye2 hlk
  try dsimp only at hI
  dsimp only[U0,List.cons_append,List.nil_append]
  unfold lkV
  repeat'(first|refine zgc ?_|(refine zgh ?_;intro _)|fail)
  apply Vj (YO YD)
  intro R'
  unfold wayB
  refine zX2 ?_
  apply UK (z+(lk.2.2+1))
  ·show z+(lk.2.2+1)=_
   rw[hI,hst]
   unfold Y6
   omega
  ·dsimp only[List.cons_append,List.nil_append]
   exact zc0
 ·rintro D z hI
  try dsimp only at hI
  have hle:(JH x).length=(YH x.n.net x.r).length:=by unfold JH;rw[Tu]
  rw[hle,TC]at hI
  dsimp only[List.cons_append,List.nil_append]
  unfold wayB
  refine zX9 ?_
  apply Z0 YD
  apply VQ_m
  apply Yg H
  ·exact zc0
  apply Yd;exact rfl;exact rfl
  exact⟨by rw[hI],rfl⟩
open Go.RowKit Go.Eng Go.Nw
def netN(g:Nat)(n:NetM):HP:=blk g (.cells #[.int .i64 n.nodes,.slice n.pA n.rows.length n.pcap,.int .i64 n.noise,.int .i64 n.thr,.slice n.lA n.links.length n.lcap,.slice n.mA n.margin.length n.mcap] 26 (0,0))
theorem Ybi(n:NetM)(l:List Flw)(s:SchM)(hck:Ym n.net=0)(hlen:l.length<=1000)(hl:s.cells.length<=1000000000000){A:Option Addr}{cap B:Nat}{w0:World}{H:List HP}{w:World}(hin:n.In B w0 H)(hrf:Rd B w0 H A (l.flatMap flwF))(hr:Rd B w0 H s.A (s.cells.flatMap celF))(hw:St B w0 H w):
 CX B w0 188 [n.val,.slice A l.length cap,s.val] w λv K=>v=.tuple #[.int .i64 (XT n.net l s.sch).1,.int .i64 (XT n.net l s.sch).2]/\K=H:=by
 refine Yc Tryz.func188 Tryz.ntmps188 rfl rfl hw ?_
 have e4:s.sch.cells.length=s.cells.length:=rfl
 have hE:XT n.net l s.sch=YC (Zu n.net l s.sch) s.cells.length 0:=rfl
 rw[hE]
 refine zX70 ?_<;>intros
 rename_i gn gs
 refine Yf (λ(i:Nat)=>[(13,.int .i64 i),(12,.int .i64 s.cells.length),(11,.slice s.A s.cells.length s.cap),(3,.pointer (some ⟨gn,0,none⟩)),(5,.pointer (some ⟨gs,0,none⟩)),(1,.slice A l.length cap)])
  (λ_=>blk gs (.cells #[.int .i64 s.len,.int .i64 s.off,.slice s.A s.cells.length s.cap] 30 (0,0))::netN gn n::H) (λi=>i<=s.cells.length/\∀k,k<i->Zu n.net l s.sch k=0) (λi=>s.cells.length-i) 0 ⟨Tc _,λk hk=>absurd hk (Rj _)⟩ ?_ (λw hw=>hw) ?_
 ·exact zc1
 rintro i ⟨hi,hall⟩ K hK
 unfold netN
 have hrc:=λ(X:HP)=>((hr.cons (X:=netN gn n)).cons (X:=blk gs (.cells #[.int .i64 s.len,.int .i64 s.off,.slice s.A s.cells.length s.cap] 30 (0,0)))).cons (X:=X)
 by_cases hlt:i<s.cells.length
 ·have hget:s.cells[i]? =some (Yn s.sch i):=YS (s:=s.sch) hlt
  have hbad:Zu n.net l s.sch i≠0->YC (Zu n.net l s.sch) s.cells.length 0=((i:Int),Zu n.net l s.sch i):=λh=>Xa (λk _ hk=>hall k hk) (Tc _) (by omega) h
  have hstep:Zu n.net l s.sch i=0->∀k,k<i+1->Zu n.net l s.sch k=0:=λh k hk=>by
   exact YpV
  obtain⟨c,hc⟩:∃c,Yn s.sch i=c:=⟨_,rfl⟩
  have hce:Zu n.net l s.sch i=if XE s.sch c=false then 2 else if YX n.net (YM c) (toC c)=false\/Zv l (Zw c)<0 then 7 else if 0<i/\Xn (Yn s.sch (i-1)) c=false then 5 else 0:=by
   unfold Zu
   rw[hc]
  rw[hc]at hget
  have hplc:=λ{H':List HP}{w:World}(hw:St B w0 H' w)=>Ya4 s c hw
  cases hp:XE s.sch c with
  |false=>
   rw[hp]at hplc
   rw[hp,Tm rfl]at hce
   rw[hbad (by rw[hce];decide),hce]
   repeat'(first|((first|apply Ya Wk|apply Yb Wk);exact za;exact rfl;exactλ_ hw=>(hplc hw))|refine zgd ?_|(refine zge ?_ ?_<;>intro _<;>try exact zo)|(refine zgh ?_;intro _)|fail)
   apply Yg H
   ·exact zc0
   exact zc8
  |true=>
  rw[hp]at hplc
  rw[hp,Tf (by decide)]at hce
  have hix:=λ{H':List HP}{w:World}(hin:n.In B w0 H') (hw:St B w0 H' w)=>Zi n c.2.2.1 c.2.2.2.1 hin hw
  have hus:=λ{H':List HP}{w:World}(hin:n.In B w0 H') (hw:St B w0 H' w)=>VK n (Zb n.net c.2.2.1 c.2.2.2.1) hin hw
  rw[YiP hck]at hus
  have hfi:=λ{H':List HP}{w:World}(hr:Rd B w0 H' A (l.flatMap flwF)) (hw:St B w0 H' w)=>Yjx l c.2.2.2.2 hlen (cap:=cap) hr hw
  have hgf:YX n.net (YM c) (toC c)=YX n.net c.2.2.1 c.2.2.2.1:=rfl
  have hff:Zv l (Zw c)=Zv l c.2.2.2.2:=rfl
  by_cases hg:YX n.net c.2.2.1 c.2.2.2.1=false\/Zv l c.2.2.2.2<0
  ·rw[hgf,hff,Tm hg]at hce
   rw[hbad (by rw[hce];decide),hce]
   cases hgd:YX n.net c.2.2.1 c.2.2.2.1 with
   |false=>
    rw[hgd]at hus
    repeat'(first|((first|apply Ya Wk|apply Yb Wk);exact za;exact rfl;exactλ_ hw=>(hplc hw))|((first|apply Ya en69|apply Yb en69);exact za;exact rfl;exactλ_ hw=>(hix hin.cons.cons.cons hw))|((first|apply Ya Jz|apply Yb Jz);exact za;exact rfl;exactλ_ hw=>(hus hin.cons.cons.cons hw))|(apply zg28;refine zs84 ?_)|refine zgd ?_|(refine zge ?_ ?_<;>intro _<;>try exact zo)|(refine zgh ?_;intro _)|fail)
    apply Yg H
    ·exact zc0
    exact zc8
   |true=>
    have hneg:Zv l c.2.2.2.2<0:=hg.elim (λh=>by rw[hgd]at h;cases h) id
    rw[hgd]at hus
    repeat'(first|((first|apply Ya Wk|apply Yb Wk);exact za;exact rfl;exactλ_ hw=>(hplc hw))|((first|apply Ya en69|apply Yb en69);exact za;exact rfl;exactλ_ hw=>(hix hin.cons.cons.cons hw))|((first|apply Ya Jz|apply Yb Jz);exact za;exact rfl;exactλ_ hw=>(hus hin.cons.cons.cons hw))|((first|apply Ya Yez|apply Yb Yez);exact za;exact rfl;exactλ_ hw=>(hfi hrf.cons.cons.cons hw))|(apply zg28;refine zs84 ?_)|refine zgd ?_|(refine zge ?_ ?_<;>intro _<;>try exact zo)|(refine zgh ?_;intro _)|fail)
    apply Yg H
    ·exact zc0
    exact zc8
  have hgd:YX n.net c.2.2.1 c.2.2.2.1=true:=by
   cases h:YX n.net c.2.2.1 c.2.2.2.1 with
   |true=>rfl
   |false=>exact absurd (.inl h) hg
  have hpos:¬Zv l c.2.2.2.2<0:=λh=>hg (.inr h)
  rw[hgf,hff,Tf hg]at hce
  rw[hgd]at hus
  rcases RE i with h0|h0
  ·subst h0
   rw[Tf (by omega)]at hce
   repeat'(first|((first|apply Ya Wk|apply Yb Wk);exact za;exact rfl;exactλ_ hw=>(hplc hw))|((first|apply Ya en69|apply Yb en69);exact za;exact rfl;exactλ_ hw=>(hix hin.cons.cons.cons hw))|((first|apply Ya Jz|apply Yb Jz);exact za;exact rfl;exactλ_ hw=>(hus hin.cons.cons.cons hw))|((first|apply Ya Yez|apply Yb Yez);exact za;exact rfl;exactλ_ hw=>(hfi hrf.cons.cons.cons hw))|(apply zg28;refine zs84 ?_)|refine zgd ?_|(refine zgf ?_ ?_<;>intro _<;>try exact zo)|(refine zgh ?_;intro _)|fail)
   apply hK (0+1)
   ·exact YlE
   ·omega
   ·exact zc1
   ·unfold netN
    exact zc0
  have hget2:s.cells[((i:Int)-1).toNat]? =some (Yn s.sch (i-1)):=zc54
  obtain⟨p,hpv⟩:∃p,Yn s.sch (i-1)=p:=⟨_,rfl⟩
  rw[hpv]at hce hget2
  have hcl:=Yb9 p c
  have hcm:=λ{H':List HP}{w:World}(hw:St B w0 H' w)=>OC p c hw
  obtain⟨q,hq⟩:∃q,cmpV (nums p) (nums c)=q:=⟨_,rfl⟩
  rw[hq]at hcl hcm
  by_cases hlt2:q<0
  ·rw[hcl.1 hlt2,Tf (by simp)]at hce
   refine zX75 ?_<;>intros
   apply hK (i+1)
   ·exact YlE
   ·omega
   ·exact zc1
   ·unfold netN
    exact zc0
  ·have hnl:Xn p c=false:=by
    cases h:Xn p c with
    |false=>rfl
    |true=>exact absurd (hcl.2 h) hlt2
   rw[hnl,Tm ⟨h0,rfl⟩]at hce
   rw[hbad (by rw[hce];decide),hce]
   refine zX75 ?_<;>intros
   apply Yg H
   ·exact zc0
   exact zc8
 ·refine zX1 ?_<;>intros
  rw[show i=s.cells.length by omega]at hall
  rw[Xj λk _ hk=>hall k (by omega)]
  apply Yg H
  ·exact zc0
  exact zc8
def runW(x:WayM)(a:Int):List (Cel×Int):=runP x.s.len (VB x.s.sch x.f.1) (a+x.f.2.2.2.1) (YH x.n.net x.r) a
def cntV(z:Cel×Int):List Value:=[celV z.1,.int .i64 z.2]
def YkG(x:WayM)(a:Int):List (List Value):=(runW x a).map cntV
structure CtM where
 c:Nat
 a:Int
 L:List HP
structure CuM where
 k:Nat
 slot:Int
 a:Int
 c:Nat
 L:List HP
structure CvM where
 j:Nat
 k:Nat
 a:Int
 c:Nat
 L:List HP
variable {α:Type}{c:Nat}
theorem Ypz{W r:List α}{z:α}(hc:c<=W.length)(h:W=W.take c++z::r):W[c]? =some z/\c+1<=W.length/\W=W.take (c+1)++r:=by
 grind
theorem YiK{W:List α}(hc:c<=W.length)(h:W=W.take c++[]):c=W.length:=by
 grind
theorem YfQ(x:WayM)(at0:Int)(hok:J7 x)(hat:0<=at0/\at0<=1000000)(ga gw:Nat){B:Nat}{w0:World}{H:List HP}(hi:x.In B w0 H):
 YbI Tryz.prog 344 [.pointer (some ⟨ga,0,none⟩),.pointer (some ⟨gw,0,none⟩)] (YkG x at0) B w0 (intB ga at0::wayB gw x::H):=by
 refine YlO Tryz.func344 Tryz.ntmps344 rfl rfl ?_
 intro l SS XX hy L0 h0
 have hper:=hok.per
 have hslen:=hok.slen
 obtain⟨W,hW⟩:∃W,runW x at0=W:=⟨_,rfl⟩
 have hxs:YkG x at0=W.map cntV:=by unfold YkG;rw[hW]
 rw[hxs]at hy⊢
 rw[Tu]
 obtain⟨endd,hend⟩:∃e,at0+x.f.2.2.2.1=e:=⟨_,rfl⟩
 unfold runW at hW
 rw[hend]at hW
 unfold intB at hy⊢
 iterate 3 (first|refine zga ?_|(refine zgh ?_;intro _)|fail)
 rename_i gy
 apply YnB
 apply Ybq
 apply Y0
 refine Zt (λz:Nat×Nat=>[(5,.pointer (some ⟨z.2,0,none⟩)),(4,.pointer (some ⟨z.1,0,none⟩)),(3,.pointer (some ⟨gy,0,none⟩)),(1,.pointer (some ⟨ga,0,none⟩)),(2,.pointer (some ⟨gw,0,none⟩))])
  (λz=>intB z.1 at0::many L0::intB z.2 endd::blk gy (.cells #[.func (.yield l) #[] #[]] 385 (0,0))::intB ga at0::wayB gw x::H) ?_ ?_
 ·intro K hK
  repeat'(first|fail)
  apply JR (.n1 0 (.n1 1 (.n1 2 (.n1 3 (.n1 4 (.n1 5 (.n2 6 (.n1 7 (.n1 8 .done)) 7 (.n1 6 (.n1 8 .done))))))))) [9] [false,false,true,true]
  kernel_rfl
  kernel_rfl
  exact zy
  (simp only[Yh,nthO];rfl)
  repeat'(first|(apply Yj;try exact zl)|apply(zs91 ?_ ?_)|(apply Y4;try exact zl)|refine zgd ?_|(refine zgh ?_;intro _)|fail)
  ·rename_i a b
   rw[hend]
   apply hK (a,b)
   ·exact zc1
   ·unfold intB
    dsimp only
    exact zc0
  ·rename_i a b
   rw[hend]
   apply hK (b,a)
   ·exact zc1
   ·unfold intB
    dsimp only
    exact zc0
 rintro⟨g4,g5⟩
 unfold intB
 dsimp only
 refine zX7 ?_
 apply Yi _ Ysq
 exact za
 exact rfl
 exactλ_ hw=>(YcP x (hw))
 rintro _ _ ⟨g2,rfl,rfl⟩
 refine zX7 ?_
 have hiK:x.In B w0 (wayB g2 x::blk g5 (.cells #[.int .i64 endd] 3 (0,0))::blk gy (.cells #[.func (.yield l) #[] #[]] 385 (0,0))::blk ga (.cells #[.int .i64 at0] 3 (0,0))::wayB gw x::H):=hi.cons.cons.cons.cons.cons
 refine ZI (gf:=398) (lb:=[.pointer (some ⟨g2,0,none⟩)]) (xs:=JH x) (wayB g2 x::blk g5 (.cells #[.int .i64 endd] 3 (0,0))::blk gy (.cells #[.func (.yield l) #[] #[]] 385 (0,0))::blk ga (.cells #[.int .i64 at0] 3 (0,0))::wayB gw x::H) (λy:CtM=>[blk g4 (.cells #[.int .i64 y.a] 3 (0,0)),many y.L])
  (λk y=>y.c<=W.length/\W=W.take y.c++runP x.s.len (VB x.s.sch x.f.1) endd ((YH x.n.net x.r).drop k) y.a/\SS y.c y.L/\at0<=y.a/\y.a<=endd)
  (λe K=>e=.ret/\∃a L,(SS W.length L\/XX L)/\K=[blk g4 (.cells #[.int .i64 a] 3 (0,0)),many L]) ⟨0,at0,L0⟩ rfl YsD (YaZ x g2 hok hiK (.head _)) rfl ?_ (by kernel_rfl) (by kernel_rfl) ?_ ⟨Tc _,by simpa using hW.symm,h0,RS _,by show at0<=endd;omega⟩ ?_ ?_ ?_
 ·intro args h
  obtain⟨k,hk⟩:=TO.1 h
  obtain⟨l,_,rfl⟩:=UU hk
  rfl
 ·simp only[TF,TG]
  exact zc0
 ·rintro l2 k args R ⟨c,a,L⟩ hk ⟨hc,hWk,hS,ha0,ha1⟩
  obtain⟨lk,hlk,rfl⟩:=UU hk
  have hbd:=WN hok hlk
  dsimp only at hc hWk hS ha0 ha1
  dsimp only[U0,List.cons_append,List.nil_append]
  unfold lkV
  repeat'(first|refine zgc ?_|(refine zgh ?_;intro _)|fail)
  rename_i gl
  apply Vj (YO YD)
  intro R'
  refine zX9 ?_
  have hfew:=hok.few
  apply Yi _ Yvn
  exact za
  exact rfl
  exactλ_ hw=>(Yji x lk (by omega) (hi.mono zc0).s (hw))
  rintro _ _ ⟨A,cap,rfl,rfl⟩
  have hcsl:(VB x.s.sch x.f.1 lk).length<=512:=T0 (RO _ _) hfew
  have hdk:(YH x.n.net x.r).drop k=lk::(YH x.n.net x.r).drop (k+1):=by
   obtain⟨h1,h2⟩:=Tn.1 hlk
   rw[<-h2];exact T8 h1
  rw[hdk,Ypr]at hWk
  obtain⟨cs,hcs⟩:∃cs,VB x.s.sch x.f.1 lk=cs:=⟨_,rfl⟩
  obtain⟨ls,hls⟩:∃ls,(YH x.n.net x.r).drop (k+1)=ls:=⟨_,rfl⟩
  obtain⟨C,hC⟩:∃C,VB x.s.sch x.f.1=C:=⟨_,rfl⟩
  rw[hcs,hls,hC]at hWk
  rw[hcs]at hcsl⊢
  rw[hC,hls]
  unfold cels
  refine zX7 ?_
  rw[show lk.2.2+1=((Y6 lk:Nat):Int) from by unfold Y6;omega]
  have hnl8:Y6 lk<=8:=by unfold Y6;omega
  refine Yf (λz:CuM=>[(9,.int .i64 z.slot),(7,.int .i64 (z.k:Nat)),(8,.slice A cs.length cap),(6,.pointer (some ⟨gl,0,none⟩)),(5,.pointer (some ⟨g5,0,none⟩)),(4,.pointer (some ⟨g4,0,none⟩)),(3,.pointer (some ⟨gy,0,none⟩)),(1,.pointer (some ⟨ga,0,none⟩)),(2,.pointer (some ⟨gw,0,none⟩))])
   (λz=>R'::blk g4 (.cells #[.int .i64 z.a] 3 (0,0))::many z.L::sl 48 5 A cs.length cap (cs.flatMap celF)::blk gl (.cells #[.int .i64 lk.1,.int .i64 lk.2.1,.int .i64 lk.2.2] 145 (0,0))::wayB g2 x::blk g5 (.cells #[.int .i64 endd] 3 (0,0))::blk gy (.cells #[.func (.yield l) #[] #[]] 385 (0,0))::blk ga (.cells #[.int .i64 at0] 3 (0,0))::wayB gw x::H)
   (λz=>z.c<=W.length/\W=W.take z.c++Ws x.s.len C endd cs ls (endd-z.slot).toNat z.k z.slot z.a/\SS z.c z.L/\(at0<=z.a/\z.a<=endd)/\(at0<=z.slot/\z.slot<=endd)/\z.k<=8) (λz=>(endd-z.slot).toNat) ⟨Y6 lk,a,a,c,L⟩ ⟨hc,hWk,hS,⟨ha0,ha1⟩,⟨ha0,ha1⟩,hnl8⟩ ?_ ?_ ?_
  ·exact zc1
  ·exact zc0
  rintro⟨kk,slot,a,c,L⟩ ⟨hc,hWk,hS,⟨ha0,ha1⟩,⟨hs0,hs1⟩,hk8⟩ K hK
  dsimp only at hc hWk hS ha0 ha1 hs0 hs1 hk8⊢
  by_cases hk0:kk=0
  ·subst hk0
   rw[Yng]at hWk
   clear hK
   refine zX41 ?_<;>intros
   apply UK (CtM.mk c a L)
   ·exact⟨hc,hWk,hS,ha0,ha1⟩
   ·dsimp only[List.cons_append,List.nil_append]
    exact zc0
  by_cases hse:endd<=slot
  ·rw[show(endd-slot).toNat=0 by omega,Ypy hk0]at hWk
   have hce:=YiK hc hWk
   rw[hce]at hS
   clear hK
   refine zX24 ?_<;>intros
   apply Qg [blk g4 (.cells #[.int .i64 a] 3 (0,0)),many L]
   ·exact⟨rfl,a,L,.inl hS,rfl⟩
   ·dsimp only[List.cons_append,List.nil_append]
    exact zc0
  obtain⟨f,hf⟩:∃f,(endd-(slot+1)).toNat=f:=⟨_,rfl⟩
  have hf1:(endd-slot).toNat=f+1:=by omega
  have hmt:slot.tmod x.s.len=slot%x.s.len:=Rb (by omega)
  rw[hf1,<-Ypl]at hWk
  refine zX48 ?_<;>intros
  refine Yf (λy:CvM=>[(37,.int .i64 (y.j:Nat)),(36,.int .i64 cs.length),(35,.slice A cs.length cap),(9,.int .i64 slot),(7,.int .i64 (y.k:Nat)),(8,.slice A cs.length cap),(6,.pointer (some ⟨gl,0,none⟩)),(5,.pointer (some ⟨g5,0,none⟩)),(4,.pointer (some ⟨g4,0,none⟩)),(3,.pointer (some ⟨gy,0,none⟩)),(1,.pointer (some ⟨ga,0,none⟩)),(2,.pointer (some ⟨gw,0,none⟩))])
   (λy=>R'::blk g4 (.cells #[.int .i64 y.a] 3 (0,0))::many y.L::sl 48 5 A cs.length cap (cs.flatMap celF)::blk gl (.cells #[.int .i64 lk.1,.int .i64 lk.2.1,.int .i64 lk.2.2] 145 (0,0))::wayB g2 x::blk g5 (.cells #[.int .i64 endd] 3 (0,0))::blk gy (.cells #[.func (.yield l) #[] #[]] 385 (0,0))::blk ga (.cells #[.int .i64 at0] 3 (0,0))::wayB gw x::H)
   (λy=>y.j<=cs.length/\y.c<=W.length/\W=W.take y.c++OP x.s.len C endd cs (cs.drop y.j) ls f y.k slot y.a/\SS y.c y.L/\(at0<=y.a/\y.a<=endd)/\y.k<=8) (λy=>cs.length-y.j) ⟨0,kk,a,c,L⟩ ⟨Tc _,hc,hWk,hS,⟨ha0,ha1⟩,hk8⟩ ?_ ?_ ?_
  ·exact zc1
  ·exact zc0
  clear hWk hS hc hk0 hk8 ha0 ha1
  rintro⟨j,kk,a,c,L⟩ ⟨hj,hc,hWk,hS,⟨ha0,ha1⟩,hk8⟩ K2 hK2
  dsimp only at hj hc hWk hS ha0 ha1 hk8⊢
  by_cases hjl:j<cs.length
  rotate_left
  ·obtain rfl:j=cs.length:=by omega
   rw[RV,Ypm]at hWk
   clear hK2
   refine zX1 ?_<;>intros
   apply hK ⟨kk,slot+1,a,c,L⟩
   ·exact⟨hc,by rw[hf];exact hWk,hS,⟨ha0,ha1⟩,⟨by show at0<=slot+1;omega,by show slot+1<=endd;omega⟩,hk8⟩
   ·exact zc83
   ·exact zc1
   exact zc20
  obtain⟨d,hd⟩:∃d,cs[j]? =some d:=⟨_,Ta hjl⟩
  have hdj:cs.drop j=d::cs.drop (j+1):=by
   obtain⟨h1,h2⟩:=Tn.1 hd
   rw[<-h2];exact T8 h1
  rw[hdj]at hWk
  by_cases hcd:d.1=slot%x.s.len/\kk≠0
  ·obtain⟨hcd1,hcd2⟩:=hcd
   obtain⟨k3,rfl⟩:∃k3,kk=k3+1:=⟨kk-1,by omega⟩
   rw[Ypn (by rw[hmt];exact hcd1) hcd2,SR]at hWk
   obtain⟨hx,hc1,hW1⟩:=Ypz hc hWk
   have hx:(W.map cntV)[c]? =some [celV d,.int .i64 slot]:=by rw[TU,hx];rfl
   repeat'(first|(refine Yfw 3 57 rfl rfl rfl ?_)|refine zgd ?_|(refine zge ?_ ?_<;>intro _<;>try exact zo)|(refine zgh ?_;intro _)|fail)
   first|(rename_i gc _ _;guard_hyp gc:Nat)|(rename_i gc _;guard_hyp gc:Nat)|(rename_i gc _ _ _;guard_hyp gc:Nat)
   rw[show((k3+1:Nat):Int)-1=(k3:Int) by omega]
   apply Yg (R'::blk gc (.cells #[.int .i64 d.1,.int .i64 d.2.1,.int .i64 d.2.2.1,.int .i64 d.2.2.2.1,.int .i64 d.2.2.2.2] 48 (0,0))::sl 48 5 A cs.length cap (cs.flatMap celF)::blk gl (.cells #[.int .i64 lk.1,.int .i64 lk.2.1,.int .i64 lk.2.2] 145 (0,0))::blk g4 (.cells #[.int .i64 (slot+1)] 3 (0,0))::wayB g2 x::blk g5 (.cells #[.int .i64 endd] 3 (0,0))::blk gy (.cells #[.func (.yield l) #[] #[]] 385 (0,0))::many L::blk ga (.cells #[.int .i64 at0] 3 (0,0))::wayB gw x::H)
   ·exact zc0
   have hY:=hy c _ hx [R',blk gc (.cells #[.int .i64 d.1,.int .i64 d.2.1,.int .i64 d.2.2.1,.int .i64 d.2.2.2.1,.int .i64 d.2.2.2.2] 48 (0,0)),sl 48 5 A cs.length cap (cs.flatMap celF),blk gl (.cells #[.int .i64 lk.1,.int .i64 lk.2.1,.int .i64 lk.2.2] 145 (0,0)),blk g4 (.cells #[.int .i64 (slot+1)] 3 (0,0)),wayB g2 x,blk g5 (.cells #[.int .i64 endd] 3 (0,0)),blk gy (.cells #[.func (.yield l) #[] #[]] 385 (0,0))] L hS
   apply Yl0 _ _ (hy:=hY)
   ·exact Ybe
   ·exact rfl
   ·exact YpU
   ·exact rfl
   ·exact zc46
   ·exact rfl
   ·rintro _ ⟨L',hS',rfl⟩
    dsimp only[List.cons_append,List.nil_append]
    refine zX2 ?_
    apply hK2 ⟨j+1,k3,slot+1,c+1,L'⟩
    ·exact⟨by show j+1<=_;omega,hc1,hW1,hS',⟨by show at0<=slot+1;omega,by show slot+1<=endd;omega⟩,by show k3<=8;omega⟩
    ·exact zc83
    ·exact zc1
    ·exact zc0
   ·rintro _ ⟨L',hX',rfl⟩
    dsimp only[List.cons_append,List.nil_append]
    refine zX2 ?_
    apply Qg [blk g4 (.cells #[.int .i64 (slot+1)] 3 (0,0)),many L']
    ·exact⟨rfl,slot+1,L',.inr hX',rfl⟩
    ·dsimp only[List.cons_append,List.nil_append]
     exact zc0
  ·rw[Yri (by rw[hmt];exact hcd)]at hWk
   repeat'(first|refine zgd ?_|(refine zge ?_ ?_<;>intro _<;>try exact zo)|(refine zgh ?_;intro _)|fail)
   all_goals(
    apply hK2 ⟨j+1,kk,a,c,L⟩
    ·exact⟨by show j+1<=_;omega,hc,hWk,hS,⟨ha0,ha1⟩,hk8⟩
    ·dsimp only;omega
    ·exact zu
    ·exact zk)
 ·rintro D ⟨c,a,L⟩ ⟨hc,hWk,hS,ha0,ha1⟩
  dsimp only at hc hWk hS ha0 ha1
  have hle:(JH x).length=(YH x.n.net x.r).length:=by unfold JH;rw[Tu]
  rw[hle,RV]at hWk
  have hce:=YiK hc hWk
  rw[hce]at hS
  dsimp only[List.cons_append,List.nil_append]
  refine zX9 ?_
  apply Yqr
  apply Z0 YD
  apply VQ_m
  apply Yg (many L::blk ga (.cells #[.int .i64 at0] 3 (0,0))::wayB gw x::H)
  ·exact zc0
  apply Ob;exact rfl
  exact .inl ⟨L,hS,rfl⟩
 ·rintro D _ _ ⟨rfl,a,L,hSL,rfl⟩ _
  dsimp only[List.cons_append,List.nil_append]
  refine zX2 ?_
  apply Z0 YD
  apply VQ_m
  apply Yg (many L::blk ga (.cells #[.int .i64 at0] 3 (0,0))::wayB gw x::H)
  ·exact zc0
  apply Ob;exact rfl
  rcases hSL with h|h
  ·exact .inl ⟨L,h,rfl⟩
  ·exact .inr ⟨L,h,rfl⟩
end Go.Proofs.YtjlgijpmnfabcaaGreatDoor
