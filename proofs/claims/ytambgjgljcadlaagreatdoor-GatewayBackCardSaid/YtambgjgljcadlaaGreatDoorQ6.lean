/- Lemmas. -/
import Derived.Deep.Slices
import Derived.Lib.SmallJoins
import Derived.OpenShut
import Derived.WideKeyRuns
import Derived.Test.YtambgjgljcadlaaGreatDoorQ2
import Derived.Test.YtambgjgljcadlaaGreatDoorQ3
set_option maxRecDepth 100000
set_option maxHeartbeats 8000000
set_option linter.all false
namespace Go.Eng
open Go.ChangeShapes Go.WideShapes Go.ChangeAt Go.RowKit Go.Deep
def Old(W:World)(A:Option Addr)(xs:List Value):Prop:=∀j v,xs[j]? =some v->∃g o,A=some ⟨g,o,none⟩/\g<W.heap.size/\W.cell? ⟨g,o+j,none⟩=some v
variable {W:World}{A:Option Addr}
theorem Old.rd{H:List HP}{xs:List Value}(h:Old W A xs):Rd W.heap.size W H A xs:=Rd.old h
theorem Yr1{a:Addr}{v:Value}(h:W.cell? a=some v):a.block<W.heap.size:=by
 unfold World.cell? at h
 rcases Nc a.block W.heap.size with h1|h1
 ·exact h1
 ·rw[SE h1]at h;cases h
section
variable {H:Type}{enc:TypeId×Value->H}{P:Program}{W:World}{held:Bool}
variable {A:Option Addr}
theorem Yn4{α:Type}{f:α->List Value}{good:α->Prop}{t e q:Nat}{fuel:Nat}{len cap:Nat}{x:DataW H×List MemPlace}{spare:Nat->Bool}(ht:P.underlying t=some (.slice e))(hc:P.cellsOf e=q)(h0:0<q)
 (hel:∀n cs y,cs.length=q->DataW.trod enc P W 0 spare held n e cs=some y->∃a,cs=f a/\good a) (h:DataW.trod enc P W 0 spare held fuel t [.slice A len cap]=some x):
 ∃l:List α,l.length=len/\Old W A (l.flatMap f)/\(∀a∈l,good a)/\len<=maxLen/\(∀a∈l,(f a).length=q):=by
 rcases open_slice ht h with⟨h1,_⟩|⟨a,len',cap',m,n,D,Pl,h1,_,hl,hm,hmm,hxx,hx⟩
 ·injection h1 with h1 _
  injection h1 with h1 h2 h3
  subst h1 h2 h3
  exact⟨[],rfl,(λj v hv=>by simp at hv),(λa ha=>by cases ha),Tj _,(λa ha=>by cases ha)⟩
 ·injection h1 with h1 _
  injection h1 with h1 h2 h3
  subst h1 h2 h3
  have hle:len<=m:=by rw[hmm];split<;>omega
  rw[hc]at hx
  have key:∀i,i<len->∃b:α,W.cells? 0 (a.add (i*q)) q=some (f b)/\good b:=λi hi=>by
   obtain⟨cs',h2,h3⟩:=hx i (by omega)
   obtain⟨_,h5,_⟩:=World.cells?_some h2
   obtain⟨b,rfl,hb⟩:=hel n cs' _ h5 h3
   exact⟨b,h2,hb⟩
  obtain⟨l,hlen,hl2⟩:∃l:List α,l.length=len/\∀i b,l[i]? =some b->W.cells? 0 (a.add (i*q)) q=some (f b)/\good b:=by
   clear hx hmm hle h hl hm hxx
   induction len with
   |zero=>exact⟨[],rfl,λi b hb=>by simp at hb⟩
   |succ k ih=>
    obtain⟨l,h2,h3⟩:=ih (λi hi=>key i (by omega))
    obtain⟨b,h4⟩:=key k (by omega)
    refine⟨l++[b],by simp[h2],λi c hc=>?_⟩
    by_cases hi:i<l.length
    ·rw[Sr hi]at hc;exact h3 i c hc
    ·rw[RB (by omega)]at hc
     have hi2:i-l.length=0:=by
      have:=(Tc.1 hc).1
      simp at this;omega
     rw[hi2]at hc
     obtain rfl:b=c:=by simpa using hc
     obtain rfl:i=k:=by omega
     exact h4
  have hfq:∀b∈l,(f b).length=q:=λb hb=>by
   obtain⟨i,hi⟩:=List.getElem?_of_mem hb
   exact(World.cells?_some (hl2 i b hi).1).2.1
  refine⟨l,hlen,λj v hv=>?_,λb hb=>?_,by omega,hfq⟩
  ·have hspl:∃i b,l[i]? =some b/\∃r,j=i*q+r/\r<q/\(f b)[r]? =some v:=by
    clear hlen hl2 key
    induction l generalizing j with
    |nil=>simp at hv
    |cons b l ih=>
     rw[TT]at hv
     have hb:=hfq b (by simp)
     by_cases hj:j<q
     ·rw[Sr (by omega)]at hv
      exact⟨0,b,rfl,j,by omega,hj,hv⟩
     ·rw[RB (by omega),hb]at hv
      obtain⟨i,b',h5,r,h6,h7,h8⟩:=ih (λc hc=>hfq c (by simp[hc])) (j-q) hv
      exact⟨i+1,b',by simpa using h5,r,by rw[SH];omega,h7,h8⟩
   obtain⟨i,b,h5,r,rfl,h7,h8⟩:=hspl
   have h9:=(World.cells?_some (hl2 i b h5).1).2.2 r h7
   rw[h8,add_add]at h9
   obtain⟨ab,ao,spot⟩:=a
   have hs0:spot=none:=by
    have h10:=World.cell?_spot h9
    unfold Addr.add at h10
    split at h10
    ·exact h10
    ·rename_i hne
     have hi0:i<len:=by have:=(Tc.1 h5).1;omega
     have h11:=(World.cells?_some (hl2 0 l[0] (Ta (by omega))).1).2.2 0 h0
     rw[add_add,Nat.zero_mul,RH]at h11
     have hf0:((f l[0])[0]?).isSome=true:=by
      rw[Ta (by rw[hfq _ (NS _)];exact h0)];rfl
     cases hf1:(f l[0])[0]? with
     |none=>rw[hf1]at hf0;cases hf0
     |some u=>
      rw[hf1]at h11
      exact World.cell?_spot h11
   subst hs0
   refine⟨ab,ao,rfl,?_,?_⟩
   ·have:=Yr1 h9
    rw[Addr.add_lit]at this
    exact this
   ·rw[Addr.add_lit]at h9
    exact h9
  ·obtain⟨i,hi⟩:=List.getElem?_of_mem hb
   exact(hl2 i b hi).2
end
structure SlM(α:Type) where
 A:Option Addr
 cap:Nat
 xs:List α
def SlM.val{α:Type}(s:SlM α):Value:=.slice s.A s.xs.length s.cap
section
variable {H:Type}{enc:TypeId×Value->H}{P:Program}{W:World}{spare:Nat->Bool}{held:Bool}
def Opn(enc:TypeId×Value->H)(P:Program)(W:World)(spare:Nat->Bool)(held:Bool)(t:TypeId){α:Type}(f:α->List Value)(good:α->Prop):Prop:=
 ∀fuel cs y,DataW.trod enc P W 0 spare held fuel t cs=some y->∃a,cs=f a/\good a
variable {t:TypeId}{α β:Type}
theorem J9{f:α->List Value}{good:α->Prop}{f':β->List Value}{good':β->Prop}(h:Opn enc P W spare held t f good)(g:α->β)(hf:∀a,f a=f' (g a))(hg:∀a,good a->good' (g a)):Opn enc P W spare held t f' good':=by
 intro fuel cs y hy
 obtain⟨a,h1,h2⟩:=h fuel cs y hy
 exact⟨g a,h1.trans (hf a),hg a h2⟩
theorem Yvs{k:IntKind}(ht:P.underlying t=some (.int k)):Opn enc P W spare held t (λz:Int=>[Value.int k z]) (λz=>(Lit.int k z).wf=true):=by
 intro fuel cs y hy
 obtain⟨m,rfl,rfl,hw⟩:=DataW.trod_int ht hy
 exact⟨m,rfl,hw⟩
structure SlG{α:Type}(W:World)(f:α->List Value)(good:α->Prop)(s:SlM α):Prop where
 old:Old W s.A (s.xs.flatMap f)
 good:∀a∈s.xs,good a
 len:s.xs.length<=maxLen
 cap:s.xs.length<=s.cap
theorem Zq{e q:TypeId}{f:α->List Value}{good:α->Prop}(ht:P.underlying t=some (.slice e))(hc:P.cellsOf e=q)(h0:0<q)(h:Opn enc P W spare held e f good):Opn enc P W spare held t (λs:SlM α=>[s.val]) (SlG W f good):=by
 intro fuel cs y hy
 rcases open_slice ht hy with⟨rfl,_⟩|⟨a,len,cap,m,n,D,Pl,rfl,_,hlc,_⟩
 ·exact⟨⟨none,0,[]⟩,rfl,⟨(λj v hv=>by simp at hv),(λa ha=>by cases ha),Tj _,Tj _⟩⟩
 ·obtain⟨l,h1,h2,h3,h4,_⟩:=Yn4 ht hc h0 (λn cs y _ hy=>h n cs y hy) hy
  subst h1
  exact⟨⟨some a,cap,l⟩,rfl,h2,h3,h4,hlc⟩
def FOpn(enc:TypeId×Value->H)(P:Program)(W:World)(spare:Nat->Bool)(held:Bool)(ts:List TypeId){α:Type}(f:α->List Value)(good:α->Prop):Prop:=
 ∀(n:Nat) (cs:List Value),cs.length=(ts.map P.cellsOf).sum->(∀i t,ts[i]? =some t->∃y,DataW.trod enc P W 0 spare held n t ((cs.drop ((ts.take i).map P.cellsOf).sum).take (P.cellsOf t))=some y)->∃a,cs=f a/\good a
theorem JB:FOpn enc P W spare held [] (λ_:Unit=>[]) (λ_=>True):=λn cs h _=>⟨(),SL (by simpa using h),trivial⟩
variable {ts:List TypeId}
theorem Yu{f:α->List Value}{good:α->Prop}{g:β->List Value}{good':β->Prop}(h:Opn enc P W spare held t f good)(hs:FOpn enc P W spare held ts g good'):
 FOpn enc P W spare held (t::ts) (λx:α×β=>f x.1++g x.2) (λx=>good x.1/\good' x.2):=by
 intro n cs hl hx
 simp only[Ru,Nx]at hl
 obtain⟨y,hy⟩:=hx 0 t rfl
 simp only[ND,Nj,List.sum_nil,List.drop_zero]at hy
 obtain⟨a,h1,h2⟩:=h n _ y hy
 obtain⟨b,h3,h4⟩:=hs n (cs.drop (P.cellsOf t)) (by simp;omega) (λi u hu=>by
  obtain⟨y,hy⟩:=hx (i+1) u (by simpa using hu)
  refine⟨y,?_⟩
  rw[SX]
  simpa using hy)
 exact⟨(a,b),by show cs=f a++g b;rw[<-h1,<-h3,Rk],h2,h4⟩
def offs(P:Program):List TypeId->Nat->List Nat
 |[],_=>[]
 |t::ts,o=>o::offs P ts (o+P.cellsOf t)
theorem YiV(P:Program):∀(ts:List TypeId) (o i:Nat),i<ts.length->(offs P ts o)[i]? =some (o+((ts.take i).map P.cellsOf).sum)
 |[],_,_,h=>by simp at h
 |t::ts,o,0,_=>by simp[offs]
 |t::ts,o,i+1,h=>by
  rw[offs,SV,YiV P ts _ i (by simpa using h)]
  simp[Nat.add_assoc]
def Ymv(P:Program)(t:TypeId)(ts:List TypeId):Bool:=
 match P.underlying t with
 |some (.struct fs)=>(fs.toList.map (·.type)==ts)&&(fs.toList.map (·.offset)==offs P ts 0)&&(P.cellsOf t==(ts.map P.cellsOf).sum)
 |_=>false
theorem Ze{f:α->List Value}{good:α->Prop}(hB:Ymv P t ts=true)(h:FOpn enc P W spare held ts f good):Opn enc P W spare held t f good:=by
 intro fuel cs y hy
 unfold Ymv at hB
 cases hu:P.underlying t with
 |none=>rw[hu]at hB;cases hB
 |some d=>
  rw[hu]at hB
  cases d with
  |struct fs=>
   simp only[To,NG]at hB
   obtain⟨⟨h1,h2⟩,h3⟩:=hB
   obtain⟨xs,n,_,_,hl,hn,hx⟩:=DataW.trod_struct hu hy
   refine h n cs (hl.trans h3) λi u hi=>?_
   have hlt:i<ts.length:=(Tc.1 hi).1
   have hlf:i<fs.toList.length:=by rw[<-h1]at hlt;simpa using hlt
   have hf:fs[i]? =some (fs.toList[i]):=by rw[<-Array.getElem?_toList,Ta hlf]
   have ht:(fs.toList[i]).type=u:=by
    rw[<-h1,TX,Ta hlf]at hi
    simpa using hi
   have ho:(fs.toList[i]).offset=((ts.take i).map P.cellsOf).sum:=by
    have h5:=YiV P ts 0 i hlt
    rw[<-h2,TX,Ta hlf]at h5
    simpa using h5
   have h6:=hx i _ hf
   rw[ht,ho]at h6
   have hlx:i<xs.length:=by rw[hn];simpa using hlf
   exact⟨xs[i],by rw[h6,Ta hlx]⟩
  |_=>cases hB
end
end Go.Eng
namespace Go.Rt
open Go.Nw
theorem UU(e:E3)(E:List E3)(p:Int->Int):balE (e::E) p=(p e.2.1-p e.1)+balE E p:=YX _ _ _
theorem YhP(E F:List E3)(p:Int->Int):balE (E++F) p=balE E p+balE F p:=Jt _ _ _
theorem Ye1{E F:List E3}(h:E.Perm F)(p:Int->Int):balE E p=balE F p:=V5 _ h
def YbV(L:List FA):List E3:=(L.filter λx=>x.u).map λx=>(x.f,x.t,x.c)
def YpX(L:List FA):List E3:=(L.filter λx=>!x.u).map λx=>(x.f,x.t,x.c)
theorem YoC(L:List FA):(Zb L).Perm (YbV L++YpX L):=by
 unfold Zb YbV YpX
 rw[<-Rl]
 exact List.Perm.map _ (List.filter_append_perm _ L).symm
theorem Yq8(L:List FA)(p:Int->Int):balE (YbV L) p=bal L p:=by
 unfold YbV bal
 induction L with
 |nil=>rfl
 |cons x L ih=>
  rw[YX,<-ih,SA]
  unfold balG
  cases hu:x.u with
  |true=>simp[UU]
  |false=>simp
theorem YoA(L:List FA):Z8 (YbV L)=Uv L:=by
 unfold YbV Uv
 induction L with
 |nil=>rfl
 |cons x L ih=>
  rw[YX,<-ih,SA]
  unfold Yh4 Z8
  cases hu:x.u with
  |true=>simp[YX]
  |false=>simp
inductive Ycn:Int->Int->List E3->Prop
 |nil {t:Int}:Ycn t t []
 |cons {e:E3}{t:Int}{E:List E3}(h:Ycn e.2.1 t E):Ycn e.1 t (e::E)
def ind(v w:Int):Int:=if w=v then 1 else 0
theorem Ybc{T:Int}{X:(Int->Int)->Int}(hX:∀v,v≠T->X (ind v)<=0):∀(n:Nat) (U:List E3) (A:Int),U.length<=n->(∀p,balE U p=(p T-p A)+X p)->∃P U',U.Perm (P++U')/\Ycn A T P/\∀p,balE U' p=X p
 |n,U,A,hn,hb=>by
  by_cases hAT:A=T
  ·subst hAT
   exact⟨[],U,.refl _,.nil,λp=>by simp_all⟩
  ·have h1:=hb (ind A)
   have h2:=hX A hAT
   have h3:ind A A=1:=Tm rfl
   have h4:ind A T=0:=Td (NM hAT)
   have hex:∃e∈U,e.1=A:=by
    by_cases hex:∃e∈U,e.1=A
    ·exact hex
    ·exfalso
     have:0<=balE U (ind A):=UG λe he=>by
      have:ind A e.1=0:=Td λh=>hex ⟨e,he,h⟩
      grind [ind]
     omega
   obtain⟨e,he,rfl⟩:=hex
   have hp:=List.perm_cons_erase he
   have hl:=hp.length_eq
   rw[TG]at hl
   cases n with
   |zero=>omega
   |succ n=>
    obtain⟨P,U',g1,g2,g3⟩:=Ybc hX n (U.erase e) e.2.1 (by omega) λp=>by
     grind [Ye1,UU]
    exact⟨e::P,U',hp.trans (.cons _ g1),.cons g2,g3⟩
inductive Way (l:List Lk) (sh:Int->Bool) (to:Int):Int->List Lk->Prop
 |last {a:Lk}(ha:a∈l) (ht:a.2.1=to):Way l sh to a.1 [a]
 |step {a:Lk}{az:List Lk}(ha:a∈l) (hs:sh a.2.1=false) (h:Way l sh to a.2.1 az):Way l sh to a.1 (a::az)
def Xn:List Lk->List Int
 |[]=>[]
 |_::az=>az.map λa=>a.1
def eOf(az:List Lk):List E3:=az.map arc3++(Xn az).map JF
def Zf(az:List Lk):Int:=sumI (λa:Lk=>a.2.2) az
variable {l az:List Lk}{sh:Int->Bool}{to u b:Int}
theorem Way.cons_(h:Way l sh to u az):∃a az',az=a::az'/\a.1=u:=by
 cases h with
 |last ha ht=>simp_all
 |step ha hs h=>simp_all
variable {a:Lk}
theorem Way.inner_cons(h:Way l sh to u az):Xn (a::az)=u::Xn az:=by
 obtain⟨b,bs,rfl,rfl⟩:=h.cons_
 rfl
theorem Way.mem(h:Way l sh to u az):∀a∈az,a∈l:=by
 induction h with
 |last ha ht=>simp_all
 |step ha hs h ih=>
  simp_all
theorem Way.open_(h:Way l sh to u az):∀v∈Xn az,sh v=false:=by
 induction h with
 |last ha ht=>intro v hv;cases hv
 |step ha hs h ih=>
  intro v hv
  rw[h.inner_cons]at hv
  grind
theorem Way.perm_e(h:Way l sh to u az):(eOf (a::az)).Perm (arc3 a::JF u::eOf az):=by
 unfold eOf
 rw[h.inner_cons,Ru,Ru,TF]
 exact .cons _ List.perm_middle
theorem Way.bal_(h:Way l sh to u az)(p:Int->Int):balE (eOf az) p=p (2*to)-p (2*u+1):=by
 induction h with
 |@last a ha ht=>
  have:eOf [a]=[arc3 a]:=rfl
  rw[this,UU,<-ht]
  simp[arc3,balE,YqZ]
 |step ha hs h ih=>
  rw[Ye1 h.perm_e,UU,UU,ih]
  grind [arc3,JF]
theorem Q8(az:List Lk):Z8 (eOf az)=Zf az:=by
 unfold Z8 eOf Zf
 rw[Jt,Yee,Yee]
 have:sumI (λx=>(JF x).2.2) (Xn az)=0:=by
  generalize Xn az=I
  induction I with
  |nil=>rfl
  |cons v I ih=>rw[YX,ih];rfl
 rw[this,N8]
 rfl
theorem Yeo{l:List Lk}{sh:Int->Bool}{to:Int}(hto:sh to=true):∀(n:Nat) (P:List E3) (u:Int),P.length<=n->(∀e∈P,(∃v,sh v=false/\e=JF v)\/∃a∈l,e=arc3 a)->Ycn (2*u+1) (2*to) P->∃az,Way l sh to u az/\P.Perm (eOf az)
 |n,P,u,hn,hm,hw=>by
  obtain⟨s,hs⟩:∃s,2*u+1=s:=⟨_,rfl⟩
  obtain⟨t,ht⟩:∃t,2*to=t:=⟨_,rfl⟩
  rw[hs,ht]at hw
  cases hw with
  |nil=>omega
  |@cons e _ E hw=>
   rcases hm e TB with⟨v,_,rfl⟩|⟨a,ha,rfl⟩
   ·grind [JF]
   ·have hu:a.1=u:=by grind [arc3]
    subst hu
    obtain⟨s2,hs2⟩:∃s,(arc3 a).2.1=s:=⟨_,rfl⟩
    rw[hs2]at hw
    cases hw with
    |nil=>
     refine⟨[a],.last ha (by grind [arc3]),.refl _⟩
    |@cons e' _ E' hw=>
     rcases hm e' (Tz _ TB)with⟨v,hv,rfl⟩|⟨a',_,rfl⟩
     ·have hva:a.2.1=v:=by grind [arc3,JF]
      subst hva
      cases n with
      |zero=>simp at hn
      |succ n=>
       obtain⟨az,h1,h2⟩:=Yeo hto n E' a.2.1 (by grind) (λe he=>hm e (Tz _ (Tz _ he))) (by rw[ht];exact hw)
       exact⟨a::az,.step ha hv h1,(List.Perm.cons _ (.cons _ h2)).trans h1.perm_e.symm⟩
     grind [arc3]
structure Cand(l:List Lk)(sh:Int->Bool)(a b to:Int)(az bs:List Lk):Prop where
 p:Way l sh to a az
 q:Way l sh to b bs
 arcs:(az++bs).Nodup
 nodes:(Xn az++Xn bs).Nodup
theorem Yjp:∀{E M:List E3},E.Nodup->(∀e∈E,e∈M)->∃R,M.Perm (E++R)
 |[],M,_,_=>⟨M,.refl _⟩
 |e::E,M,hn,hm=>by
  obtain⟨h1,h2⟩:=SZ.1 hn
  have hp:=List.perm_cons_erase (hm e TB)
  obtain⟨R,hR⟩:=Yjp (M:=M.erase e) h2 λx hx=>by
   grind
  exact⟨R,hp.trans (.cons _ hR)⟩
theorem Yj8(az bs:List Lk):(eOf az++eOf bs).Perm ((az++bs).map arc3++(Xn az++Xn bs).map JF):=by
 unfold eOf
 rw[Rl,Rl]
 rw[T0,T0]
 refine .append_left _ ?_
 rw[<-T0,<-T0]
 exact .append_right _ NL
theorem Cand.sub{nodes:Nat}{a:Int}{bs:List Lk}(hl:Arcs8 nodes l)(h:Cand l sh a b to az bs):∃R,(Zb (Z6 nodes l sh)).Perm ((eOf az++eOf bs)++R):=by
 have hn:(eOf az++eOf bs).Nodup:=by
  rw[(Yj8 az bs).nodup_iff]
  refine Rn.2 ⟨UM YhM h.arcs,UM Yn0 h.nodes,λx hx y hy=>?_⟩
  obtain⟨c,_,rfl⟩:=TD.1 hx
  obtain⟨v,_,rfl⟩:=TD.1 hy
  exact YhN c v
 refine Yjp hn λe he=>?_
 have he:=(Yj8 az bs).mem_iff.1 he
 rcases TJ.1 he with he|he
 ·obtain⟨c,hc,rfl⟩:=TD.1 he
  refine OH.2 (.inr ⟨c,?_,rfl⟩)
  rcases TJ.1 hc with hc|hc
  ·exact h.p.mem c hc
  ·exact h.q.mem c hc
 ·obtain⟨v,hv,rfl⟩:=TD.1 he
  have hr:∀{u:Int}{cs:List Lk},Way l sh to u cs->v∈Xn cs->0<=v/\v<nodes:=λhw hv=>by
   have:∃c∈l,c.1=v:=by
    obtain⟨c,cs',rfl,_⟩:=hw.cons_
    obtain⟨d,hd,rfl⟩:=TD.1 hv
    exact⟨d,hw.mem d (Tz _ hd),rfl⟩
   obtain⟨c,hc,rfl⟩:=this
   exact(hl c hc).1
  rcases TJ.1 hv with hv|hv
  ·exact OH.2 (.inl ⟨v,hr h.p hv,h.p.open_ v hv,rfl⟩)
  ·exact OH.2 (.inl ⟨v,hr h.q hv,h.q.open_ v hv,rfl⟩)
theorem YhV{fuel nodes:Nat}{a:Int}{closed:Int->Bool}(hn:1<=nodes/\nodes<=50)(hl:Arcs8 nodes l)(hnd:l.Nodup)(ha:0<=a/\a<nodes)(hb:0<=b/\b<nodes)(ht:0<=to/\to<nodes)(hf:2*nodes*(48*nodes+1)<fuel):
 ∃r,V9 fuel nodes l a b to closed=some r/\((r.2.1=true/\(∃L π,Yb6 nodes l a b to r.1 (Y2 a b to closed) r.2.2 L π)/\(∃az bs,Cand l (Y2 a b to closed) a b to az bs/\Zf az+Zf bs=r.1)/\∀az bs,Cand l (Y2 a b to closed) a b to az bs->r.1<=Zf az+Zf bs)\/(r.2.1=false/\∀az bs,¬Cand l (Y2 a b to closed) a b to az bs)):=by
 obtain⟨r,hr,h⟩:=Yr0 (closed:=closed) hn hl ha hb ht hf
 refine⟨r,hr,?_⟩
 have hsto:Y2 a b to closed to=true:=by unfold Y2;simp
 have hcb:∀{az bs:List Lk},Cand l (Y2 a b to closed) a b to az bs->∀p,balE (eOf az++eOf bs) p=want a b to p:=λhc p=>by
  rw[YhP,hc.p.bal_,hc.q.bal_];rfl
 rcases h with⟨h1,L,π,hY⟩|⟨h1,hN⟩
 ·have hmin:∀az bs,Cand l (Y2 a b to closed) a b to az bs->r.1<=Zf az+Zf bs:=λaz bs hc=>by
   obtain⟨R,hR⟩:=hc.sub hl
   have:=Ynq hY.pot (by rw[hY.ends];exact hR) (by rw[hcb hc,hY.bal_])
   rw[hY.cost]at this
   unfold Z8 at this
   rw[Jt]at this
   have e1:=Q8 az
   have e2:=Q8 bs
   unfold Z8 at e1 e2
   omega
  refine .inl ⟨h1,⟨L,π,hY⟩,?_,hmin⟩
  have hub:=λp=>(Yq8 L p).trans (hY.bal_ p)
  obtain⟨P,U1,g1,g2,g3⟩:=Ybc (T:=2*to) (X:=λp=>p (2*to)-p (2*b+1)) (λv hv=>by
   rw[show ind v (2*to)=0 from Td (NM hv)]
   unfold ind;split<;>decide) _ (YbV L) (2*a+1) (TK _) hub
  obtain⟨Q,U2,g4,g5,g6⟩:=Ybc (T:=2*to) (X:=λ_=>0) (λv hv=>Ry _) _ U1 (2*b+1) (TK _) (λp=>by rw[g3 p];omega)
  have hall:(Zb L).Perm ((P++Q)++(U2++YpX L)):=by
   refine(YoC L).trans ?_
   rw[T0,<-T0 Q,<-T0 P]
   exact .append_right _ (g1.trans (.append_left _ g4))
  rw[hY.ends]at hall
  have hmem:∀e∈P++Q,(∃v,Y2 a b to closed v=false/\e=JF v)\/∃a∈l,e=arc3 a:=λe he=>by
   rcases OH.1 (hall.mem_iff.2 (RL _ he))with⟨v,_,hv,h⟩|h
   ·exact .inl ⟨v,hv,h⟩
   ·exact .inr h
  obtain⟨az,w1,p1⟩:=Yeo hsto _ P a (TK _) (λe he=>hmem e (RL _ he)) g2
  obtain⟨bs,w2,p2⟩:=Yeo hsto _ Q b (TK _) (λe he=>hmem e (TS _ he)) g5
  have hnd2:=hall.nodup_iff.1 (Yj9 hnd)
  have hnd3:=(Rn.1 hnd2).1
  rw[((p1.append p2).trans (Yj8 az bs)).nodup_iff]at hnd3
  obtain⟨n1,n2,_⟩:=Rn.1 hnd3
  have hc:Cand l (Y2 a b to closed) a b to az bs:=⟨w1,w2,JG n1,JG n2⟩
  refine⟨az,bs,hc,?_⟩
  have hle:Zf az+Zf bs<=r.1:=by
   have e1:=Q8 az
   have e2:=Q8 bs
   have e3:Z8 (YbV L)=Z8 P+(Z8 Q+Z8 U2):=by
    unfold Z8
    rw[V5 _ g1,Jt,V5 _ g4,Jt]
   have e4:Z8 P=Zf az:=by rw[<-e1];exact V5 _ p1
   have e5:Z8 Q=Zf bs:=by rw[<-e2];exact V5 _ p2
   have e6:0<=Z8 U2:=UG λe he=>(YbS hl e (hall.mem_iff.2 (TS _ (RL _ he)))).2.2.1
   rw[YoA,hY.cost]at e3
   omega
  have:=hmin az bs hc
  omega
 ·exact .inr ⟨h1,λaz bs hc=>by
   obtain⟨R,hR⟩:=hc.sub hl
   exact hN _ _ hR (hcb hc)⟩
def Ylz(l:List Lk):List Ed:=l.map λa=>⟨a.2.1,a.1,a.2.2,1⟩
variable {l:List Lk}{to:Int}
theorem Yh6{nodes:Nat}(hn:nodes<=500)(hl:Arcs8 nodes l)(ht:0<=to/\to<nodes):∃far,Dist nodes l to far:=by
 have hnc:=Yap
 have hes:Ed8 nodes (Ylz l):=by
  intro e he
  obtain⟨a,ha,rfl⟩:=TD.1 he
  obtain⟨h1,h2,h3⟩:=hl a ha
  simp only;omega
 have hp:PotE (Ylz l) (λ_=>0):=by
  intro e he _
  obtain⟨a,ha,rfl⟩:=TD.1 he
  obtain⟨h1,h2,h3⟩:=hl a ha
  simp only;omega
 have hG:RelG nodes (λ_=>0) (Zm nodes to,List.replicate nodes (-1),false):=by
  refine⟨QS,Rb,λv h0 h1=>?_,λv h0 h1=>?_,λv h0 h1=>?_⟩
  ·simp only;rw[Zx ht ⟨h0,h1⟩];split<;>omega
  ·simp only;rw[Zx ht ⟨h0,h1⟩]
   split
   ·intro _;omega
   ·intro h;exact absurd h (Nk _)
  ·simp only;rw[Zx ht ⟨h0,h1⟩];split<;>omega
 have hC:RelC nodes (Ylz l) to (Zm nodes to) (List.replicate nodes (-1)):=by
  refine⟨by rw[Zx ht ht,Tm rfl],λv h0 h1 h2=>?_⟩
  rw[Zx ht ⟨h0,h1⟩]at h2
  by_cases h:v=to
  ·rw[h];exact⟨0,.here⟩
  ·rw[Td h]at h2;exact absurd h2 (Nk _)
 obtain⟨⟨far,by_⟩,_,hG2,hC2,hcl⟩:=Ya7 (L:=0) (by omega) hes hp (λ_ _ _=>Ry _) (RelC nodes (Ylz l) to) (λi e st hi hG h=>YfI hes hp ht rfl i e st hi hG h) (mes nodes 0 (Zm nodes to)+1) _ _ hG hC (Nat.lt_succ_self _)
 simp only at hG2 hC2 hcl
 obtain⟨l1,l2,hlo,hhi,htop⟩:=hG2
 simp only at l1 l2 hlo hhi htop
 refine⟨far,l1,hC2.s0,λv h0 h1=>⟨hlo v h0 h1,htop v h0 h1⟩,λv h0 h1 hne hlt=>?_,λa ha hlt=>?_⟩
 ·obtain⟨n,hn2⟩:=hC2.ch v h0 h1 hlt
  cases hn2 with
  |here=>exact absurd rfl hne
  |step _ _ hi htt _ hT _=>
   obtain⟨a,ha,rfl⟩:=TD.1 (Tf hi)
   obtain⟨t1,t2⟩:=hT
   exact⟨a,ha,htt,by rw[<-htt];exact t2⟩
 ·rcases N9 (Yh far a.2.1+a.2.2) (Yh far a.1)with h|h
  ·exact absurd ⟨show(0:Int)<1 by decide,hlt,h⟩ (hcl ⟨a.2.1,a.1,a.2.2,1⟩ (TD.2 ⟨a,ha,rfl⟩))
  ·exact h
theorem Arcs8.ok{nodes:Nat}(h:Arcs8 nodes l):ArcsOk nodes l:=λa ha=>by
 obtain⟨h1,h2,h3⟩:=h a ha
 exact⟨h1,h2,by omega⟩
theorem Arcs8.sub{nodes:Nat}{m:List Lk}(h:Arcs8 nodes l)(hm:∀a∈m,a∈l):Arcs8 nodes m:=λa ha=>h a (hm a ha)
theorem YcW{nodes:Nat}(hn:nodes<=500)(hl:Arcs8 nodes l)(ht:0<=to/\to<nodes):Dist nodes l to (Z7 nodes l to):=by
 obtain⟨far,h⟩:=Yh6 hn hl ht
 rw[On hl.ok h];exact h
section
variable {st:Int->Int->Bool}{w:Int->Int->Int}{l:List Lk}{nodes:Nat}{t:Int}
abbrev QU(st:Int->Int->Bool)(nodes:Nat)(t u:Int)(ms:List Int):Prop:=PathG st nodes t u (ms++[t])
variable {u:Int}{p:List Int}
theorem YfD(h:PathG st nodes t u p)(hu:u≠t):∃ms,p=ms++[t]:=by
 induction h with
 |done=>exact absurd rfl hu
 |@step u v r hu hs hv h ih=>
  by_cases hvt:v=t
  ·cases h with
   |done=>exact⟨[],by rw[hvt];rfl⟩
   |step hne=>exact absurd hvt hne
  ·obtain⟨ms,rfl⟩:=ih hvt
   exact⟨v::ms,rfl⟩
theorem Vs{sh:Int->Bool}(hnet:Net3 st w l):∀(ms:List Int) (u:Int),QU st nodes t u ms->(∀x∈ms,sh x=false)->∃az,Way l sh t u az/\Xn az=ms/\Zf az=keyG w (u::(ms++[t]))
 |[],u,h,_=>by
  cases h with
  |step hu hs hv h=>
   have ha:(u,t,w u t)∈l:=(hnet.iff _ _ _).2 ⟨hs,rfl⟩
   exact⟨[(u,t,w u t)],Way.last (a:=(u,t,w u t)) ha rfl,rfl,by simp[Zf,sumI,keyG]⟩
 |m::ms,u,h,hsh=>by
  cases h with
  |step hu hs hv h=>
   obtain⟨az,h1,h2,h3⟩:=Vs hnet ms m h λx hx=>hsh x (Tz _ hx)
   have ha:(u,m,w u m)∈l:=(hnet.iff _ _ _).2 ⟨hs,rfl⟩
   refine⟨(u,m,w u m)::az,Way.step (a:=(u,m,w u m)) ha (hsh m TB) h1,by rw[h1.inner_cons,h2],?_⟩
   unfold Zf at h3⊢
   rw[YX,h3]
   simp[keyG]
variable {sh:Int->Bool}{az:List Lk}
theorem UF(hnet:Net3 st w l)(hl:Arcs8 nodes l)(hto:sh t=true)(h:Way l sh t u az)(hu:u≠t):QU st nodes t u (Xn az)/\Zf az=keyG w (u::(Xn az++[t])):=by
 induction h with
 |@last a ha ht=>
  obtain⟨a1,a2,a3⟩:=a
  simp only at ht hu⊢
  subst ht
  obtain⟨hs,hc⟩:=(hnet.iff _ _ _).1 ha
  refine⟨.step hu hs (hl _ ha).2.1 .done,?_⟩
  show Zf [(a1,a2,a3)]=keyG w [a1,a2]
  simp[Zf,sumI,keyG,hc]
 |@step a az ha hs h ih=>
  obtain⟨a1,a2,a3⟩:=a
  simp only at hs hu h ih⊢
  have hne:a2≠t:=λe=>by rw[e,hto]at hs;cases hs
  obtain⟨i1,i2⟩:=ih hne
  obtain⟨hg,hc⟩:=(hnet.iff _ _ _).1 ha
  rw[h.inner_cons]
  refine⟨.step hu hg (hl _ ha).2.1 i1,?_⟩
  unfold Zf at i2⊢
  rw[YX,i2]
  simp[keyG,hc]
theorem YfU(h:Way l sh t u az):∀a∈az,a.2.1=t\/a.2.1∈Xn az:=by
 induction h with
 |last ha ht=>intro a ha2;obtain rfl:=TU.1 ha2;exact .inl ht
 |@step a az ha hs h ih=>
  intro b hb
  rw[h.inner_cons]
  rcases TI.1 hb with rfl|hb
  ·exact .inr TB
  ·rcases ih b hb with h1|h1
   ·exact .inl h1
   ·exact .inr (Tz _ h1)
theorem Qd(h:Way l sh t u az):az.map (λa=>a.1)=u::Xn az:=by
 obtain⟨a,az',rfl,rfl⟩:=h.cons_
 rfl
theorem PathG.mono{st2:Int->Int->Bool}(h:PathG st nodes t u p)(hs:∀x y,x=u\/x∈p->y∈p->st x y=true->st2 x y=true):PathG st2 nodes t u p:=by
 induction h with
 |done=>exact .done
 |@step u v r hu hst hv h ih=>
  refine .step hu (hs u v (.inl rfl) TB hst) hv (ih λx y hx hy hxy=>hs x y ?_ (Tz _ hy) hxy)
  rcases hx with rfl|hx
  ·exact .inr TB
  ·exact .inr (Tz _ hx)
theorem PathG.append{v:Int}{q:List Int}(h:PathG st nodes t u (p++v::q)):PathG st nodes t v q:=by
 induction p generalizing u with
 |nil=>cases h with|step _ _ _ h=>exact h
 |cons x p ih=>cases h with|step _ _ _ h=>exact ih h
end
end Go.Rt
namespace Go.Eng
open Go.RowKit
open Go.ChangeMaps (setBlock)
abbrev KL:=List Int
abbrev Ycs:=List (KL×Value×Nat)
def vget(es:Ycs)(k:KL):Option Value:=(es.find? λe=>e.1==k).map (·.2.1)
end Go.Eng
