/- Lemmas. -/
import Derived.Deep.Slices
import Derived.Lib.SmallJoins
import Derived.OpenShut
import Derived.WideKeyRuns
import Derived.Test.YtjommdkgfbhbdaaGreatDoorQ2
set_option maxRecDepth 100000
set_option maxHeartbeats 8000000
set_option linter.all false
namespace Go.Eng
open Go.ChangeShapes Go.WideShapes Go.ChangeAt Go.RowKit Go.Deep
def Old(W:World)(A:Option Addr)(xs:List Value):Prop:=∀j v,xs[j]? =some v->∃g o,A=some ⟨g,o,none⟩/\g<W.heap.size/\W.cell? ⟨g,o+j,none⟩=some v
variable {W:World}{A:Option Addr}
theorem Old.rd{H:List HP}{xs:List Value}(h:Old W A xs):Rd W.heap.size W H A xs:=Rd.old h
theorem Yrt{a:Addr}{v:Value}(h:W.cell? a=some v):a.block<W.heap.size:=by
 unfold World.cell? at h
 grind
section
variable {H:Type}{enc:TypeId×Value->H}{P:Program}{W:World}{held:Bool}
variable {A:Option Addr}
theorem Ynp{α:Type}{f:α->List Value}{good:α->Prop}{t e q:Nat}{fuel:Nat}{len cap:Nat}{x:DataW H×List MemPlace}{spare:Nat->Bool}(ht:P.underlying t=some (.slice e))(hc:P.cellsOf e=q)(h0:0<q)
 (hel:∀n cs y,cs.length=q->DataW.trod enc P W 0 spare held n e cs=some y->∃a,cs=f a/\good a) (h:DataW.trod enc P W 0 spare held fuel t [.slice A len cap]=some x):
 ∃l:List α,l.length=len/\Old W A (l.flatMap f)/\(∀a∈l,good a)/\len<=maxLen/\(∀a∈l,(f a).length=q):=by
 rcases open_slice ht h with⟨h1,_⟩|⟨a,len',cap',m,n,D,Pl,h1,_,hl,hm,hmm,hxx,hx⟩
 ·injection h1 with h1 _
  injection h1 with h1 h2 h3
  subst h1 h2 h3
  exact⟨[],rfl,(λj v hv=>by simp at hv),(λa ha=>by cases ha),Td _,(λa ha=>by cases ha)⟩
 ·injection h1 with h1 _
  injection h1 with h1 h2 h3
  subst h1 h2 h3
  have hle:len<=m:=by grind
  rw[hc]at hx
  have key:∀i,i<len->∃b:α,W.cells? 0 (a.add (i*q)) q=some (f b)/\good b:=λi hi=>by
   obtain⟨cs',h2,h3⟩:=hx i (by omega)
   obtain⟨_,h5,_⟩:=World.cells?_some h2
   grind
  obtain⟨l,hlen,hl2⟩:∃l:List α,l.length=len/\∀i b,l[i]? =some b->W.cells? 0 (a.add (i*q)) q=some (f b)/\good b:=by
   clear hx hmm hle h hl hm hxx
   induction len with
   |zero=>simp_all
   |succ k ih=>
    obtain⟨l,h2,h3⟩:=ih (λi hi=>key i (by omega))
    obtain⟨b,h4⟩:=key k (by omega)
    refine⟨l++[b],by simp[h2],λi c hc=>?_⟩
    grind
  have hfq:∀b∈l,(f b).length=q:=λb hb=>by
   obtain⟨i,hi⟩:=List.getElem?_of_mem hb
   exact(World.cells?_some (hl2 i b hi).1).2.1
  refine⟨l,hlen,λj v hv=>?_,λb hb=>?_,by omega,hfq⟩
  ·have hspl:∃i b,l[i]? =some b/\∃r,j=i*q+r/\r<q/\(f b)[r]? =some v:=by
    clear hlen hl2 key
    induction l generalizing j with
    |nil=>simp at hv
    |cons b l ih=>
     rw[Rk]at hv
     have hb:=hfq b (by simp)
     by_cases hj:j<q
     ·rw[List.getElem?_append_left (by omega)]at hv
      exact⟨0,b,rfl,j,by omega,hj,hv⟩
     ·rw[SO (by omega),hb]at hv
      obtain⟨i,b',h5,r,h6,h7,h8⟩:=ih (λc hc=>hfq c (by simp[hc])) (j-q) hv
      exact⟨i+1,b',by simpa using h5,r,by rw[SR];omega,h7,h8⟩
   obtain⟨i,b,h5,r,rfl,h7,h8⟩:=hspl
   have h9:=(World.cells?_some (hl2 i b h5).1).2.2 r h7
   rw[h8,add_add]at h9
   obtain⟨ab,ao,spot⟩:=a
   have hs0:spot=none:=by
    have h10:=World.cell?_spot h9
    unfold Addr.add at h10
    split at h10
    ·exact h10
    ·rename_i hne
     have hi0:i<len:=by have:=(Tj.1 h5).1;omega
     have h11:=(World.cells?_some (hl2 0 l[0] (Ta (by omega))).1).2.2 0 h0
     rw[add_add,Nat.zero_mul,Rl]at h11
     have hf0:((f l[0])[0]?).isSome=true:=by
      rw[Ta (by rw[hfq _ (List.getElem_mem _)];exact h0)];rfl
     cases hf1:(f l[0])[0]? with
     |none=>rw[hf1]at hf0;cases hf0
     |some u=>
      rw[hf1]at h11
      exact World.cell?_spot h11
   subst hs0
   refine⟨ab,ao,rfl,?_,?_⟩
   ·have:=Yrt h9
    rw[Addr.add_lit]at this
    exact this
   ·rw[Addr.add_lit]at h9
    exact h9
  grind [List.getElem?_of_mem]
end
structure SlM(α:Type) where
 A:Option Addr
 cap:Nat
 xs:List α
def SlM.val{α:Type}(s:SlM α):Value:=.slice s.A s.xs.length s.cap
section
variable {H:Type}{enc:TypeId×Value->H}{P:Program}{W:World}{spare:Nat->Bool}{held:Bool}
def Opn(enc:TypeId×Value->H)(P:Program)(W:World)(spare:Nat->Bool)(held:Bool)(t:TypeId){α:Type}(f:α->List Value)(good:α->Prop):Prop:=
 ∀fuel cs y,DataW.trod enc P W 0 spare held fuel t cs=some y->∃a,cs=f a/\good a
variable {t:TypeId}{α β:Type}
theorem JH{f:α->List Value}{good:α->Prop}{f':β->List Value}{good':β->Prop}(h:Opn enc P W spare held t f good)(g:α->β)(hf:∀a,f a=f' (g a))(hg:∀a,good a->good' (g a)):Opn enc P W spare held t f' good':=by
 intro fuel cs y hy
 obtain⟨a,h1,h2⟩:=h fuel cs y hy
 grind
theorem Yvu{k:IntKind}(ht:P.underlying t=some (.int k)):Opn enc P W spare held t (λz:Int=>[Value.int k z]) (λz=>(Lit.int k z).wf=true):=by
 intro fuel cs y hy
 obtain⟨m,rfl,rfl,hw⟩:=DataW.trod_int ht hy
 simp_all
structure SlG{α:Type}(W:World)(f:α->List Value)(good:α->Prop)(s:SlM α):Prop where
 old:Old W s.A (s.xs.flatMap f)
 good:∀a∈s.xs,good a
 len:s.xs.length<=maxLen
 cap:s.xs.length<=s.cap
theorem Zs{e q:TypeId}{f:α->List Value}{good:α->Prop}(ht:P.underlying t=some (.slice e))(hc:P.cellsOf e=q)(h0:0<q)(h:Opn enc P W spare held e f good):Opn enc P W spare held t (λs:SlM α=>[s.val]) (SlG W f good):=by
 intro fuel cs y hy
 rcases open_slice ht hy with⟨rfl,_⟩|⟨a,len,cap,m,n,D,Pl,rfl,_,hlc,_⟩
 ·exact⟨⟨none,0,[]⟩,rfl,⟨(λj v hv=>by simp at hv),(λa ha=>by cases ha),Td _,Td _⟩⟩
 ·obtain⟨l,h1,h2,h3,h4,_⟩:=Ynp ht hc h0 (λn cs y _ hy=>h n cs y hy) hy
  subst h1
  exact⟨⟨some a,cap,l⟩,rfl,h2,h3,h4,hlc⟩
def FOpn(enc:TypeId×Value->H)(P:Program)(W:World)(spare:Nat->Bool)(held:Bool)(ts:List TypeId){α:Type}(f:α->List Value)(good:α->Prop):Prop:=
 ∀(n:Nat) (cs:List Value),cs.length=(ts.map P.cellsOf).sum->(∀i t,ts[i]? =some t->∃y,DataW.trod enc P W 0 spare held n t ((cs.drop ((ts.take i).map P.cellsOf).sum).take (P.cellsOf t))=some y)->∃a,cs=f a/\good a
theorem Jm:FOpn enc P W spare held [] (λ_:Unit=>[]) (λ_=>True):=λn cs h _=>⟨(),Si (by simp_all),trivial⟩
variable {ts:List TypeId}
theorem Ys{f:α->List Value}{good:α->Prop}{g:β->List Value}{good':β->Prop}(h:Opn enc P W spare held t f good)(hs:FOpn enc P W spare held ts g good'):
 FOpn enc P W spare held (t::ts) (λx:α×β=>f x.1++g x.2) (λx=>good x.1/\good' x.2):=by
 intro n cs hl hx
 obtain⟨y,hy⟩:=hx 0 t rfl
 obtain⟨a,h1,h2⟩:=h n _ y hy
 obtain⟨b,h3,h4⟩:=hs n (cs.drop (P.cellsOf t)) (by simp_all) (λi u hu=>by
  obtain⟨y,hy⟩:=hx (i+1) u (by simp_all)
  simp_all)
 exact⟨(a,b),by grind [Rw],h2,h4⟩
def offs(P:Program):List TypeId->Nat->List Nat
 |[],_=>[]
 |t::ts,o=>o::offs P ts (o+P.cellsOf t)
theorem Yis(P:Program):∀(ts:List TypeId) (o i:Nat),i<ts.length->(offs P ts o)[i]? =some (o+((ts.take i).map P.cellsOf).sum)
 |[],_,_,h=>by simp at h
 |t::ts,o,0,_=>by simp[offs]
 |t::ts,o,i+1,h=>by
  rw[offs,List.getElem?_cons_succ,Yis P ts _ i (by simp_all)]
  grind
def YlQ(P:Program)(t:TypeId)(ts:List TypeId):Bool:=
 match P.underlying t with
 |some (.struct fs)=>(fs.toList.map (·.type)==ts)&&(fs.toList.map (·.offset)==offs P ts 0)&&(P.cellsOf t==(ts.map P.cellsOf).sum)
 |_=>false
theorem Ze{f:α->List Value}{good:α->Prop}(hB:YlQ P t ts=true)(h:FOpn enc P W spare held ts f good):Opn enc P W spare held t f good:=by
 intro fuel cs y hy
 unfold YlQ at hB
 cases hu:P.underlying t with
 |none=>simp_all
 |some d=>
  rw[hu]at hB
  cases d with
  |struct fs=>
   simp only[Tq,NL]at hB
   obtain⟨⟨h1,h2⟩,h3⟩:=hB
   obtain⟨xs,n,_,_,hl,hn,hx⟩:=DataW.trod_struct hu hy
   refine h n cs (hl.trans h3) λi u hi=>?_
   have hlt:i<ts.length:=by grind
   have hlf:i<fs.toList.length:=by grind
   have ho:(fs.toList[i]).offset=((ts.take i).map P.cellsOf).sum:=by
    have h5:=Yis P ts 0 i hlt
    grind
   grind
  |_=>cases hB
theorem wf_i64{z:Int}(h:(Lit.int .i64 z).wf=true): -9223372036854775808<=z/\z<=9223372036854775807:=by
 simp only[Lit.wf,Tq,Tm]at h
 have e1:IntKind.min .i64= -9223372036854775808:=by decide
 simp_all
end
open Go.RowKit
open Go.ChangeMaps (setBlock)
abbrev KL:=List Int
abbrev YbV:=List (KL×Value×Nat)
def vget(es:YbV)(k:KL):Option Value:=(es.find? λe=>e.1==k).map (·.2.1)
end Go.Eng
