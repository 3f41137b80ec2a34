/- Lemmas. -/
import Derived.Deep.Slices
import Derived.Lib.SmallJoins
import Derived.OpenShut
import Derived.WideKeyRuns
import Derived.Test.YtjommdkgfbhbdaaGreatDoorQ2
set_option maxRecDepth 100000
set_option maxHeartbeats 8000000
set_option linter.all false
namespace Go.Eng
open Go.ChangeShapes Go.WideShapes Go.ChangeAt Go.RowKit Go.Deep
def Old(W:World)(A:Option Addr)(xs:List Value):Prop:=∀j v,xs[j]? =some v->∃g o,A=some ⟨g,o,none⟩/\g<W.heap.size/\W.cell? ⟨g,o+j,none⟩=some v
variable {W:World}{A:Option Addr}
theorem Old.rd{H:List HP}{xs:List Value}(h:Old W A xs):Rd W.heap.size W H A xs:=Rd.old h
theorem Yrw{a:Addr}{v:Value}(h:W.cell? a=some v):a.block<W.heap.size:=by
 unfold World.cell? at h
 grind
section
variable {H:Type}{enc:TypeId×Value->H}{P:Program}{W:World}{held:Bool}
variable {A:Option Addr}
theorem YnO{α:Type}{f:α->List Value}{good:α->Prop}{t e q:Nat}{fuel:Nat}{len cap:Nat}{x:DataW H×List MemPlace}{spare:Nat->Bool}(ht:P.underlying t=some (.slice e))(hc:P.cellsOf e=q)(h0:0<q)
 (hel:∀n cs y,cs.length=q->DataW.trod enc P W 0 spare held n e cs=some y->∃a,cs=f a/\good a) (h:DataW.trod enc P W 0 spare held fuel t [.slice A len cap]=some x):
 ∃l:List α,l.length=len/\Old W A (l.flatMap f)/\(∀a∈l,good a)/\len<=maxLen/\(∀a∈l,(f a).length=q):=by
 rcases open_slice ht h with⟨h1,_⟩|⟨a,len',cap',m,n,D,Pl,h1,_,hl,hm,hmm,hxx,hx⟩
 ·injection h1 with h1 _
  injection h1 with h1 h2 h3
  subst h1 h2 h3
  exact⟨[],rfl,(λj v hv=>by simp at hv),(λa ha=>by cases ha),Td _,(λa ha=>by cases ha)⟩
 ·injection h1 with h1 _
  injection h1 with h1 h2 h3
  subst h1 h2 h3
  have hle:len<=m:=by grind
  rw[hc]at hx
  have key:∀i,i<len->∃b:α,W.cells? 0 (a.add (i*q)) q=some (f b)/\good b:=λi hi=>by
   obtain⟨cs',h2,h3⟩:=hx i (by omega)
   obtain⟨_,h5,_⟩:=World.cells?_some h2
   grind
  obtain⟨l,hlen,hl2⟩:∃l:List α,l.length=len/\∀i b,l[i]? =some b->W.cells? 0 (a.add (i*q)) q=some (f b)/\good b:=by
   clear hx hmm hle h hl hm hxx
   induction len with
   |zero=>simp_all
   |succ k ih=>
    obtain⟨l,h2,h3⟩:=ih (λi hi=>key i (by omega))
    obtain⟨b,h4⟩:=key k (by omega)
    refine⟨l++[b],by simp[h2],λi c hc=>?_⟩
    grind
  have hfq:∀b∈l,(f b).length=q:=λb hb=>by
   obtain⟨i,hi⟩:=List.getElem?_of_mem hb
   exact(World.cells?_some (hl2 i b hi).1).2.1
  refine⟨l,hlen,λj v hv=>?_,λb hb=>?_,by omega,hfq⟩
  ·have hspl:∃i b,l[i]? =some b/\∃r,j=i*q+r/\r<q/\(f b)[r]? =some v:=by
    clear hlen hl2 key
    induction l generalizing j with
    |nil=>simp at hv
    |cons b l ih=>
     rw[Re]at hv
     have hb:=hfq b (by simp)
     by_cases hj:j<q
     ·rw[List.getElem?_append_left (by omega)]at hv
      exact⟨0,b,rfl,j,by omega,hj,hv⟩
     ·rw[SD (by omega),hb]at hv
      obtain⟨i,b',h5,r,h6,h7,h8⟩:=ih (λc hc=>hfq c (by simp[hc])) (j-q) hv
      exact⟨i+1,b',by simpa using h5,r,by rw[SL];omega,h7,h8⟩
   obtain⟨i,b,h5,r,rfl,h7,h8⟩:=hspl
   have h9:=(World.cells?_some (hl2 i b h5).1).2.2 r h7
   rw[h8,add_add]at h9
   obtain⟨ab,ao,spot⟩:=a
   have hs0:spot=none:=by
    have h10:=World.cell?_spot h9
    unfold Addr.add at h10
    split at h10
    ·exact h10
    ·rename_i hne
     have hi0:i<len:=by have:=(Tu.1 h5).1;omega
     have h11:=(World.cells?_some (hl2 0 l[0] (Ta (by omega))).1).2.2 0 h0
     rw[add_add,Nat.zero_mul,Ri]at h11
     have hf0:((f l[0])[0]?).isSome=true:=by
      rw[Ta (by rw[hfq _ (List.getElem_mem _)];exact h0)];rfl
     cases hf1:(f l[0])[0]? with
     |none=>rw[hf1]at hf0;cases hf0
     |some u=>
      rw[hf1]at h11
      exact World.cell?_spot h11
   subst hs0
   refine⟨ab,ao,rfl,?_,?_⟩
   ·have:=Yrw h9
    rw[Addr.add_lit]at this
    exact this
   ·rw[Addr.add_lit]at h9
    exact h9
  grind [List.getElem?_of_mem]
end
structure SlM(α:Type) where
 A:Option Addr
 cap:Nat
 xs:List α
def SlM.val{α:Type}(s:SlM α):Value:=.slice s.A s.xs.length s.cap
section
variable {H:Type}{enc:TypeId×Value->H}{P:Program}{W:World}{spare:Nat->Bool}{held:Bool}
def Opn(enc:TypeId×Value->H)(P:Program)(W:World)(spare:Nat->Bool)(held:Bool)(t:TypeId){α:Type}(f:α->List Value)(good:α->Prop):Prop:=
 ∀fuel cs y,DataW.trod enc P W 0 spare held fuel t cs=some y->∃a,cs=f a/\good a
variable {t:TypeId}{α β:Type}
theorem Uy{f:α->List Value}{good:α->Prop}{f':β->List Value}{good':β->Prop}(h:Opn enc P W spare held t f good)(g:α->β)(hf:∀a,f a=f' (g a))(hg:∀a,good a->good' (g a)):Opn enc P W spare held t f' good':=by
 intro fuel cs y hy
 obtain⟨a,h1,h2⟩:=h fuel cs y hy
 grind
theorem Yve{k:IntKind}(ht:P.underlying t=some (.int k)):Opn enc P W spare held t (λz:Int=>[Value.int k z]) (λz=>(Lit.int k z).wf=true):=by
 intro fuel cs y hy
 obtain⟨m,rfl,rfl,hw⟩:=DataW.trod_int ht hy
 simp_all
structure SlG{α:Type}(W:World)(f:α->List Value)(good:α->Prop)(s:SlM α):Prop where
 old:Old W s.A (s.xs.flatMap f)
 good:∀a∈s.xs,good a
 len:s.xs.length<=maxLen
 cap:s.xs.length<=s.cap
theorem Ja{e q:TypeId}{f:α->List Value}{good:α->Prop}(ht:P.underlying t=some (.slice e))(hc:P.cellsOf e=q)(h0:0<q)(h:Opn enc P W spare held e f good):Opn enc P W spare held t (λs:SlM α=>[s.val]) (SlG W f good):=by
 intro fuel cs y hy
 rcases open_slice ht hy with⟨rfl,_⟩|⟨a,len,cap,m,n,D,Pl,rfl,_,hlc,_⟩
 ·exact⟨⟨none,0,[]⟩,rfl,⟨(λj v hv=>by simp at hv),(λa ha=>by cases ha),Td _,Td _⟩⟩
 ·obtain⟨l,h1,h2,h3,h4,_⟩:=YnO ht hc h0 (λn cs y _ hy=>h n cs y hy) hy
  subst h1
  exact⟨⟨some a,cap,l⟩,rfl,h2,h3,h4,hlc⟩
def FOpn(enc:TypeId×Value->H)(P:Program)(W:World)(spare:Nat->Bool)(held:Bool)(ts:List TypeId){α:Type}(f:α->List Value)(good:α->Prop):Prop:=
 ∀(n:Nat) (cs:List Value),cs.length=(ts.map P.cellsOf).sum->(∀i t,ts[i]? =some t->∃y,DataW.trod enc P W 0 spare held n t ((cs.drop ((ts.take i).map P.cellsOf).sum).take (P.cellsOf t))=some y)->∃a,cs=f a/\good a
theorem Um:FOpn enc P W spare held [] (λ_:Unit=>[]) (λ_=>True):=λn cs h _=>⟨(),RL (by simp_all),trivial⟩
variable {ts:List TypeId}
theorem YE{f:α->List Value}{good:α->Prop}{g:β->List Value}{good':β->Prop}(h:Opn enc P W spare held t f good)(hs:FOpn enc P W spare held ts g good'):
 FOpn enc P W spare held (t::ts) (λx:α×β=>f x.1++g x.2) (λx=>good x.1/\good' x.2):=by
 intro n cs hl hx
 obtain⟨y,hy⟩:=hx 0 t rfl
 obtain⟨a,h1,h2⟩:=h n _ y hy
 obtain⟨b,h3,h4⟩:=hs n (cs.drop (P.cellsOf t)) (by simp_all) (λi u hu=>by
  obtain⟨y,hy⟩:=hx (i+1) u (by simp_all)
  simp_all)
 exact⟨(a,b),by grind [RV],h2,h4⟩
def offs(P:Program):List TypeId->Nat->List Nat
 |[],_=>[]
 |t::ts,o=>o::offs P ts (o+P.cellsOf t)
theorem YiC(P:Program):∀(ts:List TypeId) (o i:Nat),i<ts.length->(offs P ts o)[i]? =some (o+((ts.take i).map P.cellsOf).sum)
 |[],_,_,h=>by simp at h
 |t::ts,o,0,_=>by simp[offs]
 |t::ts,o,i+1,h=>by
  rw[offs,List.getElem?_cons_succ,YiC P ts _ i (by simp_all)]
  grind
def Ymj(P:Program)(t:TypeId)(ts:List TypeId):Bool:=
 match P.underlying t with
 |some (.struct fs)=>(fs.toList.map (·.type)==ts)&&(fs.toList.map (·.offset)==offs P ts 0)&&(P.cellsOf t==(ts.map P.cellsOf).sum)
 |_=>false
theorem Jy{f:α->List Value}{good:α->Prop}(hB:Ymj P t ts=true)(h:FOpn enc P W spare held ts f good):Opn enc P W spare held t f good:=by
 intro fuel cs y hy
 unfold Ymj at hB
 cases hu:P.underlying t with
 |none=>simp_all
 |some d=>
  rw[hu]at hB
  cases d with
  |struct fs=>
   simp only[Tq,NB]at hB
   obtain⟨⟨h1,h2⟩,h3⟩:=hB
   obtain⟨xs,n,_,_,hl,hn,hx⟩:=DataW.trod_struct hu hy
   refine h n cs (hl.trans h3) λi u hi=>?_
   have hlt:i<ts.length:=by grind
   have hlf:i<fs.toList.length:=by grind
   have ho:(fs.toList[i]).offset=((ts.take i).map P.cellsOf).sum:=by
    have h5:=YiC P ts 0 i hlt
    grind
   grind
  |_=>cases hB
end
open Go.RowKit
open Go.ChangeMaps (setBlock)
abbrev KL:=List Int
def kv(k:KL):Value:=.agg (k.map λx=>Value.int .i64 x).toArray
abbrev Zm:=List (KL×Value×Nat)
def vE(e:KL×Value×Nat):MapEntry:=⟨kv e.1,e.2.1,e.2.2⟩
def vobj(es:Zm)(clock:Nat):Obj:=.map (es.map vE).toArray clock
def vget(es:Zm)(k:KL):Option Value:=(es.find? λe=>e.1==k).map (·.2.1)
def keyT(P:Program)(kt:TypeId)(n:Nat):Bool:=
 match P.underlying kt with
 |some (.struct fs)=>!P.stoodInHeld kt&&(fs.toList.map (·.offset)==List.range n)&&fs.toList.all (λf=>f.name != "_" &&(match P.underlying f.type with|some (.int .i64)=>true|_=>false))
 |_=>false
def Yeh(P:Program)(t kt et:TypeId)(n:Nat):Bool:=(match P.underlying t with|some (.map a b)=>a==kt&&b==et|_=>false)&&keyT P kt n
section
variable {P:Program}
variable {kt:TypeId}{n b:Nat}
theorem YaS(h:keyT P kt n=true):∃fs,P.underlying kt=some (.struct fs)/\P.stoodInHeld kt=false/\fs.toList.map (·.offset)=List.range n/\
 ∀f∈fs.toList,f.name≠ "_" /\P.underlying f.type=some (.int .i64):=by
 unfold keyT at h
 grind
theorem WB{t et:TypeId}(h:Yeh P t kt et n=true):P.underlying t=some (.map kt et)/\keyT P kt n=true:=by
 unfold Yeh at h
 grind
theorem Yp7{fs:Array Field}(h:fs.toList.map (·.offset)=List.range n){f:Field}(hf:f∈fs.toList):f.offset<n:=by
 have:f.offset∈fs.toList.map (·.offset):=by grind
 simp_all
theorem YgO(w:World)(h:keyT P kt n=true){a b:KL}(la:a.length=n)(lb:b.length=n):(Op.equal kt (kv a) (kv b)).run P w=.ok (a==b) w:=by
 obtain⟨fs,hu,h1,h2,h3⟩:=YaS h
 have hl:OB P kt (a.map λx=>Value.int .i64 x) (b.map λx=>Value.int .i64 x)=true:=by
  unfold OB
  simp only[hu,h1,h2,To,la,lb,Bool.not_false,beq_self_eq_true,RD,TL,Tq,bne_iff_ne,ne_eq]
  intro f hf
  have hlt:=Yp7 h2 hf
  simp_all [Qo]
 obtain⟨r,hr,hiff⟩:=YdW w hl
 unfold kv
 rw[hr]
 have:r=(a==b):=by
  rw[Bool.eq_iff_iff,hiff,NB]
  grind [List.map_inj_right]
 rw[this]
variable {k:KL}
theorem Wt(w:World)(h:keyT P kt n=true)(lk:k.length=n)(em:Bool):(Instr.checkKey em 10000 kt (kv k)).run P w=.ok () w:=by
 obtain⟨fs,hu,h1,h2,h3⟩:=YaS h
 have each:∀f∈fs.toList,f.name≠ "_" /\P.underlying f.type=some (.int .i64)/\f.offset<n:=λf hf=>⟨(h3 f hf).1,(h3 f hf).2,Yp7 h2 hf⟩
 unfold kv
 rw[show 10000=9998+1+1 from rfl,Instr.checkKey]
 simp only[Sem.run_bind,run_underlying hu,Result.andThen_ok]
 rw[<-Array.forIn_toList]
 clear h1 h2 h3 hu h
 generalize fs.toList=L at each
 induction L with
 |nil=>simp
 |cons f L ih=>
  obtain⟨hn,hp,hlt⟩:=each f (by simp)
  have p1:=run_part_plain (P:=P) (w:=w) (e:=f.type) (by simp[Program.plainKey,hp]) (xs:=(k.map λx=>Value.int .i64 x).toArray) (off:=f.offset) (v:=.int .i64 (k[f.offset]'(by omega)))
   (by simp_all)
  have p2:(Instr.checkKey em (9998+1) f.type (.int .i64 (k[f.offset]'(by omega)))).run P w=.ok () w:=by
   unfold Instr.checkKey
   simp[run_underlying hp]
  simp_all
theorem Yi4(m:Nat)(k:KL):Instr.sameBits (m+1) (kv k) (kv k)=true:=by
 unfold kv
 induction k with
 |nil=>rfl
 |cons x k ih=>
  grind [Go.Instr.sameBits]
theorem YgP(w:World)(k:KL):(Instr.keyThatStays (kv k) (kv k)).run P w=.ok (kv k) w:=by
 simp_all [Go.Instr.keyThatStays,Yi4]
theorem Yfh{kt:TypeId}{n:Nat}(w:World)(h:keyT P kt n=true){k:KL}(lk:k.length=n):∀(es:Zm) (i:Nat),(∀e∈es,e.1.length=n)->vget es k=none->
 (Instr.findAsking kt (kv k) (es.map vE) i).run P w=.ok none w
 |[],i,_,_=>by simp[Instr.findAsking]
 |e::es,i,hok,hg=>by
  unfold vget at hg
  rw[List.find?_cons]at hg
  by_cases he:e.1=k
  ·simp_all
  ·have hb:(e.1==k)=false:=by simp_all
   have hb':(k==e.1)=false:=by grind
   rw[hb]at hg
   simp only[Rx,Instr.findAsking,Sem.run_bind,vE,YgO w h lk (hok e (by simp)),hb',Result.andThen_ok,RO,NC]
   exact Yfh w h lk es (i+1) (λe he=>hok e (by simp[he])) hg
theorem YlW{kt:TypeId}{n:Nat}(w:World)(h:keyT P kt n=true){k:KL}(lk:k.length=n){v:Value}{b:Nat}{l2:Zm}:∀(l1:Zm) (i:Nat),(∀e∈l1,e.1.length=n)->(∀e∈l1,e.1≠k)->
 (Instr.findAsking kt (kv k) ((l1++(k,v,b)::l2).map vE) i).run P w=.ok (some (i+l1.length,v)) w
 |[],i,_,_=>by
  simp only[TC,Rx,Instr.findAsking,Sem.run_bind,vE,YgO w h lk lk,beq_self_eq_true,Result.andThen_ok,Ni,Sem.run_pure,Sr,SR]
 |e::l1,i,hok,hne=>by
  have hb':(k==e.1)=false:=by grind
  simp only[TA,Rx,Instr.findAsking,Sem.run_bind,vE,YgO w h lk (hok e (by simp)),hb',Result.andThen_ok,RO,NC]
  have:=YlW w h lk (v:=v) (b:=b) (l2:=l2) l1 (i+1) (λe he=>hok e (by simp[he])) (λe he=>hne e (by simp[he]))
  grind
variable {es l1 l2:Zm}{v:Value}
theorem Yeg(h:vget es k=some v):∃l1 b l2,es=l1++(k,v,b)::l2/\∀e∈l1,e.1≠k:=by
 unfold vget at h
 induction es with
 |nil=>simp at h
 |cons e es ih=>
  by_cases he:e.1=k
  ·exact⟨[],e.2.2,es,by grind,by simp⟩
  grind
theorem Yfp(h:keyT P kt n=true):(match P.underlying kt with|some (.array _ _)|some (.struct _)=>true|_=>false)=true:=by
 grind [YaS]
theorem Yih(w:World)(h:keyT P kt n=true)(lk:k.length=n)(hok:∀e∈es,e.1.length=n)(hg:vget es k=none):
 (Instr.findKey kt (kv k) (es.map vE)).run P w=.ok none w:=by
 grind [run_findKey_eq,Yfp,Yfh]
theorem YpO(w:World)(h:keyT P kt n=true)(lk:k.length=n)(hok:∀e∈l1,e.1.length=n)(hne:∀e∈l1,e.1≠k):
 (Instr.findKey kt (kv k) ((l1++(k,v,b)::l2).map vE)).run P w=.ok (some (l1.length,v)) w:=by
 rw[run_findKey_eq w (Yfp h)]
 have:=YlW w h lk (v:=v) (b:=b) (l2:=l2) l1 0 hok hne
 simp_all
theorem YpP(w:World)(h:keyT P kt n=true)(lk:k.length=n)(hok:∀e∈es,e.1.length=n)(hg:vget es k=some v):
 ∃i,(Instr.findKey kt (kv k) (es.map vE)).run P w=.ok (some (i,v)) w:=by
 obtain⟨l1,b,l2,rfl,hne⟩:=Yeg hg
 exact⟨_,YpO w h lk (λe he=>hok e (by simp[he])) hne⟩
end
section
variable {P:Program}{n:Shp}{B:Nat}{w0:World}{Q:Exit->Act->World->Prop}{env:Env}{H:List HP}{m:Mode}{ops:Array Oper}{rest:List Oper}{d:Nat}{ty:TypeId}{pos:String}{after:Array Edge}
theorem Yhc{t:TypeId}(hn:Nat.ble (d+1) n.k=true)(h:∀g,VL P none n B w0 ops Q rest ((d,.map (some g))::env) (blk g (vobj [] 0)::H)):VL P none n B w0 ops Q (⟨some d,.makeMap t none,ty,pos,after,none⟩::rest) env H:=
 XA (λv K=>∃g,v=.map (some g)/\K=blk g (vobj [] 0)::H) rfl rfl hn
  (λa w _ hw=>⟨_,_,w.alloc (vobj [] 0),by simp_all [execOp,Go.Instr.makeMap,vobj],hw.alloc _,w.heap.size,rfl,rfl⟩)
  zc53
variable {t et g clock N b:Nat}{es l1 l2:Zm}{x y u:Operand}{v:Value}
theorem Yho{kt:Nat}(k:KL)(hx:evo env x=some (.map (some g)))(hy:evo env y=some (kv k))(hm:blk g (vobj es clock)∈H)(ht:Yeh P t kt et N=true)(lk:k.length=N)(hok:∀e∈es,e.1.length=N)(hn:Nat.ble (d+1) n.k=true)(hk:vget es k=some v)
 (h:VL P m n B w0 ops Q rest ((d,v)::env) H):VL P m n B w0 ops Q (⟨some d,.lookup t x y false,ty,pos,after,none⟩::rest) env H:=by
 obtain⟨h1,h2⟩:=WB ht
 refine Yt rfl rfl hn rfl (λa w ha hw=>?_) h
 have hb:=(hw.blk hm).1
 unfold vobj at hb
 obtain⟨i,e3⟩:=YpP w h2 lk hok hk
 simp[execOp,ha.eval hx,ha.eval hy,Instr.lookup,run_underlying h1,getObj,Sem.run,hb,Wt _ h2 lk,e3]
theorem Yhn{kt:Nat}(k:KL){z:Value}(hx:evo env x=some (.map (some g)))(hy:evo env y=some (kv k))(hm:blk g (vobj es clock)∈H)(ht:Yeh P t kt et N=true)(lk:k.length=N)(hok:∀e∈es,e.1.length=N)(hn:Nat.ble (d+1) n.k=true)(hk:vget es k=none)(hz:∀w,(zeroValue et).run P w=.ok z w)
 (h:VL P m n B w0 ops Q rest ((d,z)::env) H):VL P m n B w0 ops Q (⟨some d,.lookup t x y false,ty,pos,after,none⟩::rest) env H:=by
 obtain⟨h1,h2⟩:=WB ht
 refine Yt rfl rfl hn rfl (λa w ha hw=>?_) h
 have hb:=(hw.blk hm).1
 unfold vobj at hb
 simp[execOp,ha.eval hx,ha.eval hy,Instr.lookup,run_underlying h1,getObj,Sem.run,hb,Wt _ h2 lk,Yih w h2 lk hok hk,hz]
theorem Ybe{kt:Nat}(k:KL)(hx:evo env x=some (.map (some g)))(hy:evo env y=some (kv k))(hm:blk g (vobj es clock)∈H)(ht:Yeh P t kt et N=true)(lk:k.length=N)(hok:∀e∈es,e.1.length=N)(hn:Nat.ble (d+1) n.k=true)
 (hk:vget es k=some v\/(vget es k=none/\∀w,(zeroValue et).run P w=.ok v w))
 (h:VL P m n B w0 ops Q rest ((d,v)::env) H):VL P m n B w0 ops Q (⟨some d,.lookup t x y false,ty,pos,after,none⟩::rest) env H:=by
 rcases hk with hk|⟨hk,hz⟩
 ·exact Yho k hx hy hm ht lk hok hn hk h
 ·exact Yhn k hx hy hm ht lk hok hn hk hz h
variable {K:List HP}
theorem YjM{kt:Nat}(k:KL)(hx:evo env x=some (.map (some g)))(hy:evo env y=some (kv k))(hv:evo env u=some v)(ht:Yeh P t kt et N=true)(lk:k.length=N)(hok:∀e∈es,e.1.length=N)
 (hu:Upd (blk g (vobj es clock)) (blk g (vobj (es++[(k,v,clock)]) (clock+1))) H K) (hk:vget es k=none)
 (h:VL P none n B w0 ops Q rest env K):VL P none n B w0 ops Q (⟨none,.mapUpdate t x y u,ty,pos,after,none⟩::rest) env H:=by
 obtain⟨h1,h2⟩:=WB ht
 refine J6 rfl rfl (λa w ha hw=>⟨setBlock w g (vobj (es++[(k,v,clock)]) (clock+1)),?_,hw.setBlock hu⟩) h
 have hb:w.heap[g]? =some (vobj es clock):=zc39
 unfold vobj at hb
 simp[execOp,ha.eval hx,ha.eval hy,ha.eval hv,Instr.mapUpdate,run_underlying h1,getObj,Sem.run,hb,Wt _ h2 lk,Yih w h2 lk hok hk,MapKept.run_setObj_map _ hb,setBlock,vobj,vE]
theorem YjN{kt:Nat}(k:KL){v0:Value}(hx:evo env x=some (.map (some g)))(hy:evo env y=some (kv k))(hv:evo env u=some v)(ht:Yeh P t kt et N=true)(lk:k.length=N)(hok:∀e∈l1,e.1.length=N)
 (hu:Upd (blk g (vobj (l1++(k,v0,b)::l2) clock)) (blk g (vobj (l1++(k,v,b)::l2) clock)) H K) (hk:∀e∈l1,e.1≠k)
 (h:VL P none n B w0 ops Q rest env K):VL P none n B w0 ops Q (⟨none,.mapUpdate t x y u,ty,pos,after,none⟩::rest) env H:=by
 obtain⟨h1,h2⟩:=WB ht
 refine J6 rfl rfl (λa w ha hw=>⟨setBlock w g (vobj (l1++(k,v,b)::l2) clock),?_,hw.setBlock hu⟩) h
 have hb:w.heap[g]? =some (vobj (l1++(k,v0,b)::l2) clock):=zc39
 have hf:=YpO w h2 lk (v:=v0) (b:=b) (l2:=l2) hok hk
 have hget:((List.map vE (l1++(k,v0,b)::l2)).toArray)[l1.length]? =some (vE (k,v0,b)):=by simp_all
 have hmod:((List.map vE (l1++(k,v0,b)::l2)).toArray).modify l1.length (λe=>{e with key:=kv k,val:=v})=(List.map vE (l1++(k,v,b)::l2)).toArray:=by
  grind [vE,YdD]
 have hks:=YgP (P:=P) w k
 have hkey:(Option.map (λx:MapEntry=>x.key) (some (vE (k,v0,b)))).getD (kv k)=kv k:=rfl
 have hrun:(Instr.mapUpdate t (.map (some g)) (kv k) v).run P w=.ok () (setBlock w g (vobj (l1++(k,v,b)::l2) clock)):=by
  simp only[Instr.mapUpdate,Sem.run_bind,run_underlying h1,getObj,Sem.run,hb,Wt _ h2 lk,hf,hget,hkey,hks,hmod,Result.andThen,MapKept.run_setObj_map _ hb,setBlock,vobj]
 simp[execOp,ha.eval hx,ha.eval hy,ha.eval hv,hrun]
end
end Go.Eng
