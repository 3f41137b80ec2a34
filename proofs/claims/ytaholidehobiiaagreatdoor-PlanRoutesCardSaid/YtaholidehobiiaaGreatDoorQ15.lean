/- Lemmas for the claim, part 15. -/
import Derived.Lib.AtoiAllCases
import Derived.Test.YtaholidehobiiaaGreatDoorQ13
set_option maxRecDepth 100000
set_option maxHeartbeats 8000000
set_option linter.all false
namespace Go.Eng
open Go.RowKit
inductive OV where
 |done
 |p1 (i:Nat) (t:OV)
 |d1 (i:Nat) (t:OV)
 |d2 (i:Nat) (t:OV) (j:Nat) (u:OV)
section
variable {P:Program}{n:Shp}{B:Nat}{w0:World}{Q:Exit->Act->World->Prop}{env:Env}{H:List HP}{ops:Array Oper}
def wpD(P:Program)(ops:Array Oper)(K:Act->World->Prop)(o:Oper)(a:Act)(w:World):Prop:=
 if Region.wanted o (yielded ops a.tmps)then o.wp P a w K (λ_ _ _=>False)else K (a.put o.dst undef) w
def Zy(P:Program)(ops:Array Oper)(l:List Oper)(Q:Exit->Act->World->Prop)(S:World->Prop):OV->Act->World->Prop
 |.done,a,w=>Q .normal a w
 |.p1 i t,a,w=>Yv P ops (λe a w=>match e with|.normal=>S w/\Zy P ops l Q S t a w|_=>False) S [nthO l i] a w
 |.d1 i t,a,w=>wpD P ops (λa w=>S w/\Zy P ops l Q S t a w) (nthO l i) a w
 |.d2 i t j u,a,w=>wpD P ops (λa w=>S w/\Zy P ops l Q S t a w) (nthO l i) a w/\wpD P ops (λa w=>S w/\Zy P ops l Q S u a w) (nthO l j) a w
def W6(ops:Array Oper)(last:List Nat):OV->Array Bool->Nat->Bool
 |.done,listed,0=>VJ ops last listed
 |.done,_,_+1=>false
 |.p1 i t,listed,k+1=>!last.contains i&&(match ops[i]? with
  |some o=>!eff o&&((Region.ready .any ops listed).contains i&&Region.free .any ops listed i)
  |none=>false)&&W6 ops last t (listed.setIfInBounds i true) k
 |.d1 i t,listed,k+1=>!last.contains i&&(ops[i]?).isSome&&decide (Region.ready .any ops listed=[i])&&W6 ops last t (listed.setIfInBounds i true) k
 |.d2 i t j u,listed,k+1=>!last.contains i&&!last.contains j&&(ops[i]?).isSome&&(ops[j]?).isSome&&((Region.ready .any ops listed).all λx=>x==i||x==j)&&!(Region.ready .any ops listed).isEmpty&&W6 ops last t (listed.setIfInBounds i true) k&&W6 ops last u (listed.setIfInBounds j true) k
 |.p1 _ _,_,0=>false
 |.d1 _ _,_,0=>false
 |.d2 _ _ _ _,_,0=>false
variable {i:Nat}{o:Oper}{a:Act}{w:World}
theorem Ydv{S:World->Prop}{K:Act->World->Prop}{last:List Nat}{k:Nat}{listed:Array Bool}(ho:ops[i]? =some o)
 (h:wpD P ops K o a w) (hk:∀a w,K a w->S w/\Zq P ops Q S last k (listed.setIfInBounds i true) a w):
 wpOp P ops Q i (λa' w'=>(last.contains i=false->S w')/\Zq P ops Q S last k (listed.setIfInBounds i true) a' w') a w:=by
 unfold wpD at h
 unfold wpOp
 simp only[ho]
 by_cases hw:Region.wanted o (yielded ops a.tmps)=true
 ·rw[Tn hw]at h⊢
  exact .inl (Oper.wp_mono_noQ (λ_ _ _ h=>h) (by rintro⟨_,_,h⟩;exact h) (Oper.wp_mono (λa' w' h'=>⟨λ_=>(hk a' w' h').1,(hk a' w' h').2⟩) h))
 ·rw[Tf hw]at h⊢
  exact⟨λ_=>(hk _ w h).1,(hk _ w h).2⟩
theorem VD{S:World->Prop}{last:List Nat}(hs:Region.noSelect ops=true)(hQ:∀c (a:Act) (w:World),¬Q (.panic c) a w)(hlo:¬LetsOut Q)(l:List Oper)(hl:ops=l.toArray)(hlast:Yd3 ops last=true):
 ∀(t:OV) (k:Nat) (listed:Array Bool) (a:Act) (w:World),Closed ops listed->W6 ops last t listed k=true->S w->Zy P ops l (Jx P ops Q (Yh l last)) S t a w->
  Zq P ops Q S last (k+last.length) listed a w
 |.done,0,listed,a,w,_,hB,_,h=>by
  have:=JK (S:=S) l hl (Vg hlast).1 hlo last listed a w (λj hj=>by simpa using hj) hB h
  rw[RH]
  exact this
 |.done,_+1,_,_,_,_,hB,_,_=>by cases hB
 |.p1 _ _,0,_,_,_,_,hB,_,_=>by cases hB
 |.d1 _ _,0,_,_,_,_,hB,_,_=>by cases hB
 |.d2 _ _ _ _,0,_,_,_,_,hB,_,_=>by cases hB
 |.p1 i t,k+1,listed,a,w,hcl,hB,hS,h=>by
  simp only[W6,Tq]at hB
  obtain⟨⟨h0,h1⟩,h2⟩:=hB
  have hno:last.contains i=false:=by simpa using h0
  cases ho:ops[i]? with
  |none=>rw[ho]at h1;cases h1
  |some o=>
   rw[ho]at h1
   have hget:=XE hl ho
   unfold Zy at h
   rw[hget]at h
   rw[SZ]
   simp only[Tq,RS]at h1
   obtain⟨he,h3,h4⟩:=h1
   unfold Yv at h
   rw[Tf (by rw[he];simp)]at h
   obtain⟨v,hy,h5⟩:=h
   have hr:i∈Region.ready .any ops listed:=by simpa using h3
   exact J2 ho (Region.noSelect_spec hs) hQ ((Vg hlast).2 i o ho he hno) hno _ listed a w hcl (Region.free_spec ho h4) hr hy hS (VD hs hQ hlo l hl hlast t k _ _ w (hcl.set hr) h2 hS h5.2)
 |.d1 i t,k+1,listed,a,w,hcl,hB,hS,h=>by
  simp only[W6,Tq,Tt]at hB
  obtain⟨⟨⟨h0,h1⟩,h3⟩,h2⟩:=hB
  obtain⟨o,ho⟩:=Option.isSome_iff_exists.1 h1
  unfold Zy at h
  rw[XE hl ho]at h
  rw[SZ]
  refine⟨λh0=>(by rw[h3]at h0;cases h0),λj hj=>?_⟩
  have hj':=hj
  rw[h3]at hj
  obtain rfl:j=i:=by simpa using hj
  exact Ydv ho h λa w ⟨hS',h'⟩=>⟨hS',VD hs hQ hlo l hl hlast t k _ a w (hcl.set hj') h2 hS' h'⟩
 |.d2 i t j u,k+1,listed,a,w,hcl,hB,hS,h=>by
  simp only[W6,Tq]at hB
  obtain⟨⟨⟨⟨⟨⟨⟨b1,b2⟩,b3⟩,b4⟩,b5⟩,b6⟩,b7⟩,b8⟩:=hB
  obtain⟨o,ho⟩:=Option.isSome_iff_exists.1 b3
  obtain⟨o',ho'⟩:=Option.isSome_iff_exists.1 b4
  unfold Zy at h
  rw[XE hl ho,XE hl ho']at h
  rw[SZ]
  refine⟨λh0=>(by rw[h0]at b6;cases b6),λx hx=>?_⟩
  have h5:=TF.1 b5 x hx
  simp only[R9,S5]at h5
  rcases h5 with rfl|rfl
  ·exact Ydv ho h.1 λa w ⟨hS',h'⟩=>⟨hS',VD hs hQ hlo l hl hlast t k _ a w (hcl.set hx) b7 hS' h'⟩
  ·exact Ydv ho' h.2 λa w ⟨hS',h'⟩=>⟨hS',VD hs hQ hlo l hl hlast u k _ a w (hcl.set hx) b8 hS' h'⟩
structure VV(P:Program)(n:Shp)(B:Nat)(w0:World)(ops:Array Oper)(l:List Oper)(Q:Exit->Act->World->Prop)(t:OV)(env:Env)(H F:List HP):Prop where
 run:∀a,Fits n a env->∀w,St B w0 (H++F) w->Zy P ops l Q (St B w0 H) t a w
def WE(P:Program)(B:Nat)(w0:World)(ops:Array Oper)(l:List Oper)(Q:Exit->Act->World->Prop)(Hc:List HP)(t:OV):Exit->Act->World->Prop
 |.normal,a,w=>St B w0 Hc w/\Zy P ops l Q (St B w0 Hc) t a w
 |_,_,_=>False
variable {l:List Oper}{t:OV}
theorem YpV:WE P B w0 ops l Q H t=λe a w=>match e with|.normal=>St B w0 H w/\Zy P ops l Q (St B w0 H) t a w|_=>False:=by
 funext e a w
 cases e<;>rfl
theorem Yms(h:wpList P ops (WE P B w0 ops l Q H t) [o] a w):wpD P ops (λa w=>St B w0 H w/\Zy P ops l Q (St B w0 H) t a w) o a w:=by
 have hno:¬LetsOut (WE P B w0 ops l Q H t):=by rintro⟨_,_,h⟩;exact h
 unfold wpList at h
 unfold wpD
 by_cases hw:Region.wanted o (yielded ops a.tmps)=true
 ·rw[Tn hw]at h⊢
  rcases h with h|⟨_,h⟩
  ·exact Oper.wp_mono_noQ (λ_ _ _ h=>h) hno (Oper.wp_mono (λa' w' h'=>h') h)
  ·exact(hno h).elim
 ·rw[Tf hw]at h⊢
  exact h
variable {F HF Hc:List HP}
theorem Yte(happ:App H F HF)(h:VQ n B w0 Q .normal env HF):VV P n B w0 ops l Q .done env H F:=
 ⟨λa ha w hw=>by rw[<-WI happ]at hw;exact h.run a w ha hw⟩
theorem Yus(ho:nthO l i=o)(h:VL P (some (some F)) n B w0 ops (WE P B w0 ops l Q H t) [o] env H):VV P n B w0 ops l Q (.p1 i t) env H F:=by
 refine⟨λa ha w hw=>?_⟩
 have h1:Yv P ops (WE P B w0 ops l Q H t) (St B w0 H) [o] a w:=h.run a ha w hw
 unfold Zy
 rw[ho,<-YpV]
 exact h1
theorem Yuq(ho:nthO l i=o)(happ:App H F HF)(h:VL P none n B w0 ops (WE P B w0 ops l Q H t) [o] env HF):VV P n B w0 ops l Q (.d1 i t) env H F:=by
 refine⟨λa ha w hw=>?_⟩
 unfold Zy
 rw[ho]
 rw[<-WI happ]at hw
 exact Yms (h.run a ha w hw)
theorem Yur{j:Nat}{u:OV}{o':Oper}(ho:nthO l i=o)(ho':nthO l j=o')(happ:App H F HF)(h:VL P none n B w0 ops (WE P B w0 ops l Q H t) [o] env HF)
 (h':VL P none n B w0 ops (WE P B w0 ops l Q H u) [o'] env HF):VV P n B w0 ops l Q (.d2 i t j u) env H F:=by
 refine⟨λa ha w hw=>?_⟩
 unfold Zy
 rw[ho,ho']
 rw[<-WI happ]at hw
 exact⟨Yms (h.run a ha w hw),Yms (h'.run a ha w hw)⟩
theorem YiK{H':List HP}(hp:Pull Hc H' F)(h:VV P n B w0 ops l Q t env Hc F):VQ n B w0 (WE P B w0 ops l Q Hc t) .normal env H':=
 ⟨λa w ha hw=>⟨(hw.perm hp).prefix_,h.run a ha w (hw.perm hp)⟩⟩
theorem Yir{id:Nat}(t:OV)(last:List Nat)(mask:List Bool)(hm:P.follows .mixedOrders=true)
 (hB:(Region.noSelect l.toArray&&decide (last.length<=l.toArray.size)&&Yd3 l.toArray last&&W6 l.toArray last t (Array.replicate l.toArray.size false) (l.toArray.size-last.length))=true)
 (hsp:Split mask H Hc F) {l2:List Oper}(hl2:Yh l last=l2) (h:VV P n B w0 l.toArray l (Jx P l.toArray (Only Q) l2) t env Hc F):VC P n B w0 (.region id l.toArray true) Q env H:=by
 simp only[Tq,Tt]at hB
 obtain⟨⟨⟨h1,h2⟩,h3⟩,h5⟩:=hB
 refine⟨λa w ha hw=>Ja (Q:=Only Q) ?_ λe a w h=>by cases e<;>first|exact h|cases h⟩
 have hst:St B w0 (Hc++F) w.drew:=(hw.perm (XZ hsp)).drew
 have hr:=h.run a ha w.drew hst
 rw[<-hl2]at hr
 have:=VD (S:=St B w0 Hc) h1 (λc a w h=>h) (by rintro⟨_,_,h⟩;exact h) l rfl h3 t _ _ a w.drew (Za _ _) h5 hst.prefix_ hr
 rw[Nat.sub_add_cancel h2]at this
 exact V3 hm (Z9 _ _ _ _ this)
end
end Go.Eng
namespace Go.Proofs.YtaholidehobiiaaGreatDoor
open Go.RowKit Go.Eng Go.Nw
def cpN(n:Net)(node:Int)(d:Cel):Int:=powN n (YE d) node+powN n (toC d) node
def sumC(n:Net)(node:Int)(l:List Cel):Int:=(l.map (cpN n node)).sum
theorem YkB(n:Net)(node:Int):sumC n node []=0:=rfl
theorem X8(n:Net)(node:Int)(d:Cel)(l:List Cel):sumC n node (d::l)=cpN n node d+sumC n node l:=by unfold sumC;rw[Rh,NK]
theorem Ycq(n:Net)(node:Int):∀l m:List Cel,sumC n node (l++m)=sumC n node l+sumC n node m
 |[],m=>by rw[TK,YkB];omega
 |d::l,m=>by rw[TD,X8,X8,Ycq n node l m];omega
variable {n:Net}
theorem Ysm(h:Ok n)(node:Int){l m:List Cel}(hs:l.Sublist m):sumC n node l<=sumC n node m:=by
 induction hs with
 |slnil=>exact R7 _
 |@cons l m d _ ih=>
  rw[X8]
  have h1:=WX h (YE d) node
  have h2:=WX h (toC d) node
  unfold cpN
  omega
 |cons_cons d _ ih=>rw[X8,X8];omega
theorem YdA{n:Net}{l:List Cel}(hnd:l.Nodup){j:Nat}{c:Cel}(hj:l[j]? =some c)(node:Int):∀k,k<=l.length->YB n l j node k=sumC n node ((l.take k).filter λd=>decide (d≠c))
 |0,_=>rfl
 |k+1,hk=>by
  obtain⟨d,hd⟩:∃d,l[k]? =some d:=⟨_,Ta hk⟩
  have hc:celL l k=d:=by unfold celL;rw[Tu,hd];rfl
  unfold YB
  rw[YdA hnd hj node k (by omega),TN,hd,SY,Ycq,hc]
  congr 1
  by_cases e:k=j
  ·subst e
   rw[hj]at hd
   obtain rfl:=Tv hd
   rw[Tn rfl]
   simp[sumC]
  ·have hne:d≠c:=λh=>by
    subst h
    obtain⟨h1,h2⟩:=Tj.1 hd
    obtain⟨h3,h4⟩:=Tj.1 hj
    have hp:=Rm.1 hnd
    rcases NP e with h|h
    ·exact hp k j h1 h3 h (by rw[h2,h4])
    ·exact hp j k h3 h1 h (by rw[h2,h4])
   rw[Tf e]
   simp only[SL,SH,Td hne,NF,List.filter_nil]
   rw[X8,YkB]
   unfold cpN
   omega
def UH(n:Net)(l:List Cel)(c:Cel)(node:Int):Int:=sumC n node (l.filter λd=>XY c d&&decide (d≠c))
def VH(n:Net)(l:List Cel)(c:Cel):Bool:=Z2 n (mar n (Yt n (YE c) (toC c)).toNat) (UH n l c (toC c))&&Z2 n (mar n (Yt n (toC c) (YE c)).toNat) (UH n l c (YE c))
variable {s:Sch}
theorem Ydy(hck:Yo n=0)(hf:Fine n s)(ho:Ord s.cells){i:Nat}(hi:i<s.cells.length):Jp n s i=!(VH n s.cells (Yn s i)):=by
 have hok:=YC hck
 rw[Yjb hck hf hi]
 have hnd:=Ybz ho
 have hat:=YeE hi
 have hsub:(YO s i).Sublist s.cells:=S8
 have hnds:=hnd.sublist hsub
 have hc:celL (YO s i) (YR s i)=Yn s i:=by unfold celL;rw[Tu,hat];rfl
 have hd:∀node,YB n (YO s i) (YR s i) node (YO s i).length=UH n s.cells (Yn s i) node:=λnode=>by
  rw[YdA hnds hat node _ (TJ _),TV]
  unfold UH YO
  rw[SN]
  congr 1
  refine SJ λx _=>?_
  exact Bool.and_comm _ _
 have hg:=hf.good _ (J8 hi)
 have hr:=Yjb hck hf hi
 have hto:((List.range (YO s i).length).any λk=>decide (k≠YR s i)&&YH (celL (YO s i) (YR s i)) (celL (YO s i) k))=false:=by
  have hpw:(YO s i).Pairwise λa b=>YH a b=false:=by
   refine(hf.once.sublist hsub).imp_of_mem λ{a b} ha hb hab=>hab ?_
   have h1:=(Re.1 ha).2
   have h2:=(Re.1 hb).2
   unfold XY at h1 h2
   simp only[Tt]at h1 h2
   rw[h1.1,h2.1]
  have hlt:=(Tj.1 hat).1
  rw[RD]
  intro k hk
  have hk:=TQ.1 hk
  by_cases e:k=YR s i
  ·rw[Ti (λh=>h e)];simp
  ·have hpk:=Rm.1 hpw
   have e1:celL (YO s i) k=(YO s i)[k]:=by unfold celL;rw[Tu,Ta hk];rfl
   have e2:celL (YO s i) (YR s i)=(YO s i)[YR s i]:=by unfold celL;rw[Tu,Ta hlt];rfl
   rw[Td e,RO,e1,e2]
   rcases NP e with h|h
   ·rw[Vm,hpk k _ hk hlt h];simp
   ·rw[hpk _ k hlt hk h];simp
 unfold YhV
 rw[hto,hc,hg,hd,hd]
 unfold VH
 simp
structure Sem(n:Net)(l:List Flw)(s:Sch):Prop where
 ck:Yo n=0
 fl:(Yu n.nodes l).2=0
 per:∀f∈l,s.len.tmod f.2.2.2.1=0
 frm:Frm s
 good:∀c∈s.cells,Yz n (YE c) (toC c)=true/\0<=Z1 l (Xf c)
 once:s.cells.Pairwise λa b=>a.1=b.1->YH a b=false
 clear:∀c∈s.cells,VH n s.cells c=true
variable {l:List Flw}
theorem Ymr(h1:Yo n=0)(h2:(Yu n.nodes l).2=0)(h3:Jo s=true)(h4:∀f∈l,s.len.tmod f.2.2.2.1=0)(h5:s.cells.length<=512):ZM n l s=0:=by
 unfold ZM
 rw[Tf (λh=>h h1),Tf (λh=>h h2),h3,Tf (by decide),Tf,Tf (by omega)]
 rw[Bool.not_eq_true,RD]
 intro f hf
 rw[Tt]
 exactλh=>h (h4 f hf)
theorem Yk7(hf:Frm s)(hg:∀c∈s.cells,Yz n (YE c) (toC c)=true/\0<=Z1 l (Xf c)):(Vb n l s).2=0:=by
 refine YK.2 λk _ hk=>?_
 have hk:k<s.cells.length:=by omega
 have hm:=J8 hk
 have hfo:=hf.formed _ hm
 unfold Jf at hfo
 simp only[Tq]at hfo
 obtain⟨g1,g2⟩:=hg _ hm
 unfold Ug
 rw[hfo.1.1.1,Tf (by decide),g1,Tf (by rintro(h|h);cases h;omega),Tf]
 rintro⟨h1,h2⟩
 have:=Yhh (TF.2 λi hi=>by
  have h:=ZA.2 hf
  unfold XH at h
  simp only[Tq]at h
  exact TF.1 h.2 i hi) hk
 unfold VN at this
 simp only[Tq,R9,Tt]at this
 rcases this.2 with h3|h3
 ·omega
 ·rw[h2]at h3;cases h3
theorem Ymq(h:s.cells.Pairwise λa b=>a.1=b.1->YH a b=false):(Uw s).2=0:=by
 refine YK.2 λk _ hk=>?_
 have hk:k<s.cells.length:=by omega
 have hb:Jw s k=false:=by
  unfold Jw
  rw[RD]
  intro i hi
  have hi:=TQ.1 hi
  have e1:Yn s i=s.cells[i]'(by omega):=XV (Ta _)
  have e2:Yn s k=s.cells[k]:=XV (Ta hk)
  have:=Rm.1 h i k (by omega) hk hi
  rw[<-e1,<-e2]at this
  by_cases he:(Yn s i).1=(Yn s k).1
  ·rw[Vm,this he];simp
  ·rw[Ti he];simp
 simp only[hb]
 rfl
theorem ZV:Val n l s↔Sem n l s:=by
 constructor
 ·intro h
  obtain⟨h1,h2,h3,h4,h5⟩:=Uy h.whole
  have hf:=h.frm
  have hfine:=Ytr h.cells h.twice
  have k1:=YK.1 h.cells
  have k3:=YK.1 h.dist
  refine⟨h1,h2,h4,hf,λc hc=>⟨hfine.good c hc,?_⟩,hfine.once,λc hc=>?_⟩
  ·obtain⟨i,hi⟩:=TS.1 hc
   have:=k1 i (Tm _) (by have:=(Tj.1 hi).1;omega)
   unfold Ug at this
   rw[XV hi]at this
   split at this
   ·cases this
   split at this
   ·cases this
   rename_i h6
   exact Int.not_lt.1 λhlt=>h6 (.inr hlt)
  ·obtain⟨i,hi⟩:=TS.1 hc
   have hl:=(Tj.1 hi).1
   have:=k3 i (Tm _) (by omega)
   simp only[Ydy h1 hfine hf.ord hl]at this
   rw[XV hi]at this
   cases hcl:VH n s.cells c with
   |true=>rfl
   |false=>rw[hcl]at this;simp at this
 ·intro h
  refine⟨Ymr h.ck h.fl h.frm.sized h.per h.frm.few,Yk7 h.frm h.good,Ymq h.once,YK.2 λk _ hk=>?_⟩
  have hk:k<s.cells.length:=by omega
  simp only[Ydy h.ck ⟨λc hc=>(h.good c hc).1,h.once⟩ h.frm.ord hk,h.clear _ (J8 hk)]
  rfl
theorem YdT(h:Ok n){s d e:Int}(he:e<=d)(hd:Z2 n s d=true):Z2 n s e=true:=by
 unfold Z2 at hd⊢
 have h1:=Rj hd
 have h2:=h.t0
 have h3:n.thr*(n.noise+e)<=n.thr*(n.noise+d):=SA (by omega) (by omega)
 exact Td (by omega)
theorem Sem.sub{t:Sch}(h:Sem n l s)(h1:t.len=s.len)(h2:t.off=s.off)(hs:t.cells.Sublist s.cells):Sem n l t:=by
 have hok:=YC h.ck
 have hlen:=hs.length_le
 have hfew:=h.frm.few
 refine⟨h.ck,h.fl,by rw[h1];exact h.per,⟨?_,by omega,λc hc=>?_,h.frm.ord.sublist hs⟩,λc hc=>h.good c (hs.subset hc),h.once.sublist hs,λc hc=>?_⟩
 ·have:=h.frm.sized
  unfold Jo at this⊢
  rw[h1,h2];exact this
 ·have:=h.frm.formed c (hs.subset hc)
  unfold Jf ZT at this⊢
  rw[h1,h2];exact this
 ·have:=h.clear c (hs.subset hc)
  unfold VH at this⊢
  simp only[Tq]at this⊢
  have hd:∀node,UH n t.cells c node<=UH n s.cells c node:=λnode=>Ysm hok node (hs.filter _)
  exact⟨YdT hok (hd _) this.1,YdT hok (hd _) this.2⟩
open Go.RowKit Go.Eng Go.Nw Go.Rt
abbrev JO(A:Option Addr)(cap:Nat)(l:List Lk):HP:=sl 298 3 A l.length cap (l.flatMap lkF)
theorem Yoy(A:Option Addr)(cap:Nat)(l:List Lk)(a:Lk):sl 298 3 A (l.length+1) cap (l.flatMap lkF++#[Value.int .i64 a.1,.int .i64 a.2.1,.int .i64 a.2.2].toList)=JO A cap (l++[a]):=by simp_all [JO,lkF]
theorem YfH(n:NetM){B:Nat}{w0:World}{H:List HP}{w:World}(hin:n.In B w0 H)(hck:Yo n.net=0)(hw:St B w0 H w):
 CX B w0 274 [n.val] w λv K=>∃A cap,v=.slice A (YI n.net).length cap/\K=JO A cap (YI n.net)::H:=by
 have hok:=YC hck
 obtain⟨hpw,hrw,hlk,hmg,hs1,hs2,hs3,hs4⟩:=id hin
 have hk0:n.links.length<=128:=hok.k0
 refine Yc Tryz.func274 Tryz.ntmps274 rfl rfl hw ?_
 (apply YY;apply Yx;apply Yr;exact rfl;exact rfl;intro g)
 refine zX8 ?_
 refine Yqf (λ(k:Nat) (A:Option Addr) (cap:Nat)=>[(9,.int .i64 k),(8,.int .i64 n.links.length),(7,.slice n.lA n.links.length n.lcap),(3,.slice A (ZI n.net k).length cap),(1,.pointer (some ⟨g,0,none⟩))])
  (λk A cap=>JO A cap (ZI n.net k)::netB g n::H) (λk _ _=>k<=n.links.length) (λk _ _=>n.links.length-k) 0 none 0 (Tm _) ?_ (λw hw=>hw.nilSlice _ _) ?_
 ·exact zc1
 rintro k A cap hk K hK
 have hal:=WJ n.net k
 by_cases hlt:k<n.links.length
 ·have hlx:n.links[k]? =some (lnk n.net k):=OL n.net hlt
  have hus:Vo n.net (k:Int)=ZU n.net k:=by
   unfold Vo
   have e7:n.net.links=n.links:=rfl
   rw[Td hck,e7,Td (by omega)]
   rfl
  have hl:=hok.lk k hlt
  have h5:=hl.l0
  have h6:=hl.l1
  have hU:=λ{H:List HP}{w:World}(hin:n.In B w0 H) (hw:St B w0 H w)=>UA n (k:Int) hin hw
  rw[hus]at hU
  cases hu:ZU n.net k
  ·rw[hu]at hU
   have e2:=Ybc hu
   repeat'(first|((first|apply Ya J4|apply Yb J4);exact za;exact rfl;exactλ_ hw=>(hU (((hin.cons).cons).cons) hw))|refine zgd ?_|(refine zge ?_ ?_<;>intro _<;>try exact zo)|(refine zgh ?_;intro _)|fail)
   apply hK (k+1) A cap
   ·omega
   ·omega
   ·rw[e2];exact zc1
   ·rw[e2];exact zc51
  ·rw[hu]at hU
   have e2:=QR hu
   repeat'(first|((first|apply Ya J4|apply Yb J4);exact za;exact rfl;exactλ_ hw=>(hU (((hin.cons).cons).cons) hw))|refine zgd ?_|(refine zge ?_ ?_<;>intro _<;>try exact zo)|(refine zgh ?_;intro _)|(refine zgi ?_;intro _ _)|fail)
   rename_i A3 cap3
   apply hK (k+1) A3 cap3
   ·omega
   ·omega
   ·rw[e2,To,TO];exact zc1
   ·rw[e2,show JO A3 cap3 (ZI n.net k++[Wd n.net k])=sl 298 3 A3 ((ZI n.net k).length+1) cap3 ((ZI n.net k).flatMap lkF++#[Value.int .i64 (lnk n.net k).1,Value.int .i64 (lnk n.net k).2.1,Value.int .i64 ((lnk n.net k).2.2+1)].toList) from(Yoy A3 cap3 _ (Wd n.net k)).symm]
    exact zc0
 ·obtain rfl:k=n.links.length:=by omega
  clear hK
  refine zX1 ?_<;>intros
  apply Yi (JO A cap (YI n.net)::H)
  ·exactλw hw=>(hw.perm (.cons _ (.drop _ _)))
  apply Yd;exact rfl;exact rfl
  exact⟨A,cap,rfl,rfl⟩
variable {B:Nat}{w0 w:World}{H:List HP}
theorem V4(n:NetM)(s t:Int)(hin:n.In B w0 H)(hw:St B w0 H w):
 CX B w0 239 [n.val,.int .i64 s,.int .i64 t] w λv K=>v=.int .i64 (XW n.net s t)/\K=H:=by
 refine Yc Tryz.func239 Tryz.ntmps239 rfl rfl hw ?_
 have e7:n.net.nodes=n.nodes:=rfl
 unfold XW offE
 rw[e7]
 by_cases h0:Yo n.net=0
 rotate_left
 ·rw[Tn h0]
  refine zX51 ?_<;>intros
  all_goals((repeat apply Yj);exact zc4)
 rw[Tf (λh=>h h0)]
 have hck:=λ{H:List HP}{w:World}(hin:n.In B w0 H) (hw:St B w0 H w)=>Xb n hin hw
 rw[h0]at hck
 simp only[Tt]
 by_cases h1:(s<0\/n.nodes<=s)\/(t<0\/n.nodes<=t)\/s=t
 ·rw[Tn h1]
  repeat'(first|((first|apply Ya en82|apply Yb en82);exact za;exact rfl;exactλ_ hw=>(hck hin.cons hw))|refine zgd ?_|(refine zgf ?_ ?_<;>intro _<;>try exact zo)|(refine zgh ?_;intro _)|fail)
  all_goals((repeat apply Yj);apply Yd;exact rfl;exact rfl;exact⟨rfl,rfl⟩)
 ·rw[Tf h1]
  repeat'(first|((first|apply Ya en82|apply Yb en82);exact za;exact rfl;exactλ_ hw=>(hck hin.cons hw))|refine zgc ?_|(refine zgf ?_ ?_<;>intro _<;>try exact zo)|(refine zgh ?_;intro _)|fail)
  all_goals((repeat apply Yj);apply Yd;exact rfl;exact rfl;exact⟨rfl,rfl⟩)
theorem W3(k:Nat){A:Option Addr}{cap:Nat}(hk:k<=9223372036854775807)(hw:St B w0 H w):
 CX B w0 241 [.slice A k cap] w λv K=>v=.int .i64 (if 9<k then 21 else 0)/\K=H:=by
 refine Yc Tryz.func241 Tryz.ntmps241 rfl rfl hw ?_
 by_cases h:9<k
 ·rw[Tn h]
  refine zX52 ?_<;>intros
  exact zc24
 ·rw[Tf h]
  refine zX52 ?_<;>intros
  exact zc24
theorem Yji(n:NetM)(a:Int)(g:Nat)(hm:netB g n∈H)(hw:St B w0 H w):
 CX B w0 311 [.int .i64 a,.pointer (some ⟨g,0,none⟩)] w λv K=>v=.bool (offE n.net a)/\K=H:=by
 refine Yc Tryz.func311 Tryz.ntmps311 rfl rfl hw ?_
 have e7:n.net.nodes=n.nodes:=rfl
 unfold offE
 rw[e7]
 by_cases h:a<0\/n.nodes<=a
 ·rw[Td h]
  repeat'(first|refine zgd ?_|(refine zgf ?_ ?_<;>intro _<;>try exact zo)|fail)
  all_goals(apply Yd;exact rfl;exact rfl;simp_all)
 ·rw[Ti h]
  repeat'(first|refine zgc ?_|(refine zgf ?_ ?_<;>intro _<;>try exact zo)|fail)
  all_goals(apply Yd;exact rfl;exact rfl;exact⟨rfl,rfl⟩)
def OutS(H:List HP)(R:Sch×Int)(v:Value)(K:List HP):Prop:=∃A cap,v=.tuple #[.agg #[.int .i64 R.1.len,.int .i64 R.1.off,.slice A R.1.cells.length cap],.int .i64 R.2]/\K=cels A cap R.1.cells::H
variable {H:List HP}
theorem UU{R:Sch×Int}{v:Value}(e:Int)(hR:R=(ZD,e))(hv:v=.tuple #[.agg #[.int .i64 0,.int .i64 0,.slice none 0 0],.int .i64 e]):OutS H R v (cels none 0 []::H):=⟨none,0,by rw[hR];exact hv,by rw[hR];rfl⟩
theorem JC(l:List Cel)(hlen:l.length<=1000000){A:Option Addr}{cap B:Nat}{w0:World}{w:World}(hr:Rd B w0 H A (l.flatMap celF))(hw:St B w0 H w):
 CX B w0 202 [.slice A l.length cap] w λv K=>∃A' cap',v=.slice A' l.length cap'/\K=cels A' cap' l::H:=by
 cases A with
 |none=>
  have hl:l=[]:=by
   cases l with
   |nil=>rfl
   |cons x l=>
    exact zc35
  subst hl
  refine Yc Tryz.func202 Tryz.ntmps202 rfl rfl hw ?_
  refine zX7 ?_
  apply X9 64 5;exact zc36
 |some a=>
  refine Yc Tryz.func202 Tryz.ntmps202 rfl rfl hw ?_
  repeat'(first|(apply ZE;(iterate 3 exact rfl))|(apply Y1 T;exact rfl;exact rfl;intro g2)|refine zga ?_|fail)
  apply Xy T (f:=celF) (l2:=l) (e:=64) (size:=5) (xs:=[]);(iterate 3 exact rfl);exact hr.cons;exact(λ_=>rfl);exact(λ_=>rfl);exact rfl;(intro _ _;exact zd);omega;intro A' cap'
  exact zc55
variable {A:Option Addr}{cap B:Nat}{w0 w:World}{H:List HP}
theorem YjC(l:List Int)(v:Int)(hlen:l.length<=9223372036854775807)(hr:Rd B w0 H A (l.flatMap numF))(hw:St B w0 H w):
 CX B w0 54 [.slice A l.length cap,.int .i64 v] w λu K=>u=.int .i64 (Ym (λx=>decide (v=x)) l 0)/\K=H:=by
 refine Yc Tryz.func54 Tryz.ntmps54 rfl rfl hw ?_
 refine zX8 ?_
 refine Yg (λ(k:Nat)=>[(8,.int .i64 k),(7,.int .i64 l.length),(0,.slice A l.length cap),(1,.int .i64 v)]) (λ_=>H) (λk=>k<=l.length/\Ym (λx=>decide (v=x)) l 0=Ym (λx=>decide (v=x)) (l.drop k) k) (λk=>l.length-k) 0 ⟨Tm _,by simp⟩ ?_ (λw hw=>hw) ?_
 ·exact zc1
 rintro k ⟨hk,hi⟩ K hK
 by_cases hlt:k<l.length
 ·obtain⟨a,ha⟩:∃a,l[k]? =some a:=⟨_,Ta hlt⟩
  rw[Z3 _ l ha]at hi
  repeat'(first|refine zgd ?_|(refine zge ?_ ?_<;>intro _<;>try exact zo)|fail)
  ·rename_i h
   rw[Tn (Td h)]at hi
   exact zc34
  ·rename_i h
   rw[Tf (by simp[h])]at hi
   refine zX9 ?_
   apply hK (k+1)
   ·grind
   ·omega
   ·exact zc1
   exact zc17
 ·refine zX1 ?_<;>intros
  exact zc27
theorem JP(l:List Int)(v:Int)(hlen:l.length<=9223372036854775807)(hr:Rd B w0 H A (l.flatMap numF))(hw:St B w0 H w):
 CX B w0 312 [.slice A l.length cap,.int .i64 v] w λu K=>u=.bool (decide (v∈l))/\K=H:=by
 refine Yc Tryz.func312 Tryz.ntmps312 rfl rfl hw ?_
 have hia:=JT (λx=>decide (v=x)) l 0 (by omega)
 repeat'(first|((first|apply Ya en54|apply Yb en54);exact za;exact rfl;exactλ_ hw=>(YjC l v hlen hr hw))|(apply(zs20 ?_ ?_)<;>intro _<;>try(omega))|refine zga ?_|fail)
 all_goals(apply Yd;exact rfl;exact rfl)
 all_goals grind
theorem Yb4(l m:List Int)(hlen:l.length<=9223372036854775807)(_hlen2:m.length<=9223372036854775807){A2:Option Addr}{cap2:Nat}(hr:Rd B w0 H A (l.flatMap numF))(hr2:Rd B w0 H A2 (m.flatMap numF))(hw:St B w0 H w):
 CX B w0 179 [.slice A l.length cap,.slice A2 m.length cap2] w λu K=>u=.bool (decide (l=m))/\K=H:=by
 refine Yc Tryz.func179 Tryz.ntmps179 rfl rfl hw ?_
 by_cases hll:l.length=m.length
 rotate_left
 ·exact zc12
 refine zX3 ?_<;>intros
 refine Yg (λ(k:Nat)=>[(13,.int .i64 k),(12,.int .i64 l.length),(0,.slice A l.length cap),(1,.slice A2 m.length cap2)]) (λ_=>H) (λk=>k<=l.length/\l.take k=m.take k) (λk=>l.length-k) 0 ⟨Tm _,by simp⟩ ?_ (λw hw=>hw) ?_
 ·exact zc1
 rintro k ⟨hk,hi⟩ K hK
 by_cases hlt:k<l.length
 ·obtain⟨a,ha⟩:∃a,l[k]? =some a:=⟨_,Ta hlt⟩
  obtain⟨b,hb⟩:∃b,m[k]? =some b:=⟨_,Ta (by omega)⟩
  repeat'(first|refine zgd ?_|(refine zge ?_ ?_<;>intro _<;>try exact zo)|fail)
  ·exact zc50
  ·rename_i h
   apply hK (k+1)
   ·exact YsK
   ·omega
   ·exact zc1
   exact zc17
 exact zc9
def Yp8(n:Net)(l:List Flw)(s:Sch):Prop:=∀c∈s.cells,Yz n (YE c) (toC c)=true/\0<=Z1 l (Xf c)
def Yp9(s:Sch):Prop:=s.cells.Pairwise λa b=>a.1=b.1->YH a b=false
def YkQ(n:Net)(s:Sch):Prop:=∀c∈s.cells,VH n s.cells c=true
theorem Yr3(s:Sch)(k:Nat):repC s (k+1)=repC s k++s.cells.map (movC ((k:Int)*s.len)):=by
 grind [repC,Rx]
variable {s t:Sch}{k i j:Nat}
theorem YcR{x:Cel}:x∈repC s k↔∃i,i<k/\∃c∈s.cells,x=movC ((i:Int)*s.len) c:=by
 unfold repC
 grind
theorem YjV{L:Int}(hL:0<=L)(h:i<j):(i:Int)*L+L<=(j:Int)*L:=by
 have h1:((i:Int)+1)*L<=(j:Int)*L:=SR (by omega) hL
 grind
variable {c:Cel}
theorem YnR(hf:Frm s)(hc:c∈s.cells):0<=c.1/\c.1<s.len:=by
 have:=hf.formed c hc
 simp_all [Jf,ZT,insE]
theorem YgL(hf:Frm s){d:Cel}(hc:c∈s.cells)(hd:d∈s.cells)(h:c.1+(i:Int)*s.len=d.1+(j:Int)*s.len):i=j/\c.1=d.1:=by
 have h1:=YnR hf hc
 have h2:=YnR hf hd
 rcases Nr i j with h3|h3|h3
 ·have:=YjV (L:=s.len) (by omega) h3;omega
 ·simp_all
 ·have:=YjV (L:=s.len) (by omega) h3;omega
structure Rep(s t:Sch)(k:Nat):Prop where
 k1:1<=k
 frm:Frm s
 len:t.len=s.len*k
 off:t.off=s.off
 cells:t.cells=repC s k
 l512:s.len*k<=512
 c512:s.cells.length*k<=512
theorem Yen{s:Sch}{p q:Cel->Bool}{j0:Nat}(hq:∀d∈s.cells,p (movC ((j0:Int)*s.len) d)=q d):∀{m:Nat},(∀j,j<m->j≠j0->∀d∈s.cells,p (movC ((j:Int)*s.len) d)=false)->(repC s m).filter p=if j0<m then(s.cells.filter q).map (movC ((j0:Int)*s.len))else []
 |0,_=>by simp[repC]
 |m+1,h=>by
  rw[Yr3,SY,Yen hq λj hj=>h j (by omega),List.filter_map]
  by_cases e:m=j0
  ·simp_all [List.filter_congr]
  ·have hz:s.cells.filter (p∘movC ((m:Int)*s.len))=[]:=by
    simp_all
   grind
theorem Yue(n:Net)(node d:Int)(l:List Cel):sumC n node (l.map (movC d))=sumC n node l:=by
 unfold sumC
 rw[NX]
 rfl
theorem Rep.dist(h:Rep s t k)(n:Net)(hi:i<k)(hc:c∈s.cells)(node:Int):UH n t.cells (movC ((i:Int)*s.len) c) node=UH n s.cells c node:=by
 unfold UH
 rw[h.cells,Yen (j0:=i) (q:=λd=>XY c d&&decide (d≠c)),Tn hi,Yue]
 ·intro d hd
  have h2:(movC ((i:Int)*s.len) d≠movC ((i:Int)*s.len) c)↔d≠c:=by
   grind [movC]
  simp_all [XY,movC]
 ·intro j hj hne d hd
  have:XY (movC ((i:Int)*s.len) c) (movC ((j:Int)*s.len) d)=false:=by
   refine Ti ?_
   rintro⟨h3,_⟩
   exact hne (YgL h.frm hd hc h3).1
  simp_all
theorem Rep.good(h:Rep s t k)(n:Net)(l:List Flw):Yp8 n l t↔Yp8 n l s:=by
 unfold Yp8
 rw[h.cells]
 constructor
 ·intro hg c hc
  exact hg (movC (((0:Nat):Int)*s.len) c) (YcR.2 ⟨0,h.k1,c,hc,rfl⟩)
 ·intro hg x hx
  obtain⟨i,_,c,hc,rfl⟩:=YcR.1 hx
  exact hg c hc
theorem Rep.once(h:Rep s t k):Yp9 t↔Yp9 s:=by
 unfold Yp9
 rw[h.cells]
 unfold repC
 rw[List.pairwise_flatMap]
 constructor
 ·rintro⟨h1,_⟩
  have:=h1 0 (TQ.2 h.k1)
  rw[NV]at this
  exact this.imp λ{a b} hab e=>hab (by grind [movC])
 ·intro ho
  refine⟨λi _=>?_,?_⟩
  ·rw[NV]
   exact ho.imp λ{a b} hab e=>hab (by grind [movC])
  ·refine List.pairwise_lt_range.imp λ{i j} hij x hx y hy e=>?_
   obtain⟨a,ha,rfl⟩:=TC.1 hx
   obtain⟨b,hb,rfl⟩:=TC.1 hy
   have:=(YgL h.frm ha hb e).1
   omega
theorem Rep.clear(h:Rep s t k)(n:Net):YkQ n t↔YkQ n s:=by
 have hc:∀i,i<k->∀c∈s.cells,VH n t.cells (movC ((i:Int)*s.len) c)=VH n s.cells c:=λi hi c hc=>by
  unfold VH
  have e1:YE (movC ((i:Int)*s.len) c)=YE c:=rfl
  have e2:toC (movC ((i:Int)*s.len) c)=toC c:=rfl
  rw[e1,e2,h.dist n hi hc,h.dist n hi hc]
 unfold YkQ
 constructor
 ·intro hg c hcm
  rw[<-hc 0 h.k1 c hcm]
  exact hg _ (by rw[h.cells];exact YcR.2 ⟨0,h.k1,c,hcm,rfl⟩)
 ·intro hg x hx
  rw[h.cells]at hx
  grind [YcR]
theorem YdV{α:Type}(p:α->Bool):∀(l:List α) (k:Int),(l.filter (λa=>!p a)=l/\Ym p l k= -1)\/∃j,j<l.length/\Ym p l k=k+j/\(l.take j).filter (λa=>!p a)=l.take j/\∃a,l[j]? =some a/\p a=true
 |[],_=>.inl ⟨rfl,rfl⟩
 |a::l,k=>by
  unfold Ym
  cases h:p a with
  |true=>exact .inr ⟨0,by simp,by simp,rfl,a,rfl,h⟩
  |false=>
   rw[Tf (by decide)]
   have hn:(!p a)=true:=by simp_all
   rcases YdV p l (k+1)with⟨h1,h2⟩|⟨j,h1,h2,h3,b,h4,h5⟩
   ·simp_all
   exact YvR
variable {A:Option Addr}{cap B:Nat}{w0 w:World}{H:List HP}
theorem YdY(p:Cel->Bool)(l:List Cel)(f:Nat)(cs:List Value)(hen:∀xs w,(callFunc f xs).run Tryz.prog w=.ok (.enter f xs) w)(hlen:l.length<=1000)(hr:Rd B w0 H A (l.flatMap celF))
 (hp:∀a∈l,∀w,St B w0 H w->Calls Tryz.prog f ([celV a]++cs).toArray w (Post B w0 λv K=>v=.bool (p a)/\K=H)) (hw:St B w0 H w):
 CX B w0 113 [.slice A l.length cap,.func (.func f) #[] cs.toArray] w λv K=>v=.int .i64 (Ym p l 0)/\K=H:=by
 refine Yc Tryz.func113 Tryz.ntmps113 rfl rfl hw ?_
 refine zX8 ?_
 refine Yg (λ(k:Nat)=>[(8,.int .i64 k),(7,.int .i64 l.length),(0,.slice A l.length cap),(1,.func (.func f) #[] cs.toArray)]) (λ_=>H) (λk=>k<=l.length/\Ym p l 0=Ym p (l.drop k) k) (λk=>l.length-k) 0 ⟨Tm _,by simp⟩ ?_ (λw hw=>hw) ?_
 ·exact zc1
 rintro k ⟨hk,hi⟩ K hK
 by_cases hlt:k<l.length
 ·obtain⟨a,ha⟩:∃a,l[k]? =some a:=⟨_,Ta hlt⟩
  have hpa:=hp a (Tc ha)
  rw[Z3 p l ha]at hi
  refine zX35 ?_<;>intros
  cases hpv:p a
  ·rw[hpv]at hi
   refine zX11 ?_
   apply hK (k+1)
   ·grind
   ·omega
   ·exact zc1
   exact zc17
  exact zc10
 exact zc7
structure Kc where
 i:Nat
 j:Nat
 M:List Cel
theorem UG(p:Cel->Bool)(l:List Cel)(f:Nat)(cs:List Value)(hen:∀xs w,(callFunc f xs).run Tryz.prog w=.ok (.enter f xs) w)(hlen:l.length<=1000)
 (hp:∀a∈l,∀(X:List HP) w,St B w0 (X++H) w->Calls Tryz.prog f ([celV a]++cs).toArray w (Post B w0 λv K=>v=.bool (p a)/\K=X++H)) (hw:St B w0 (cels A cap l::H) w):
 CX B w0 207 [.slice A l.length cap,.func (.func f) #[] cs.toArray] w λv K=>v=.slice A (l.filter λa=>!p a).length cap/\K=cels A cap (l.filter λa=>!p a)::H:=by
 refine Yc Tryz.func207 Tryz.ntmps207 rfl rfl hw ?_
 refine Qb (e:=64) (size:=5) (A:=A) (xs:=l.flatMap celF) (k:=l.length) (cap:=cap) Tz λhcap=>?_
 have hif:=λ{w:World}(hw:St B w0 (cels A cap l::H) w)=>YdY p l f cs hen hlen (cap:=cap) (.sl Tz) (λa ha w hw=>hp a ha [cels A cap l] w hw) hw
 rcases YdV p l 0 with⟨h1,h2⟩|⟨i0,h1,h2,h3,a0,h4,h5⟩
 ·rw[h2]at hif
  rw[h1]
  repeat'(first|((first|apply Ya YfY|apply Yb YfY);exact za;exact rfl;exactλ_ hw=>(hif hw))|refine zgb ?_|(refine zge ?_ ?_<;>intro _<;>try exact zo)|fail)
  exact zc4
 rw[h2,Int.zero_add]at hif
 repeat'(first|((first|apply Ya YfY|apply Yb YfY);exact za;exact rfl;exactλ_ hw=>(hif hw))|refine zgc ?_|(refine zge ?_ ?_<;>intro _<;>try exact zo)|fail)
 refine Yg (λ(z:Kc)=>[(6,.int .i64 z.j),(5,.int .i64 z.i),(0,.slice A z.M.length cap),(1,.func (.func f) #[] cs.toArray)]) (λz=>cels A cap z.M::H) (λz=>z.M.length=l.length/\z.i<z.j/\z.j<=l.length/\z.M.take z.i=(l.take z.j).filter (λa=>!p a)/\z.M.drop z.j=l.drop z.j) (λz=>l.length-z.j) ⟨i0,i0+1,l⟩ ⟨rfl,by exact zc28,by exact zc28,?_,rfl⟩ ?_ (λw hw=>hw) ?_
 ·exact YvS
 ·exact zc1
 rintro⟨i,j,M⟩ ⟨hM,hij,hj,ht,hd⟩ K hK
 simp only at hM hij hj ht hd⊢
 unfold cels
 by_cases hlt:j<l.length
 ·obtain⟨a,ha⟩:∃a,l[j]? =some a:=⟨_,Ta hlt⟩
  have hMa:M[j]? =some a:=zc87
  have hpa:=λ{X1 X2:HP}{w:World}(hw:St B w0 (X1::X2::H) w)=>hp a (Tc ha) [X1,X2] w hw
  have hft:(l.take (j+1)).filter (λa=>!p a)=M.take i++(if p a=true then []else [a]):=YvL
  obtain⟨b,hb⟩:∃b,p a=b:=⟨_,rfl⟩
  rw[hb]at hft hpa
  have hd1:∀x:Cel,(M.set i x).drop (j+1)=l.drop (j+1):=λx=>by
   exact YvM
  cases b with
  |true=>
   rw[Tn rfl,Ro]at hft
   refine zX38 ?_<;>intros
   apply hK ⟨i,j+1,M⟩
   ·exact⟨hM,by exact zc28,by exact zc28,hft.symm,by exact Yv0⟩
   ·exact zc28
   ·exact zc1
   ·exact zc51
  |false=>
   rw[Tf (by decide)]at hft
   have hMl:(M.set i a).length=M.length:=Rf
   repeat'(first|((first|apply Y3 (cs:=cs));exact rfl;exact hen;exact za;exact rfl;exactλ_ hw=>hpa hw)|(apply Zb T (f:=celF) (l:=M) (i:=i) (a:=a);(iterate 3 exact rfl);exact zd;exactλ_=>rfl;(iterate 3 exact rfl);omega)|refine zgd ?_|(refine zge ?_ ?_<;>intro _<;>try exact zo)|(refine zgh ?_;intro _)|fail)
   apply hK ⟨i+1,j+1,M.set i a⟩
   ·refine⟨by exact zc28,by exact zc28,by exact zc28,?_,hd1 a⟩
    exact Yvy
   ·exact zc28
   ·dsimp only
    rw[hMl]
    exact zc1
   ·unfold cels
    dsimp only
    rw[hMl]
    exact zc51
 ·obtain rfl:j=l.length:=by omega
  clear hK
  rw[TV]at ht
  have hil:(l.filter λa=>!p a).length=i:=by rw[<-ht,TT];omega
  have hfl:(M.flatMap celF).take (i*5)=(l.filter λa=>!p a).flatMap celF:=by rw[<-XG (q:=5) (λ_=>rfl),ht]
  refine zX40 ?_<;>intros
  rw[RU]
  apply XU (sl 64 5 A i cap ((l.filter λa=>!p a).flatMap celF)::H)
  ·exact zc67
  apply Yal T T2 (e:=64) (size:=5) (k:=i) (xs:=(l.filter λa=>!p a).flatMap celF);exact rfl;exact Tz;(iterate 3 exact rfl);omega
  refine zX41 ?_
  exact Yvx
variable {l:List Int}{A:Option Addr}{cap B k:Nat}{w0:World}{H:List HP}
theorem Yx1(k:Nat)(hr:Rd B w0 H A (l.flatMap numF))(hc:l.length<=cap):Rd B w0 H (subA A 0 cap 1) ((l.take k).flatMap numF):=by
 have h:=Rd.sub (f:=numF) (q:=1) (o:=0) (k:=k) (λ_=>rfl) hr hc
 simp_all
theorem Yvg(o:Nat)(hr:Rd B w0 H A (l.flatMap numF))(hc:l.length<=cap):Rd B w0 H (subA A o cap 1) ((l.drop o).flatMap numF):=by
 have h:=Rd.sub (f:=numF) (q:=1) (o:=o) (k:=(l.drop o).length) (λ_=>rfl) hr hc
 grind
variable {p:Nat->Bool}
theorem YfF(h:(List.range k).any p=false)(h2:p k=false):(List.range (k+1)).any p=false:=by
 grind
theorem Wc{n:Nat}(hk:k<n)(h:p k=true):(List.range n).any p=true:=by grind
theorem YdF(n:NetM)(s t:Int)(r:List Int){w:World}(hin:n.In B w0 H)(hck:Yo n.net=0)(hr:Rd B w0 H A (r.flatMap numF))(hlen:r.length<=9223372036854775807)(hcap:r.length<=cap)(hw:St B w0 H w):
 CX B w0 236 [n.val,.int .i64 s,.int .i64 t,.slice A r.length cap] w λv K=>v=.int .i64 (Um n.net s t r)/\K=H:=by
 refine Yc Tryz.func236 Tryz.ntmps236 rfl rfl hw ?_
 (apply YY;apply Yx;apply Yr;exact rfl;exact rfl;intro g)
 have hnm:netB g n∈netB g n::H:=Tz
 unfold Um
 by_cases h1:r.length<2
 ·rw[Tn h1]
  refine zX0 ?_<;>intros
  exact zc47
 rw[Tf h1]
 by_cases h2:9<r.length
 ·rw[Tn h2]
  refine zX25 ?_<;>intros
  exact zc47
 rw[Tf h2]
 have hoff:=λ{w:World}(hw:St B w0 (netB g n::H) w)=>Yax (λa:Int=>Value.int .i64 a) (offE n.net) r 311 [.pointer (some ⟨g,0,none⟩)] Yxz hlen (cap:=cap) (hr.cons) (λa _ w hw=>Yji n a g hnm hw) hw
 obtain⟨b3,h3⟩:∃b,r.any (offE n.net)=b:=⟨_,rfl⟩
 rw[h3]at hoff⊢
 cases b3 with
 |true=>
  rw[Tn rfl]
  refine zX53 ?_<;>intros
  exact zc47
 |false=>
  rw[Tf (by decide)]
  have hg0:=Xa (l:=r) (i:=0) (by omega)
  have hg1:=Xa (l:=r) (i:=r.length-1) (by omega)
  have hgi:((r.length:Int)-1).toNat=r.length-1:=by omega
  rw[<-hgi]at hg1
  by_cases h4:r.getD 0 0≠s\/r.getD (r.length-1) 0≠t
  ·rw[Tn h4]
   rw[<-hgi]at h4
   repeat'(first|((first|apply Ya Ynk|apply Yb Ynk);exact za;exact rfl;exactλ_ hw=>(hoff hw))|(apply zg29;(apply Yw;exact za;exact rfl))|refine zgd ?_|(refine zgf ?_ ?_<;>intro _<;>try exact zo)|fail)
   all_goals first
    |((repeat apply Yj);apply Yd;exact rfl;exact rfl;exact⟨rfl,rfl⟩)
    |skip
   done
  rw[Tf h4]
  rw[<-hgi]at h4
  refine zX53 ?_<;>intros
  refine Yg (λ(k:Nat)=>[(43,.int .i64 k),(42,.int .i64 r.length),(41,.slice A r.length cap),(3,.slice A r.length cap),(4,.pointer (some ⟨g,0,none⟩))]) (λ_=>netB g n::H) (λk=>k<=r.length/\((List.range k).any λi=>(r.take i).contains (r.getD i 0))=false) (λk=>r.length-k) 0 ⟨Tm _,rfl⟩ ?_ (λw hw=>hw) ?_
  ·exact zc1
  rintro k ⟨hk,hi⟩ K hK
  by_cases hlt:k<r.length
  ·have hgk:=Xa (l:=r) (i:=k) hlt
   obtain⟨b,hb⟩:∃b,(r.take k).contains (r.getD k 0)=b:=⟨_,rfl⟩
   have hbm:decide (r.getD k 0∈r.take k)=b:=by rw[<-hb];simp
   have hcon:=λ{w:World}(hw:St B w0 (netB g n::H) w)=>JP (r.take k) (r.getD k 0) YgT (cap:=cap) (Yx1 k (hr.cons (X:=netB g n)) hcap) hw
   rw[hbm]at hcon
   cases b with
   |true=>
    repeat'(first|(apply ZY T (l:=r) (n':=(r.take k).length);(iterate 4 exact rfl);omega;exact hcap;(simp;omega))|((first|apply Ya VO|apply Yb VO);exact za;exact rfl;exactλ_ hw=>(hcon hw))|refine zgd ?_|(refine zge ?_ ?_<;>intro _<;>try exact zo)|fail)
    (repeat apply Yj);apply Yd;exact rfl;exact rfl
    have htw:YbM r=true:=Wc hlt hb
    exact⟨by rw[Tn htw],rfl⟩
   |false=>
    repeat'(first|(apply ZY T (l:=r) (n':=(r.take k).length);(iterate 4 exact rfl);omega;exact hcap;(simp;omega))|((first|apply Ya VO|apply Yb VO);exact za;exact rfl;exactλ_ hw=>(hcon hw))|refine zgc ?_|(refine zge ?_ ?_<;>intro _<;>try exact zo)|fail)
    apply hK (k+1)
    ·exact⟨by omega,YfF hi hb⟩
    ·omega
    ·exact zc1
    exact zc17
  obtain rfl:k=r.length:=by omega
  clear hK
  have htw:YbM r=false:=hi
  rw[Tf (by rw[htw];decide)]
  have hdl:(r.drop 1).length=r.length-1:=Rq
  repeat'(first|(apply ZZ T (n':=(r.drop 1).length);(iterate 4 exact rfl);omega;(rw[hdl];rfl))|refine zgc ?_|(refine zge ?_ ?_<;>intro _<;>try exact zo)|fail)
  refine Yg (λ(k:Nat)=>[(57,.int .i64 k),(56,.int .i64 (r.drop 1).length),(55,.slice (subA A 1 cap 1) (r.drop 1).length (cap-1)),(3,.slice A r.length cap),(4,.pointer (some ⟨g,0,none⟩))]) (λ_=>netB g n::H) (λk=>k<=(r.drop 1).length/\((List.range k).any λi=>!Yz n.net (r.getD i 0) (r.getD (i+1) 0))=false) (λk=>(r.drop 1).length-k) 0 ⟨Tm _,rfl⟩ ?_ (λw hw=>hw) ?_
  ·exact zc1
  rintro k ⟨hk,hi⟩ K hK
  have hr1:Rd B w0 (netB g n::H) (subA A 1 cap 1) ((r.drop 1).flatMap numF):=Yvg 1 (hr.cons) hcap
  have hr0:Rd B w0 (netB g n::H) A (r.flatMap numF):=hr.cons
  by_cases hlt:k<(r.drop 1).length
  ·have hgk:=Xa (l:=r) (i:=k) (by omega)
   have hgk1:(r.drop 1)[k]? =some (r.getD (k+1) 0):=by
    rw[RI,Nat.add_comm];exact Xa (by omega)
   obtain⟨b,hb⟩:∃b,Yz n.net (r.getD k 0) (r.getD (k+1) 0)=b:=⟨_,rfl⟩
   have hus:=λ{w:World}(hw:St B w0 (netB g n::H) w)=>UA n (Zn n.net (r.getD k 0) (r.getD (k+1) 0)) (hin.cons (X:=netB g n)) hw
   rw[Yig hck,hb]at hus
   cases b with
   |true=>
    refine zX57 ?_<;>intros
    apply hK (k+1)
    ·exact⟨by omega,YfF hi (by rw[hb];rfl)⟩
    ·omega
    ·exact zc1
    exact zc17
   |false=>
    refine zX57 ?_<;>intros
    (repeat apply Yj);apply Yd;exact rfl;exact rfl
    have hbr:Jd n.net r=true:=Wc (k:=k) (by omega) (by rw[hb];rfl)
    exact⟨by rw[Tn hbr],rfl⟩
  ·obtain rfl:k=(r.drop 1).length:=by omega
   clear hK
   refine zX1 ?_<;>intros
   (repeat apply Yj);apply Yd;exact rfl;exact rfl
   have hbr:Jd n.net r=false:=by rw[hdl]at hi;exact hi
   exact⟨by rw[Tf (by rw[hbr];decide)],rfl⟩
def ZS(n:Net)(l:List Cel)(i:Nat):Bool:=
 !(Vo n (Zn n (YE (celL l i)) (toC (celL l i))))||((List.range l.length).any λk=>decide (k≠i)&&YH (celL l i) (celL l k))
   ||(!(Zu n (mar n (Yt n (YE (celL l i)) (toC (celL l i))).toNat) (YB n l i (toC (celL l i)) l.length))||!(Zu n (mar n (Yt n (toC (celL l i)) (YE (celL l i))).toNat) (YB n l i (YE (celL l i)) l.length)))
def JS(n:Net)(l:List Cel):Bool:=decide (Yo n=0)&&(List.range l.length).all λi=>!(ZS n l i)
def atP(slot off:Int)(c:Cel):Bool:=decide (c.1=slot/\c.2.1=off)
abbrev nrs(A:Option Addr)(cap:Nat)(l:List Int):HP:=sl 3 1 A l.length cap (l.flatMap numF)
theorem Yed(A:Option Addr)(cap:Nat)(l:List Int)(z:Int):sl 3 1 A (l.length+1) cap (l.flatMap numF++#[Value.int .i64 z].toList)=nrs A cap (l++[z]):=by simp[nrs,List.flatMap_append,numF]
def onP(id a b:Int)(c:Cel):Bool:=decide (Xf c=id/\YE c=a/\toC c=b)
def Xq(s:Sch)(id:Int)(l:Lk):List Cel:=s.cells.filter (onP id l.1 l.2.1)
def Xm(len a:Int):List Cel->Nat->List (Cel×Int)
 |[],_=>[]
 |c::cs,k=>if c.1=a.tmod len/\k≠0 then(c,a)::Xm len a cs (k-1)else Xm len a cs k
def hopP(len:Int)(cs:List Cel):Nat->Nat->Int->List (Cel×Int)
 |0,_,_=>[]
 |f+1,k,a=>Xm len a cs k++hopP len cs f (k-(Xm len a cs k).length) (a+1)
def Y4(x:List (Cel×Int))(a:Int):Int:=match x.getLast? with|some z=>z.2+1|none=>a
def Y7(l:Lk):Nat:=(l.2.2+1).toNat
def runP(len:Int)(C:Lk->List Cel)(endd:Int):List Lk->Int->List (Cel×Int)
 |[],_=>[]
 |l::ls,a=>if(hopP len (C l) (endd-a).toNat (Y7 l) a).length<Y7 l then hopP len (C l) (endd-a).toNat (Y7 l) a
  else hopP len (C l) (endd-a).toNat (Y7 l) a++runP len C endd ls (Y4 (hopP len (C l) (endd-a).toNat (Y7 l) a) a)
def XD(ls:List Lk):Nat:=(ls.map Y7).sum
theorem O1(len a:Int):∀(cs:List Cel) (k:Nat),(Xm len a cs k).length<=k
 |[],k=>Tm _
 |c::cs,k=>by
  unfold Xm
  split
  ·rename_i h
   have:=O1 len a cs (k-1)
   rw[TM];omega
  ·exact O1 len a cs k
theorem WD{len a:Int}:∀{cs:List Cel}{k:Nat}{z:Cel×Int},z∈Xm len a cs k->z.2=a
 |[],k,z,h=>by cases h
 |c::cs,k,z,h=>by
  unfold Xm at h
  split at h
  ·rcases TL.1 h with rfl|h
   ·rfl
   ·exact WD h
  ·exact WD h
theorem YpI(len a:Int):∀cs:List Cel,Xm len a cs 0=[]:=λcs=>Sj (Nat.le_zero.1 (O1 len a cs 0))
theorem YaE(len:Int)(cs:List Cel):∀(f k:Nat) (a:Int),(hopP len cs f k a).length<=k
 |0,k,a=>Tm _
 |f+1,k,a=>by
  unfold hopP
  have h1:=O1 len a cs k
  have h2:=YaE len cs f (k-(Xm len a cs k).length) (a+1)
  rw[To];omega
theorem Yjz(len:Int)(cs:List Cel)(f:Nat)(a:Int):hopP len cs f 0 a=[]:=Sj (Nat.le_zero.1 (YaE len cs f 0 a))
theorem YcL{len:Int}{cs:List Cel}:∀{f k:Nat}{a:Int}{z:Cel×Int},z∈hopP len cs f k a->a<=z.2/\z.2<a+f
 |0,k,a,z,h=>by cases h
 |f+1,k,a,z,h=>by
  unfold hopP at h
  rcases TI.1 h with h|h
  ·have:=WD h;omega
  ·have:=YcL h;omega
theorem Ya0(len:Int)(C:Lk->List Cel)(endd:Int):∀(ls:List Lk) (a:Int),(runP len C endd ls a).length<=XD ls
 |[],a=>Tm _
 |l::ls,a=>by
  have h1:=YaE len (C l) (endd-a).toNat (Y7 l) a
  have h2:=Ya0 len C endd ls (Y4 (hopP len (C l) (endd-a).toNat (Y7 l) a) a)
  have h3:XD (l::ls)=Y7 l+XD ls:=by unfold XD;rw[Rh,NK]
  unfold runP
  split
  ·omega
  ·rw[To];omega
variable {x:List (Cel×Int)}{a b endd:Int}
theorem YqD(h:∀z∈x,a<=z.2/\z.2<b)(hab:a<=b):a<=Y4 x a/\Y4 x a<=b:=by
 unfold Y4
 cases hx:x.getLast? with
 |none=>exact⟨R7 _,hab⟩
 |some z=>
  have:=h z (NJ hx)
  simp only
  omega
theorem Yh3{len:Int}{C:Lk->List Cel}{endd:Int}:∀{ls:List Lk}{a:Int}{z:Cel×Int},a<=endd->z∈runP len C endd ls a->a<=z.2/\z.2<endd
 |[],a,z,_,h=>by cases h
 |l::ls,a,z,hae,h=>by
  have hb:∀z∈hopP len (C l) (endd-a).toNat (Y7 l) a,a<=z.2/\z.2<endd:=λz hz=>by
   have:=YcL hz;omega
  unfold runP at h
  split at h
  ·exact hb z h
  ·rcases TI.1 h with h|h
   ·exact hb z h
   ·have h1:=YqD hb hae
    have:=Yh3 h1.2 h
    omega
def On(len:Int)(C:Lk->List Cel)(endd:Int)(cs:List Cel)(ls:List Lk)(f k:Nat)(a at_:Int):List (Cel×Int):=
 if(hopP len cs f k a).length<k then hopP len cs f k a else hopP len cs f k a++runP len C endd ls (Y4 (hopP len cs f k a) at_)
theorem Ysf(len:Int)(C:Lk->List Cel)(endd:Int)(l:Lk)(ls:List Lk)(a:Int):runP len C endd (l::ls) a=On len C endd (C l) ls (endd-a).toNat (Y7 l) a a:=rfl
theorem YpR(len:Int)(C:Lk->List Cel)(endd:Int)(cs:List Cel)(ls:List Lk)(f:Nat)(a at_:Int):On len C endd cs ls f 0 a at_=runP len C endd ls at_:=by
 unfold On
 rw[Yjz,Tf (RL _)]
 rfl
variable {C:Lk->List Cel}{cs cs':List Cel}{ls:List Lk}{k f:Nat}
theorem Ysp{len:Int}{at_:Int}(hk:k≠0):On len C endd cs ls 0 k a at_=[]:=by
 unfold On
 rw[Tn (by simp[hopP];omega)]
 rfl
theorem Yoq{y:List (Cel×Int)}(hy:∀z∈y,z.2+1=b):Y4 (y++x) a=Y4 x (if y=[]then a else b):=by
 unfold Y4
 cases hx:x.getLast? with
 |some z=>rw[List.getLast?_append,hx];rfl
 |none=>
  obtain rfl:=Na.1 hx
  rw[Ro]
  cases hy2:y.getLast? with
  |none=>
   obtain rfl:=Na.1 hy2
   rfl
  |some z=>
   have hne:y≠[]:=λe=>by rw[e]at hy2;cases hy2
   rw[Tf hne]
   exact hy z (NJ hy2)
theorem YpS(len:Int)(C:Lk->List Cel)(endd:Int)(cs:List Cel)(ls:List Lk)(f k:Nat)(a at_:Int):
 On len C endd cs ls (f+1) k a at_=Xm len a cs k++On len C endd cs ls f (k-(Xm len a cs k).length) (a+1) (if Xm len a cs k=[]then at_ else a+1):=by
 have hl:=O1 len a cs k
 have h1:hopP len cs (f+1) k a=Xm len a cs k++hopP len cs f (k-(Xm len a cs k).length) (a+1):=rfl
 unfold On
 rw[h1,To]
 by_cases h2:(hopP len cs f (k-(Xm len a cs k).length) (a+1)).length<k-(Xm len a cs k).length
 ·rw[Tn h2,Tn (by omega)]
 ·rw[Tf h2,Tf (by omega),Yoq (b:=a+1) (λz hz=>by rw[WD hz]),TY]
def QK(len:Int)(C:Lk->List Cel)(endd:Int)(cs cs':List Cel)(ls:List Lk)(f k:Nat)(a at_:Int):List (Cel×Int):=
 Xm len a cs' k++On len C endd cs ls f (k-(Xm len a cs' k).length) (a+1) (if Xm len a cs' k=[]then at_ else a+1)
theorem Yr4(len:Int)(C:Lk->List Cel)(endd:Int)(cs:List Cel)(ls:List Lk)(f k:Nat)(a at_:Int):QK len C endd cs cs ls f k a at_=On len C endd cs ls (f+1) k a at_:=(YpS ..).symm
theorem Yr7(len:Int)(C:Lk->List Cel)(endd:Int)(cs:List Cel)(ls:List Lk)(f k:Nat)(a at_:Int):QK len C endd cs [] ls f k a at_=On len C endd cs ls f k (a+1) at_:=by
 simp[QK,Xm]
variable {c:Cel}
theorem Yr8{len:Int}{at_:Int}(h:c.1=a.tmod len)(hk:k≠0):
 QK len C endd cs (c::cs') ls f k a at_=(c,a)::QK len C endd cs cs' ls f (k-1) a (a+1):=by
 have h1:Xm len a (c::cs') k=(c,a)::Xm len a cs' (k-1):=by rw[Xm,Tn ⟨h,hk⟩]
 unfold QK
 rw[h1,TM,Tf (List.cons_ne_nil _ _),show k-((Xm len a cs' (k-1)).length+1)=k-1-(Xm len a cs' (k-1)).length by omega]
 simp
theorem Yt9{len:Int}{at_:Int}(h:¬(c.1=a.tmod len/\k≠0)):
 QK len C endd cs (c::cs') ls f k a at_=QK len C endd cs cs' ls f k a at_:=by
 unfold QK
 rw[Xm,Tf h]
def runR(len:Int)(C:Lk->List Cel)(endd:Int):List Lk->Int->Option (List Int)
 |[],_=>some []
 |l::ls,a=>if(hopP len (C l) (endd-a).toNat (Y7 l) a).length<Y7 l then none
  else(runR len C endd ls (Y4 (hopP len (C l) (endd-a).toNat (Y7 l) a) a)).map λy=>(hopP len (C l) (endd-a).toNat (Y7 l) a).map Prod.snd++y
theorem YcT(len:Int)(C:Lk->List Cel)(endd:Int):∀(ls:List Lk) (a:Int),runR len C endd ls a=if(runP len C endd ls a).length<XD ls then none else some ((runP len C endd ls a).map Prod.snd)
 |[],a=>rfl
 |l::ls,a=>by
  have h3:XD (l::ls)=Y7 l+XD ls:=by unfold XD;rw[Rh,NK]
  have hl:=YaE len (C l) (endd-a).toNat (Y7 l) a
  unfold runR runP
  by_cases h:(hopP len (C l) (endd-a).toNat (Y7 l) a).length<Y7 l
  ·rw[Tn h,Tn h,Tn (by omega)]
  ·rw[Tf h,Tf h,YcT len C endd ls]
   by_cases h4:(runP len C endd ls (Y4 (hopP len (C l) (endd-a).toNat (Y7 l) a) a)).length<XD ls
   ·rw[Tn h4,Tn (by rw[To];omega)];rfl
   ·rw[Tf h4,Tf (by rw[To];omega)];simp
def Z4(n:Net)(r:List Int)(i:Nat):Lk:=lnk n (Yt n (r.getD i 0) (r.getD (i+1) 0)).toNat
def Yp(n:Net)(r:List Int):List Lk:=(List.range (r.length-1)).map (Z4 n r)
def Vk(n:Net)(s:Sch)(f:Flw)(r:List Int)(release:Int):Option (List Int):=runR s.len (Xq s f.1) (release+f.2.2.2.1) (Yp n r) release
def JE(l:List Int):Int:=l.getD (l.length-1) 0
def Wg(S:Int->Option (List Int))(len period:Int):Nat->Int->Int×Int×List Int->Option (Int×Int×List Int)
 |0,_,b=>some b
 |k+1,rel,b=>if len<=rel then some b else match S rel with
  |none=>none
  |some l=>Wg S len period k (rel+period) (if b.1<JE l-rel+1 then(JE l-rel+1,rel,l.map λz=>z-rel)else b)
def VG(n:Net)(s:Sch)(f:Flw)(r:List Int):Option (Int×Int×List Int):=Wg (Vk n s f r) s.len f.2.2.2.1 s.len.toNat f.2.2.2.2.1 (0,0,[])
def wayE(n:Net)(s:Sch)(f:Flw)(r:List Int):Int:=
 if Yo n≠0\/XH s=false\/Xx n.nodes f≠0 then 1 else if s.len.tmod f.2.2.2.1≠0 then 11 else ZH n f.2.1 f.2.2.1 r
def Xl(n:Net)(s:Sch)(f:Flw)(r:List Int):(Int×Int×List Int)×Int:=
 if wayE n s f r≠0 then((0,0,[]),wayE n s f r)else match VG n s f r with
  |none=>((0,0,[]),15)
  |some b=>(b,0)
open Go.ChangeShapes Go.WideShapes Go.ChangeAt Go.RowKit Go.Eng Go.Nw
open Go.ChangeMaps (open_string)
def flwF(f:Flw):List Value:=[.int .i64 f.1,.int .i64 f.2.1,.int .i64 f.2.2.1,.int .i64 f.2.2.2.1,.int .i64 f.2.2.2.2.1,.int .i64 f.2.2.2.2.2]
section
variable {H:Type}{enc:TypeId×Value->H}{W:World}{spare:Nat->Bool}{held:Bool}
abbrev FlwG(f:Flw):Prop:=I64 f.1/\I64 f.2.1/\I64 f.2.2.1/\I64 f.2.2.2.1/\I64 f.2.2.2.2.1/\I64 f.2.2.2.2.2
theorem YhI:Opn enc Tryz.prog W spare held 53 flwF FlwG:=
 U4 (JH (ts:=[3,3,3,3,3,3]) (by kernel_rfl) (YD op_i (YD op_i (YD op_i (YD op_i (YD op_i (YD op_i UM))))))) (λx=>(x.1,x.2.1,x.2.2.1,x.2.2.2.1,x.2.2.2.2.1,x.2.2.2.2.2.1)) (λ_=>rfl) (λ_ h=>⟨h.1,h.2.1,h.2.2.1,h.2.2.2.1,h.2.2.2.2.1,h.2.2.2.2.2.1⟩)
end
end Go.Proofs.YtaholidehobiiaaGreatDoor
namespace Go.Eng
open Go.RowKit
end Go.Eng
namespace Go.Proofs.YtaholidehobiiaaGreatDoor
open Go.RowKit Go.Eng Go.Nw
theorem Zl{f:Nat->Int}:∀{r i0 i:Nat},(∀k,i0<=k->k<i->f k=0)->i0<=i->i<i0+r->f i≠0->YZ f r i0=((i:Int),f i)
 |0,i0,i,_,h1,h2,_=>by omega
 |r+1,i0,i,h0,h1,h2,h3=>by
  unfold YZ
  by_cases e:i0=i
  ·subst e;rw[Tf h3]
  ·rw[Tn (h0 i0 (TJ _) (by omega))]
   exact Zl (λk hk1 hk2=>h0 k (by omega) hk2) (by omega) (by omega) h3
theorem Zm{f:Nat->Int}{r i0:Nat}(h:∀k,i0<=k->k<i0+r->f k=0):YZ f r i0=(-1,0):=by
 have h2:=YK.2 h
 exact Prod.ext (YdL h2) h2
def flwV(f:Flw):Value:=.agg #[.int .i64 f.1,.int .i64 f.2.1,.int .i64 f.2.2.1,.int .i64 f.2.2.2.1,.int .i64 f.2.2.2.2.1,.int .i64 f.2.2.2.2.2]
theorem QY{l:List Flw}{i:Nat}(h:i<l.length):l[i]? =some (Xj l i):=by
 grind [Xj]
variable {B cap:Nat}{w0 w:World}{H:List HP}
theorem Ylr(v nodes:Int)(gn:Nat)(hm:blk gn (.cells #[.int .i64 nodes] 3 (0,0))∈H)(hw:St B w0 H w):
 CX B w0 238 [.int .i64 v,.pointer (some ⟨gn,0,none⟩)] w λu K=>u=.bool (insE v nodes)/\K=H:=by
 refine Yc Tryz.func238 Tryz.ntmps238 rfl rfl hw ?_
 repeat'(first|refine zgd ?_|(refine zgf ?_ ?_<;>intro _<;>try exact zo)|fail)
 all_goals(
  apply Yd;exact rfl;exact rfl
  first
   |exact⟨by rw[show insE v nodes=true from Td (by omega)],rfl⟩
   |exact⟨by rw[show insE v nodes=false from Ti (by omega)],rfl⟩)
theorem Yb7(nodes:Int)(f:Flw)(hw:St B w0 H w):
 CX B w0 147 [.int .i64 nodes,flwV f] w λv K=>v=.int .i64 (Xx nodes f)/\K=H:=by
 refine Yc Tryz.func147 Tryz.ntmps147 rfl rfl hw ?_
 obtain⟨e,he⟩:∃e,Xx nodes f=e:=⟨_,rfl⟩
 rw[he]
 by_cases hA:f.1<0\/255<f.1
 ·repeat'(first|(apply zg23;first|(refine zs52 ?_;intro _)|(refine zs53 ?_;intro _))|(apply zg29;(apply Yw;exact za;exact rfl))|refine zgd ?_|(refine zgf ?_ ?_<;>intro _<;>try exact zo)|fail)
  all_goals(
   apply Yi H
   ·exact zk
   apply Yd;exact rfl;exact rfl
   refine⟨?_,rfl⟩
   rw[<-he]
   unfold Xx
   first
    |(rw[Tn (by first|exact .inl (by omega)|exact .inr (.inl (by omega))|exact .inr (.inr (.inl (by assumption)))|exact .inr (.inr (.inr (by assumption))))];done)
    |(rw[Tf (by rintro(h|h|h|h)<;>first|omega|simp_all)]
      first
       |(rw[Tn (by omega)];done)
       |(rw[Tf (by omega),Tn (by omega)];done)
       |(rw[Tf (by omega),Tf (by omega)];done)))
 ·repeat'(first|(apply zg23;first|(refine zs52 ?_;intro _)|(refine zs53 ?_;intro _))|(apply zg29;(apply Yw;exact za;exact rfl))|refine zgc ?_|(refine zgf ?_ ?_<;>intro _<;>try exact zo)|fail)
  rename_i gn gf _ _
  repeat'(first|((first|apply Uc (cs:=[.pointer (some ⟨gn,0,none⟩)])|apply Ub (cs:=[.pointer (some ⟨gn,0,none⟩)]));exact rfl;exact Yxp;exact za;exact rfl;exactλ_ hw=>(Ylr _ nodes gn zm hw);all_goals(intro hB;(try simp only[Tt,TP]at hB);try exact zo))|refine zgd ?_|(refine zgf ?_ ?_<;>intro _<;>try exact zo)|fail)
  all_goals(
   apply Yi H
   ·exact zk
   apply Yd;exact rfl;exact rfl
   refine⟨?_,rfl⟩
   rw[<-he]
   unfold Xx
   first
    |(rw[Tn (by first|exact .inl (by omega)|exact .inr (.inl (by omega))|exact .inr (.inr (.inl (by assumption)))|exact .inr (.inr (.inr (by assumption))))];done)
    |(rw[Tf (by rintro(h|h|h|h)<;>first|omega|simp_all)]
      first
       |(rw[Tn (by omega)];done)
       |(rw[Tf (by omega),Tn (by omega)];done)
       |(rw[Tf (by omega),Tf (by omega)];done)))
variable {A:Option Addr}
theorem Xe(nodes:Int)(l:List Flw)(hl:l.length<=9223372036854775807)(hr:Rd B w0 H A (l.flatMap flwF))(hw:St B w0 H w):
 CX B w0 59 [.int .i64 nodes,.slice A l.length cap] w λv K=>v=.tuple #[.int .i64 (Yu nodes l).1,.int .i64 (Yu nodes l).2]/\K=H:=by
 refine Yc Tryz.func59 Tryz.ntmps59 rfl rfl hw ?_
 by_cases hn:nodes<2\/32<nodes
 ·have hE:Yu nodes l=(-1,2):=by simp_all [Yu]
  rw[hE]
  repeat'(first|refine zgd ?_|(refine zgf ?_ ?_<;>intro _<;>try exact zo)|fail)
  all_goals(apply YM;(iterate 3 exact rfl);exact⟨rfl,rfl⟩)
 by_cases h16:16<l.length
 ·have hE:Yu nodes l=(-1,8):=by simp_all [Yu]
  rw[hE]
  refine zX43 ?_<;>intros
  exact zc40
 have hE:Yu nodes l=YZ (YT nodes l) l.length 0:=by simp_all [Yu,if_neg]
 rw[hE]
 refine zX43 ?_<;>intros
 refine Yg (λ(i:Nat)=>[(20,.int .i64 i),(19,.int .i64 l.length),(18,.slice A l.length cap),(0,.int .i64 nodes),(1,.slice A l.length cap)]) (λ_=>H) (λi=>i<=l.length/\∀k,k<i->YT nodes l k=0) (λi=>l.length-i) 0 ⟨Tm _,λk hk=>absurd hk (RL _)⟩ ?_ (λw hw=>hw) ?_
 ·exact zc1
 rintro i ⟨hi,hall⟩ K hK
 by_cases hlt:i<l.length
 ·have hget:l[i]? =some (Xj l i):=QY hlt
  have hbad:YT nodes l i≠0->YZ (YT nodes l) l.length 0=((i:Int),YT nodes l i):=λh=>Zl (λk _ hk=>hall k hk) (Tm _) (by omega) h
  have hstep:YT nodes l i=0->∀k,k<i+1->YT nodes l k=0:=λh k hk=>by
   exact YsF
  by_cases he:Xx nodes (Xj l i)≠0
  ·have hf:YT nodes l i=Xx nodes (Xj l i):=by unfold YT;exact Tn he
   rw[hbad (by rw[hf];exact he),hf]
   repeat'(first|((first|apply Ya Ym3|apply Yb Ym3);exact za;exact rfl;exactλ_ hw=>(Yb7 nodes (Xj l i) hw))|refine zgd ?_|(refine zge ?_ ?_<;>intro _<;>try exact zo)|(refine zgh ?_;intro _)|fail)
   apply Yi H
   ·exact zc0
   exact zc8
  have he0:=Rn.1 he
  have hck:=λ{H':List HP}{w:World}(hw:St B w0 H' w)=>Yb7 nodes (Xj l i) hw
  rw[he0]at hck
  rcases Nj i with h0|h0
  ·subst h0
   have hf:YT nodes l 0=0:=by unfold YT;rw[Tf he,Tf (by omega)]
   refine zX45 ?_<;>intros
   apply hK (0+1)
   ·exact Yn3
   ·omega
   ·exact zc1
   ·exact zc0
  have hget2:l[((i:Int)-1).toNat]? =some (Xj l (i-1)):=YvO
  by_cases hle:(Xj l i).1<=(Xj l (i-1)).1
  ·have hf:YT nodes l i=5:=by unfold YT;rw[Tf he,Tn ⟨h0,hle⟩]
   rw[hbad (by rw[hf];decide),hf]
   refine zX45 ?_<;>intros
   apply Yi H
   ·exact zc0
   exact zc8
  ·have hf:YT nodes l i=0:=Yv1
   refine zX45 ?_<;>intros
   apply hK (i+1)
   ·exact Yn3
   ·omega
   ·exact zc1
   ·exact zc0
 ·refine zX1 ?_<;>intros
  rw[show i=l.length by omega]at hall
  rw[Zm λk _ hk=>hall k (by omega)]
  exact zc8
theorem YdZ(p:Flw->Bool)(l:List Flw)(f:Nat)(cs:List Value)(hen:∀xs w,(callFunc f xs).run Tryz.prog w=.ok (.enter f xs) w)(hlen:l.length<=1000)(hr:Rd B w0 H A (l.flatMap flwF))
 (hp:∀a∈l,∀w,St B w0 H w->Calls Tryz.prog f ([flwV a]++cs).toArray w (Post B w0 λv K=>v=.bool (p a)/\K=H)) (hw:St B w0 H w):
 CX B w0 111 [.slice A l.length cap,.func (.func f) #[] cs.toArray] w λv K=>v=.int .i64 (Ym p l 0)/\K=H:=by
 refine Yc Tryz.func111 Tryz.ntmps111 rfl rfl hw ?_
 refine zX8 ?_
 refine Yg (λ(k:Nat)=>[(8,.int .i64 k),(7,.int .i64 l.length),(0,.slice A l.length cap),(1,.func (.func f) #[] cs.toArray)]) (λ_=>H) (λk=>k<=l.length/\Ym p l 0=Ym p (l.drop k) k) (λk=>l.length-k) 0 ⟨Tm _,by simp⟩ ?_ (λw hw=>hw) ?_
 ·exact zc1
 rintro k ⟨hk,hi⟩ K hK
 by_cases hlt:k<l.length
 ·obtain⟨a,ha⟩:∃a,l[k]? =some a:=⟨_,Ta hlt⟩
  have hpa:=hp a (Tc ha)
  rw[Z3 p l ha]at hi
  refine zX35 ?_<;>intros
  cases hpv:p a
  ·rw[hpv]at hi
   refine zX11 ?_
   apply hK (k+1)
   ·grind
   ·omega
   ·exact zc1
   exact zc17
  exact zc10
 exact zc7
theorem Ylp(f:Flw)(id:Int)(gi:Nat)(hm:blk gi (.cells #[.int .i64 id] 3 (0,0))∈H)(hw:St B w0 H w):
 CX B w0 112 [flwV f,.pointer (some ⟨gi,0,none⟩)] w λv K=>v=.bool (decide (f.1=id))/\K=H:=by
 refine Yc Tryz.func112 Tryz.ntmps112 rfl rfl hw ?_
 by_cases h:f.1=id
 ·rw[Td h]
  refine zX46 ?_<;>intros
  all_goals(apply Yj;exact zc11)
 ·rw[Ti h]
  refine zX46 ?_<;>intros
  all_goals(apply Yj;exact zc11)
theorem YdI(l:List Flw)(id:Int)(hlen:l.length<=1000)(hr:Rd B w0 H A (l.flatMap flwF))(hw:St B w0 H w):
 CX B w0 31 [.slice A l.length cap,.int .i64 id] w λv K=>v=.int .i64 (Z1 l id)/\K=H:=by
 refine Yc Tryz.func31 Tryz.ntmps31 rfl rfl hw ?_
 repeat'(first|((refine zs53 ?_;intro _))|((apply Yw;exact za;exact rfl))|refine zga ?_|fail)
 rename_i gi
 first|apply Ya YmW|apply Yb YmW
 exact za
 exact rfl
 exactλ_ hw=>(YdZ (λf=>decide (f.1=id)) l 112 [.pointer (some ⟨gi,0,none⟩)] Yw6 hlen hr.cons (λf _ w hw=>Ylp f id gi (by simp_all) hw) hw)
 refine zX4 ?_
 apply Yi H
 ·exact zc20
 exact zc74
theorem YhP(s:SchM)(f:Flw)(gs:Nat)(hs:1<=s.len/\s.len<=512)(hf:1<=f.2.2.2.1/\f.2.2.2.1<=512)(hm:blk gs (.cells #[.int .i64 s.len,.int .i64 s.off,.slice s.A s.cells.length s.cap] 37 (0,0))∈H)(hw:St B w0 H w):
 CX B w0 84 [flwV f,.pointer (some ⟨gs,0,none⟩)] w λv K=>v=.bool (decide (s.len.tmod f.2.2.2.1≠0))/\K=H:=by
 refine Yc Tryz.func84 Tryz.ntmps84 rfl rfl hw ?_
 by_cases h:s.len.tmod f.2.2.2.1≠0
 ·rw[Td h]
  rw[RE (by omega)]at h
  refine zX48 ?_<;>intros
  all_goals(apply Yj;exact zc11)
 ·rw[Ti h]
  rw[RE (by omega)]at h
  refine zX48 ?_<;>intros
  all_goals(apply Yj;exact zc11)
theorem YdX{α:Type}(p:α->Bool)(l:List α):decide (0<=Ym p l 0)=l.any p:=by
 have h:=JT p l 0 (by omega)
 grind
theorem OC(p:Flw->Bool)(l:List Flw)(f:Nat)(cs:List Value)(hen:∀xs w,(callFunc f xs).run Tryz.prog w=.ok (.enter f xs) w)(hlen:l.length<=1000)(hr:Rd B w0 H A (l.flatMap flwF))
 (hp:∀a∈l,∀w,St B w0 H w->Calls Tryz.prog f ([flwV a]++cs).toArray w (Post B w0 λv K=>v=.bool (p a)/\K=H)) (hw:St B w0 H w):
 CX B w0 66 [.slice A l.length cap,.func (.func f) #[] cs.toArray] w λv K=>v=.bool (l.any p)/\K=H:=by
 refine Yc Tryz.func66 Tryz.ntmps66 rfl rfl hw ?_
 rw[<-YdX]
 refine zX4 ?_
 first|apply Ya YmW|apply Yb YmW
 exact za
 exact rfl
 exactλ_ hw=>(YdZ p l f cs hen hlen hr hp hw)
 by_cases h0:0<=Ym p l 0
 ·exact zc18
 ·exact zc18
end Go.Proofs.YtaholidehobiiaaGreatDoor
