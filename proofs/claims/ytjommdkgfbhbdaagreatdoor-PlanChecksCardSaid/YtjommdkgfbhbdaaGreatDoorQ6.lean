/- Lemmas. -/
import Derived.Lib.AppendZeros
import Derived.RangeFuncFrom
import Derived.RangeFuncNested
import Derived.RangeFuncLeaves
import Derived.Test.YtjommdkgfbhbdaaGreatDoorQ4
set_option maxRecDepth 100000
set_option maxHeartbeats 8000000
set_option linter.all false
namespace Go.Eng
open Go.RowKit
section
variable {P:Program}{n:Shp}{B:Nat}{w0:World}{ops:Array Oper}{Q:Exit->Act->World->Prop}{rest:List Oper}{env:Env}{H:List HP}
def OY(P:Program)(ops:Array Oper)(Q:Exit->Act->World->Prop)(S:World->Prop)(l:List Oper):Exit->Act->World->Prop
 |.normal,a,w=>S w/\Yv P ops Q S l a w
 |e,a,w=>Q e a w
theorem YoQ{F H':List HP}{Hc:List HP}(hp:Pull Hc H' F)(h:VL P (some (some F)) n B w0 ops Q rest env Hc):VQ n B w0 (OY P ops Q (St B w0 Hc) rest) .normal env H':=
 ⟨λa w ha hw=>⟨(hw.perm hp).prefix_,h.run a ha w (hw.perm hp)⟩⟩
variable {S S2:World->Prop}{l:List Oper}
theorem Oper.wp_tailH{o:Oper}{a:Act}{w:World}{K:Act->World->Prop}(h:o.wp P a w K (OY P ops Q S l)):o.wp P a w K Q:=by
 unfold Oper.wp at h⊢
 generalize(execOp a.eval o).run P w=r at*
 cases r with
 |ok nx w'=>
  exact zc42
 |halt x w'=>
  exact h
def WC(P:Program)(ops:Array Oper)(Q:Exit->Act->World->Prop)(S S2:World->Prop)(last:List Nat):Nat->Array Bool->Act->World->Prop
 |0,listed,a,w=>Region.ready .any ops listed=[]/\Q .normal a w
 |fuel+1,listed,a,w=>
  (Region.ready .any ops listed=[]->Q .normal a w)/\
  ∀i∈Region.ready .any ops listed,wpOp P ops Q i (λa' w'=>((last.contains i=false->S w')/\S2 w')/\WC P ops Q S S2 last fuel (listed.setIfInBounds i true) a' w') a w
theorem Yek{S S2:World->Prop}{last:List Nat}:∀(fuel:Nat) (listed:Array Bool) (a:Act) (w:World),WC P ops Q S S2 last fuel listed a w->wpAny P .any ops Q fuel listed a w
 |0,_,_,_,h=>h
 |fuel+1,_,_,_,h=>⟨h.1,λi hi=>wpOp_mono (λa' w' h'=>Yek fuel _ a' w' h'.2) (h.2 i hi)⟩
variable {last:List Nat}{i:Nat}{oi:Oper}{v:Value}
theorem Yjo(hi:ops[i]? =some oi)(hsel:∀(j:Nat) (o:Oper) cs b,ops[j]? =some o->o.op≠.select cs b)
 (hQ:∀c (a:Act) (w:World),¬Q (.panic c) a w) (hil:last.contains i=true):
 ∀(fuel:Nat) (listed:Array Bool) (a:Act) (w:World),Closed ops listed->
  (∀j oj,ops[j]? =some oj->j≠i->listed.getD j true=false->(∀e∈oj.after,Region.binds .any e=true->e.on≠i)->oi.apart ops oj=true)->
  i∈Region.ready .any ops listed->YieldsIf P ops S2 oi v a->S2 w->
  WC P ops Q S S2 last fuel (listed.setIfInBounds i true) (a.put oi.dst v) w->WC P ops Q S S2 last (fuel+1) listed a w:=by
 intro fuel
 have hno:¬last.contains i=false:=by simp_all
 induction fuel with
 |zero=>
  intro listed a w _ _ hr hy hS H
  refine⟨λh=>(by simp_all),λj hj=>?_⟩
  by_cases hji:j=i
  ·exact Yuu
  exact zc77
 |succ fuel ih=>
  intro listed a w hcl hfree hr hy hS H
  refine⟨λh=>(by grind),λj hj=>?_⟩
  by_cases hji:j=i
  ·exact Yuu
  ·have h1:=H.2 j (ready_mono hj hji)
   obtain⟨hjun,oj,hoj,hall⟩:=mem_ready.1 hj
   have hun:=(mem_ready.1 hr).1
   have hnot:∀e∈oj.after,Region.binds .any e=true->e.on≠i:=by grind
   have h2:=wpOp_putIf hoj (hfree j oj hoj hji hjun hnot) (λcs b=>hsel i oi cs b hi) (λcs b=>hsel j oj cs b hoj) (λc a w h=>(hQ c _ w h).elim) hy h1
   have hfree':∀k ok,ops[k]? =some ok->k≠i->(listed.setIfInBounds j true).getD k true=false->
    (∀e∈ok.after,Region.binds .any e=true->e.on≠i)->oi.apart ops ok=true:=λk ok hk hki hu hno=>by
    exact zc26
   refine wpOp_mono (λa' w' h3=>⟨h3.2.1,ih (listed.setIfInBounds j true) a' w' (hcl.set hj) hfree' (ready_mono hr (NF hji)) h3.1 h3.2.1.2 ?_⟩) h2
   exact zc67
theorem YgY(hSS:∀w,S w->S2 w)(hi:ops[i]? =some oi)(hsel:∀(j:Nat) (o:Oper) cs b,ops[j]? =some o->o.op≠.select cs b)
 (hQ:∀c (a:Act) (w:World),¬Q (.panic c) a w) (hil:last.contains i=false):
 ∀(fuel:Nat) (listed:Array Bool) (a:Act) (w:World),Closed ops listed->(∀j,last.contains j=true->listed.getD j false=true\/∃f,ancB ops f j i=true)->
  (∀j oj,ops[j]? =some oj->j≠i->listed.getD j true=false->(∀e∈oj.after,Region.binds .any e=true->e.on≠i)->oi.apart ops oj=true)->
  i∈Region.ready .any ops listed->YieldsIf P ops S oi v a->S w->
  WC P ops Q S S2 last fuel (listed.setIfInBounds i true) (a.put oi.dst v) w->WC P ops Q S S2 last (fuel+1) listed a w:=by
 intro fuel
 induction fuel with
 |zero=>
  intro listed a w _ _ _ hr hy hS H
  refine⟨λh=>(by simp_all),λj hj=>?_⟩
  by_cases hji:j=i
  ·exact YuA
  exact zc77
 |succ fuel ih=>
  intro listed a w hcl hlast hfree hr hy hS H
  refine⟨λh=>(by grind),λj hj=>?_⟩
  by_cases hji:j=i
  ·exact YuA
  ·have h1:=H.2 j (ready_mono hj hji)
   obtain⟨hjun,oj,hoj,hall⟩:=mem_ready.1 hj
   have hun:=(mem_ready.1 hr).1
   have hun':listed.getD i false=false:=zc40
   have hnl:last.contains j=false:=by
    cases hc:last.contains j with
    |false=>rfl
    |true=>
     exact zc34
   have hnot:∀e∈oj.after,Region.binds .any e=true->e.on≠i:=by grind
   have h2:=wpOp_putIf hoj (hfree j oj hoj hji hjun hnot) (λcs b=>hsel i oi cs b hi) (λcs b=>hsel j oj cs b hoj) (λc a w h=>(hQ c _ w h).elim) hy h1
   have hfree':∀k ok,ops[k]? =some ok->k≠i->(listed.setIfInBounds j true).getD k true=false->
    (∀e∈ok.after,Region.binds .any e=true->e.on≠i)->oi.apart ops ok=true:=λk ok hk hki hu hno=>by
    exact zc26
   refine wpOp_mono (λa' w' h3=>⟨h3.2.1,ih (listed.setIfInBounds j true) a' w' (hcl.set hj) (λk hk=>?_) hfree' (ready_mono hr (NF hji)) h3.1 (h3.2.1.1 hnl) ?_⟩) h2
   ·exact zc60
   ·exact zc67
theorem Uv{S S2:World->Prop}{last:List Nat}(l:List Oper)(hl:ops=l.toArray)(hef:∀j,last.contains j=true->∃o,ops[j]? =some o):
 ∀(o2:List Nat) (listed:Array Bool) (a:Act) (w:World),(∀j∈o2,last.contains j=true)->Vq ops o2 listed=true->S2 w->Yv P ops Q S2 (Yc l o2) a w->WC P ops Q S S2 last o2.length listed a w
 |[],listed,a,w,_,hB,_,h=>⟨by grind [Vq],h⟩
 |i::rest,listed,a,w,hin,hB,hS,h=>by
  simp only[Vq,Tq,Tm]at hB
  obtain⟨h1,h2⟩:=hB
  obtain⟨o,ho⟩:=hef i (hin i (by simp))
  have hget:nthO l i=o:=Xx hl ho
  simp only[Yc,hget]at h
  unfold Yv at h
  refine⟨λh0=>(by simp_all),λk hk=>?_⟩
  obtain rfl:k=i:=by simp_all
  have hf:¬last.contains k=false:=by simp_all
  have hin':∀j∈rest,last.contains j=true:=by simp_all
  by_cases he:eff o=true
  ·rw[Tn he]at h
   unfold wpOp
   simp only[ho]
   by_cases hw:Region.wanted o (yielded ops a.tmps)=true
   ·rw[Tn hw]at h⊢
    exact .inl (Oper.wp_mono (λa' w' h'=>⟨⟨λh=>absurd h hf,h'.1⟩,Uv l hl hef rest _ a' w' hin' h2 h'.1 h'.2⟩) h)
   ·rw[Tj hw]at h⊢
    exact⟨⟨λh=>absurd h hf,hS⟩,Uv l hl hef rest _ _ w hin' h2 hS h⟩
  ·rw[Tj he]at h
   obtain⟨v,hy,h3⟩:=h
   exact hy.wpOp ho hS ⟨⟨λh=>absurd h hf,hS⟩,Uv l hl hef rest _ _ w hin' h2 hS h3⟩
def Yb7(ops:Array Oper)(last tail:List Nat):List Nat->Array Bool->Bool
 |[],listed=>Vq ops tail listed
 |i::rest,listed=>
  (match ops[i]? with
   |some o=>
    !last.contains i&&(if eff o then decide (Region.ready .any ops listed=[i])
    else(Region.ready .any ops listed).contains i&&Region.free .any ops listed i&&last.all λj=>listed.getD j false||ancB ops ops.size j i)
   |none=>false)&&Yb7 ops last tail rest (listed.setIfInBounds i true)
def YgD(ops:Array Oper)(last tail o1:List Nat):List Nat->Array Bool->Bool
 |[],listed=>Yb7 ops last tail o1 listed
 |i::rest,listed=>
  (match ops[i]? with
   |some o=>last.contains i&&!eff o&&(Region.ready .any ops listed).contains i&&Region.free .any ops listed i
   |none=>false)&&YgD ops last tail o1 rest (listed.setIfInBounds i true)
theorem Vy{S S2:World->Prop}(hSS:∀w,S w->S2 w){last tail:List Nat}(hs:Region.noSelect ops=true)(hQ:∀c (a:Act) (w:World),¬Q (.panic c) a w)(l:List Oper)(hl:ops=l.toArray)(htl:∀j∈tail,last.contains j=true)(hex:∀j,last.contains j=true->∃o,ops[j]? =some o):
 ∀(o1:List Nat) (listed:Array Bool) (a:Act) (w:World),Closed ops listed->Yb7 ops last tail o1 listed=true->S w->Yv P ops (OY P ops Q S2 (Yc l tail)) S (Yc l o1) a w->
  WC P ops Q S S2 last (o1++tail).length listed a w
 |[],listed,a,w,_,hB,hS,h=>by
  have h':S2 w/\Yv P ops Q S2 (Yc l tail) a w:=h
  exact Uv l hl hex tail listed a w htl hB h'.1 h'.2
 |i::rest,listed,a,w,hcl,hB,hS,h=>by
  simp only[Yb7,Tq]at hB
  obtain⟨h1,h2⟩:=hB
  cases ho:ops[i]? with
  |none=>simp_all
  |some o=>
   rw[ho]at h1
   have hget:nthO l i=o:=Xx hl ho
   simp only[Yc,hget]at h
   simp only[Tq,R9]at h1
   obtain⟨hla',h1⟩:=h1
   by_cases he:eff o=true
   ·simp only[he,Ni,Tm]at h1
    unfold Yv at h
    rw[Tn he]at h
    refine⟨λh0=>(by simp_all),λk hk=>?_⟩
    have hk':=hk
    rw[h1]at hk
    obtain rfl:k=i:=by simp_all
    unfold wpOp
    simp only[ho]
    by_cases hw:Region.wanted o (yielded ops a.tmps)=true
    ·rw[Tn hw]at h⊢
     refine .inl (Oper.wp_tailH (Oper.wp_mono (λa' w' h'=>⟨⟨λ_=>h'.1,hSS _ h'.1⟩,Vy hSS hs hQ l hl htl hex rest _ a' w' (hcl.set hk') h2 h'.1 h'.2⟩) h))
    ·rw[Tj hw]at h⊢
     exact⟨⟨λ_=>hS,hSS _ hS⟩,Vy hSS hs hQ l hl htl hex rest _ _ w (hcl.set hk') h2 hS h⟩
   ·simp only[he,RO,NC,Tq]at h1
    obtain⟨⟨h3,h4⟩,h6⟩:=h1
    unfold Yv at h
    rw[Tj he]at h
    obtain⟨v,hy,h5⟩:=h
    have hr:i∈Region.ready .any ops listed:=by simpa using h3
    refine YgY hSS ho (Region.noSelect_spec hs) hQ hla' _ listed a w hcl (λj hj=>?_) (Region.free_spec ho h4) hr hy hS (Vy hSS hs hQ l hl htl hex rest _ _ w (hcl.set hr) h2 hS h5)
    exact zc91
theorem Ybr{S S2:World->Prop}(hSS:∀w,S w->S2 w){last tail o1:List Nat}(hs:Region.noSelect ops=true)(hQ:∀c (a:Act) (w:World),¬Q (.panic c) a w)(l:List Oper)(hl:ops=l.toArray)(htl:∀j∈tail,last.contains j=true)(hex:∀j,last.contains j=true->∃o,ops[j]? =some o):
 ∀(oA:List Nat) (listed:Array Bool) (a:Act) (w:World),Closed ops listed->YgD ops last tail o1 oA listed=true->S2 w->Yv P ops (OY P ops (OY P ops Q S2 (Yc l tail)) S (Yc l o1)) S2 (Yc l oA) a w->
  WC P ops Q S S2 last (oA++(o1++tail)).length listed a w
 |[],listed,a,w,hcl,hB,_,h=>by
  have h':S w/\Yv P ops (OY P ops Q S2 (Yc l tail)) S (Yc l o1) a w:=h
  exact Vy hSS hs hQ l hl htl hex o1 listed a w hcl hB h'.1 h'.2
 |i::rest,listed,a,w,hcl,hB,hS,h=>by
  simp only[YgD,Tq]at hB
  obtain⟨h1,h2⟩:=hB
  cases ho:ops[i]? with
  |none=>simp_all
  |some o=>
   rw[ho]at h1
   have hget:nthO l i=o:=Xx hl ho
   simp only[Yc,hget]at h
   simp only[Tq,R9]at h1
   obtain⟨⟨⟨hla,he⟩,h3⟩,h4⟩:=h1
   unfold Yv at h
   rw[Tj (by simp_all)]at h
   obtain⟨v,hy,h5⟩:=h
   have hr:i∈Region.ready .any ops listed:=by simp_all
   exact Yjo ho (Region.noSelect_spec hs) hQ hla _ listed a w hcl (Region.free_spec ho h4) hr hy hS (Ybr hSS hs hQ l hl htl hex rest _ _ w (hcl.set hr) h2 hS h5)
theorem Yot{id:Nat}(oA o1 tail:List Nat)(maskA maskB:List Bool){HA FA HB FB:List HP}(hm:P.follows .mixedOrders=true)
 (hB:(Region.noSelect l.toArray&&decide ((oA++(o1++tail)).length=l.toArray.size)&&((oA++tail).all λj=>decide (j<l.toArray.size))&&YgD l.toArray (oA++tail) tail o1 oA (Array.replicate l.toArray.size false))=true)
 (hspA:Split maskA H HA FA) (_hspB:Split maskB H HB FB) (hsub:∀w,St B w0 HB w->St B w0 HA w) {lA l1 l2:List Oper}(hlA:Yc l oA=lA) (hl1:Yc l o1=l1) (hl2:Yc l tail=l2)
 (h:VL P (some (some FA)) n B w0 l.toArray (OY P l.toArray (OY P l.toArray (Only Q) (St B w0 HA) l2) (St B w0 HB) l1) lA env HA):VC P n B w0 (.region id l.toArray true) Q env H:=by
 simp only[Tq,Tm]at hB
 obtain⟨⟨⟨h1,h2⟩,h4⟩,h5⟩:=hB
 refine⟨λa w ha hw=>ZX (Q:=Only Q) ?_ λe a w h=>by exact zc72⟩
 have hst:St B w0 (HA++FA) w.drew:=(hw.perm (XU hspA)).drew
 have hr:=h.run a ha w.drew hst
 have hr':Yv P l.toArray (OY P l.toArray (OY P l.toArray (Only Q) (St B w0 HA) l2) (St B w0 HB) l1) (St B w0 HA) lA a w.drew:=hr
 rw[<-hlA,<-hl1,<-hl2]at hr'
 have:=Ybr (S:=St B w0 HB) (S2:=St B w0 HA) hsub (last:=oA++tail) h1 (λc a w h=>h) l rfl (λj hj=>by simp[hj]) (λj hj=>⟨_,R7 (by
  grind)⟩) oA _ a w.drew (X5 _ _) h5 hst.prefix_ hr'
 grind [Yce,Yek]
end
end Go.Eng
namespace Go.Proofs.YtjommdkgfbhbdaaGreatDoor
open Go.RowKit Go.Eng Go.Nw
variable {A:Option Addr}{cap B:Nat}{w0 w:World}{H:List HP}
theorem Yo7(xs:List Int)(n:NetM)(g:Nat)(hw:St B w0 (blk g (.cells #[.int .i64 n.nodes,.slice n.pA n.rows.length n.pcap,.int .i64 n.noise,.int .i64 n.thr,.slice n.lA n.links.length n.lcap,.slice n.mA n.margin.length n.mcap] 26 (0,0))::H) w):
 CX B w0 338 [.slice A xs.length cap,.pointer (some ⟨g,0,none⟩)] w λv K=>v=.bool (wide n.nodes xs)/\K=blk g (.cells #[.int .i64 n.nodes,.slice n.pA n.rows.length n.pcap,.int .i64 n.noise,.int .i64 n.thr,.slice n.lA n.links.length n.lcap,.slice n.mA n.margin.length n.mcap] 26 (0,0))::H:=by
 refine Ya Tryz.func338 Tryz.ntmps338 rfl rfl hw ?_
 unfold wide
 repeat'(first|refine zgb ?_|(refine zge ?_ ?_<;>intro _<;>try exact zo)|fail)
 ·rename_i h
  exact zc24
 ·rename_i h
  exact zc24
theorem Yo8(p:Int)(hw:St B w0 H w):CX B w0 339 [.int .i64 p] w λv K=>v=.bool (ZL p)/\K=H:=by
 refine Ya Tryz.func339 Tryz.ntmps339 rfl rfl hw ?_
 unfold ZL
 repeat'(first|refine zgd ?_|(refine zge ?_ ?_<;>intro _<;>try exact zo)|fail)
 ·exact zc24
 ·exact zc24
 ·exact zc24
theorem Yo9(xs:List Int)(hl:xs.length<=9223372036854775807)(g:Nat)(hr:Rd B w0 H A (xs.flatMap numF))(hw:St B w0 (blk g (.cells #[.func (.func 339) #[] #[]] 241 (0,0))::H) w):
 CX B w0 340 [.slice A xs.length cap,.pointer (some ⟨g,0,none⟩)] w λv K=>v=.bool (xs.any ZL)/\K=blk g (.cells #[.func (.func 339) #[] #[]] 241 (0,0))::H:=by
 refine Ya Tryz.func340 Tryz.ntmps340 rfl rfl hw ?_
 repeat'(first|((apply Yb Yti);exact za;exact rfl;exactλ_ hw=>(UM (λz:Int=>.int .i64 z) ZL xs 339 [] YwP hl hr.cons (λa _ _ hw=>Yo8 a hw) hw))|refine zgb ?_|fail)
 apply Yd;exact rfl;exact rfl
 exact⟨rfl,rfl⟩
theorem QJ(n:NetM)(p:List Int->Bool):(n.rows.any λr=>p r.xs)=n.net.power.any p:=by grind [Go.Proofs.YtjommdkgfbhbdaaGreatDoor.NetM.net]
theorem YbQ(n:NetM)(hin:n.In B w0 H)(hw:St B w0 H w):
 CX B w0 281 [n.val] w λv K=>v=.int .i64 (J3 n.net)/\K=H:=by
 refine Ya Tryz.func281 Tryz.ntmps281 rfl rfl hw ?_
 obtain⟨hpw,hrw,hlk,hmg,hs1,hs2,hs3,hs4⟩:=hin
 have e1:n.net.power.length=n.rows.length:=by simp[NetM.net]
 have e2:n.net.nodes=n.nodes:=rfl
 unfold J3
 rw[e1,e2,<-QJ,<-QJ n (λr=>r.any ZL)]
 repeat'(first|(apply zg29;(apply Ys;exact za;exact rfl))|refine zgd ?_|(refine zge ?_ ?_<;>intro _<;>try exact zo)|(refine zgh ?_;intro _)|fail)
 ·((repeat apply Yi);apply Yd;exact rfl;exact rfl;refine⟨TF _ ?_,rfl⟩)
  omega
 rename_i g _
 repeat'(first|((apply Yb Yth);exact za;exact rfl;exactλ_ hw=>(UN (λr:RowM=>.slice r.A r.xs.length r.cap) (λr=>wide n.nodes r.xs) n.rows 338 [.pointer (some ⟨g,0,none⟩)] YwO hs1 hpw.cons (λa _ _ hw=>Yo7 a.xs n g hw) hw))|refine zgc ?_|fail)
 cases hc:(n.rows.any λr=>wide n.nodes r.xs)
 rotate_left
 ·exact zc49
 repeat'(first|(apply zg29;(apply Ys;exact za;exact rfl))|refine zgd ?_|(refine zgh ?_;intro _)|fail)
 rename_i g2
 apply Yb Yth
 exact za
 exact rfl
 exactλ_ hw=>UN (λr:RowM=>.slice r.A r.xs.length r.cap) (λr=>r.xs.any ZL) n.rows 340 [.pointer (some ⟨g2,0,none⟩)] YwQ hs1 hpw.cons.cons (λa ha _ hw=>Yo9 a.xs (hs2 a ha) g2 (hrw a ha).cons hw) hw
 cases hd:(n.rows.any λr=>r.xs.any ZL)
 ·refine zX7 ?_
  ((repeat apply Yi);apply Yd;exact rfl;exact rfl;refine⟨TF _ ?_,rfl⟩)
  simp_all
 ·exact zc49
abbrev netB(g:Nat)(n:NetM):HP:=blk g (.cells #[.int .i64 n.nodes,.slice n.pA n.rows.length n.pcap,.int .i64 n.noise,.int .i64 n.thr,.slice n.lA n.links.length n.lcap,.slice n.mA n.margin.length n.mcap] 26 (0,0))
def Zc:List Int->Int
 |[]=>0
 |a::l=>if a≠0 then a else Zc l
theorem Ygn(l:List Int){k:Nat}{a:Int}(h:l[k]? =some a):Zc (l.drop k)=if a≠0 then a else Zc (l.drop (k+1)):=by
 grind [Rm,Zc]
variable {B:Nat}{w0 w:World}{H:List HP}
theorem Yl7(l:List Int)(hlen:l.length<=1000){A:Option Addr}{cap:Nat}(hr:Rd B w0 H A (l.flatMap numF))(hw:St B w0 H w):
 CX B w0 221 [.slice A l.length cap] w λv K=>v=.int .i64 (Zc l)/\K=H:=by
 refine Ya Tryz.func221 Tryz.ntmps221 rfl rfl hw ?_
 refine zX7 ?_
 refine Ye (λ(k:Nat)=>[(8,.int .i64 k),(7,.int .i64 l.length),(6,.slice A l.length cap),(3,.int .i64 0)]) (λ_=>H) (λk=>k<=l.length/\Zc l=Zc (l.drop k)) (λk=>l.length-k) 0 ⟨Td _,by simp⟩ ?_ (λw hw=>hw) ?_
 ·exact zc1
 rintro k ⟨hk,hi⟩ K hK
 by_cases hlt:k<l.length
 ·obtain⟨a,ha⟩:∃a,l[k]? =some a:=⟨_,Ta hlt⟩
  rw[Ygn l ha]at hi
  repeat'(first|refine zgd ?_|(refine zge ?_ ?_<;>intro _<;>try exact zo)|fail)
  ·rename_i h
   rw[Tn h]at hi
   exact zc47
  ·rename_i h
   rw[Tj (by omega)]at hi
   refine zX8 ?_
   apply hK (k+1)
   ·omega
   ·omega
   ·exact zc1
   exact zc21
 ·refine zX0 ?_<;>intros
  exact zc96
theorem Yvh(x y:Int):Zc [x,y]=if x=0 then y else x:=by
 simp only[Zc]
 omega
theorem Vx(a b:Lk)(hw:St B w0 H w):CX B w0 343 [lkV a,lkV b] w λv K=>v=.int .i64 (cmpL a b)/\K=H:=by
 refine Ya Tryz.func343 Tryz.ntmps343 rfl rfl hw ?_
 refine zX14 ?_<;>intros
 apply YA [0,1,2,3,5,6,7,8,4,9,10,11,12] [] [true,true]
 kernel_rfl
 kernel_rfl
 exact zy
 (simp only[Yc,nthO];rfl)
 exact rfl
 refine zX15 ?_<;>intros
 rename_i g
 apply Yb YsT
 exact za
 exact rfl
 exactλ_ hw=>(Yl7 [cmpI a.1 b.1,cmpI a.2.1 b.2.1] (by simp) (Rd.blk (g:=g) (cs:=#[.int .i64 (cmpI a.1 b.1),.int .i64 (cmpI a.2.1 b.2.1)]) (by(focus exact zc2))) hw)
 refine zX16 ?_
 ((repeat apply Yi);apply Yd;exact rfl;exact rfl;refine⟨TF _ ?_,rfl⟩)
 rw[Yvh];rfl
theorem QR(n:NetM)(g:Nat)(a:Int)(hm:netB g n∈H)(hw:St B w0 H w):
 CX B w0 342 [.int .i64 a,.pointer (some ⟨g,0,none⟩)] w λv K=>v=.bool (decide (0<=a/\a<n.nodes))/\K=H:=by
 refine Ya Tryz.func342 Tryz.ntmps342 rfl rfl hw ?_
 repeat'(first|refine zgd ?_|(refine zgf ?_ ?_<;>intro _<;>try exact zo)|fail)
 ·exact zc24
 ·exact zc24
 ·exact zc84
end Go.Proofs.YtjommdkgfbhbdaaGreatDoor
namespace Go.Eng
open Go.RowKit
open Go.ChangeMaps (setBlock)
inductive OU where
 |done
 |n1 (i:Nat) (t:OU)
 |n2 (i:Nat) (t:OU) (j:Nat) (u:OU)
 |n3 (i:Nat) (t:OU) (j:Nat) (u:OU) (k:Nat) (v:OU)
section
variable {P:Program}{n:Shp}{B:Nat}{w0:World}{Q:Exit->Act->World->Prop}{env:Env}{H:List HP}{ops:Array Oper}
def Zf(P:Program)(ops:Array Oper)(l:List Oper)(Q:Exit->Act->World->Prop)(S:World->Prop):OU->Act->World->Prop
 |.done,a,w=>Q .normal a w
 |.n1 i t,a,w=>Yv P ops (λe a w=>match e with|.normal=>Zf P ops l Q S t a w|_=>False) S [nthO l i] a w
 |.n2 i t j u,a,w=>Yv P ops (λe a w=>match e with|.normal=>Zf P ops l Q S t a w|_=>False) S [nthO l i] a w/\Yv P ops (λe a w=>match e with|.normal=>Zf P ops l Q S u a w|_=>False) S [nthO l j] a w
 |.n3 i t j u k v,a,w=>Yv P ops (λe a w=>match e with|.normal=>Zf P ops l Q S t a w|_=>False) S [nthO l i] a w/\Yv P ops (λe a w=>match e with|.normal=>Zf P ops l Q S u a w|_=>False) S [nthO l j] a w/\Yv P ops (λe a w=>match e with|.normal=>Zf P ops l Q S v a w|_=>False) S [nthO l k] a w
def Ub(ops:Array Oper)(last:List Nat):OU->Array Bool->Nat->Bool
 |.done,listed,0=>Vq ops last listed
 |.done,_,_+1=>false
 |.n1 i t,listed,k+1=>!last.contains i&&(match ops[i]? with
  |some o=>if eff o then decide (Region.ready .any ops listed=[i])else(Region.ready .any ops listed).contains i&&Region.free .any ops listed i
  |none=>false)&&Ub ops last t (listed.setIfInBounds i true) k
 |.n2 i t j u,listed,k+1=>!last.contains i&&!last.contains j&&Up ops i&&Up ops j&&((Region.ready .any ops listed).all λx=>x==i||x==j)&&!(Region.ready .any ops listed).isEmpty&&Ub ops last t (listed.setIfInBounds i true) k&&Ub ops last u (listed.setIfInBounds j true) k
 |.n3 i t j u q v,listed,k+1=>!last.contains i&&!last.contains j&&!last.contains q&&Up ops i&&Up ops j&&Up ops q&&((Region.ready .any ops listed).all λx=>x==i||x==j||x==q)&&!(Region.ready .any ops listed).isEmpty&&Ub ops last t (listed.setIfInBounds i true) k&&Ub ops last u (listed.setIfInBounds j true) k&&Ub ops last v (listed.setIfInBounds q true) k
 |.n1 _ _,_,0=>false
 |.n2 _ _ _ _,_,0=>false
 |.n3 _ _ _ _ _ _,_,0=>false
theorem Jz{S:World->Prop}{last:List Nat}(hs:Region.noSelect ops=true)(hQ:∀c (a:Act) (w:World),¬Q (.panic c) a w)(hlo:¬LetsOut Q)(l:List Oper)(hl:ops=l.toArray)(hlast:Ydt ops last=true):
 ∀(t:OU) (k:Nat) (listed:Array Bool) (a:Act) (w:World),Closed ops listed->Ub ops last t listed k=true->S w->Zf P ops l (Jp P ops Q (Yc l last)) S t a w->
  Zl P ops Q S last (k+last.length) listed a w
 |.done,0,listed,a,w,_,hB,_,h=>by
  exact Yt1
 |.done,_+1,_,_,_,_,hB,_,_=>by cases hB
 |.n1 _ _,0,_,_,_,_,hB,_,_=>by cases hB
 |.n2 _ _ _ _,0,_,_,_,_,hB,_,_=>by cases hB
 |.n3 _ _ _ _ _ _,0,_,_,_,_,hB,_,_=>by cases hB
 |.n1 i t,k+1,listed,a,w,hcl,hB,hS,h=>by
  simp only[Ub,Tq]at hB
  obtain⟨⟨h0,h1⟩,h2⟩:=hB
  have hno:last.contains i=false:=by simp_all
  cases ho:ops[i]? with
  |none=>simp_all
  |some o=>
   rw[ho]at h1
   have hget:=Xx hl ho
   unfold Zf at h
   rw[hget]at h
   rw[Sv]
   by_cases he:eff o=true
   ·simp only[he,Ni,Tm]at h1
    refine⟨λh0=>(by simp_all),λj hj=>?_⟩
    have hj':=hj
    rw[h1]at hj
    obtain rfl:j=i:=by simp_all
    exact VZ ho he hno (λe a w hne=>by simp_all) hS h λa w hS' h'=>Jz hs hQ hlo l hl hlast t k _ a w (hcl.set hj') h2 hS' h'
   ·simp only[he]at h1
    simp only[RO,NC,Tq]at h1
    unfold Yv at h
    rw[Tj he]at h
    obtain⟨v,hy,h3⟩:=h
    have hr:i∈Region.ready .any ops listed:=by simp_all
    exact JN ho (Region.noSelect_spec hs) hQ ((V3 hlast).2 i o ho (by simp_all) hno) hno _ listed a w hcl (Region.free_spec ho h1.2) hr hy hS (Jz hs hQ hlo l hl hlast t k _ _ w (hcl.set hr) h2 hS h3)
 |.n2 i t j u,k+1,listed,a,w,hcl,hB,hS,h=>by
  simp only[Ub,Tq]at hB
  obtain⟨⟨⟨⟨⟨⟨⟨b1,b2⟩,b3⟩,b4⟩,b5⟩,b6⟩,b7⟩,b8⟩:=hB
  have hi:last.contains i=false:=by simp_all
  have hj:last.contains j=false:=by simp_all
  unfold Zf at h
  rw[Sv]
  refine⟨λh0=>(by simp_all),λx hx=>?_⟩
  have h5:=TL.1 b5 x hx
  simp only[RH,NB]at h5
  rcases h5 with rfl|rfl
  ·unfold Up at b3
   cases ho:ops[x]? with
   |none=>simp_all
   |some o=>
    exact zc66
  ·unfold Up at b4
   cases ho:ops[x]? with
   |none=>rw[ho]at b4;cases b4
   |some o=>
    rw[ho]at b4
    have hg:=h.2
    exact zc80
 |.n3 i t j u q v,k+1,listed,a,w,hcl,hB,hS,h=>by
  simp only[Ub,Tq]at hB
  obtain⟨⟨⟨⟨⟨⟨⟨⟨⟨⟨b1,b2⟩,b2q⟩,b3⟩,b4⟩,b4q⟩,b5⟩,b6⟩,b7⟩,b8⟩,b9⟩:=hB
  have hi:last.contains i=false:=by simpa using b1
  have hj:last.contains j=false:=by simpa using b2
  have hq:last.contains q=false:=by simpa using b2q
  unfold Zf at h
  rw[Sv]
  refine⟨λh0=>(by rw[h0]at b6;cases b6),λx hx=>?_⟩
  have h5:=TL.1 b5 x hx
  simp only[RH,NB]at h5
  rcases h5 with(rfl|rfl)|rfl
  ·unfold Up at b3
   cases ho:ops[x]? with
   |none=>rw[ho]at b3;cases b3
   |some o=>
    exact zc66
  ·unfold Up at b4
   cases ho:ops[x]? with
   |none=>rw[ho]at b4;cases b4
   |some o=>
    rw[ho]at b4
    have hg:=h.2.1
    exact zc80
  ·unfold Up at b4q
   cases ho:ops[x]? with
   |none=>rw[ho]at b4q;cases b4q
   |some o=>
    rw[ho]at b4q
    have hg:=h.2.2
    rw[Xx hl ho]at hg
    exact VZ ho b4q hq (λe a w hne=>by cases e<;>simp_all) hS hg λa w hS' h'=>Jz hs hQ hlo l hl hlast v k _ a w (hcl.set hx) b9 hS' h'
structure VU(P:Program)(n:Shp)(B:Nat)(w0:World)(ops:Array Oper)(l:List Oper)(Q:Exit->Act->World->Prop)(t:OU)(env:Env)(H F:List HP):Prop where
 run:∀a,Fits n a env->∀w,St B w0 (H++F) w->Zf P ops l Q (St B w0 H) t a w
def JA(P:Program)(B:Nat)(w0:World)(ops:Array Oper)(l:List Oper)(Q:Exit->Act->World->Prop)(Hc:List HP)(t:OU):Exit->Act->World->Prop
 |.normal,a,w=>Zf P ops l Q (St B w0 Hc) t a w
 |_,_,_=>False
variable {l:List Oper}{t u:OU}
theorem VM:JA P B w0 ops l Q H t=λe a w=>match e with|.normal=>Zf P ops l Q (St B w0 H) t a w|_=>False:=by
 funext e a w
 cases e<;>rfl
variable {F Hc:List HP}
theorem Yrq{HF:List HP}(happ:App H F HF)(h:VQ n B w0 Q .normal env HF):VU P n B w0 ops l Q .done env H F:=
 ⟨λa ha w hw=>by exact Ymq⟩
variable {i j:Nat}{o o':Oper}
theorem YeY(ho:nthO l i=o)(h:VL P (some (some F)) n B w0 ops (JA P B w0 ops l Q H t) [o] env H):VU P n B w0 ops l Q (.n1 i t) env H F:=by
 refine⟨λa ha w hw=>?_⟩
 have h1:Yv P ops (JA P B w0 ops l Q H t) (St B w0 H) [o] a w:=h.run a ha w hw
 grind [Zf,VM]
theorem YeZ(ho:nthO l i=o)(ho':nthO l j=o')(h:VL P (some (some F)) n B w0 ops (JA P B w0 ops l Q H t) [o] env H)
 (h':VL P (some (some F)) n B w0 ops (JA P B w0 ops l Q H u) [o'] env H):VU P n B w0 ops l Q (.n2 i t j u) env H F:=by
 refine⟨λa ha w hw=>?_⟩
 have h1:Yv P ops (JA P B w0 ops l Q H t) (St B w0 H) [o] a w:=h.run a ha w hw
 have h2:Yv P ops (JA P B w0 ops l Q H u) (St B w0 H) [o'] a w:=h'.run a ha w hw
 unfold Zf
 rw[ho,ho',<-VM,<-VM]
 simp_all
theorem YoT{q:Nat}{v:OU}{o2:Oper}(ho:nthO l i=o)(ho':nthO l j=o')(ho2:nthO l q=o2)(h:VL P (some (some F)) n B w0 ops (JA P B w0 ops l Q H t) [o] env H)
 (h':VL P (some (some F)) n B w0 ops (JA P B w0 ops l Q H u) [o'] env H) (h2:VL P (some (some F)) n B w0 ops (JA P B w0 ops l Q H v) [o2] env H):VU P n B w0 ops l Q (.n3 i t j u q v) env H F:=by
 refine⟨λa ha w hw=>?_⟩
 have h1:Yv P ops (JA P B w0 ops l Q H t) (St B w0 H) [o] a w:=h.run a ha w hw
 have h2':Yv P ops (JA P B w0 ops l Q H u) (St B w0 H) [o'] a w:=h'.run a ha w hw
 have h3:Yv P ops (JA P B w0 ops l Q H v) (St B w0 H) [o2] a w:=h2.run a ha w hw
 unfold Zf
 rw[ho,ho',ho2,<-VM,<-VM,<-VM]
 simp_all
theorem UE{H':List HP}(hp:Pull Hc H' F)(h:VU P n B w0 ops l Q t env Hc F):VQ n B w0 (JA P B w0 ops l Q Hc t) .normal env H':=
 ⟨λa w ha hw=>h.run a ha w (hw.perm hp)⟩
theorem UC{id:Nat}(t:OU)(last:List Nat)(mask:List Bool)(hm:P.follows .mixedOrders=true)
 (hB:(Region.noSelect l.toArray&&decide (last.length<=l.toArray.size)&&Ydt l.toArray last&&Ub l.toArray last t (Array.replicate l.toArray.size false) (l.toArray.size-last.length))=true)
 (hsp:Split mask H Hc F) {l2:List Oper}(hl2:Yc l last=l2) (h:VU P n B w0 l.toArray l (Jp P l.toArray (Only Q) l2) t env Hc F):VC P n B w0 (.region id l.toArray true) Q env H:=by
 simp only[Tq,Tm]at hB
 obtain⟨⟨⟨h1,h2⟩,h3⟩,h5⟩:=hB
 refine⟨λa w ha hw=>ZX (Q:=Only Q) ?_ λe a w h=>by exact zc72⟩
 have hst:St B w0 (Hc++F) w.drew:=(hw.perm (XU hsp)).drew
 have hr:=h.run a ha w.drew hst
 rw[<-hl2]at hr
 have:=Jz (S:=St B w0 Hc) h1 (λc a w h=>h) zc54 l rfl h3 t _ _ a w.drew (X5 _ _) h5 hst.prefix_ hr
 exact YqW
end
def MB(es:Ents)(f:Int->Bool):Prop:=∀k,mget es k=if f k=true then some (.bool true)else none
structure MOk(es:Ents)(clock:Nat):Prop where
 nd:(es.map λe=>e.2.2).Nodup
 kn:(es.map λe=>e.1).Nodup
 lt:∀e∈es,e.2.2<clock
theorem MB.nil:MB [] (λ_=>false):=λ_=>rfl
variable {c:Nat}
theorem MOk.nil:MOk [] c:=by grind [Go.Eng.MOk.mk]
theorem Yiu(es l:Ents)(k:Int):mget (es++l) k=(mget es k).or (mget l k):=by
 grind [mget]
variable {es:Ents}{f:Int->Bool}
theorem MB.ext{g:Int->Bool}(h:MB es f)(e:∀v,f v=g v):MB es g:=λk=>by rw[<-e k];exact h k
variable {k:Int}
theorem MB.put(h:MB es f)(hk:f k=false):MB (es++[(k,.bool true,c)]) (λv=>decide (v=k)||f v):=λv=>by
 rw[Yiu,h v]
 by_cases hv:v=k
 all_goals simp_all [mget,Ne.symm]
theorem MB.mem(h:MB es f){e:Int×Value×Nat}(he:e∈es):f e.1=true:=by
 have hk:=h e.1
 cases hf:f e.1 with
 |true=>rfl
 |false=>
  unfold mget at hk
  cases hx:es.find? (λx=>x.1==e.1)with
  |none=>grind
  |some x=>simp_all
variable {v:Value}
theorem MOk.put(h:MOk es c)(hf:MB es f)(hk:f k=false):MOk (es++[(k,v,c)]) (c+1):=by
 refine⟨?_,?_,λe he=>?_⟩
 ·rw[Rf]
  refine ND.2 ⟨h.nd,by simp,λa ha b hb=>?_⟩
  obtain⟨e,he,rfl⟩:=TD.1 ha
  obtain rfl:b=c:=by simp_all
  have:=h.lt e he
  omega
 ·rw[Rf]
  refine ND.2 ⟨h.kn,by simp,λa ha b hb=>?_⟩
  obtain⟨e,he,rfl⟩:=TD.1 ha
  intro e2
  have:=hf.mem he
  simp_all
 ·rcases Rl.1 he with he|he
  ·have:=h.lt e he;omega
  simp_all
theorem MB.at_(h:MB es f)(hk:f k=true):∃e∈es,e.1=k:=by
 have h1:=h k
 unfold mget at h1
 cases hx:es.find? (λx=>x.1==k)with
 |none=>simp_all
 |some x=>grind
theorem Upd.same{A:HP}:∀{L:List HP},A∈L->Upd A A L L
 |_::_,.head _=>Upd.here _
 |X::_,.tail _ h=>(Upd.same h).there X
section
variable {P:Program}{m:Mode}{n:Shp}{B:Nat}{w0:World}{ops:Array Oper}{Q:Exit->Act->World->Prop}{rest:List Oper}{env:Env}{H:List HP}{d:Nat}{ty:TypeId}{pos:String}{after:Array Edge}{x y u:Operand}
theorem YuV{xt:TypeId}{a:Int}(hx:evo env x=some (.int .i64 a))(hn:Nat.ble (d+1) n.k=true)(hb: -9223372036854775808<= -a/\ -a<=9223372036854775807)(h:VL P m n B w0 ops Q rest ((d,.int .i64 (-a))::env) H):
 VL P m n B w0 ops Q (⟨some d,.unOp .neg xt x,ty,pos,after,none⟩::rest) env H:=
 Yt rfl rfl hn rfl (λa' w ha _=>by
  have h0:(Op.intArith .sub .i64 0 a).run P w=.ok (.int .i64 (-a)) w:=by
   show Result.ok (Value.int .i64 (IntKind.i64.wrap (0-a))) w=_
   grind [Go.IntWalk.i64_in]
  simp[execOp,ha.eval hx,Op.unary,h0]) h
variable {kt et g clock:Nat}{es:Ents}{f:Int->Bool}{k:Int}
theorem Yhb{t:Nat}{b:Bool}(hx:evo env x=some (.map (some g)))(hy:evo env y=some (.int .i64 k))(hm:blk g (mobj es clock)∈H)(ht:mapT P t kt et=true)(hn:Nat.ble (d+1) n.k=true)(hz:Yay P et=some (.bool false))(hf:MB es f)(hk:f k=b)
 (h:VL P m n B w0 ops Q rest ((d,.bool b)::env) H):VL P m n B w0 ops Q (⟨some d,.lookup t x y false,ty,pos,after,none⟩::rest) env H:=by
 have h1:=hf k
 cases b with
 |true=>grind [YjI]
 |false=>grind [YjH,Yeo]
variable {K:Ents->Nat->List HP}
theorem Yrl{t:Nat}(hx:evo env x=some (.map (some g)))(hy:evo env y=some (.int .i64 k))(hv:evo env u=some (.bool true))(ht:mapT P t kt et=true)(hu:∀es' c',Upd (blk g (mobj es clock)) (blk g (mobj es' c')) H (K es' c'))(hf:MB es f)(ho:MOk es clock)
 (h:∀es' c',MB es' (λv=>decide (v=k)||f v)->MOk es' c'->clock<=c'->(∀e∈es,e∈es')->VL P none n B w0 ops Q rest env (K es' c')):VL P none n B w0 ops Q (⟨none,.mapUpdate t x y u,ty,pos,after,none⟩::rest) env H:=by
 have h1:=hf k
 cases hk:f k with
 |true=>
  rw[hk,Tn rfl]at h1
  obtain⟨l1,b,l2,rfl,hl,_⟩:=Wj 0 h1
  exact YmN hx hy hv ht (hu _ _) hl (h _ _ (hf.ext λv=>by simp_all) ho (TK _) λ_ he=>he)
 |false=>
  rw[hk,Tj (by decide)]at h1
  exact YmM hx hy hv ht (hu _ _) h1 (h _ _ (hf.put hk) (ho.put hf hk) (Nat.le_succ _) λ_ he=>List.mem_append_left _ he)
variable {v:Value}
theorem YmL{t b:Nat}{l1 l2:Ents}{v0:Value}{K:List HP}(hx:evo env x=some (.map (some g)))(hy:evo env y=some (.int .i64 k))(hv:evo env u=some v)(ht:mapT P t kt et=true)
 (hu:Upd (blk g (mobj (l1++(k,v0,b)::l2) clock)) (blk g (mobj (l1++(k,v,b)::l2) clock)) H K) (hk:∀e∈l1,e.1≠k)
 (h:VL P none n B w0 ops Q rest env K):VL P none n B w0 ops Q (⟨none,.insert t x y u,ty,pos,after,none⟩::rest) env H:=by
 obtain⟨h1,h2⟩:=JZ ht
 refine J6 rfl rfl (λa w ha hw=>⟨setBlock w g (mobj (l1++(k,v,b)::l2) clock),?_,hw.setBlock hu⟩) h
 have hb:w.heap[g]? =some (mobj (l1++(k,v0,b)::l2) clock):=zc39
 unfold mobj at hb
 have hf:=Yc7 (l2:=l2) (v0:=v0) (b:=b) hk
 have hsz:(l1++(k,v0,b)::l2).map toE=l1.map toE++toE (k,v0,b)::l2.map toE:=by simp
 exact zc14
theorem Yhk{t:Nat}(hx:evo env x=some (.map none))(ht:mapT P t kt et=true)(hn:Nat.ble (d+1) n.k=true)
 (h:∀r,VL P none n B w0 ops Q rest ((d,.pointer (some ⟨r,0,none⟩))::env) (blk r (.mapIter none 0 #[] 0)::H)):VL P none n B w0 ops Q (⟨some d,.range t x,ty,pos,after,none⟩::rest) env H:=by
 obtain⟨h1,h2⟩:=JZ ht
 refine XA (λv K=>∃r,v=.pointer (some ⟨r,0,none⟩)/\K=blk r (.mapIter none 0 #[] 0)::H) rfl rfl hn (λa w ha hw=>?_) zc53
 refine⟨_,_,w.alloc (.mapIter none 0 #[] 0),?_,hw.alloc _,w.heap.size,rfl,rfl⟩
 simp[execOp,ha.eval hx,Instr.range,run_underlying h1,Sem.run,newObj]
theorem YjL{r:Nat}(hx:evo env x=some (.pointer (some ⟨r,0,none⟩)))(hm:blk r (.mapIter none 0 #[] 0)∈H)(hn:Nat.ble (d+1) n.k=true)
 (h:VL P none n B w0 ops Q rest ((d,.tuple #[.bool false])::env) H):VL P none n B w0 ops Q (⟨some d,.next x false,ty,pos,after,none⟩::rest) env H:=by
 refine YeX rfl rfl hn (λa w ha hw=>⟨w,?_,hw⟩) h
 have hb:=(hw.blk hm).1
 simp[execOp,ha.eval hx,Instr.next,getObj,Sem.run,hb]
theorem Yrd{t:Nat}(hx:evo env x=some (.map (some g)))(hy:evo env y=some (.int .i64 k))(hv:evo env u=some (.bool true))(ht:mapT P t kt et=true)(hu:∀es' c',Upd (blk g (mobj es clock)) (blk g (mobj es' c')) H (K es' c'))(hf:MB es f)(ho:MOk es clock)
 (h:∀es' c',MB es' (λv=>decide (v=k)||f v)->MOk es' c'->VL P none n B w0 ops Q rest env (K es' c')):VL P none n B w0 ops Q (⟨none,.insert t x y u,ty,pos,after,none⟩::rest) env H:=by
 have h1:=hf k
 cases hk:f k with
 |true=>
  rw[hk,Tn rfl]at h1
  obtain⟨l1,b,l2,rfl,hl,_⟩:=Wj 0 h1
  refine YmL hx hy hv ht (hu _ _) hl (h _ _ (hf.ext λv=>by simp_all) ho)
 |false=>
  rw[hk,Tj (by decide)]at h1
  exact YmK hx hy hv ht (hu _ _) h1 (h _ _ (hf.put hk) (ho.put hf hk))
end
end Go.Eng
namespace Go.Proofs.YtjommdkgfbhbdaaGreatDoor
open Go.RowKit Go.Eng Go.Nw
theorem YdK{n:Net}{a b:Int}{r:List Int}{p:Int}(h1:n.power[a.toNat]? =some r)(h2:r[b.toNat]? =some p):powr n a b=p:=by grind [powr]
variable {B:Nat}{w0 w:World}{H:List HP}
theorem YcH(n:NetM)(i:Nat)(hin:n.In B w0 H)(hi:i<n.links.length)(hml:n.margin.length=n.links.length)(ht:J3 n.net=0)(hw:St B w0 H w):
 CX B w0 282 [n.val,.int .i64 i] w λv K=>v=.int .i64 (WK n.net i)/\K=H:=by
 refine Ya Tryz.func282 Tryz.ntmps282 rfl rfl hw ?_
 obtain⟨hpw,hrw,hlk,hmg,hs1,hs2,hs3,hs4⟩:=hin
 obtain⟨t1,t2,t3⟩:=Yd9 ht
 obtain⟨l,hl⟩:∃l,n.links[i]? =some l:=⟨_,Ta hi⟩
 obtain⟨z,hz⟩:∃z,n.margin[i]? =some z:=⟨_,Ta (by omega)⟩
 have e1:lnk n.net i=l:=JF hl
 have e2:mar n.net i=z:=ON hz
 have e3:n.net.nodes=n.nodes:=rfl
 have e4:n.net.power.length=n.rows.length:=by simp[NetM.net]
 rw[e4,e3]at t1
 unfold WK
 rw[e1,e2,e3]
 by_cases h1:0<=l.1/\l.1<n.nodes
 rotate_left
 ·skip
  repeat'(first|((apply VO (cs:=[_]));exact rfl;exact YlO;exact za;exact rfl;exactλ_ hw=>(QR n _ _ zm hw);all_goals(intro hB;(try simp only[Tm,Tv]at hB);try exact zo))|(apply zg29;(apply Ys;exact za;exact rfl))|refine zgd ?_|(refine zgh ?_;intro _)|fail)
  exact zc75
 by_cases h2:0<=l.2.1/\l.2.1<n.nodes
 rotate_left
 ·skip
  repeat'(first|((apply VO (cs:=[_]));exact rfl;exact YlO;exact za;exact rfl;exactλ_ hw=>(QR n _ _ zm hw);all_goals(intro hB;(try simp only[Tm,Tv]at hB);try exact zo))|(apply zg29;(apply Ys;exact za;exact rfl))|refine zgd ?_|(refine zgh ?_;intro _)|fail)
  exact zc75
 obtain⟨r,hr⟩:∃r,n.rows[l.1.toNat]? =some r:=⟨_,Ta (by omega)⟩
 have hrm:r∈n.rows:=Tc hr
 have hrr:=hrw r hrm
 have hrs:=hs2 r hrm
 have hrl:(r.xs.length:Int)=n.nodes:=t2 r.xs (TD.2 ⟨r,hrm,rfl⟩)
 obtain⟨p,hp⟩:∃p,r.xs[l.2.1.toNat]? =some p:=⟨_,Ta (by omega)⟩
 rw[YdK (n:=n.net) (r:=r.xs) (by simp[NetM.net,hr]) hp]
 by_cases h0:0<i
 ·obtain⟨q,hq⟩:∃q,n.links[((i:Int)-1).toNat]? =some q:=⟨_,Ta (by omega)⟩
  rw[show lnk n.net (i-1)=q from JF YuG]
  repeat'(first|((first|apply VO (cs:=[_])|apply YjE (cs:=[_]));exact rfl;exact YlO;exact za;exact rfl;exactλ_ hw=>(QR n _ _ zm hw);all_goals(intro hB;(try simp only[Tm,Tv]at hB);try exact zo))|((apply Yn YhO);exact za;exact rfl;exactλ_ hw=>(Vx q l hw))|(apply zg28;first|refine zs83 ?_|refine zs84 ?_)|(apply zg29;(apply Ys;exact za;exact rfl))|refine zgd ?_|(refine zgf ?_ ?_<;>intro _<;>try exact zo)|(refine zgh ?_;intro _)|fail)
  all_goals(((repeat apply Yi);apply Yd;exact rfl;exact rfl;refine⟨TF _ ?_,rfl⟩);(repeat(first|refine Xm (by omega) ?_|refine Xn (by omega) ?_));rfl)
 ·skip
  repeat'(first|((apply VO (cs:=[_]));exact rfl;exact YlO;exact za;exact rfl;exactλ_ hw=>(QR n _ _ zm hw);all_goals(intro hB;(try simp only[Tm,Tv]at hB);try exact zo))|((first|apply Yb YhO|apply Yn YhO);exact za;exact rfl;exactλ_ hw=>(Vx _ _ hw))|(apply zg28;first|refine zs83 ?_|refine zs84 ?_)|(apply zg29;(apply Ys;exact za;exact rfl))|refine zgd ?_|(refine zgf ?_ ?_<;>intro _<;>try exact zo)|(refine zgh ?_;intro _)|fail)
  all_goals(((repeat apply Yi);apply Yd;exact rfl;exact rfl;refine⟨TF _ ?_,rfl⟩);(repeat(first|refine Xm (by omega) ?_|refine Xn (by omega) ?_));rfl)
theorem Y4(n:NetM)(hin:n.In B w0 H)(hw:St B w0 H w):
 CX B w0 209 [n.val] w λv K=>v=.int .i64 (Yl n.net)/\K=H:=by
 refine Ya Tryz.func209 Tryz.ntmps209 rfl rfl hw ?_
 have e3:n.net.nodes=n.nodes:=rfl
 have e5:n.net.noise=n.noise:=rfl
 have e6:n.net.thr=n.thr:=rfl
 have e7:n.net.links=n.links:=rfl
 have e8:n.net.margin=n.margin:=rfl
 have hs1:=hin.s1
 have hs3:=hin.s3
 have hs4:=hin.s4
 unfold Yl
 rw[e3,e5,e6,e7,e8]
 (apply Xc;apply YW;apply YR;exact rfl;exact rfl;intro g)
 repeat'(first|((apply Yb Ywt);exact za;exact rfl;exactλ_ hw=>(YbQ n hin.cons hw))|refine zgd ?_|(refine zge ?_ ?_<;>intro _<;>try exact zo)|fail)
 any_goals(((repeat apply Yi);apply Yd;exact rfl;exact rfl;refine⟨TF _ ?_,rfl⟩);(repeat(first|refine Xm (by omega) ?_|refine Xn (by omega) ?_));rfl)
 have ht:J3 n.net=0:=by assumption
 refine Ye (λ(k:Nat)=>[(54,.int .i64 k),(53,.int .i64 n.links.length),(1,.pointer (some ⟨g,0,none⟩))]) (λ_=>netB g n::H) (λk=>k<=n.links.length/\JX n.net n.links.length 0=JX n.net (n.links.length-k) k) (λk=>n.links.length-k) 0 ⟨Td _,rfl⟩ ?_ (λw hw=>hw) ?_
 ·exact zc1
 rintro k ⟨hk,hi⟩ K hK
 by_cases hlt:k<n.links.length
 ·skip
  repeat'(first|((apply Yb Ywu);exact za;exact rfl;exactλ_ hw=>(YcH n k hin.cons hlt (by omega) ht hw))|refine zgd ?_|(refine zge ?_ ?_<;>intro _<;>try exact zo)|fail)
  ·exact zc56
  ·apply hK (k+1)
   ·exact Yun
   ·omega
   ·exact zc1
   exact zc21
 ·refine zX0 ?_<;>intros
  exact zc62
variable {B:Nat}{w0 w:World}{H:List HP}
theorem Yi5(n:NetM)(t:Lk)(hin:n.In B w0 H)(hok:Ok n.net)(hw:St B w0 H w):
 CX B w0 395 [.slice n.lA n.links.length n.lcap,lkV t,.func (.func 343) #[] #[]] w λv K=>∃k:Nat,
  v=.tuple #[.int .i64 k,.bool (decide (k<n.links.length/\cmpL (lnk n.net k) t=0))]/\k<=n.links.length/\(∀j,j<k->cmpL (lnk n.net j) t<0)/\(∀j,k<=j->j<n.links.length->0<=cmpL (lnk n.net j) t)/\K=H:=by
 refine Ya Tryz.func395 Tryz.ntmps395 rfl rfl hw ?_
 obtain⟨hpw,hrw,hlk,hmg,hs1,hs2,hs3,hs4⟩:=hin
 have hl8:n.links.length<=128:=hok.k0
 (apply Xc;apply YW;apply YR;exact rfl;exact rfl;intro g)
 refine zX7 ?_
 refine Yci (λ(lo hi:Nat)=>[(9,.int .i64 lo),(10,.int .i64 hi),(8,.int .i64 n.links.length),(0,.slice n.lA n.links.length n.lcap),(2,.func (.func 343) #[] #[]),(4,.pointer (some ⟨g,0,none⟩))]) (λ_ _=>blk g (.cells #[.int .i64 t.1,.int .i64 t.2.1,.int .i64 t.2.2] 164 (0,0))::H)
  (λlo hi=>lo<=hi/\hi<=n.links.length/\(∀j,j<lo->cmpL (lnk n.net j) t<0)/\(∀j,hi<=j->j<n.links.length->0<=cmpL (lnk n.net j) t)) (λlo hi=>hi-lo) 0 n.links.length ⟨by omega,by omega,λj hj=>by omega,λj h1 h2=>by omega⟩ ?_ (λw hw=>hw) ?_
 ·exact zc1
 rintro lo hi ⟨h1,h2,h3,h4⟩ K hK
 by_cases hlt:lo<hi
 ·obtain⟨b,hb⟩:∃b,n.links[(((lo:Int)+hi)/2).toNat]? =some b:=⟨_,Ta (by omega)⟩
  have hm:(((lo:Int)+hi)/2).toNat=(lo+hi)/2:=by omega
  have eb:lnk n.net ((lo+hi)/2)=b:=by rw[<-hm];exact JF hb
  repeat'(first|((apply Jq (cs:=[]));exact rfl;exact YhO;exact za;exact rfl;exactλ_ hw=>(Vx b t hw))|(apply zg28;refine zs84 ?_)|refine zgd ?_|(refine zge ?_ ?_<;>intro _<;>try exact zo)|fail)
  ·rename_i hc
   apply hK ((lo+hi)/2+1) hi
   ·refine⟨by omega,by omega,λj hj=>?_,h4⟩
    by_cases e:j=(lo+hi)/2
    ·rw[e,eb];exact hc
    ·have h5:=Yd5 hok j ((lo+hi)/2) (by omega) (by show _<n.links.length;omega)
     rw[eb]at h5
     rw[VX]at*
     omega
   ·omega
   ·exact zc1
   exact zc21
  ·rename_i hc
   apply hK lo ((lo+hi)/2)
   ·refine⟨by omega,by omega,h3,λj hj hjl=>?_⟩
    by_cases e:j=(lo+hi)/2
    ·rw[e,eb];exact hc
    ·have h5:=Yd5 hok ((lo+hi)/2) j (by omega) hjl
     rw[eb]at h5
     have h6:¬cmpL b t<0:=by omega
     have h7:¬cmpL (lnk n.net j) t<0:=by
      rw[VX]at*
      omega
     omega
   ·omega
   ·exact zc1
   exact zc21
 ·obtain rfl:lo=hi:=by omega
  by_cases hl:lo<n.links.length
  ·obtain⟨b,hb⟩:∃b,n.links[lo]? =some b:=⟨_,Ta hl⟩
   have eb:lnk n.net lo=b:=JF hb
   repeat'(first|((apply Jq (cs:=[]));exact rfl;exact YhO;exact za;exact rfl;exactλ_ hw=>(Vx b t hw))|(apply zg28;refine zs84 ?_)|refine zgd ?_|(refine zgf ?_ ?_<;>intro _<;>try exact zo)|fail)
   all_goals(apply Yi;apply YH;(iterate 3 exact rfl);refine⟨lo,?_,h2,h3,h4,rfl⟩;rw[eb])
   ·rw[Tf ⟨hl,by assumption⟩]
   ·rw[Ti λhc=>absurd hc.2 (by assumption)]
  ·refine zX17 ?_<;>intros
   apply Yi;apply YH;(iterate 3 exact rfl)
   refine⟨lo,?_,h2,h3,h4,rfl⟩
   rw[Ti λhc=>hl hc.1]
theorem YaK(n:NetM)(a b:Int)(hin:n.In B w0 H)(hok:Ok n.net)(hw:St B w0 H w):
 CX B w0 347 [n.val,.int .i64 a,.int .i64 b] w λv K=>v=.int .i64 (Yq n.net a b)/\K=H:=by
 refine Ya Tryz.func347 Tryz.ntmps347 rfl rfl hw ?_
 (apply Xc;apply YW;apply YR;exact rfl;exact rfl;intro g)
 refine zX3 ?_
 apply Yg _ Yw8
 exact za
 exact rfl
 exactλ_ hw=>(Yi5 n (a,b,0) hin.cons hok (hw))
 rintro _ _ ⟨k,rfl,hk,h1,h2,rfl⟩
 have hf:=YhX hok hk h1 h2
 rw[hf]
 by_cases hc:k<n.links.length/\cmpL (lnk n.net k) (a,b,0)=0
 ·rw[Tf hc]
  refine zX10 ?_
  ((repeat apply Yi);apply Yd;exact rfl;exact rfl;refine⟨TF _ ?_,rfl⟩)
  exact(Tn hc).symm
 ·rw[Ti hc]
  refine zX3 ?_
  ((repeat apply Yi);apply Yd;exact rfl;exact rfl;refine⟨TF _ ?_,rfl⟩)
  exact(Tj hc).symm
def Zj(n:Net)(a b:Int):Int:=if Yl n≠0 then -1 else Yq n a b
theorem Zv(n:NetM)(a b:Int)(hin:n.In B w0 H)(hw:St B w0 H w):
 CX B w0 287 [n.val,.int .i64 a,.int .i64 b] w λv K=>v=.int .i64 (Zj n.net a b)/\K=H:=by
 refine Ya Tryz.func287 Tryz.ntmps287 rfl rfl hw ?_
 unfold Zj
 repeat'(first|((apply Yb XM);exact za;exact rfl;exactλ_ hw=>(Y4 n hin.cons hw))|((apply Yb Ypp);exact za;exact rfl;exactλ_ hw=>(YaK n _ _ hin.cons (YO (by assumption)) hw))|refine zgb ?_|(refine zge ?_ ?_<;>intro _<;>try exact zo)|(refine zgh ?_;intro _)|fail)
 all_goals(((repeat apply Yi);apply Yd;exact rfl;exact rfl;refine⟨TF _ ?_,rfl⟩);(repeat(first|refine Xm (by omega) ?_|refine Xn (by omega) ?_));rfl)
theorem Ydi(n:NetM)(s d:Int)(hok:Ok n.net)(hs:0<=s/\s<=8796093022208)(hd:0<=d/\d<=8796093022208)(hw:St B w0 H w):
 CX B w0 386 [n.val,.int .i64 s,.int .i64 d] w λv K=>v=.bool (XQ n.net s d)/\K=H:=by
 refine Ya Tryz.func386 Tryz.ntmps386 rfl rfl hw ?_
 exact zc17
def Zu(n:Net)(s d:Int):Bool:=decide (Yl n=0)&&(decide (0<=s/\0<=d/\s<=8796093022208/\d<=8796093022208)&&XQ n s d)
theorem Qi(n:NetM)(s d:Int)(hin:n.In B w0 H)(hw:St B w0 H w):
 CX B w0 330 [n.val,.int .i64 s,.int .i64 d] w λv K=>v=.bool (Zu n.net s d)/\K=H:=by
 refine Ya Tryz.func330 Tryz.ntmps330 rfl rfl hw ?_
 unfold Zu
 by_cases h0:Yl n.net=0
 rotate_left
 ·rw[Ti h0]
  repeat'(first|((apply Yb XM);exact za;exact rfl;exactλ_ hw=>(Y4 n hin.cons hw))|refine zgd ?_|(refine zge ?_ ?_<;>intro _<;>try exact zo)|(refine zgh ?_;intro _)|fail)
  (repeat apply Yi);apply Yd;exact rfl;exact rfl
  simp_all
 rw[Tf h0]
 by_cases h1:0<=s/\0<=d/\s<=8796093022208/\d<=8796093022208
 rotate_left
 ·rw[Ti h1]
  repeat'(first|((apply Yb XM);exact za;exact rfl;exactλ_ hw=>(Y4 n hin.cons hw))|refine zgd ?_|(refine zgf ?_ ?_<;>intro _<;>try exact zo)|(refine zgh ?_;intro _)|fail)
  all_goals((repeat apply Yi);apply Yd;exact rfl;exact rfl;exact⟨rfl,rfl⟩)
 rw[Tf h1]
 repeat'(first|((apply Yb XM);exact za;exact rfl;exactλ_ hw=>(Y4 n hin.cons hw))|((apply Yb Ytn);exact za;exact rfl;exactλ_ hw=>(Ydi n _ _ (YO h0) (by omega) (by omega) hw))|refine zgc ?_|(refine zgf ?_ ?_<;>intro _<;>try exact zo)|(refine zgh ?_;intro _)|fail)
 all_goals((repeat apply Yi);apply Yd;exact rfl;exact rfl;exact⟨rfl,rfl⟩)
theorem Yji(n:NetM)(i:Nat)(hin:n.In B w0 H)(hok:Ok n.net)(hi:i<n.links.length)(hw:St B w0 H w):
 CX B w0 346 [n.val,.int .i64 i] w λv K=>v=.bool (Jg n.net i)/\K=H:=by
 refine Ya Tryz.func346 Tryz.ntmps346 rfl rfl hw ?_
 obtain⟨hpw,hrw,hlk,hmg,hs1,hs2,hs3,hs4⟩:=id hin
 have hml:n.margin.length=n.links.length:=hok.k1
 obtain⟨l,hl⟩:∃l,n.links[i]? =some l:=⟨_,Ta hi⟩
 obtain⟨z,hz⟩:∃z,n.margin[i]? =some z:=⟨_,Ta (by omega)⟩
 have e1:lnk n.net i=l:=JF hl
 have e2:mar n.net i=z:=ON hz
 have hzb:=Qp hok hi
 unfold Jg
 rw[e2]at hzb
 rw[e1,e2]
 by_cases hb:0<=Yq n.net l.2.1 l.1
 ·have hlt:(Yq n.net l.2.1 l.1).toNat<n.links.length:=XV hb
  obtain⟨y,hy⟩:∃y,n.margin[(Yq n.net l.2.1 l.1).toNat]? =some y:=⟨_,Ta (by omega)⟩
  have e3:mar n.net (Yq n.net l.2.1 l.1).toNat=y:=ON hy
  have hyb:=Qp hok hlt
  rw[e3]at hyb
  rw[e3,Tf hb]
  repeat'(first|((apply Yn Ypp);exact za;exact rfl;exactλ_ hw=>(YaK n _ _ hin.cons hok hw))|((apply ZY Ytn);exact za;exact rfl;exactλ_ hw=>(Ydi n _ _ hok (by omega) (by omega) hw);all_goals(intro hB;(try simp only[Tm,Tv]at hB);try exact zo))|(apply zg28;refine zs84 ?_)|refine zgd ?_|(refine zgf ?_ ?_<;>intro _<;>try exact zo)|(refine zgh ?_;intro _)|fail)
  all_goals((repeat apply Yi);apply Yd;exact rfl;exact rfl;refine⟨?_,rfl⟩;simp_all)
 ·rw[Ti hb]
  repeat'(first|((apply Yn Ypp);exact za;exact rfl;exactλ_ hw=>(YaK n _ _ hin.cons hok hw))|(apply zg28;refine zs84 ?_)|refine zgd ?_|(refine zgf ?_ ?_<;>intro _<;>try exact zo)|(refine zgh ?_;intro _)|fail)
  all_goals((repeat apply Yi);exact zc3)
def J5(n:Net)(i:Int):Bool:=decide (Yl n=0)&&(decide (0<=i/\i<n.links.length)&&Jg n i.toNat)
theorem Uf(n:NetM)(i:Int)(hin:n.In B w0 H)(hw:St B w0 H w):
 CX B w0 286 [n.val,.int .i64 i] w λv K=>v=.bool (J5 n.net i)/\K=H:=by
 refine Ya Tryz.func286 Tryz.ntmps286 rfl rfl hw ?_
 have hs3:=hin.s3
 have e7:n.net.links=n.links:=rfl
 unfold J5
 rw[e7]
 by_cases h0:Yl n.net=0
 rotate_left
 ·rw[Ti h0]
  repeat'(first|((apply Yb XM);exact za;exact rfl;exactλ_ hw=>(Y4 n hin.cons hw))|refine zgd ?_|(refine zgf ?_ ?_<;>intro _<;>try exact zo)|(refine zgh ?_;intro _)|fail)
  all_goals((repeat apply Yi);exact zc3)
 rw[Tf h0]
 by_cases h1:0<=i/\i<n.links.length
 rotate_left
 ·rw[Ti h1]
  repeat'(first|((apply Yb XM);exact za;exact rfl;exactλ_ hw=>(Y4 n hin.cons hw))|refine zgd ?_|(refine zgf ?_ ?_<;>intro _<;>try exact zo)|(refine zgh ?_;intro _)|fail)
  all_goals((repeat apply Yi);apply Yd;exact rfl;exact rfl;exact⟨rfl,rfl⟩)
 rw[Tf h1]
 obtain⟨k,rfl⟩:∃k:Nat,i=k:=⟨i.toNat,by omega⟩
 repeat'(first|((apply Yb XM);exact za;exact rfl;exactλ_ hw=>(Y4 n hin.cons hw))|((apply Yb YwT);exact za;exact rfl;exactλ_ hw=>(Yji n _ hin.cons (YO h0) (by omega) hw))|refine zgc ?_|(refine zgf ?_ ?_<;>intro _<;>try exact zo)|(refine zgh ?_;intro _)|fail)
 all_goals((repeat apply Yi);exact zc3)
variable {B k:Nat}{w0 w:World}{H:List HP}
theorem Q7(a lo hi:Int)(hw:St B w0 H w):
 CX B w0 222 [.int .i64 a,.int .i64 lo,.int .i64 hi] w λv K=>v=.bool (decide (lo<=a/\a<=hi))/\K=H:=by
 refine Ya Tryz.func222 Tryz.ntmps222 rfl rfl hw ?_
 repeat'(first|refine zgd ?_|(refine zgf ?_ ?_<;>intro _<;>try exact zo)|fail)
 ·exact zc24
 all_goals(apply Yd;exact rfl;exact rfl;exact⟨by rw[Ti (by omega)],rfl⟩)
variable {α:Type}
theorem QK{p:α->Bool}{l:List α}{a:α}(h:l[k]? =some a):(l.take (k+1)).any p=((l.take k).any p||p a):=zc76
theorem Yb3{p:α->Bool}{l:List α}{a:α}(h:l[k]? =some a)(hp:p a=true):l.any p=true:=by grind
theorem Yi0(n:NetM)(hnn:n.nodes<=1000000)(hin:n.In B w0 H)(hw:St B w0 H w):
 CX B w0 223 [n.val] w λv K=>v=.int .i64 (J3 n.net)/\K=H:=by
 refine Ya Tryz.func223 Tryz.ntmps223 rfl rfl hw ?_
 obtain⟨hpw,hrw,hlk,hmg,hs1,hs2,hs3,hs4⟩:=id hin
 have e1:n.net.power.length=n.rows.length:=by simp[NetM.net]
 have e2:n.net.nodes=n.nodes:=rfl
 unfold J3
 rw[e1,e2,<-QJ,<-QJ n (λr=>r.any ZL)]
 by_cases hnl:(n.rows.length:Int)=n.nodes
 rotate_left
 ·refine zX22 ?_<;>intros
  ((repeat apply Yi);apply Yd;exact rfl;exact rfl;refine⟨TF _ ?_,rfl⟩)
  (repeat(first|refine Xm (by omega) ?_|refine Xn (by omega) ?_))
  rfl
 rw[Tj (by omega)]
 (apply Xc;apply YW;apply YR;exact rfl;exact rfl;intro g)
 refine zX1 ?_<;>intros
 refine Ye (λ(a:Nat)=>[(3,.int .i64 a),(1,.pointer (some ⟨g,0,none⟩))]) (λ_=>netB g n::H) (λa=>a<=n.rows.length/\(n.rows.take a).any (λr=>wide n.nodes r.xs)=false) (λa=>n.rows.length-a) 0 ⟨Td _,by simp⟩ ?_ (λw hw=>hw) ?_
 ·exact zc1
 rintro a ⟨ha,hai⟩ K hK
 by_cases hlt:a<n.rows.length
 ·obtain⟨r,hr⟩:∃r,n.rows[a]? =some r:=⟨_,Ta hlt⟩
  have hs2r:=hs2 r (Tc hr)
  repeat'(first|refine zgd ?_|(refine zge ?_ ?_<;>intro _<;>try exact zo)|fail)
  ·rename_i h
   ((repeat apply Yi);apply Yd;exact rfl;exact rfl;refine⟨TF _ ?_,rfl⟩)
   rw[Tn (Yb3 hr (Tf h))]
  ·rename_i h
   apply hK (a+1)
   ·exact⟨by omega,by rw[QK hr,hai];exact Ti (by omega)⟩
   ·omega
   ·exact zc1
   exact zc21
 obtain rfl:a=n.rows.length:=by omega
 rw[TI]at hai
 rw[hai,Tj (by simp)]
 have hw2:∀r∈n.rows,(r.xs.length:Int)=n.nodes:=λr hr=>by
  have h1:=RE.1 hai r hr
  simp only[wide,Tm]at h1
  omega
 refine zX0 ?_<;>intros
 refine Ye (λ(a:Nat)=>[(4,.int .i64 a),(1,.pointer (some ⟨g,0,none⟩))]) (λ_=>netB g n::H) (λa=>a<=n.rows.length/\(n.rows.take a).any (λr=>r.xs.any ZL)=false) (λa=>n.rows.length-a) 0 ⟨Td _,by simp⟩ ?_ (λw hw=>hw) ?_
 ·exact zc1
 rintro a ⟨ha,hbi⟩ K hK
 by_cases hlt:a<n.rows.length
 rotate_left
 ·obtain rfl:a=n.rows.length:=by omega
  rw[TI]at hbi
  rw[hbi,Tj (by simp)]
  refine zX0 ?_<;>intros
  ((repeat apply Yi);apply Yd;exact rfl;exact rfl;refine⟨TF _ ?_,rfl⟩)
  rfl
 obtain⟨r,hr⟩:∃r,n.rows[a]? =some r:=⟨_,Ta hlt⟩
 have hrm:=Tc hr
 have hs2r:=hs2 r hrm
 have hrr:=hrw r hrm
 have hrl:=hw2 r hrm
 refine zX1 ?_<;>intros
 refine Ye (λ(b:Nat)=>[(5,.int .i64 b),(4,.int .i64 a),(1,.pointer (some ⟨g,0,none⟩))]) (λ_=>netB g n::H) (λb=>b<=r.xs.length/\(r.xs.take b).any ZL=false) (λb=>r.xs.length-b) 0 ⟨Td _,by simp⟩ ?_ (λw hw=>hw) ?_
 ·exact zc1
 rintro b ⟨hb,hci⟩ K2 hK2
 by_cases hltb:b<r.xs.length
 ·obtain⟨p,hp⟩:∃p,r.xs[b]? =some p:=⟨_,Ta hltb⟩
  repeat'(first|((apply YS YcZ);exact za;exact rfl;exactλ_ hw=>(Q7 _ _ _ hw);all_goals(intro hB;(try simp only[Tm,Tv]at hB);try exact zo))|refine zgd ?_|(refine zge ?_ ?_<;>intro _<;>try exact zo)|fail)
  ·apply hK2 (b+1)
   ·exact⟨by omega,by rw[QK hp,hci];exact Ti (by omega)⟩
   ·omega
   ·exact zc1
   exact zc21
  ·((repeat apply Yi);apply Yd;exact rfl;exact rfl;refine⟨TF _ ?_,rfl⟩)
   rw[Tn (Yb3 hr (Yb3 hp (Tf (by omega))))]
 ·obtain rfl:b=r.xs.length:=by omega
  rw[TI]at hci
  refine zX0 ?_<;>intros
  apply hK (a+1)
  ·exact⟨by omega,by rw[QK hr,hbi];exact hci⟩
  ·omega
  ·exact zc1
  exact zc21
theorem YkR(n:NetM)(i:Nat)(hin:n.In B w0 H)(hi:i<n.links.length)(hml:n.margin.length=n.links.length)(ht:J3 n.net=0)(hnn:0<=n.nodes/\n.nodes<=1000000)(hw:St B w0 H w):
 CX B w0 224 [n.val,.int .i64 i] w λv K=>v=.int .i64 (WK n.net i)/\K=H:=by
 refine Ya Tryz.func224 Tryz.ntmps224 rfl rfl hw ?_
 obtain⟨hpw,hrw,hlk,hmg,hs1,hs2,hs3,hs4⟩:=hin
 obtain⟨t1,t2,t3⟩:=Yd9 ht
 obtain⟨l,hl⟩:∃l,n.links[i]? =some l:=⟨_,Ta hi⟩
 obtain⟨z,hz⟩:∃z,n.margin[i]? =some z:=⟨_,Ta (by omega)⟩
 have e1:lnk n.net i=l:=JF hl
 have e2:mar n.net i=z:=ON hz
 have e3:n.net.nodes=n.nodes:=rfl
 have e4:n.net.power.length=n.rows.length:=by simp[NetM.net]
 rw[e4,e3]at t1
 unfold WK
 rw[e1,e2,e3]
 by_cases h1:(0<=l.1/\l.1<n.nodes)/\(0<=l.2.1/\l.2.1<n.nodes)
 rotate_left
 ·skip
  repeat'(first|((apply YS YcZ);exact za;exact rfl;exactλ_ hw=>(Q7 _ _ _ hw);all_goals(intro hB;(try simp only[Tm,Tv]at hB);try exact zo))|refine zgd ?_|(refine zgh ?_;intro _)|fail)
  all_goals(((repeat apply Yi);apply Yd;exact rfl;exact rfl;refine⟨TF _ ?_,rfl⟩);(repeat(first|refine Xm (by omega) ?_|refine Xn (by omega) ?_));rfl)
 obtain⟨r,hr⟩:∃r,n.rows[l.1.toNat]? =some r:=⟨_,Ta (by omega)⟩
 have hrm:r∈n.rows:=Tc hr
 have hrr:=hrw r hrm
 have hrs:=hs2 r hrm
 have hrl:(r.xs.length:Int)=n.nodes:=t2 r.xs (TD.2 ⟨r,hrm,rfl⟩)
 obtain⟨p,hp⟩:∃p,r.xs[l.2.1.toNat]? =some p:=⟨_,Ta (by omega)⟩
 rw[YdK (n:=n.net) (r:=r.xs) (by simp[NetM.net,hr]) hp]
 by_cases h0:0<i
 ·obtain⟨q,hq⟩:∃q,n.links[((i:Int)-1).toNat]? =some q:=⟨_,Ta (by omega)⟩
  rw[show lnk n.net (i-1)=q from JF YuG]
  have hcm:=@VX q l
  repeat'(first|((first|apply YS YcZ|apply ZY YcZ);exact za;exact rfl;exactλ_ hw=>(Q7 _ _ _ hw);all_goals(intro hB;(try simp only[Tm,Tv]at hB);try exact zo))|(apply zg28;first|refine zs83 ?_|refine zs84 ?_)|refine zgd ?_|(refine zgf ?_ ?_<;>intro _<;>try exact zo)|(refine zgh ?_;intro _)|fail)
  all_goals(((repeat apply Yi);apply Yd;exact rfl;exact rfl;refine⟨TF _ ?_,rfl⟩);(repeat(first|refine Xm (by omega) ?_|refine Xn (by omega) ?_));rfl)
 ·skip
  repeat'(first|((first|apply YS YcZ|apply ZY YcZ);exact za;exact rfl;exactλ_ hw=>(Q7 _ _ _ hw);all_goals(intro hB;(try simp only[Tm,Tv]at hB);try exact zo))|(apply zg28;first|refine zs83 ?_|refine zs84 ?_)|refine zgd ?_|(refine zgf ?_ ?_<;>intro _<;>try exact zo)|(refine zgh ?_;intro _)|fail)
  all_goals(((repeat apply Yi);apply Yd;exact rfl;exact rfl;refine⟨TF _ ?_,rfl⟩);(repeat(first|refine Xm (by omega) ?_|refine Xn (by omega) ?_));rfl)
theorem Vm(n:NetM)(hin:n.In B w0 H)(hw:St B w0 H w):
 CX B w0 133 [n.val] w λv K=>v=.int .i64 (Yl n.net)/\K=H:=by
 refine Ya Tryz.func133 Tryz.ntmps133 rfl rfl hw ?_
 have e3:n.net.nodes=n.nodes:=rfl
 have e5:n.net.noise=n.noise:=rfl
 have e6:n.net.thr=n.thr:=rfl
 have e7:n.net.links=n.links:=rfl
 have e8:n.net.margin=n.margin:=rfl
 have hs1:=hin.s1
 have hs3:=hin.s3
 have hs4:=hin.s4
 unfold Yl
 rw[e3,e5,e6,e7,e8]
 (apply Xc;apply YW;apply YR;exact rfl;exact rfl;intro g)
 repeat'(first|((apply Yb Ywe);exact za;exact rfl;exactλ_ hw=>(Yi0 n (by omega) hin.cons hw))|((apply YS YcZ);exact za;exact rfl;exactλ_ hw=>(Q7 _ _ _ hw);all_goals(intro hB;(try simp only[Tm,Tv]at hB);try exact zo))|refine zgd ?_|(refine zge ?_ ?_<;>intro _<;>try exact zo)|fail)
 any_goals(((repeat apply Yi);apply Yd;exact rfl;exact rfl;refine⟨TF _ ?_,rfl⟩);(repeat(first|refine Xm (by omega) ?_|refine Xn (by omega) ?_));rfl)
 have ht:J3 n.net=0:=by assumption
 refine Ye (λ(k:Nat)=>[(4,.int .i64 k),(1,.pointer (some ⟨g,0,none⟩))]) (λ_=>netB g n::H) (λk=>k<=n.links.length/\JX n.net n.links.length 0=JX n.net (n.links.length-k) k) (λk=>n.links.length-k) 0 ⟨Td _,rfl⟩ ?_ (λw hw=>hw) ?_
 ·exact zc1
 rintro k ⟨hk,hi⟩ K hK
 by_cases hlt:k<n.links.length
 ·skip
  repeat'(first|((apply Yb Ywf);exact za;exact rfl;exactλ_ hw=>(YkR n k hin.cons hlt (by omega) ht (by omega) hw))|refine zgd ?_|(refine zge ?_ ?_<;>intro _<;>try exact zo)|fail)
  ·exact zc56
  ·apply hK (k+1)
   ·exact Yun
   ·omega
   ·exact zc1
   exact zc21
 ·refine zX0 ?_<;>intros
  exact zc62
theorem V6(n:NetM)(a b:Int)(hin:n.In B w0 H)(hw:St B w0 H w):
 CX B w0 364 [n.val,.int .i64 a,.int .i64 b] w λv K=>v=.int .i64 (Yq n.net a b)/\K=H:=by
 refine Ya Tryz.func364 Tryz.ntmps364 rfl rfl hw ?_
 obtain⟨hpw,hrw,hlk,hmg,hs1,hs2,hs3,hs4⟩:=id hin
 have ef:Yq n.net a b=Ym (UW a b) n.links 0:=rfl
 rw[ef]
 (apply Xc;apply YW;apply YR;exact rfl;exact rfl;intro g)
 refine zX7 ?_
 refine Ye (λ(k:Nat)=>[(7,.int .i64 k),(3,.pointer (some ⟨g,0,none⟩)),(1,.int .i64 a),(2,.int .i64 b)]) (λ_=>netB g n::H) (λk=>k<=n.links.length/\Ym (UW a b) n.links 0=Ym (UW a b) (n.links.drop k) k) (λk=>n.links.length-k) 0 ⟨Td _,by simp⟩ ?_ (λw hw=>hw) ?_
 ·exact zc1
 rintro k ⟨hk,hi⟩ K hK
 by_cases hlt:k<n.links.length
 ·obtain⟨l,hl⟩:∃l,n.links[k]? =some l:=⟨_,Ta hlt⟩
  rw[Z9 _ n.links hl]at hi
  repeat'(first|refine zgd ?_|(refine zgf ?_ ?_<;>intro _<;>try exact zo)|fail)
  ·rw[Tn (by simp_all [UW])]at hi
   exact zc47
  all_goals(
   rw[Tj (by simp_all [UW])]at hi
   apply hK (k+1)
   ·exact⟨by omega,hi⟩
   ·omega
   ·exact zu
   ·exactλw hw=>hw)
 ·refine zX0 ?_<;>intros
  exact zc96
end Go.Proofs.YtjommdkgfbhbdaaGreatDoor
namespace Go.Eng
open Go.RowKit
section
variable {P:Program}{m:Mode}{n:Shp}{B:Nat}{w0:World}{ops:Array Oper}{Q:Exit->Act->World->Prop}{rest:List Oper}{env:Env}{H:List HP}{d:Nat}{ty:TypeId}{pos:String}{after:Array Edge}{x y u:Operand}
def Yko(P:Program)(t:TypeId):Bool:=match P.underlying t with|some (.int _)=>true|_=>false
theorem Yif{t:TypeId}(h:Yko P t=true):∃k,P.underlying t=some (.int k):=by
 unfold Yko at h
 grind
theorem Yln(T:Tab P){tx k c:Nat}{A:Option Addr}{es:Nat×Nat×Nat}(hx:evo env x=some (.slice A k c))(ht:look T.sl tx=some es)(hn:Nat.ble (d+1) n.k=true)(h:VL P m n B w0 ops Q rest ((d,.int .i64 c)::env) H):
 VL P m n B w0 ops Q (⟨some d,.call ⟨.builtin .cap,#[x],#[tx]⟩,ty,pos,after,none⟩::rest) env H:=by
 obtain⟨e,size,bytes⟩:=es
 obtain⟨hu,_⟩:=YG (T.slic ht)
 exact Yt rfl rfl hn rfl (λa w ha _=>by simp[execOp,resolve,invoke,builtin,ha.eval hx,Builtin.cap_,run_underlying hu];rfl) h
end
variable {w:World}{K:List HP}
theorem St.putObj{B:Nat}{w0:World}{H:List HP}{g:Nat}{o o':Obj}(h:St B w0 H w)(u:Upd (Eng.blk g o) (Eng.blk g o') H K):St B w0 K (w.putObj g o'):=by
 have hlt:g<w.heap.size:=by
  obtain⟨L1,L2,rfl,_⟩:=u
  exact(h.blk (g:=g) (o:=o) (by simp)).2.2
 refine h.upd u rfl rfl rfl (by simp_all) λS1 ⟨h1,_⟩=>⟨⟨h1,World.putObj_heap_same hlt⟩,λb hb _=>World.putObj_heap_other λe=>hb (e▸h1)⟩
theorem Yqg(X:HP)(Y M:List HP):Perm (Y++X::M) (X::(Y++M)):=by
 induction Y with
 |nil=>exact .refl _
 |cons A Y ih=>exact(ih.cons A).trans (.swap A X _)
theorem YnR(X:HP)(Y M:List HP):Perm (X::(Y++M)) (Y++X::M):=by
 induction Y with
 |nil=>exact .refl _
 |cons A Y ih=>exact(Perm.swap X A _).trans (ih.cons A)
theorem YiH(Y:List HP){L M:List HP}(p:Perm L M):Perm (Y++L) (Y++M):=by
 induction Y with
 |nil=>exact p
 |cons A Y ih=>exact ih.cons A
def Ycx(P:Program)(l:Nat)(args:List Value)(B:Nat)(w0:World)(H:List HP)(Φt Φf:List HP->Prop):Prop:=
 ∀w,St B w0 H w->YieldAt Fence.wide 0 P l args.toArray w λe w'=>
  (e=.returned (.bool true)/\∃K,Φt K/\St B w0 K w')\/(e=.returned (.bool false)/\∃K,Φf K/\St B w0 K w')
def Ycg(P:Program)(gf:Nat)(lb:List Value)(xs:List (List Value))(B:Nat)(w0:World)(HI:List HP):Prop:=
 ∀(l:Nat) (S:Nat->List HP->Prop) (X:List HP->Prop),
  (∀(i:Nat) (args:List Value),xs[i]? =some args->∀(Y L:List HP),S i L->
   Ycx P l args B w0 (Y++many L::HI) (λK=>∃L',S (i+1) L'/\K=Y++many L'::HI) (λK=>∃L',X L'/\K=Y++many L'::HI))->
  ∀L0,S 0 L0->∀w,St B w0 (many L0::HI) w->
   CallsIn Fence.wide 0 P gf (.func (.yield l) #[] #[]::lb).toArray w (Post B w0 λ_ K=>(∃L,S xs.length L/\K=many L::HI)\/∃L,X L/\K=many L::HI)
def jump:Exit->Option Code
 |.ret=>some .ret
 |.exit id=>some (.exit id)
 |_=>none
def Ylg{α:Type}(B:Nat)(w0:World)(R:HP)(HI:List HP)(I:α->Prop)(HH:α->List HP)(X:Exit->List HP->Prop):Exit->Act->World->Prop
 |.normal,_,w=>∃y,I y/\St B w0 (R::(HH y++HI)) w
 |.ret,_,w=>∃K,X .ret K/\St B w0 (R::(K++HI)) w
 |.exit id,_,w=>∃K,X (.exit id) K/\St B w0 (R::(K++HI)) w
 |_,_,_=>False
def Ylf{α:Type}(P:Program)(l B:Nat)(w0:World)(body:Code)(R:HP)(HI:List HP)(I:α->Prop)(HH:α->List HP)(X:Exit->List HP->Prop):Exit->Act->World->Prop
 |.normal,a,w=>∃K,St B w0 (R::K) w/\∀R' w',St B w0 (R'::K) w'->wpR P (some l) body (Ylg B w0 R' HI I HH X) a w'
 |_,_,_=>False
def Uz:List Nat->List Value->Env->Env
 |p::ps,v::vs,e=>Uz ps vs ((p,v)::e)
 |_,_,e=>e
section
variable {P:Program}{B:Nat}{w0:World}{Q:Exit->Act->World->Prop}{env:Env}{H:List HP}{k:Nat}
variable {α:Type}{l gf n:Nat}{body c:Code}{R:HP}{HI K:List HP}{X:Exit->List HP->Prop}
theorem JS{I:α->Prop}{HH:α->List HP}(hr:Rem R H K)
 (h:∀R',VC P ⟨k,[],some l⟩ B w0 body (Ylg B w0 R' HI I HH X) env (R'::K)):VQ ⟨k,[],some l⟩ B w0 (Ylf P l B w0 body R HI I HH X) .normal env H:=
 ⟨λa _ ha hw=>⟨K,hw.perm hr,λR' w' hw'=>(h R').run a w' ha hw'⟩⟩
theorem Ug{n:Shp}{I:α->Prop}{HH:α->List HP}(y:α)(hI:I y)(hH:∀w,St B w0 H w->St B w0 (R::(HH y++HI)) w):
 VQ n B w0 (Ylg B w0 R HI I HH X) .normal env H:=⟨λ_ w _ hw=>⟨y,hI,hH w hw⟩⟩
theorem QE{n:Shp}{I:α->Prop}{HH:α->List HP}(K:List HP)(hX:X .ret K)(hH:∀w,St B w0 H w->St B w0 (R::(K++HI)) w):
 VQ n B w0 (Ylg B w0 R HI I HH X) .ret env H:=⟨λ_ w _ hw=>⟨K,hX,hH w hw⟩⟩
theorem Yh1:∀(ps:List Nat) (vs:List Value) (t:Array Value) (e:Env),t.size=k->(∀s v,get e s=some v->t[s]? =some v)->ps.all (λp=>Nat.ble (p+1) k)=true->ps.length=vs.length->
 ((ps.zip vs).foldl (λt (x:Nat×Value)=>t.setIfInBounds x.1 x.2) t).size=k/\∀s v,get (Uz ps vs e) s=some v->((ps.zip vs).foldl (λt (x:Nat×Value)=>t.setIfInBounds x.1 x.2) t)[s]? =some v
 |[],[],t,e,hs,hg,_,_=>⟨hs,hg⟩
 |p::ps,v::vs,t,e,hs,hg,hp,hl=>by
  simp only[Ny,Tq]at hp
  have hlt:=TR hp.1
  refine Yh1 ps vs (t.setIfInBounds p v) ((p,v)::e) (by simp_all) (λs u hu=>?_) hp.2 (by simp_all)
  by_cases e2:p=s
  ·subst e2
   rw[get,Tn rfl]at hu
   grind
  simp_all [get]
variable {ds:List Deferred}{lb:List Value}{xs:List (List Value)}
theorem Zt{g:Operand}{ps:List Nat}{assign:Code}(HI:List HP)(HH:α->List HP)(I:Nat->α->Prop)(X:Exit->List HP->Prop)(x0:α)
 (hg:evo env g=some (.func (.func gf) #[] lb.toArray)) (hc:∀xs w,(callFunc gf xs).run P w=.ok (.enter gf xs) w) (hiter:Ycg P gf lb xs B w0 HI)
 (hps:ps.all (λp=>Nat.ble (p+1) k)=true) (hlen:∀args∈xs,args.length=ps.length) (hca:calm assign=true) (hcb:calm body=true)
 (hH:∀w,St B w0 H w->St B w0 (HH x0++HI) w) (h0:I 0 x0)
 (hround:∀(l i:Nat) (args:List Value) (R:HP) (x:α),xs[i]? =some args->I i x->VC P ⟨k,[],some l⟩ B w0 assign (Ylf P l B w0 body R HI (I (i+1)) HH X) (Uz ps args env) (R::(HH x++HI)))
 (hdone:∀D x,I xs.length x->VQ ⟨k,⟨.collected D,#[]⟩::ds,none⟩ B w0 Q .normal env (blk D (.deferred (some []))::(HH x++HI)))
 (hstop:∀D e K,X e K->(jump e).isSome=true->VQ ⟨k,⟨.collected D,#[]⟩::ds,none⟩ B w0 Q e env (blk D (.deferred (some []))::(K++HI))):
 VC P ⟨k,ds,none⟩ B w0 (.rangeFunc g ps.toArray assign body) Q env H:=by
 refine⟨λa w ha hw=>?_⟩
 show(Code.rangeFunc g ps.toArray assign body).wp P Q a w
 refine(wpIn_wide (n:=0)).1 (wpIn_rangeFunc ?_)
 intro fn _
 obtain⟨rec,hrec⟩:∃rec:LoopState->Option Code->Loop,rec=λst pe=>{state:=st,pending:=pe,fn,tmps:=a.tmps,params:=ps.toArray,assign,body,defers:=w.heap.size}:=⟨_,rfl⟩
 have hst:=((hH w hw).alloc (.deferred (some []))).alloc (.loop (rec .ready none))
 rw[World.size_alloc]at hst
 obtain⟨l,hl⟩:∃l,w.heap.size+1=l:=⟨_,rfl⟩
 obtain⟨D,hD⟩:∃D,w.heap.size=D:=⟨_,rfl⟩
 rw[hl,hD]at hst
 obtain⟨W1,hW1⟩:∃W1,(w.alloc (.deferred (some []))).alloc (.loop (rec .ready none))=W1:=⟨_,rfl⟩
 rw[hW1]at hst
 refine⟨l,[⟨.collected D,#[]⟩],W1,{target:=.fn (.func gf) lb.toArray,args:=#[.func (.yield l) #[] #[]]},W1,gf,(.func (.yield l) #[] #[]::lb).toArray,W1,?_,?_,?_,?_,λh=>by simp[Fence.wide]at h,?_⟩
 ·simp_all [run_enterLoop_outer]
 ·simp only[resolve,ha.eval hg]
  simp[go_sem]
 ·intro f' _;trivial
 ·grind [invoke]
 ·refine CallsIn.mono (hiter l (λi L=>∃x,I i x/\L=blk l (.loop (rec .ready none))::blk D (.deferred (some []))::HH x)
   (λL=>∃e K c,X e K/\jump e=some c/\L=blk l (.loop (rec .done (some c)))::blk D (.deferred (some []))::K) ?_ _ ⟨x0,h0,rfl⟩ _ (hst.perm (.close (blk l (.loop (rec .ready none))::blk D (.deferred (some []))::HH x0) HI))) ?_
  ·--one round
   rintro i args hx Y L ⟨x,hI,rfl⟩ W hW
   have hp1:∀(lp:Loop) (M:List HP),Perm (Y++many (blk l (.loop lp)::blk D (.deferred (some []))::M)::HI) (many (Y++[blk l (.loop lp),blk D (.deferred (some []))])::(M++HI)):=λlp M=>by
    refine(YiH Y (.open_ _ _)).trans ?_
    have:Y++((blk l (.loop lp)::blk D (.deferred (some []))::M)++HI)=(Y++[blk l (.loop lp),blk D (.deferred (some []))])++(M++HI):=by simp
    rw[this]
    exact .close _ _
   have hp2:∀(lp:Loop) (M:List HP),Perm (many (Y++[blk l (.loop lp),blk D (.deferred (some []))])::(M++HI)) (Y++many (blk l (.loop lp)::blk D (.deferred (some []))::M)::HI):=λlp M=>by
    refine Perm.trans (.open_ _ _) ?_
    have:(Y++[blk l (.loop lp),blk D (.deferred (some []))])++(M++HI)=Y++((blk l (.loop lp)::blk D (.deferred (some []))::M)++HI):=by simp
    rw[this]
    exact YiH Y (.close _ _)
   have hpf:∀(lp:Loop) (M:List HP),Perm (many (Y++[blk l (.loop lp),blk D (.deferred (some []))])::M) (blk l (.loop lp)::(Y++blk D (.deferred (some []))::M)):=λlp M=>by
    refine Perm.trans (.open_ _ _) ?_
    have:(Y++[blk l (.loop lp),blk D (.deferred (some []))])++M=Y++blk l (.loop lp)::(blk D (.deferred (some []))::M):=by simp
    rw[this]
    exact Yqg _ _ _
   have hpb:∀(lp:Loop) (M:List HP),Perm (blk l (.loop lp)::(Y++blk D (.deferred (some []))::M)) (many (Y++[blk l (.loop lp),blk D (.deferred (some []))])::M):=λlp M=>by
    refine Perm.trans (YnR _ _ _) ?_
    have:Y++blk l (.loop lp)::(blk D (.deferred (some []))::M)=(Y++[blk l (.loop lp),blk D (.deferred (some []))])++M:=by simp
    rw[this]
    exact .close _ _
   have hW1:=hW.perm (hp1 _ _)
   have hW2:=hW1.perm (hpf _ _)
   have hlp:=(hW2.blk TG).1
   have hal:=hlen args (Tc hx)
   have hy:=run_yield (P:=P) (args:=args.toArray) hlp (by rw[hrec];simp[hal])
   rw[hrec]at hy
   refine⟨fn,_,assign,body,hy,roundIn_of_wpIn trivial ?_⟩
   have hfit:=Yh1 ps args a.tmps env ha.size (λs v h=>ha.slot s v h) hps hal.symm
   have hz:(ps.toArray.zip args.toArray).foldl (λt (x:Nat×Value)=>t.setIfInBounds x.1 x.2) a.tmps=(ps.zip args).foldl (λt (x:Nat×Value)=>t.setIfInBounds x.1 x.2) a.tmps:=by
    rw[<-Array.foldl_toList];simp
   have hva:=(hround l i args (many (Y++[blk l (.loop (rec .ready none)),blk D (.deferred (some []))])) x hx hI).run
    {tmps:=(ps.toArray.zip args.toArray).foldl (λt (x:Nat×Value)=>t.setIfInBounds x.1 x.2) a.tmps,defers:=[]} W ⟨rfl,by rw[hz];exact hfit.1,λs v h=>by rw[hz];exact hfit.2 s v h⟩ hW1
   refine wpIn_mono (hva zc54 hca) ?_
   intro e a1 w1 hq
   cases e with
   |normal=>
    obtain⟨K,hK,hbody⟩:=hq
    have hK2:=hK.perm (hpf _ _)
    have hlp2:=(hK2.blk TG).1
    refine⟨_,run_beginRound hlp2 (by rw[hrec]),?_⟩
    have hK3:=(hK2.putObj (o':=.loop {rec .ready none with state:=.busy}) (.here _)).perm (hpb _ _)
    have hvb:=hbody _ _ hK3
    refine wpIn_mono (hvb zc54 hcb) ?_
    intro e a3 w3 hq3
    have fin:∀(jp:Option Code) (M:List HP),St B w0 (many (Y++[blk l (.loop {rec .ready none with state:=.busy}),blk D (.deferred (some []))])::(M++HI)) w3->
     ∃w4,(Instr.endRound l jp).run P w3=.ok (.bool jp.isNone) w4/\St B w0 (Y++many (blk l (.loop (rec (if jp.isNone then .ready else .done) jp))::blk D (.deferred (some []))::M)::HI) w4:=λjp M h3=>by
     have h4:=h3.perm (hpf _ _)
     have h5:=(h4.blk TG).1
     have h6:=run_endRound (P:=P) jp h5
     refine⟨_,h6,?_⟩
     have h7:=((h4.putObj (o':=.loop (rec (if jp.isNone then .ready else .done) jp)) (.here _)).perm (hpb _ _)).perm (hp2 _ _)
     rw[hrec]at h7⊢
     exact h7
    cases e with
    |normal=>
     obtain⟨y,hIy,h3⟩:=hq3
     obtain⟨w4,h5,h6⟩:=fin none _ h3
     exact⟨_,w4,h5,.inl ⟨rfl,_,⟨_,⟨y,hIy,rfl⟩,rfl⟩,h6⟩⟩
    |ret=>
     obtain⟨K3,hX3,h3⟩:=hq3
     obtain⟨w4,h5,h6⟩:=fin (some .ret) _ h3
     exact⟨_,w4,h5,.inr ⟨rfl,_,⟨_,⟨.ret,K3,.ret,hX3,rfl,rfl⟩,rfl⟩,h6⟩⟩
    |exit id=>
     obtain⟨K3,hX3,h3⟩:=hq3
     obtain⟨w4,h5,h6⟩:=fin (some (.exit id)) _ h3
     exact⟨_,w4,h5,.inr ⟨rfl,_,⟨_,⟨.exit id,K3,.exit id,hX3,rfl,rfl⟩,rfl⟩,h6⟩⟩
    |goto t=>exact hq3.elim
    |panic ch=>exact hq3.elim
    |outgrown=>exact hq3.elim
   |ret=>exact hq
   |exit id=>exact hq
   |goto t=>exact hq
   |panic ch=>exact hq
   |outgrown=>exact hq
  ·--behind the iterator
   rintro e W2 ⟨v,K,rfl,hst2,hK⟩
   have hpn:∀st pe,(rec st pe).pending=pe:=λst pe=>by rw[hrec]
   have hds:∀{M:List HP}{w':World},St B w0 M w'->Fits ⟨k,⟨.collected D,#[]⟩::ds,none⟩ {a with defers:=[⟨.collected D,#[]⟩]++a.defers} env:=λ_=>
    ⟨by rw[ha.defers];rfl,ha.size,ha.slot⟩
   rcases hK with⟨L,⟨x,hI,rfl⟩,rfl⟩|⟨L,⟨e,K,c,hX,hj,rfl⟩,rfl⟩
   ·have h1:=hst2.perm (.open_ _ _)
    have h2:=(h1.blk TG).1
    have h3:=run_endLoop (P:=P) h2 (by rw[hrec];simp)
    have h4:=(h1.putObj (o':=.loop {rec .ready none with state:=.exhausted}) (.here _)).tail
    refine⟨none,_,h3.trans (TF (λj=>Result.ok j _) (hpn _ _)),?_⟩
    exact(hdone D x hI).run _ _ (hds h4) h4
   ·have h1:=hst2.perm (.open_ _ _)
    have h2:=(h1.blk TG).1
    have h3:=run_endLoop (P:=P) h2 (by rw[hrec];simp)
    have h4:=(h1.putObj (o':=.loop {rec .done (some c)with state:=.exhausted}) (.here _)).tail
    refine⟨some c,_,h3.trans (TF (λj=>Result.ok j _) (hpn _ _)),?_⟩
    have h5:=(hstop D e K hX (by rw[hj];rfl)).run _ _ (hds h4) h4
    cases e with
    |ret=>obtain rfl:=TJ hj;exact wpIn_ret h5
    |exit id=>obtain rfl:=TJ hj;exact wpIn_exit h5
    |normal=>cases hj
    |goto t=>cases hj
    |panic ch=>cases hj
    |outgrown=>cases hj
variable {fn:Func}{w:World}
theorem Zr{f:FuncId}{args:List Value}{Φ:Value->List HP->Prop}(hf:P.funcs[f]? =some fn)(hn:fn.ntmps=n)(hb:fn.body=some c)
 (hle:Nat.ble args.length n=true) (hw:St B w0 H w) (h:VC P ⟨n,[],none⟩ B w0 c (bodyPostM Fence.wide 0 P fn (Post B w0 Φ)) (WV 0 args) H):Calls P f args.toArray w (Post B w0 Φ):=by
 refine(callsIn_wide (n:=0)).1 (callsIn_of_wp_marks hf hb trivial ((wpIn_wide (n:=0)).2 (h.run _ w ⟨rfl,?_,λt v ht=>?_⟩ hw)))
 ·simp_all
 exact YuK
theorem Yik{R:Ending->World->Prop}{a:Act}(h:bodyPost P fn R .ret a w):bodyPostM Fence.wide 0 P fn R .ret a w:=by
 obtain⟨h1,h2⟩:=h
 show LeavesInM Fence.wide 0 P fn a.tmps R a.defers .returning w
 rw[h1]
 exact h2
theorem VQ_m{R:Ending->World->Prop}(h:VQ ⟨n,[],none⟩ B w0 (bodyPost P fn R) .ret env H):VQ ⟨n,[],none⟩ B w0 (bodyPostM Fence.wide 0 P fn R) .ret env H:=
 ⟨λa w ha hw=>Yik (h.run a w ha hw)⟩
theorem ZZ{D:Nat}{R:Ending->World->Prop}{H':List HP}(hr:Rem (blk D (.deferred (some []))) H H')(h:VQ ⟨n,ds,none⟩ B w0 (bodyPostM Fence.wide 0 P fn R) .ret env H'):
 VQ ⟨n,⟨.collected D,#[]⟩::ds,none⟩ B w0 (bodyPostM Fence.wide 0 P fn R) .ret env H:=by
 refine⟨λa w ha hw=>?_⟩
 show LeavesInM Fence.wide 0 P fn a.tmps R a.defers .returning w
 rw[ha.defers]
 have hw2:=hw.perm hr
 have hb:=(hw2.blk TG).1
 refine⟨by simp,.inl ⟨D,_,rfl,run_takeDeferred hb,?_⟩⟩
 have h3:=(hw2.putObj (o':=.deferred none) (.here _)).tail
 exact h.run {a with defers:=ds} _ ⟨rfl,ha.size,ha.slot⟩ h3
theorem Od{ops:Array Oper}(hlo:¬LetsOut Q):∀(os:List Oper) (a:Act) (w:World),wpList P ops Q os a w->wpListIn Fence.wide 0 P ops Q os a w
 |[],_,_,h=>h
 |o::os,a,w,h=>by
  unfold wpList at h
  unfold wpListIn
  split
  ·rename_i hw
   rw[Tn hw]at h
   rcases h with h|⟨_,h⟩
   ·refine⟨λf _=>trivial,?_⟩
    have h2:=Oper.wp_mono (λa w h=>Od hlo os a w h) h
    unfold Oper.wp at h2
    have hs:Oper.semAt Fence.wide.round a.eval o=execOp a.eval o:=Oper.semAt_none _ _
    rw[hs]
    generalize(execOp a.eval o).run P w=res at h2⊢
    cases res with
    |ok x w'=>
     exact zc36
    |halt x w'=>exact zc82
   simp_all
  ·rename_i hw
   rw[Tj hw]at h
   exact⟨λf _=>trivial,Od hlo os _ w h⟩
def YQ(P:Program)(ops:Array Oper)(Q:Exit->Act->World->Prop)(l:List Oper):Exit->Act->World->Prop
 |.normal,a,w=>wpListIn Fence.wide 0 P ops Q l a w
 |e,a,w=>Q e a w
theorem Ydz{ops:Array Oper}{l:List Oper}(hlo:¬LetsOut Q):∀(os:List Oper) (a:Act) (w:World),wpList P ops (YQ P ops Q l) os a w->wpListIn Fence.wide 0 P ops Q (os++l) a w
 |[],_,_,h=>h
 |o::os,a,w,h=>by
  unfold wpList at h
  rw[TA]
  unfold wpListIn
  split
  ·rename_i hw
   rw[Tn hw]at h
   rcases h with h|⟨_,h⟩
   ·refine⟨λf _=>trivial,?_⟩
    have h2:=Oper.wp_mono (λa w h=>Ydz hlo os a w h) h
    unfold Oper.wp at h2
    have hs:Oper.semAt Fence.wide.round a.eval o=execOp a.eval o:=Oper.semAt_none _ _
    rw[hs]
    generalize(execOp a.eval o).run P w=res at h2⊢
    cases res with
    |ok x w'=>
     exact zc36
    |halt x w'=>exact zc82
   ·exact(hlo h).elim
  ·rename_i hw
   rw[Tj hw]at h
   exact⟨λf _=>trivial,Ydz hlo os _ w h⟩
theorem Ycj{id:Nat}{l:List Oper}(k:Nat){l1 l2:List Oper}(h1:l.take k=l1)(h2:l.drop k=l2)(hlo:¬LetsOut Q)(h:VL P none ⟨n,ds,none⟩ B w0 l.toArray (YQ P l.toArray Q l2) l1 env H):
 VC P ⟨n,ds,none⟩ B w0 (.region id l.toArray false) Q env H:=by
 refine⟨λa w ha hw=>?_⟩
 refine(wpIn_wide (n:=0)).1 (wpIn_region_lit ?_)
 have:=Ydz hlo _ _ _ (h.run a ha w hw)
 grind [RV]
variable {ops:Array Oper}{ty:TypeId}{pos:String}{after:Array Edge}{rest:List Oper}
theorem Ycw{d:Nat}{x:Operand}{args:List Operand}{tys:Array TypeId}{gd:Option (Nat×Bool)}{vs:List Value}(Φt Φf:List HP->Prop)
 (hgd:∀a:Act,Fits ⟨n,ds,none⟩ a env->Region.wanted ⟨some d,.call ⟨.value x,args.toArray,tys⟩,ty,pos,after,gd⟩ (yielded ops a.tmps)=true)
 (hx:evo env x=some (.func (.yield l) #[] #[])) (hargs:Args env args vs) (hn:Nat.ble (d+1) n=true) (hlo:¬LetsOut Q) (hy:Ycx P l vs B w0 H Φt Φf)
 (ht:∀K,Φt K->VL P none ⟨n,ds,none⟩ B w0 ops Q rest ((d,.bool true)::env) K)
 (hf:∀K,Φf K->VL P none ⟨n,ds,none⟩ B w0 ops Q rest ((d,.bool false)::env) K):
 VQ ⟨n,ds,none⟩ B w0 (YQ P ops Q (⟨some d,.call ⟨.value x,args.toArray,tys⟩,ty,pos,after,gd⟩::rest)) .normal env H:=by
 refine⟨λa w ha hw=>?_⟩
 show wpListIn Fence.wide 0 P ops Q _ a w
 unfold wpListIn
 rw[Tn (hgd a ha)]
 refine⟨λf _=>trivial,?_⟩
 obtain⟨fn,tmps,assign,body,hrun,hround⟩:=hy w hw
 have hmap:args.toArray.map a.eval=vs.toArray:=by grind [Uq]
 have hs:Oper.semAt Fence.wide.round a.eval ⟨some d,.call ⟨.value x,args.toArray,tys⟩,ty,pos,after,gd⟩=execOp a.eval ⟨some d,.call ⟨.value x,args.toArray,tys⟩,ty,pos,after,gd⟩:=Oper.semAt_none _ _
 rw[hs]
 have hex:(execOp a.eval ⟨some d,.call ⟨.value x,args.toArray,tys⟩,ty,pos,after,gd⟩).run P w=.ok (.round l fn tmps assign body) w:=zc38
 rw[hex,Oper.uponIn_round]
 refine⟨λhd=>by simp[Fence.wide]at hd,RoundIn.mono hround ?_⟩
 rintro e w' (⟨rfl,K',hΦ,hst⟩|⟨rfl,K',hΦ,hst⟩)
 ·exact Od hlo _ _ _ ((ht K' hΦ).run _ (ha.put (TR hn) _) _ hst)
 ·exact Od hlo _ _ _ ((hf K' hΦ).run _ (ha.put (TR hn) _) _ hst)
theorem Yhr{o:Oper}(hlo:¬LetsOut Q)(h:VL P none ⟨n,ds,none⟩ B w0 ops Q (o::rest) env H):VQ ⟨n,ds,none⟩ B w0 (YQ P ops Q (o::rest)) .normal env H:=
 ⟨λa w ha hw=>Od hlo _ _ _ (h.run a ha w hw)⟩
variable {dst:Option Tmp}{op:Op}
theorem YbI:∀a:Act,Fits ⟨n,ds,none⟩ a env->Region.wanted ⟨dst,op,ty,pos,after,none⟩ (yielded ops a.tmps)=true:=by grind [Go.Region.wanted]
theorem YbJ{j s:Nat}{b:Bool}{oj:Oper}(hj:ops[j]? =some oj)(hs:oj.dst=some s)(hv:get env s=some (.bool b)):
 ∀a:Act,Fits ⟨n,ds,none⟩ a env->Region.wanted ⟨dst,op,ty,pos,after,some (j,b)⟩ (yielded ops a.tmps)=true:=λa ha=>by simp[Region.wanted,yielded,hj,hs,ha.slot s _ hv]
theorem Ych(hf:P.funcs[gf]? =some fn)(hn:fn.ntmps=n)(hb:fn.body=some c)(hle:Nat.ble (lb.length+1) n=true)
 (h:∀(l:Nat) (S:Nat->List HP->Prop) (X:List HP->Prop),
  (∀(i:Nat) (args:List Value),xs[i]? =some args->∀(Y L:List HP),S i L->
   Ycx P l args B w0 (Y++many L::HI) (λK=>∃L',S (i+1) L'/\K=Y++many L'::HI) (λK=>∃L',X L'/\K=Y++many L'::HI))->
  ∀L0,S 0 L0->VC P ⟨n,[],none⟩ B w0 c (bodyPost P fn (Post B w0 λ_ K=>(∃L,S xs.length L/\K=many L::HI)\/∃L,X L/\K=many L::HI)) (WV 0 (.func (.yield l) #[] #[]::lb)) (many L0::HI)):Ycg P gf lb xs B w0 HI:=by
 intro l S X hy L0 h0 w hw
 exact callsIn_wide.2 (Ya (args:=.func (.yield l) #[] #[]::lb) hf hn hb hle hw (h l S X hy L0 h0))
end
end Go.Eng
namespace Go.Proofs.YtjommdkgfbhbdaaGreatDoor
open Go.RowKit Go.Eng Go.Nw
variable {B i:Nat}{w0 w:World}{H:List HP}
theorem Om(n:NetM)(s d:Int)(hok:Ok n.net)(hs:0<=s/\s<=8796093022208)(hd:0<=d/\d<=8796093022208)(hw:St B w0 H w):
 CX B w0 391 [n.val,.int .i64 s,.int .i64 d] w λv K=>v=.bool (XQ n.net s d)/\K=H:=by
 refine Ya Tryz.func391 Tryz.ntmps391 rfl rfl hw ?_
 exact zc17
def YX(n:Net)(a b:Int):Bool:=decide (0<=Yq n a b)&&(decide (0<=Yq n b a)&&(XQ n (mar n (Yq n a b).toNat) 0&&XQ n (mar n (Yq n b a).toNat) 0))
theorem YaO(n:NetM)(a b:Int)(hin:n.In B w0 H)(hok:Ok n.net)(hw:St B w0 H w):
 CX B w0 332 [n.val,.int .i64 a,.int .i64 b] w λv K=>v=.bool (YX n.net a b)/\K=H:=by
 refine Ya Tryz.func332 Tryz.ntmps332 rfl rfl hw ?_
 obtain⟨hpw,hrw,hlk,hmg,hs1,hs2,hs3,hs4⟩:=id hin
 have hml:n.margin.length=n.links.length:=hok.k1
 unfold YX
 by_cases h1:0<=Yq n.net a b
 rotate_left
 ·rw[Ti h1]
  refine zX23 ?_<;>intros
  all_goals((repeat apply Yi);exact zc3)
 rw[Tf h1]
 by_cases h2:0<=Yq n.net b a
 rotate_left
 ·rw[Ti h2]
  refine zX23 ?_<;>intros
  all_goals((repeat apply Yi);exact zc3)
 rw[Tf h2]
 have hl1:(Yq n.net a b).toNat<n.links.length:=XV h1
 have hl2:(Yq n.net b a).toNat<n.links.length:=XV h2
 obtain⟨x,hx⟩:∃y,n.margin[(Yq n.net a b).toNat]? =some y:=⟨_,Ta (by omega)⟩
 obtain⟨y,hy⟩:∃y,n.margin[(Yq n.net b a).toNat]? =some y:=⟨_,Ta (by omega)⟩
 have e1:mar n.net (Yq n.net a b).toNat=x:=ON hx
 have e2:mar n.net (Yq n.net b a).toNat=y:=ON hy
 have hxb:=Qp hok hl1
 have hyb:=Qp hok hl2
 rw[e1]at hxb
 rw[e2]at hyb
 rw[e1,e2]
 repeat'(first|((apply Yn Yff);exact za;exact rfl;exactλ_ hw=>(V6 n _ _ hin.cons hw))|((apply ZY YlQ);exact za;exact rfl;exactλ_ hw=>(Om n _ _ hok (by omega) (by omega) hw);all_goals(intro hB;(try simp only[Tm,Tv]at hB);try exact zo))|(apply zg28;refine zs84 ?_)|refine zgd ?_|(refine zgf ?_ ?_<;>intro _<;>try exact zo)|(refine zgh ?_;intro _)|fail)
 all_goals((repeat apply Yi);apply Yd;exact rfl;exact rfl;refine⟨?_,rfl⟩;simp_all)
variable {n:Net}
theorem Ynp(h:Ok n)(hi:i<n.links.length):Yq n (lnk n i).1 (lnk n i).2.1=i:=by
 have h1:∀j,j<i->cmpL (lnk n j) ((lnk n i).1,(lnk n i).2.1,(lnk n i).2.2)<0:=λj hj=>Yd5 h j i hj hi
 have h2:∀j,i<=j->j<n.links.length->0<=cmpL (lnk n j) ((lnk n i).1,(lnk n i).2.1,(lnk n i).2.2):=λj hj hl=>by
  by_cases e:i=j
  ·subst e
   have:cmpL (lnk n i) ((lnk n i).1,(lnk n i).2.1,(lnk n i).2.2)=0:=UL.2 ⟨rfl,rfl⟩
   omega
  ·have h3:=Yd5 h i j (by omega) hl
   have h4:¬cmpL (lnk n j) ((lnk n i).1,(lnk n i).2.1,(lnk n i).2.2)<0:=by
    grind [VX]
   omega
 rw[YhX h (Nat.le_of_lt hi) h1 h2,Tn ⟨hi,UL.2 ⟨rfl,rfl⟩⟩]
theorem YbH(h:Ok n)(hi:i<n.links.length):Jg n i=YX n (lnk n i).1 (lnk n i).2.1:=by
 grind [Jg,YX,Ynp]
def YF(c:Cel):Int:=c.2.2.1
def toC(c:Cel):Int:=c.2.2.2.1
def XE(c:Cel):Int:=c.2.2.2.2
def Yx(a b:Cel):Bool:=decide (YF a=YF b\/YF a=toC b\/toC a=YF b\/toC a=toC b)
theorem Jn(a b:Cel):Yx a b=Yx b a:=by
 unfold Yx
 grind
def ZJ(n:Net)(l:List Flw)(s:Sch)(i:Nat):Int:=
 if XK s (Yj s i)=false then 2
 else if YX n (YF (Yj s i)) (toC (Yj s i))=false\/ZB l (XE (Yj s i))<0 then 7
 else if 0<i/\Xg (Yj s (i-1)) (Yj s i)=false then 5 else 0
def Za(s:Sch)(i:Nat):Bool:=(List.range i).any λk=>decide ((Yj s k).1=(Yj s i).1)&&Yx (Yj s i) (Yj s k)
def Y9(c d:Cel):Bool:=decide (d.1=c.1/\d.2.1=c.2.1)
def Yz(s:Sch)(i:Nat):List Cel:=s.cells.filter (Y9 (Yj s i))
def YC(s:Sch)(i:Nat):Nat:=((s.cells.take i).filter (Y9 (Yj s i))).length
def celL(l:List Cel)(i:Nat):Cel:=l.getD i (0,0,0,0,0)
def powN(n:Net)(a b:Int):Int:=if insE a n.nodes=true/\insE b n.nodes=true then powr n a b else 0
def Yu(n:Net)(l:List Cel)(j:Nat)(node:Int):Nat->Int
 |0=>0
 |k+1=>Yu n l j node k+if k=j then 0 else powN n (YF (celL l k)) node+powN n (toC (celL l k)) node
def Ux(n:Net)(c:Cel):Bool:=!(insE (YF c) n.nodes)||!(insE (toC c) n.nodes)
def UO(n:Net)(l:List Cel)(i node:Int):Int:=
 if Yl n≠0\/i<0\/l.length<=i\/insE node n.nodes=false\/l.any (Ux n)=true then 0 else Yu n l i.toNat node l.length
def Z8(n:Net)(s:Sch)(i:Nat):Bool:=
 !(Zu n (mar n (Yq n (YF (Yj s i)) (toC (Yj s i))).toNat) (UO n (Yz s i) (YC s i) (toC (Yj s i))))||!(Zu n (mar n (Yq n (toC (Yj s i)) (YF (Yj s i))).toNat) (UO n (Yz s i) (YC s i) (YF (Yj s i))))
def XC(n:Net)(l:List Flw)(s:Sch):Int:=
 if Yl n≠0 then 1 else if(YB n.nodes l).2≠0 then 1 else if Zw s=false then 2
 else if(l.any λf=>decide (s.len.tmod f.2.2.2.1≠0))=true then 11 else if 512<s.cells.length then 8 else 0
def X8(n:Net)(l:List Flw)(s:Sch):Int×Int:=YD (ZJ n l s) s.cells.length 0
def Zy(s:Sch):Int×Int:=YD (λi=>if Za s i=true then 6 else 0) s.cells.length 0
def YcQ(n:Net)(s:Sch):Int×Int:=YD (λi=>if Z8 n s i=true then 16 else 0) s.cells.length 0
def schE(n:Net)(l:List Flw)(s:Sch):Int×Int:=
 if XC n l s≠0 then(-1,XC n l s)else if(X8 n l s).2≠0 then X8 n l s else if(Zy s).2≠0 then Zy s else YcQ n s
def VA(n:Net)(l:List Cel)(i:Nat):Bool:=
 !(YX n (YF (celL l i)) (toC (celL l i)))||((List.range l.length).any λk=>decide (k≠i)&&Yx (celL l i) (celL l k))
   ||(!(XQ n (mar n (Yq n (YF (celL l i)) (toC (celL l i))).toNat) (Yu n l i (toC (celL l i)) l.length))||!(XQ n (mar n (Yq n (toC (celL l i)) (YF (celL l i))).toNat) (Yu n l i (YF (celL l i)) l.length)))
def YgI(n:Net)(s:Sch):Int×Int:=YD (λi=>if VA n (Yz s i) (YC s i)=true then 16 else 0) s.cells.length 0
def YfG(n:Net)(l:List Flw)(s:Sch):Int×Int:=
 if XC n l s≠0 then(-1,XC n l s)else if(X8 n l s).2≠0 then X8 n l s else if(Zy s).2≠0 then Zy s else YgI n s
variable {n:Net}
theorem Xo(h:Ok n){u v:Int}(hg:YX n u v=true):(0<=u/\u<n.nodes)/\(0<=v/\v<n.nodes)/\u≠v/\0<=Yq n u v/\0<=Yq n v u:=by
 unfold YX at hg
 simp only[Tq,Tm]at hg
 obtain⟨h1,h2,_⟩:=hg
 obtain⟨k1,k2⟩:=Oa h1
 have:=h.lk _ (XV h1)
 have a1:=this.f0;have a2:=this.f1;have a3:=this.t0;have a4:=this.t1;have a5:=this.ne
 omega
theorem Yjj(h:Yl n=0)(a b:Int):J5 n (Zj n a b)=YX n a b:=by
 have hok:=YO h
 unfold J5 Zj
 by_cases h0:0<=Yq n a b
 ·have hl:=XV h0
  simp_all [YbH,Oa]
 simp_all [decide_eq_false,YX]
variable {s:Sch}{i:Nat}
theorem On(h:i<s.cells.length):(Yz s i)[YC s i]? =some (Yj s i):=by
 have h1:=YM h
 have hsp:s.cells=s.cells.take i++Yj s i::s.cells.drop (i+1):=by
  grind [List.getElem_cons_drop,RV]
 unfold Yz YC
 have hp:Y9 (Yj s i) (Yj s i)=true:=by grind [Y9]
 grind
structure Fine(n:Net)(s:Sch):Prop where
 good:∀c∈s.cells,YX n (YF c) (toC c)=true
 once:s.cells.Pairwise λa b=>a.1=b.1->Yx a b=false
theorem Ygm{l:List Flw}(h1:(X8 n l s).2=0)(h2:(Zy s).2=0):Fine n s:=by
 have k1:=YI.1 h1
 have k2:=YI.1 h2
 constructor
 ·exact zc74
 ·refine Rn.2 λi j hi hj hij hs=>?_
  have:=k2 j (Td _) (by omega)
  have e1:Yj s i=s.cells[i]:=Zi (Ta hi)
  have e2:Yj s j=s.cells[j]:=Zi (Ta hj)
  cases ht:Yx s.cells[i] s.cells[j]with
  |false=>rfl
  |true=>
   have hb:Za s j=true:=by
    unfold Za
    rw[Rj]
    refine⟨i,TQ.2 hij,?_⟩
    rw[e1,e2,Tf hs,RD,Jn]
    exact ht
   simp only[hb,Ni]at this
   omega
theorem Yvj(h:Ok n){a b:Int}(ha:0<=a/\a<n.nodes)(hb:0<=b/\b<n.nodes):0<=powr n a b/\powr n a b<=68719476736:=by
 have hp:=h.p0
 obtain⟨r,hr⟩:∃r,n.power[a.toNat]? =some r:=⟨_,Ta (by omega)⟩
 have hrm:=Tc hr
 have hl:=h.p1 r hrm
 obtain⟨p,hpe⟩:∃p,r[b.toNat]? =some p:=⟨_,Ta (by omega)⟩
 have:=h.p2 r hrm p (Tc hpe)
 grind [powr]
theorem JH(h:Ok n)(a b:Int):0<=powN n a b/\powN n a b<=68719476736:=by
 unfold powN
 split
 all_goals simp_all [insE,Yvj]
theorem QV{n:Net}(h:Ok n)(l:List Cel)(j:Nat)(node:Int):∀k:Nat,0<=Yu n l j node k/\Yu n l j node k<=(k:Int)*137438953472
 |0=>by simp[Yu]
 |k+1=>by
  have h1:=QV h l j node k
  have h2:=JH h (YF (celL l k)) node
  have h3:=JH h (toC (celL l k)) node
  grind [Yu]
theorem YfJ(h:Ok n)(hf:Fine n s)(i:Nat):(Yz s i).length<=16:=by
 have hsub:(Yz s i).Sublist s.cells:=SO
 have hpw:(Yz s i).Pairwise λa b=>Yx a b=false:=zc43
 have hnd:((Yz s i).flatMap λc=>[YF c,toC c]).Nodup:=by
  refine List.pairwise_flatMap.2 ⟨λc hc=>?_,hpw.imp λ{a b} hab x hx y hy=>?_⟩
  ·have:=Xo h (hf.good c (hsub.subset hc))
   simp_all
  ·unfold Yx at hab
   grind
 have hlen:=Go.Nw.nodup_len n.nodes.toNat _ hnd (λx hx=>by
  obtain⟨c,hc,hx⟩:=SV.1 hx
  have:=Xo h (hf.good c (hsub.subset hc))
  grind)
 have h2:((Yz s i).flatMap λc=>[YF c,toC c]).length=(Yz s i).length*2:=by
  induction Yz s i with
  |nil=>rfl
  |cons c l ih=>grind
 have:=h.n1
 omega
theorem YhI(hck:Yl n=0)(hf:Fine n s)(hi:i<s.cells.length):Z8 n s i=VA n (Yz s i) (YC s i):=by
 have hok:=YO hck
 have hat:=On hi
 have hlt:=(Tu.1 hat).1
 have hc:celL (Yz s i) (YC s i)=Yj s i:=by grind [celL]
 have hsub:(Yz s i).Sublist s.cells:=SO
 have hg:=hf.good _ (Z0 hi)
 have hgn:=Xo hok hg
 have hle:=YfJ hok hf i
 have hpw:(Yz s i).Pairwise λa b=>Yx a b=false:=zc43
 have hto:((List.range (Yz s i).length).any λk=>decide (k≠YC s i)&&Yx (celL (Yz s i) (YC s i)) (celL (Yz s i) k))=false:=by
  rw[RE]
  intro k hk
  have hk:=TQ.1 hk
  by_cases e:k=YC s i
  ·rw[Ti (λh=>h e)];simp
  ·have hpk:=Rn.1 hpw
   have e1:celL (Yz s i) k=(Yz s i)[k]:=by unfold celL;rw[Tz,Ta hk];rfl
   have e2:celL (Yz s i) (YC s i)=(Yz s i)[YC s i]:=Yul
   rw[Tf e,RD,e1,e2]
   rcases Nat.lt_or_gt_of_ne e with h|h
   ·rw[Jn,hpk k _ hk hlt h];simp
   ·rw[hpk _ k hlt hk h];simp
 have hno:(Yz s i).any (Ux n)=false:=by
  rw[RE]
  intro c hcm
  have:=Xo hok (hf.good c (hsub.subset hcm))
  unfold Ux insE
  rw[Tf this.1,Tf this.2.1]
  simp
 have hde:∀node,0<=node->node<n.nodes->UO n (Yz s i) (YC s i) node=Yu n (Yz s i) (YC s i) node (Yz s i).length:=λnode h0 h1=>by
  unfold UO
  rw[Tj]
  ·rfl
  ·rintro(h|h|h|h|h)
   ·exact h hck
   ·omega
   ·omega
   ·unfold insE at h
    have:=of_decide_eq_false h
    omega
   ·rw[hno]at h;cases h
 have hhe:∀(a b node:Int),0<=Yq n a b->Zu n (mar n (Yq n a b).toNat) (Yu n (Yz s i) (YC s i) node (Yz s i).length)=XQ n (mar n (Yq n a b).toNat) (Yu n (Yz s i) (YC s i) node (Yz s i).length):=λa b node h0=>by
  have h1:=Qp hok (XV h0)
  have h2:=QV hok (Yz s i) (YC s i) node (Yz s i).length
  unfold Zu
  rw[Tf hck,Tf (by omega)]
  rfl
 grind [Z8,VA]
theorem Yse(n:Net)(l:List Flw)(s:Sch):schE n l s=YfG n l s:=by
 unfold schE YfG
 by_cases h1:XC n l s≠0
 ·simp_all
 by_cases h2:(X8 n l s).2≠0
 ·simp_all
 by_cases h3:(Zy s).2≠0
 ·simp_all
 have hck:Yl n=0:=by
  unfold XC at h1
  omega
 have hf:Fine n s:=Ygm (Rw.1 h2) (Rw.1 h3)
 grind [YcQ,YgI,QZ,YhI]
end Go.Proofs.YtjommdkgfbhbdaaGreatDoor
