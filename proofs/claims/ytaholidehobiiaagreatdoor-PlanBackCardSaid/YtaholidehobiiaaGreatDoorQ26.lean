/- Lemmas for the claim, part 26. -/
import Derived.Test.YtaholidehobiiaaGreatDoorQ4
import Derived.Test.YtaholidehobiiaaGreatDoorQ10
import Derived.Test.YtaholidehobiiaaGreatDoorQ23
import Derived.Test.YtaholidehobiiaaGreatDoorQ24
set_option maxRecDepth 100000
set_option maxHeartbeats 8000000
set_option linter.all false
namespace Go.Proofs.YtaholidehobiiaaGreatDoor
open Go.RowKit Go.Eng Go.Nw Go.Rt
noncomputable def Vu(fuel:Nat)(n:Net)(s t:Int):Option (Option (List Int×List Int)×Int):=
 if XW n s t≠0 then some (none,XW n s t)else
  match YaT fuel n.nodes.toNat (YI n) s t with
  |none=>none
  |some none=>some (none,17)
  |some (some pq)=>if 9<pq.1.length\/9<pq.2.length then some (none,21)else some (some pq,0)
theorem Yn9(n:NetM)(s to:Int)(fuel:Nat)(res:Option (List Int×List Int)×Int)(hfu:fuel<=100000)(hrun:Vu fuel n.net s to=some res){B:Nat}{w0:World}{H:List HP}{w:World}(hin:n.In B w0 H)(hw:St B w0 H w):
 CX B w0 148 [n.val,.int .i64 s,.int .i64 to] w λv K=>match res.1 with
  |none=>v=.tuple #[.slice none 0 0,.int .i64 res.2]/\K=H
  |some pq=>∃g A1 c1 A2 c2,v=.tuple #[.slice (some ⟨g,0,none⟩) 2 2,.int .i64 res.2]/\(2<=pq.1.length/\pq.1.length<=9/\pq.2.length<=9)/\WayV A2 pq.2/\K=sl 93 1 (some ⟨g,0,none⟩) 2 2 ([⟨A1,c1,pq.1⟩,⟨A2,c2,pq.2⟩].flatMap rowF)::ints A1 c1 pq.1::ints A2 c2 pq.2::H:=by
 refine Yc Tryz.func148 Tryz.ntmps148 rfl rfl hw ?_
 (apply YY;apply Yx;apply Yr;exact rfl;exact rfl;intro g)
 unfold Vu at hrun
 by_cases he:XW n.net s to=0
 rotate_left
 ·rw[Tn he]at hrun
  obtain rfl:=Tv hrun
  repeat'(first|((first|apply Ya QE|apply Yb QE);exact za;exact rfl;exactλ_ hw=>(V4 n s to hin.cons hw))|refine zgb ?_|(refine zge ?_ ?_<;>intro _<;>try exact zo)|fail)
  (repeat apply Yj)
  apply YM;(iterate 3 exact rfl)
  simp_all
 rw[Tf (λh=>h he)]at hrun
 obtain⟨hck,⟨s0,s1⟩,⟨t0,t1⟩,hst⟩:=UJ he
 have hen:=λ{H:List HP}{w:World}(hin:n.In B w0 H) (hw:St B w0 H w)=>V4 n s to hin hw
 rw[he]at hen
 have hok:=YC hck
 have hn0:=hok.n0
 have hn1:=hok.n1
 have hnn:((n.net.nodes.toNat:Nat):Int)=n.net.nodes:=by omega
 have hnn2:n.nodes=((n.net.nodes.toNat:Nat):Int):=by rw[hnn];rfl
 cases hpf:YaT fuel n.net.nodes.toNat (YI n.net) s to with
 |none=>simp_all
 |some o=>
  rw[hpf]at hrun
  have hp:=λ{H:List HP}{w:World}(hin:n.In B w0 H) (hw:St B w0 H w)=>Ypu n s to n.net.nodes.toNat fuel o hck hnn2 ⟨s0,by omega⟩ ⟨t0,by omega⟩ hst hfu hpf hin hw
  cases o with
  |none=>
   obtain rfl:=Tv hrun
   refine YsB ?_<;>intros
   apply Ye _ YuI
   exact za
   exact rfl
   exactλ_ hw=>(hp hin.cons (hw))
   rintro _ _ ⟨rfl,rfl⟩
   refine zX7 ?_
   apply Yj
   apply YM;(iterate 3 exact rfl)
   exact⟨rfl,rfl⟩
  |some pq=>
   obtain⟨p,q⟩:=pq
   dsimp only at hrun
   refine YsB ?_<;>intros
   apply Ye _ YuI
   exact za
   exact rfl
   exactλ_ hw=>(hp hin.cons (hw))
   rintro _ _ ⟨gL,A1,c1,A2,c2,rfl,⟨k1,k2,k3⟩,hway,rfl⟩
   dsimp only at k1 k2 k3 hway⊢
   refine zX7 ?_
   have hs1:=λ{H:List HP}{w:World}(hw:St B w0 H w)=>W3 p.length (A:=A1) (cap:=c1) (by omega) hw
   have hs2:=λ{H:List HP}{w:World}(hw:St B w0 H w)=>W3 q.length (A:=A2) (cap:=c2) (by omega) hw
   refine Yg (λ(k:Nat)=>[(28,.int .i64 k),(27,.int .i64 2),(26,.slice (some ⟨gL,0,none⟩) 2 2),(9,.slice (some ⟨gL,0,none⟩) 2 2)]) (λ_=>sl 93 1 (some ⟨gL,0,none⟩) 2 2 ([(⟨A1,c1,p⟩:RowM),⟨A2,c2,q⟩].flatMap rowF)::ints A1 c1 p::ints A2 c2 q::netB g n::H) (λk=>k<=2/\(1<=k->p.length<=9)/\(2<=k->q.length<=9)) (λk=>2-k) 0 ⟨by omega,by omega,by omega⟩ ?_ (λw hw=>hw) ?_
   ·exact zc1
   rintro k ⟨hk,hk1,hk2⟩ K hK
   obtain rfl|rfl|rfl:k=0\/k=1\/k=2:=by omega
   ·have hx0:[(⟨A1,c1,p⟩:RowM),⟨A2,c2,q⟩][0]? =some ⟨A1,c1,p⟩:=rfl
    by_cases h9:9<p.length
    ·rw[Tn h9]at hs1
     rw[Tn (.inl h9)]at hrun
     obtain rfl:=Tv hrun
     clear hK
     repeat'(first|(apply ZX T (f:=rowF) (l:=[(⟨A1,c1,p⟩:RowM),⟨A2,c2,q⟩]);exact rfl;exact rfl;exact .sl zm;exact rfl;exactλ_=>rfl;exact rfl;exact rfl;(simp only[TM,Ry];omega))|(apply JA T (f:=rowF) (l:=[(⟨A1,c1,p⟩:RowM),⟨A2,c2,q⟩]);exact rfl;exact .sl zm;exact hx0;exactλ_=>rfl;(iterate 4 exact rfl))|((first|apply Ya Og|apply Yb Og);exact za;exact rfl;exactλ_ hw=>(hs1 hw))|refine zgd ?_|(refine zge ?_ ?_<;>intro _<;>try exact zo)|fail)
     exact zc94
    ·rw[Tf h9]at hs1
     repeat'(first|(apply ZX T (f:=rowF) (l:=[(⟨A1,c1,p⟩:RowM),⟨A2,c2,q⟩]);exact rfl;exact rfl;exact .sl zm;exact rfl;exactλ_=>rfl;exact rfl;exact rfl;(simp only[TM,Ry];omega))|(apply JA T (f:=rowF) (l:=[(⟨A1,c1,p⟩:RowM),⟨A2,c2,q⟩]);exact rfl;exact .sl zm;exact hx0;exactλ_=>rfl;(iterate 4 exact rfl))|((first|apply Ya Og|apply Yb Og);exact za;exact rfl;exactλ_ hw=>(hs1 hw))|refine zgc ?_|(refine zge ?_ ?_<;>intro _<;>try exact zo)|fail)
     apply hK 1
     ·exact⟨by omega,λ_=>by omega,by omega⟩
     ·omega
     ·exact zc1
     exact zc17
   ·have hx1:[(⟨A1,c1,p⟩:RowM),⟨A2,c2,q⟩][1]? =some ⟨A2,c2,q⟩:=rfl
    by_cases h9:9<q.length
    ·rw[Tn h9]at hs2
     rw[Tn (.inr h9)]at hrun
     obtain rfl:=Tv hrun
     clear hK
     repeat'(first|(apply ZX T (f:=rowF) (l:=[(⟨A1,c1,p⟩:RowM),⟨A2,c2,q⟩]);exact rfl;exact rfl;exact .sl zm;exact rfl;exactλ_=>rfl;exact rfl;exact rfl;(simp only[TM,Ry];omega))|(apply JA T (f:=rowF) (l:=[(⟨A1,c1,p⟩:RowM),⟨A2,c2,q⟩]);exact rfl;exact .sl zm;exact hx1;exactλ_=>rfl;(iterate 4 exact rfl))|((first|apply Ya Og|apply Yb Og);exact za;exact rfl;exactλ_ hw=>(hs2 hw))|refine zgd ?_|(refine zge ?_ ?_<;>intro _<;>try exact zo)|fail)
     exact zc94
    ·rw[Tf h9]at hs2
     repeat'(first|(apply ZX T (f:=rowF) (l:=[(⟨A1,c1,p⟩:RowM),⟨A2,c2,q⟩]);exact rfl;exact rfl;exact .sl zm;exact rfl;exactλ_=>rfl;exact rfl;exact rfl;(simp only[TM,Ry];omega))|(apply JA T (f:=rowF) (l:=[(⟨A1,c1,p⟩:RowM),⟨A2,c2,q⟩]);exact rfl;exact .sl zm;exact hx1;exactλ_=>rfl;(iterate 4 exact rfl))|((first|apply Ya Og|apply Yb Og);exact za;exact rfl;exactλ_ hw=>(hs2 hw))|refine zgc ?_|(refine zge ?_ ?_<;>intro _<;>try exact zo)|fail)
     apply hK 2
     ·exact⟨by omega,λ_=>hk1 (by omega),λ_=>by omega⟩
     ·omega
     ·exact zc1
     exact zc17
   ·have h1:=hk1 (by omega)
    have h2:=hk2 (by omega)
    rw[Tf (by omega)]at hrun
    obtain rfl:=Tv hrun
    clear hK
    refine zX1 ?_<;>intros
    apply Yi (sl 93 1 (some ⟨gL,0,none⟩) 2 2 ([(⟨A1,c1,p⟩:RowM),⟨A2,c2,q⟩].flatMap rowF)::ints A1 c1 p::ints A2 c2 q::H)
    ·exact zc0
    apply YM;(iterate 3 exact rfl)
    exact⟨gL,A1,c1,A2,c2,rfl,⟨k1,h1,h2⟩,hway,rfl⟩
theorem YhC:∀(r:List Int) {b c:Int}(p q:List Int),b<c->Y2 (r++b::p) (r++c::q)=true
 |[],b,c,p,q,h=>by
  show(if b≠c then decide (b<c)else Y2 p q)=true
  rw[Tn (by omega)];exact Td h
 |x::r,b,c,p,q,h=>by
  show(if x≠x then decide (x<x)else Y2 (r++b::p) (r++c::q))=true
  rw[Tf (λh=>h rfl)];exact YhC r p q h
theorem O6{st:Int->Int->Bool}{nodes:Nat}{to:Int}:∀(f:Nat) (r:List Int),(XJ st nodes to f r).Pairwise λa b=>Y2 a b=true
 |0,r=>by
  unfold XJ
  split
  ·exact List.pairwise_singleton _ _
  ·exact .nil
 |f+1,r=>by
  unfold XJ
  split
  ·exact List.pairwise_singleton _ _
  ·rw[List.pairwise_flatMap]
   refine⟨λb _=>?_,?_⟩
   ·split
    ·exact O6 f _
    ·exact .nil
   ·refine List.Pairwise.imp ?_ (List.pairwise_lt_range (n:=nodes))
    intro b c hbc x hx y hy
    split at hx
    ·split at hy
     ·obtain⟨p,rfl,_⟩:=VE f _ x hx
      obtain⟨q,rfl,_⟩:=VE f _ y hy
      rw[TY,TY]
      exact YhC r p q (by omega)
     ·cases hy
    ·cases hx
variable {x:List Int}
theorem YoX{key:List Int->Int}{l:List (List Int)}{y:List Int}(h:FirstMin key l x)(hp:l.Pairwise λa b=>Y2 a b=true)(hy:y∈l):key x<=key y/\(key y=key x->y=x\/Y2 x y=true):=by
 refine⟨h.le hy,λhe=>?_⟩
 obtain⟨l1,l2,rfl,h1,h2⟩:=h
 rcases TI.1 hy with hy|hy
 ·have:=h1 y hy;omega
 ·rcases TL.1 hy with rfl|hy
  ·exact .inl rfl
  ·obtain⟨_,h4,_⟩:=NI.1 hp
   exact .inr ((Ni.1 h4).1 y hy)
structure Ch(L:List Lk)(at_:Int)(r:List Int)(C:Int->Prop)(st:Int×Int):Prop where
 pos:0<=st.1
 ok:C st.1
 arc:(at_,st.1,st.2)∈L
 out:st.1∉r
theorem YnQ{fuel nodes:Nat}{L:List Lk}{t total:Int}{r:List Int}{spent at_:Int}{C:Int->Prop}(hrest:∀a∈L,a.1=at_->a.2.1∉r->∃c,QJ fuel nodes L (r++[a.2.1]) t=some c/\(c.2=true/\spent+a.2.2+c.1=total↔C a.2.1))(h0:∀a∈L,0<=a.2.1):∀(m:List Lk),(∀a∈m,a∈L)->∀st:Int×Int,(st.1= -1\/Ch L at_ r C st)->
 ∃st2,JX fuel nodes L t total r spent at_ m st=some st2/\(st2.1= -1\/Ch L at_ r C st2)/\(0<=st.1->0<=st2.1/\st2.1<=st.1)/\∀a∈m,a.1=at_->a.2.1∉r->C a.2.1->0<=st2.1/\st2.1<=a.2.1
 |[],_,st,hst=>⟨st,rfl,hst,λh=>⟨h,R7 _⟩,λa ha=>absurd ha RV⟩
 |a::m,hm,st,hst=>by
  have haL:=hm a Tz
  have ih:=YnQ hrest h0 m λb hb=>hm b (TA _ hb)
  by_cases hskip:a.1≠at_\/a.2.1∈r\/(0<=st.1/\st.1<a.2.1)
  ·have hs:WA fuel nodes L t total r spent at_ st a=some st:=by unfold WA;rw[Tn hskip]
   obtain⟨st2,h1,h2,h3,h4⟩:=ih st hst
   refine⟨st2,by unfold JX;rw[hs];exact h1,h2,h3,λb hb e1 e2 e3=>?_⟩
   rcases TL.1 hb with rfl|hb
   ·rcases hskip with h|h|h
    ·exact absurd e1 h
    ·exact absurd h e2
    ·have:=h3 h.1;omega
   ·exact h4 b hb e1 e2 e3
  ·have ha1:a.1=at_:=Nb λh=>hskip (.inl h)
   have ha2:a.2.1∉r:=λh=>hskip (.inr (.inl h))
   have ha3:¬(0<=st.1/\st.1<a.2.1):=λh=>hskip (.inr (.inr h))
   obtain⟨c,hc,hiff⟩:=hrest a haL ha1 ha2
   have hs:WA fuel nodes L t total r spent at_ st a=if c.2=true/\spent+a.2.2+c.1=total then some (a.2.1,a.2.2)else some st:=by unfold WA;rw[Tf hskip,hc]
   by_cases hf:c.2=true/\spent+a.2.2+c.1=total
   ·rw[Tn hf]at hs
    have hch:Ch L at_ r C (a.2.1,a.2.2):=⟨h0 a haL,hiff.1 hf,by rw[<-ha1];exact haL,ha2⟩
    obtain⟨st2,h1,h2,h3,h4⟩:=ih (a.2.1,a.2.2) (.inr hch)
    have h5:=h3 hch.pos
    simp only at h5
    refine⟨st2,by unfold JX;rw[hs];exact h1,h2,λh=>⟨h5.1,by omega⟩,λb hb e1 e2 e3=>?_⟩
    rcases TL.1 hb with rfl|hb
    ·exact h5
    ·exact h4 b hb e1 e2 e3
   ·rw[Tf hf]at hs
    obtain⟨st2,h1,h2,h3,h4⟩:=ih st hst
    refine⟨st2,by unfold JX;rw[hs];exact h1,h2,h3,λb hb e1 e2 e3=>?_⟩
    rcases TL.1 hb with rfl|hb
    ·exact absurd (hiff.2 e3) hf
    ·exact h4 b hb e1 e2 e3
def inB(n:Net)(s t total:Int)(q:List Int):Prop:=∃mp,q=rt s t mp/\∃mq,Two n s t mp mq/\key n s t mp+key n s t mq=total
variable {n:Net}{s t:Int}
theorem YtJ{v:Int}{ms:List Int}:key n s t (ms++v::x)=keyG (XF n) (s::ms++[v])+keyG (XF n) (v::(x++[t])):=by
 have:=OH (w:=XF n) (s::ms) v (x++[t])
 unfold key rt
 rw[<-this]
 simp
theorem YtM(hok:Ok n){total:Int}(hs:0<=s/\s<n.nodes)(ht:0<=t/\t<n.nodes)(hst:s≠t)(hmin:∀x y,Two n s t x y->total<=key n s t x+key n s t y):∀(k:Nat) (ms:List Int) (spent at_:Int),(s::ms).Nodup->ZK (s::ms)=at_->(∀x∈s::ms,0<=x/\x<n.nodes)->spent=keyG (XF n) (s::ms)->(∀p,PathG (Yz n) n.nodes.toNat t at_ p->PathG (Yz n) n.nodes.toNat t s (ms++p))->(at_≠t->t∉s::ms)->n.nodes.toNat+1<=(s::ms).length+k->(∃p,PathG (Yz n) n.nodes.toNat t at_ p/\inB n s t total (s::ms++p))->
 ∃P,VB 100000 n.nodes.toNat (YI n) t total k (s::ms) spent at_=some P/\inB n s t total P/\(∃p,P=s::ms++p)/\∀f,∀x∈XJ (Yz n) n.nodes.toNat t f (s::ms),inB n s t total x->x=P\/Y2 P x=true:=by
 have hn0:=hok.n0
 have hn1:=hok.n1
 intro k
 induction k with
 |zero=>
  intro ms spent at_ hnd _ hr _ _ _ hk _
  have:=Rt.nodup_len n.nodes.toNat _ hnd λx hx=>by have:=hr x hx;omega
  omega
 |succ k ih=>
  intro ms spent at_ hnd hl hr hsp hext hnt hk ⟨p,hp,hin⟩
  by_cases hat:at_=t
  ·subst hat
   obtain rfl:p=[]:=by
    cases hp with
    |done=>rfl
    |step hu=>exact absurd rfl hu
   rw[Ro]at hin
   refine⟨s::ms,by unfold VB;rw[Tn rfl],hin,⟨[],by simp⟩,λf x hx _=>?_⟩
   left
   cases f<;>(unfold XJ at hx;rw[Tn hl]at hx;exact TG.1 hx)
  ·have htr:=hnt hat
   obtain⟨hnd1,hnd2⟩:=S9.1 hnd
   have hsn:∀{v:Int},v∉s::ms->(s::(ms++[v])).Nodup:=λ{v} hv=>by
    have:(s::ms++[v]).Nodup:=Rk.2 ⟨hnd,by simp,λa ha b hb=>by
     obtain rfl:=TG.1 hb
     exactλe=>hv (e▸ha)⟩
    exact this
   have hks:∀v,keyG (XF n) (s::ms++[v])=spent+XF n at_ v:=λv=>by
    rw[Ybu (by simp),hl,hsp];simp[keyG]
   --what a further node is worth
   have hrest:∀a∈YI n,a.1=at_->a.2.1∉s::ms->∃c,QJ 100000 n.nodes.toNat (YI n) (s::ms++[a.2.1]) t=some c/\(c.2=true/\spent+a.2.2+c.1=total↔∃p,PathG (Yz n) n.nodes.toNat t a.2.1 p/\inB n s t total (s::ms++a.2.1::p)):=by
    rintro⟨u,v,c0⟩ ha hau hav
    simp only at hau hav⊢
    subst hau
    obtain⟨hg,rfl⟩:=((net0 hok).iff _ _ _).1 ha
    have hvr:=(Ydf hok _ ha).2.1
    simp only at hvr
    have hstep:∀p,PathG (Yz n) n.nodes.toNat t v p->PathG (Yz n) n.nodes.toNat t s (ms++v::p):=λp hp=>hext _ (.step hat hg hvr hp)
    by_cases hvt:v=t
    ·subst hvt
     have hrt:IsRt n s v ms:=⟨hstep [] .done,hsn hav⟩
     obtain⟨c,hc,h⟩:=Yr5 hok hs ht hrt 100000
     refine⟨c,hc,?_⟩
     have hk1:key n s v ms=spent+XF n u v:=hks v
     rcases h with⟨h1,⟨mq,h2,h3⟩,h4⟩|⟨h1,h2⟩
     ·constructor
      ·rintro⟨_,he⟩
       exact⟨[],.done,ms,rfl,mq,h2,by omega⟩
      ·rintro⟨p,hp,mp,heq,mq2,h5,h6⟩
       obtain rfl:p=[]:=by
        cases hp with
        |done=>rfl
        |step hu=>exact absurd rfl hu
       obtain rfl:ms=mp:=YbF heq
       have h7:=h4 mq2 h5
       have h8:=hmin _ _ h2
       exact⟨h1,by omega⟩
     ·constructor
      ·rintro⟨h3,_⟩;rw[h1]at h3;cases h3
      ·rintro⟨p,hp,mp,heq,mq2,h5,h6⟩
       obtain rfl:p=[]:=by
        cases hp with
        |done=>rfl
        |step hu=>exact absurd rfl hu
       obtain rfl:ms=mp:=YbF heq
       exact absurd h5 (h2 mq2)
    ·obtain⟨c,hc,h⟩:=Yr6 hok hs ht (v:=v) (ms:=ms) ⟨hvr.1,by omega⟩ hst hvt (λh=>htr (TA _ h)) (hsn hav) hstep
     refine⟨c,hc,?_⟩
     have hk1:∀x,key n s t (ms++v::x)=spent+XF n u v+keyG (XF n) (v::(x++[t])):=λx=>by rw[YtJ,hks]
     have hsh:∀x,s::ms++v::(x++[t])=rt s t (ms++v::x):=λx=>by unfold rt;simp
     have hback:∀p mp,PathG (Yz n) n.nodes.toNat t v p->s::ms++v::p=rt s t mp->∃x,mp=ms++v::x:=λp mp hp heq=>by
      obtain⟨x,rfl⟩:=YbA hp hvt
      rw[hsh]at heq
      exact⟨x,(YbF heq).symm⟩
     rcases h with⟨h1,⟨x,mq,h2,h3⟩,h4⟩|⟨h1,h2⟩
     ·constructor
      ·rintro⟨_,he⟩
       have hpath:PathG (Yz n) n.nodes.toNat t v (x++[t]):=by
        have:=h2.p.path
        unfold Yai at this
        rw[TY,TD]at this
        exact PathG.append this
       refine⟨x++[t],hpath,ms++v::x,hsh x,mq,h2,?_⟩
       rw[hk1];omega
      ·rintro⟨p,hp,mp,heq,mq2,h5,h6⟩
       obtain⟨x2,rfl⟩:=hback p mp hp heq
       have h7:=h4 x2 mq2 h5
       have h8:=hmin _ _ h2
       rw[hk1]at h6 h8
       exact⟨h1,by omega⟩
     ·constructor
      ·rintro⟨h3,_⟩;rw[h1]at h3;cases h3
      ·rintro⟨p,hp,mp,heq,mq2,h5,h6⟩
       obtain⟨x2,rfl⟩:=hback p mp hp heq
       exact absurd h5 (h2 x2 mq2)
   obtain⟨st2,g1,g2,_,g4⟩:=YnQ (C:=λv=>∃p,PathG (Yz n) n.nodes.toNat t v p/\inB n s t total (s::ms++v::p)) hrest (λa ha=>(Ydf hok a ha).2.1.1) (YI n) (λa ha=>ha) (-1,0) (.inl rfl)
   --some node goes on
   have hnode:∀{c:Int}{q:List Int},Yz n at_ c=true->PathG (Yz n) n.nodes.toNat t c q->inB n s t total (s::ms++c::q)->0<=st2.1/\st2.1<=c:=λ{c q} hg hq hin=>by
    have hnin:c∉s::ms:=by
     obtain⟨mp,heq,mq,h2,_⟩:=hin
     have:=h2.p.nd
     rw[<-heq]at this
     exactλh=>(Rk.1 this).2.2 c h c Tz rfl
    exact g4 (at_,c,XF n at_ c) (((net0 hok).iff _ _ _).2 ⟨hg,rfl⟩) rfl hnin ⟨q,hq,hin⟩
   have hpos:0<=st2.1:=by
    cases hp with
    |done=>exact absurd rfl hat
    |@step _ v q hu hg hv hq=>exact(hnode hg hq hin).1
   rcases g2 with g2|⟨g5,⟨pb,hpb,hinb⟩,garc,gout⟩
   ·omega
   ·obtain⟨b,pr⟩:=st2
    simp only at g5 hpb hinb garc gout hpos hnode
    obtain⟨hg,rfl⟩:=((net0 hok).iff _ _ _).1 garc
    have hbr:=(Ydf hok _ garc).2.1
    simp only at hbr
    obtain⟨P,i1,i2,⟨i3,i4⟩,i5⟩:=ih (ms++[b]) (spent+XF n at_ b) b (hsn gout) (by rw[<-TD,JF]) (λx hx=>by
     rw[<-TD]at hx
     rcases TI.1 hx with h|h
     ·exact hr x h
     ·obtain rfl:=TG.1 h;omega) (by rw[<-TD,hks]) (λq hq=>by
     rw[TY]
     exact hext _ (.step hat hg hbr hq)) (λhbt hm=>by
     rw[<-TD]at hm
     rcases TI.1 hm with h|h
     ·exact htr h
     ·exact hbt (TG.1 h).symm) (by simp only[TM,To,Ry]at hk⊢;omega) ⟨pb,hpb,by rw[<-TD,TY];exact hinb⟩
    refine⟨P,?_,i2,⟨b::i3,by rw[i4];simp⟩,λf x hx hxin=>?_⟩
    ·unfold VB
     rw[Tf hat,g1]
     dsimp only
     rw[Tf (by omega)]
     exact i1
    ·cases f with
     |zero=>unfold XJ at hx;rw[Tf (by rw[hl];exact hat)]at hx;cases hx
     |succ f=>
      unfold XJ at hx
      rw[Tf (by rw[hl];exact hat),hl]at hx
      obtain⟨c,hc,hx⟩:=RJ.1 hx
      split at hx
      ·rename_i hcc
       obtain⟨q,hxe,hq⟩:=VE f _ x hx
       rw[JF]at hq
       rw[TY,List.singleton_append]at hxe
       have hle:=(hnode hcc.1 hq (by rw[<-hxe];exact hxin)).2
       rcases Int.lt_or_eq_of_le hle with h|h
       ·right
        rw[i4,hxe,show s::(ms++[b])++i3=(s::ms)++b::i3 by simp]
        exact YhC (s::ms) i3 q h
       ·refine i5 f x ?_ hxin
        rw[h];exact hx
      ·cases hx
def allW(n:Net)(s t:Int):List (List Int):=XJ (Yz n) n.nodes.toNat t (n.nodes.toNat-1) [s]
variable {n:Net}{s t:Int}
theorem YhZ(hok:Ok n){mp:List Int}(hs:0<=s/\s<n.nodes)(h:IsRt n s t mp):rt s t mp∈allW n s t:=by
 have hl:=YnO hok hs h
 have:=YeX (n.nodes.toNat-1) [s] (mp++[t]) h.path h.nd (by grind)
 exact this
structure Best(n:Net)(s t total:Int)(mp mq:List Int):Prop where
 two:Two n s t mp mq
 cost:key n s t mp+key n s t mq=total
 least:∀x y,Two n s t x y->total<=key n s t x+key n s t y
 fst:∀x y,Two n s t x y->key n s t x+key n s t y=total->rt s t x=rt s t mp\/Y2 (rt s t mp) (rt s t x)=true
 snd:∀y,Two n s t mp y->key n s t mp+key n s t y=total->rt s t y=rt s t mq\/Y2 (rt s t mq) (rt s t y)=true
theorem Ygz(hok:Ok n)(hs:0<=s/\s<n.nodes)(ht:0<=t/\t<n.nodes)(hst:s≠t):∃r,Wi 100000 n.nodes.toNat (YI n) s s t (λ_=>false)=some r/\((r.2.1=true/\(∃L π,YcE n.nodes.toNat (YI n) s s t r.1 (Y5 s s t (λ_=>false)) r.2.2 L π)/\∃mp mq,YaT 100000 n.nodes.toNat (YI n) s t=some (some (rt s t mp,rt s t mq))/\Best n s t r.1 mp mq)\/(r.2.1=false/\YaT 100000 n.nodes.toNat (YI n) s t=some none/\∀mp mq,¬Two n s t mp mq)):=by
 have hn0:=hok.n0
 have hn1:=hok.n1
 obtain⟨r,hr,h⟩:=YpU hok hs ht hst
 refine⟨r,hr,?_⟩
 unfold YaT
 rw[hr]
 dsimp only
 rcases h with⟨h1,h2,⟨mp0,mq0,h3,h4⟩,h5⟩|⟨h1,h2⟩
 ·refine .inl ⟨h1,h2,?_⟩
  rw[Tf (by simp_all)]
  obtain⟨P,l1,⟨mp,rfl,mq1,l2,l3⟩,_,l4⟩:=YtM hok hs ht hst h5 400 [] 0 s (by simp) rfl (λx hx=>by simp_all) rfl (λp hp=>hp) (λ_ hm=>hst (TG.1 hm).symm) (by omega) ⟨mp0++[t],h3.p.path,mp0,rfl,mq0,h3,h4⟩
  rcases Ygy hok hs ht l2.p with⟨_,mq,k1,k2,k3,k4⟩|⟨_,k⟩
  ·rw[l1]
   dsimp only
   rw[k2]
   have hle:=Yj3 hok hs ht l2
   have hle2:=h5 _ _ k1
   refine⟨mp,mq,rfl,k1,by omega,h5,λx y h6 h7=>?_,λy h6 h7=>?_⟩
   ·exact l4 _ (rt s t x) (YhZ hok hs h6.p) ⟨x,rfl,y,h6,h7⟩
   ·have hl:=YnO hok hs h6.q
    obtain⟨g1,g2⟩:=(WW l2.p).2 h6
    have hm:rt s t y∈XJ (stA n s t mp) n.nodes.toNat t (n.nodes.toNat-1) [s]:=YeX (n.nodes.toNat-1) [s] (y++[t]) g1 g2 (by grind)
    grind [YoX,O6,key]
  simp_all
 simp_all
theorem getD_some{l:List (List Int)}{i:Nat}{x:List Int}(h:l[i]? =some x):l.getD i []=x:=by
 rw[Tu,h];rfl
structure RuM where
 f:Int
 u:Int
 v:Int
 k:Int
 A:Option Addr
 cap:Nat
 os:List Int
def ruF(r:RuM):List Value:=[.int .i64 r.f,.int .i64 r.u,.int .i64 r.v,.int .i64 r.k,.slice r.A r.os.length r.cap]
structure RuM.In(B:Nat)(w0:World)(H:List HP)(r:RuM):Prop where
 rd:Rd B w0 H r.A (r.os.flatMap numF)
 ln:r.os.length<=9223372036854775807
structure XIn(B:Nat)(w0:World)(H:List HP)(A:Option Addr)(xs:List RuM):Prop where
 rd:Rd B w0 H A (xs.flatMap ruF)
 x:∀r∈xs,r.In B w0 H
variable {B:Nat}{w0:World}{H K:List HP}
theorem RuM.In.mono{r:RuM}(h:r.In B w0 H)(hop:∀w,St B w0 K w->St B w0 H w):r.In B w0 K:=⟨h.rd.mono hop,h.ln⟩
theorem XIn.mono{A:Option Addr}{xs:List RuM}(h:XIn B w0 H A xs)(hop:∀w,St B w0 K w->St B w0 H w):XIn B w0 K A xs:=⟨h.rd.mono hop,λr hr=>(h.x r hr).mono hop⟩
def YxV(es:List (Int×Int×Nat))(k:Int):Option Int:=(es.find? λe=>e.1==k).map (·.2.1)
def Yx4(es:List (KL×Int×Nat))(k:KL):Option Int:=(es.find? λe=>e.1==k).map (·.2.1)
structure SM where
 frame:Int
 g:Option (Nat×Nat×Nat)
 es:List (Int×Int×Nat)
 ce:Nat
 ts:Zh
 ct:Nat
 ak:List (KL×Int×Nat)
 ca:Nat
 done:Bool
def SM.st(x:SM):StM:=⟨x.frame,YxV x.es,λu v=>Yx4 x.ak [u,v],x.done⟩
structure VOk(N:Nat)(es:Zh)(ct:Nat):Prop where
 len:∀e∈es,e.1.length=N
 lt:∀e∈es,e.2.2<ct
 ne:es.Pairwise λa b=>a.2.2≠b.2.2
variable {N ct:Nat}
theorem VOk.nil:VOk N [] ct:=by simp_all [Go.Proofs.YtaholidehobiiaaGreatDoor.VOk.mk]
theorem VOk.set{b:Nat}{l1 l2:Zh}{k:KL}{v0:Value}(h:VOk N (l1++(k,v0,b)::l2) ct)(v:Value):VOk N (l1++(k,v,b)::l2) ct:=by
 have e:∀P:KL×Value×Nat->Prop,(∀z:KL×Value×Nat,P z↔P (z.1,v,z.2.2))->(∀z∈l1++(k,v0,b)::l2,P z)->∀z∈l1++(k,v,b)::l2,P z:=λP hP hz z hm=>by
  rcases TI.1 hm with hm|hm
  ·grind
  ·rcases TL.1 hm with rfl|hm
   ·exact(hP (k,v0,b)).1 (hz (k,v0,b) (by simp))
   ·exact hz z (TI.2 (.inr (TA _ hm)))
 refine⟨e (λz=>z.1.length=N) (λ_=>Iff.rfl) h.len,e (λz=>z.2.2<ct) (λ_=>Iff.rfl) h.lt,?_⟩
 have hp:=h.ne
 rw[NI,Ni]at hp⊢
 refine⟨hp.1,hp.2.1,λa ha z hz=>?_⟩
 rcases TL.1 hz with rfl|hz
 ·exact hp.2.2 a ha (k,v0,b) (by simp)
 grind
structure TOk(ts:Zh)(ct:Nat)(b:Int):Prop where
 ok:VOk 2 ts ct
 z:∀e∈ts,∃z,e.2.1=.int .i64 z/\0<=z/\z<=b
variable {b b':Int}
theorem TOk.mono{ts:Zh}(h:TOk ts ct b)(hb:b<=b'):TOk ts ct b':=⟨h.ok,λe he=>by
 obtain⟨z,h1,h2,h3⟩:=h.z e he
 grind⟩
structure SM.Ok(x:SM)(b:Int):Prop where
 g:0<=x.frame->x.g.isSome=true
 ts:TOk x.ts x.ct b
 ak:∀e∈x.ak,e.1.length=2
theorem SM.Ok.mono{x:SM}(h:x.Ok b)(hb:b<=b'):x.Ok b':=⟨h.g,h.ts.mono hb,h.ak⟩
open Go.RowKit Go.Eng Go.Nw Go.Rt Go.Sort Go.Shelf Go.Proofs
theorem YlZ{α:Type}[Inhabited α]{d d':Array α}(h:PermIn 0 d.size d d'):d'.toList.Perm d.toList:=by
 obtain⟨h1,_,h3⟩:=h
 have e1:d.extract 0 d.size=d:=Array.extract_size
 have e2:d'.extract 0 d.size=d':=by rw[<-h1];exact Array.extract_size
 rw[e1,e2]at h3
 exact h3
structure ClM.Bg(B:Nat)(w0:World)(H:List HP)(c:ClM):Prop where
 rt:Rd B w0 H c.rA (c.rs.flatMap rowF)
 rw_:∀r∈c.rs,Rd B w0 H r.A (r.xs.flatMap numF)
 bd:Rd B w0 H c.bA (c.bs.flatMap numF)
 ws:Rd B w0 H c.wA (c.ws.flatMap numF)
 st:Rd B w0 H c.sA (c.ss.flatMap rowF)
 sw:∀r∈c.ss,Rd B w0 H r.A (r.xs.flatMap numF)
 ln:c.rs.length<=9223372036854775807/\c.bs.length<=9223372036854775807/\c.ws.length<=9223372036854775807/\c.ss.length<=9223372036854775807
 rl:∀r∈c.rs,r.xs.length<=9223372036854775807
 sl:∀r∈c.ss,r.xs.length<=9223372036854775807
structure CBg(B:Nat)(w0:World)(H:List HP)(A:Option Addr)(c:List ClM):Prop where
 rd:Rd B w0 H A (c.flatMap clF)
 x:∀x∈c,x.Bg B w0 H
 ln:c.length<=9223372036854775807
structure RqM.Bg(B:Nat)(w0:World)(H:List HP)(x:RqM):Prop where
 rt:Rd B w0 H x.A (x.rows.flatMap rowF)
 rw_:∀r∈x.rows,Rd B w0 H r.A (r.xs.flatMap numF)
 ln:x.rows.length<=9223372036854775807
 rl:∀r∈x.rows,r.xs.length<=9223372036854775807/\r.xs.length<=r.cap
structure QBg(B:Nat)(w0:World)(H:List HP)(A:Option Addr)(q:List RqM):Prop where
 rd:Rd B w0 H A (q.flatMap rqF)
 x:∀x∈q,x.Bg B w0 H
 ln:q.length<=9223372036854775807
variable {B:Nat}{w0:World}{H H':List HP}
theorem RqM.Bg.mono{x:RqM}(h:x.Bg B w0 H)(hH:∀w,St B w0 H' w->St B w0 H w):x.Bg B w0 H':=⟨h.rt.mono hH,λr hr=>(h.rw_ r hr).mono hH,h.ln,h.rl⟩
theorem QBg.mono{A:Option Addr}{q:List RqM}(h:QBg B w0 H A q)(hH:∀w,St B w0 H' w->St B w0 H w):QBg B w0 H' A q:=⟨h.rd.mono hH,λx hx=>(h.x x hx).mono hH,h.ln⟩
end Go.Proofs.YtaholidehobiiaaGreatDoor
