/- Lemmas for the claim, part 6. -/
import Derived.Test.YtaholidehobiiaaGreatDoorQ5
set_option maxRecDepth 100000
set_option maxHeartbeats 8000000
namespace Go.Rt
open Go.Nw
def FirstMin{α:Type}(key:α->Int)(l:List α)(x:α):Prop:=∃l1 l2,l=l1++x::l2/\(∀y∈l1,key x<key y)/\∀y∈l2,key x<=key y
variable {α:Type}
theorem FirstMin.mem{key:α->Int}{l:List α}{x:α}(h:FirstMin key l x):x∈l:=by
 obtain⟨l1,l2,rfl,_⟩:=h
 simp_all
theorem FirstMin.le{key:α->Int}{l:List α}{x y:α}(h:FirstMin key l x)(hy:y∈l):key x<=key y:=by
 obtain⟨l1,l2,rfl,h1,h2⟩:=h
 grind
theorem FirstMin.uniq{key:α->Int}:∀{l:List α}{x y:α},FirstMin key l x->FirstMin key l y->x=y:=by
 intro l x y hx hy
 obtain⟨a1,a2,e1,p1,p2⟩:=hx
 obtain⟨b1,b2,e2,q1,q2⟩:=hy
 rw[e1]at e2
 rcases List.append_eq_append_iff.1 e2 with⟨c,h3,h4⟩|⟨c,h3,h4⟩
 ·cases c with
  |nil=>simp_all
  |cons z c=>
   grind
 ·cases c with
  |nil=>simp_all
  |cons z c=>
   grind
theorem FirstMin.one(key:α->Int)(x:α):FirstMin key [x] x:=⟨[],[],rfl,(λ_ hy=>absurd hy (R7)),(λ_ hy=>absurd hy (R7))⟩
theorem FirstMin.mid{key:α->Int}{l a b:List α}{x:α}(h:FirstMin key l x)(h1:∀y∈a,key x<key y)(h2:∀y∈b,key x<=key y):FirstMin key (a++l++b) x:=by
 obtain⟨l1,l2,rfl,p1,p2⟩:=h
 refine⟨a++l1,l2++b,by simp,λy hy=>?_,λy hy=>?_⟩
 all_goals grind
def Vk(r:List Int):Int:=r.getD (r.length-1) 0
theorem Jm(r:List Int)(b:Int):Vk (r++[b])=b:=by
 simp_all [Vk]
section
variable (st:Int->Int->Bool) (w:Int->Int->Int) (nodes:Nat) (to:Int)
def Zr:Nat->List Int->List (List Int)
 |0,r=>if Vk r=to then [r]else []
 |f+1,r=>if Vk r=to then [r]else(List.range nodes).flatMap λb:Nat=>if st (Vk r) b=true/\(b:Int)∉r then Zr f (r++[(b:Int)])else []
def keyG:List Int->Int
 |[]=>0
 |[_]=>0
 |u::v::r=>w u v+keyG (v::r)
inductive PathG:Int->List Int->Prop
 |done:PathG to []
 |step {u v:Int}{r:List Int}(hu:u≠to) (hs:st u v=true) (hv:0<=v/\v<nodes) (h:PathG v r):PathG u (v::r)
end
theorem Oc{w:Int->Int->Int}:∀(r:List Int) (v:Int) (q:List Int),keyG w (r++v::q)=keyG w (r++[v])+keyG w (v::q)
 |[],v,q=>by simp[keyG]
 |[u],v,q=>by simp[keyG]
 |u::x::r,v,q=>by
  have:=Oc (w:=w) (x::r) v q
  grind [keyG]
theorem YaL{w:Int->Int->Int}{r q:List Int}(hr:r≠[]):keyG w (r++q)=keyG w r+keyG w (Vk r::q):=by
 rcases List.eq_nil_or_concat r with rfl|⟨r',v,rfl⟩
 all_goals grind [Jm,Oc]
section
variable {st:Int->Int->Bool}{w:Int->Int->Int}{nodes:Nat}{to:Int}
theorem Wa:∀(f:Nat) (r q:List Int),q∈Zr st nodes to f r->∃p,q=r++p/\PathG st nodes to (Vk r) p
 |0,r,q,h=>by
  unfold Zr at h
  split at h
  ·rename_i he
   obtain rfl:=TJ.1 h
   exact⟨[],by simp,he▸.done⟩
  simp_all
 |f+1,r,q,h=>by
  unfold Zr at h
  split at h
  ·rename_i he
   obtain rfl:=TJ.1 h
   exact⟨[],by simp,he▸.done⟩
  ·rename_i he
   obtain⟨b,hb,h⟩:=RN.1 h
   split at h
   ·rename_i hc
    obtain⟨p,rfl,hp⟩:=Wa f _ q h
    rw[Jm]at hp
    exact⟨(b:Int)::p,by simp,.step he hc.1 ⟨by omega,by simp_all⟩ hp⟩
   simp_all
theorem Qu:∀(f:Nat) (r q:List Int),r.Nodup->q∈Zr st nodes to f r->q.Nodup
 |0,r,q,hn,h=>by
  grind [Zr]
 |f+1,r,q,hn,h=>by
  unfold Zr at h
  split at h
  ·simp_all
  ·obtain⟨b,hb,h⟩:=RN.1 h
   split at h
   ·refine Qu f _ q ?_ h
    grind
   simp_all
theorem YdP:∀(f:Nat) (r p:List Int),PathG st nodes to (Vk r) p->(r++p).Nodup->p.length<=f->r++p∈Zr st nodes to f r
 |f,r,[],h,_,_=>by
  generalize hl:Vk r=u at h
  cases h
  cases f<;>(unfold Zr;rw[Tm hl];simp)
 |0,r,v::p,_,_,h=>by simp at h
 |f+1,r,v::p,h,hn,hf=>by
  generalize hl:Vk r=u at h
  cases h with
  |step hu hs hv h=>
   unfold Zr
   rw[hl,Td hu]
   refine RN.2 ⟨v.toNat,TO.2 (by omega),?_⟩
   have hvv:((v.toNat:Nat):Int)=v:=by omega
   have hnr:v∉r:=by grind
   have:=YdP f (r++[v]) p (by grind [Jm]) (by simp_all) (by simp_all)
   simp_all
variable {u:Int}{p far:List Int}
theorem Yiu(h:PathG st nodes to u p):∀x∈p,0<=x/\x<nodes:=by
 induction h with
 |done=>simp_all
 |step _ _ hv _ ih=>
  simp_all
structure Net3(st:Int->Int->Bool)(w:Int->Int->Int)(l:List Lk):Prop where
 iff:∀u v c:Int,(u,v,c)∈l↔st u v=true/\c=w u v
 pos:∀u v:Int,st u v=true->1<=w u v/\w u v<=1000
theorem YpG(hw:∀u v:Int,st u v=true->1<=w u v/\w u v<=1000)(h:PathG st nodes to u p):0<=keyG w (u::p)/\keyG w (u::p)<=1000*(p.length:Int):=by
 induction h with
 |done=>simp[keyG]
 |step hu hs hv h ih=>
  grind [keyG]
variable {l:List Lk}
theorem Ydk(hnet:Net3 st w l)(hd:Dist nodes l to far)(h:PathG st nodes to u p)(hp:p.length<=100000):Yf far u<=keyG w (u::p)/\Yf far u<YK:=by
 induction h with
 |done=>rw[hd.to0];exact⟨SD _,by decide⟩
 |@step u v r hu hs hv h ih=>
  have hn:=Q5
  obtain⟨h1,h2⟩:=ih (by grind)
  have h3:=hd.least (u,v,w u v) ((hnet.iff _ _ _).2 ⟨hs,rfl⟩) h2
  have h4:=hnet.pos _ _ hs
  obtain⟨h5,h6⟩:=YpG hnet.pos h
  grind [keyG]
theorem Yhp{far:List Int}{at_:Int}:∀(l:List Lk) (b0:Int),(∀a∈l,0<=a.2.1)->(0<=b0->l.foldl (Xj far at_) b0<=b0)/\∀a∈l,a.1=at_->a.2.2+Yf far a.2.1=Yf far at_->l.foldl (Xj far at_) b0<=a.2.1
 |[],b0,_=>⟨λ_=>SD _,λa ha=>by cases ha⟩
 |a::m,b0,hp=>by
  obtain⟨h1,h2⟩:=Yhp (far:=far) (at_:=at_) m (Xj far at_ b0 a) λc hc=>hp c (TB _ hc)
  rw[Na]
  have ha0:=hp a TA
  refine⟨λhb=>?_,λc hc he ht=>?_⟩
  ·grind [Xj]
  ·rcases TN.1 hc with rfl|hc
   ·have h5:0<=Xj far at_ b0 c/\Xj far at_ b0 c<=c.2.1:=by
     unfold Xj
     omega
    omega
   grind
theorem YiF{nodes b:Nat}(h:b<nodes):∃l2,List.range nodes=List.range b++b::l2:=by
 refine⟨(List.range nodes).drop (b+1),?_⟩
 apply SJ
 intro i
 rcases N1 i b with hi|hi|hi
 ·rw[Sl (by simpa using hi),SN (by omega),SN hi]
 ·subst hi
  rw[Ro (by simp),Me,Nb,SN (by omega)];rfl
 ·rw[Ro (by simp;omega),Me]
  obtain⟨j,hj⟩:∃j,i-b=j+1:=⟨i-b-1,by omega⟩
  rw[hj,NA,RB]
  congr 1
  omega
theorem YnX(hnet:Net3 st w l)(hok:ArcsOk nodes l)(hd:Dist nodes l to far)(hto:0<=to/\to<nodes)(_hst:∀u v,st u v=true->0<=v/\v<nodes)(hnn:nodes<=40):∀(k f:Nat) (r:List Int) (v:Int),r≠[]->r.Nodup->Vk r=v->0<=v->v<nodes->Yf far v<YK->(Yf far v).toNat<=k->(∀x∈r,(0<=x/\x<nodes)/\Yf far v<=Yf far x)->nodes<=r.length+f->
 FirstMin (keyG w) (Zr st nodes to f r) (r++Y1 l far to k v)/\keyG w (r++Y1 l far to k v)=keyG w r+Yf far v:=by
 intro k
 induction k with
 |zero=>
  intro f r v hr hn hl h0 h1 hlt hk hx hf
  have hvt:v=to:=Np λh=>by
   have:=UO hok hd h0 h1 h hlt
   omega
  have hfo:Y1 l far to 0 v=[]:=rfl
  rw[hfo,TM]
  subst hvt
  refine⟨?_,by rw[hd.to0];omega⟩
  cases f<;>(unfold Zr;rw[Tm hl];exact .one _ _)
 |succ k ih=>
  intro f r v hr hn hl h0 h1 hlt hk hx hf
  by_cases hvt:v=to
  ·have hfo:Y1 l far to (k+1) v=[]:=by simp_all [Y1]
   rw[hfo,TM]
   subst hvt
   refine⟨?_,by rw[hd.to0];omega⟩
   cases f<;>(unfold Zr;rw[Tm hl];exact .one _ _)
  ·obtain⟨b1,b2,b3,a,ha,ha1,ha2,ha3⟩:=UO hok hd h0 h1 hvt hlt
   have hbm:=(Yhp (far:=far) (at_:=v) l (-1) λa ha=>(hok a ha).2.1.1).2
   obtain⟨b,hb⟩:∃b,Xm l far v=b:=⟨_,rfl⟩
   have hfo:Y1 l far to (k+1) v=b::Y1 l far to k b:=by
    rw[show Y1 l far to (k+1) v=if v=to then []else Xm l far v::Y1 l far to k (Xm l far v) from rfl,Td hvt,hb]
   rw[show l.foldl (Xj far v) (-1)=Xm l far v from rfl,hb]at hbm
   rw[hb]at b1 b2 b3 ha2 ha3
   obtain⟨a1,a2,a3⟩:=a
   simp only at ha1 ha2 ha3
   subst ha1 ha2
   obtain⟨hs,hc⟩:=(hnet.iff _ _ _).1 ha
   have hbr:a2∉r:=λhm=>by grind
   have hnb:(r++[a2]).Nodup:=Ri.2 ⟨hn,by simp,λx hx2 y hy=>by
    grind⟩
   have hlen:(r++[a2]).length<=nodes:=nodup_len nodes _ hnb λx hx2=>by
    grind
   rw[Tj,TP]at hlen
   cases f with
   |zero=>omega
   |succ f=>
    obtain⟨i1,i2⟩:=ih f (r++[a2]) a2 (by simp) hnb (Jm _ _) b1.1 b1.2 (by omega) (by omega) (λx hx2=>by
     rcases TT.1 hx2 with h|h
     ·have:=hx x h;exact⟨this.1,by omega⟩
     ·obtain rfl:=TJ.1 h;exact⟨b1,SD _⟩) (by rw[Tj,TP];omega)
    have hkr:∀x:Int,keyG w (r++[x])=keyG w r+w a1 x:=λx=>by
     rw[YaL hr,hl];simp[keyG]
    rw[hfo]
    have e0:r++a2::Y1 l far to k a2=r++[a2]++Y1 l far to k a2:=by simp
    rw[e0]
    have hkey:keyG w (r++[a2]++Y1 l far to k a2)=keyG w r+Yf far a1:=by rw[i2,hkr];omega
    refine⟨?_,hkey⟩
    --what other nodes give
    have hoth:∀(c:Nat) (q:List Int),c<nodes->q∈(if st a1 c=true/\(c:Int)∉r then Zr st nodes to f (r++[(c:Int)])else [])->keyG w r+Yf far a1<=keyG w q/\((c:Int)<a2->keyG w r+Yf far a1<keyG w q):=by
     intro c q hc hq
     split at hq
     ·rename_i hsc
      obtain⟨p,rfl,hp⟩:=Wa f _ q hq
      have hnq:=Qu f _ _ (by
       refine Ri.2 ⟨hn,by simp,λx hx2 y hy=>?_⟩
       obtain rfl:=TJ.1 hy
       exactλe=>hsc.2 (e▸hx2)) hq
      rw[Jm]at hp
      have hpl:p.length<=100000:=by
       have hm:∀x∈r++[(c:Int)]++p,0<=x/\x<nodes:=λx hx2=>by
        rcases TT.1 hx2 with h|h
        ·rcases TT.1 h with h|h
         ·exact(hx x h).1
         ·obtain rfl:=TJ.1 h;omega
        ·exact Yiu hp x h
       have:=nodup_len nodes _ hnq hm
       rw[Tj]at this
       omega
      obtain⟨f1,f2⟩:=Ydk hnet hd hp hpl
      have hlst:=hd.least (a1,(c:Int),w a1 c) ((hnet.iff _ _ _).2 ⟨hsc.1,rfl⟩) f2
      simp only at hlst
      have e1:keyG w (r++[(c:Int)]++p)=keyG w r+w a1 c+keyG w ((c:Int)::p):=by
       rw[YaL (by simp),Jm,hkr]
      rw[e1]
      refine⟨by omega,λhlt2=>?_⟩
      by_cases htt:w a1 c+Yf far c=Yf far a1
      ·have:=hbm (a1,(c:Int),w a1 c) ((hnet.iff _ _ _).2 ⟨hsc.1,rfl⟩) rfl htt
       simp only at this
       omega
      ·omega
     ·cases hq
    unfold Zr
    rw[hl,Td hvt]
    obtain⟨l2,hsp⟩:=YiF (nodes:=nodes) (b:=a2.toNat) (by omega)
    have hbb:((a2.toNat:Nat):Int)=a2:=by omega
    have hmem:∀c∈l2,c<nodes:=λc hc=>TO.1 (by rw[hsp];exact Rb _ (TB _ hc))
    rw[hsp,TV,TR,hbb,Tm ⟨hs,hbr⟩,<-TX]
    refine i1.mid (λq hq=>?_) (λq hq=>?_)
    ·obtain⟨c,hc,hq⟩:=RN.1 hq
     have hc:=TO.1 hc
     rw[hkey]
     exact(hoth c q (by omega) hq).2 (by omega)
    ·obtain⟨c,hc,hq⟩:=RN.1 hq
     rw[hkey]
     exact(hoth c q (hmem c hc) hq).1
end
def YkY(l:List Lk):List Ed:=l.map λa=>⟨a.2.1,a.1,a.2.2,1⟩
variable {nodes:Nat}{l:List Lk}{to:Int}
theorem YhG(hn:nodes<=500)(hl:Arcs8 nodes l)(ht:0<=to/\to<nodes):∃far,Dist nodes l to far:=by
 have hnc:=Q5
 have hes:Ed8 nodes (YkY l):=by
  intro e he
  obtain⟨a,ha,rfl⟩:=TG.1 he
  obtain⟨h1,h2,h3⟩:=hl a ha
  simp only;omega
 have hp:PotE (YkY l) (λ_=>0):=by
  intro e he _
  obtain⟨a,ha,rfl⟩:=TG.1 he
  obtain⟨h1,h2,h3⟩:=hl a ha
  simp only;omega
 have hG:RelG nodes (λ_=>0) (Zo nodes to,List.replicate nodes (-1),false):=by
  refine⟨Qq,Rw,λv h0 h1=>?_,λv h0 h1=>?_,λv h0 h1=>?_⟩
  ·simp only;rw[Zu ht ⟨h0,h1⟩];split<;>omega
  ·simp only;rw[Zu ht ⟨h0,h1⟩]
   split
   ·intro _;omega
   ·intro h;exact absurd h (Int.lt_irrefl _)
  ·simp only;rw[Zu ht ⟨h0,h1⟩];split<;>omega
 have hC:RelC nodes (YkY l) to (Zo nodes to) (List.replicate nodes (-1)):=by
  refine⟨by rw[Zu ht ht,Tm rfl],λv h0 h1 h2=>?_⟩
  rw[Zu ht ⟨h0,h1⟩]at h2
  by_cases h:v=to
  ·rw[h];exact⟨0,.here⟩
  ·rw[Td h]at h2;exact absurd h2 (Int.lt_irrefl _)
 obtain⟨⟨far,by_⟩,_,hG2,hC2,hcl⟩:=YaS (L:=0) (by omega) hes hp (λ_ _ _=>SD _) (RelC nodes (YkY l) to) (λi e st hi hG h=>Yfm hes hp ht rfl i e st hi hG h) (mes nodes 0 (Zo nodes to)+1) _ _ hG hC (Nat.lt_succ_self _)
 simp only at hG2 hC2 hcl
 obtain⟨l1,l2,hlo,hhi,htop⟩:=hG2
 simp only at l1 l2 hlo hhi htop
 refine⟨far,l1,hC2.s0,λv h0 h1=>⟨hlo v h0 h1,htop v h0 h1⟩,λv h0 h1 hne hlt=>?_,λa ha hlt=>?_⟩
 ·obtain⟨n,hn2⟩:=hC2.ch v h0 h1 hlt
  cases hn2 with
  |here=>exact absurd rfl hne
  |step _ _ hi htt _ hT _=>
   obtain⟨a,ha,rfl⟩:=TG.1 (Tf hi)
   obtain⟨t1,t2⟩:=hT
   exact⟨a,ha,htt,by rw[<-htt];exact t2⟩
 ·rcases MG (Yf far a.2.1+a.2.2) (Yf far a.1)with h|h
  ·exact absurd ⟨show(0:Int)<1 by decide,hlt,h⟩ (hcl ⟨a.2.1,a.1,a.2.2,1⟩ (TG.2 ⟨a,ha,rfl⟩))
  ·exact h
theorem Arcs8.ok(h:Arcs8 nodes l):ArcsOk nodes l:=λa ha=>by
 obtain⟨h1,h2,h3⟩:=h a ha
 exact⟨h1,h2,by omega⟩
theorem Arcs8.sub{m:List Lk}(h:Arcs8 nodes l)(hm:∀a∈m,a∈l):Arcs8 nodes m:=λa ha=>h a (hm a ha)
theorem YcD(hn:nodes<=500)(hl:Arcs8 nodes l)(ht:0<=to/\to<nodes):Dist nodes l to (ZY nodes l to):=by
 obtain⟨far,h⟩:=YhG hn hl ht
 rw[W8 hl.ok h];exact h
section
variable {st:Int->Int->Bool}{w:Int->Int->Int}{l:List Lk}{nodes:Nat}{t:Int}
abbrev Qv(st:Int->Int->Bool)(nodes:Nat)(t u:Int)(ms:List Int):Prop:=PathG st nodes t u (ms++[t])
variable {u:Int}{p:List Int}
theorem Yfh(h:PathG st nodes t u p)(hu:u≠t):∃ms,p=ms++[t]:=by
 induction h with
 |done=>exact absurd rfl hu
 |@step u v r hu hs hv h ih=>
  by_cases hvt:v=t
  ·cases h with
   |done=>exact⟨[],by rw[hvt];rfl⟩
   |step hne=>exact absurd hvt hne
  ·obtain⟨ms,rfl⟩:=ih hvt
   exact⟨v::ms,rfl⟩
theorem Vh{sh:Int->Bool}(hnet:Net3 st w l):∀(ms:List Int) (u:Int),Qv st nodes t u ms->(∀x∈ms,sh x=false)->∃az,Way l sh t u az/\Xl az=ms/\Ze az=keyG w (u::(ms++[t]))
 |[],u,h,_=>by
  cases h with
  |step hu hs hv h=>
   have ha:(u,t,w u t)∈l:=(hnet.iff _ _ _).2 ⟨hs,rfl⟩
   exact⟨[(u,t,w u t)],Way.last (a:=(u,t,w u t)) ha rfl,rfl,by simp[Ze,sumI,keyG]⟩
 |m::ms,u,h,hsh=>by
  cases h with
  |step hu hs hv h=>
   obtain⟨az,h1,h2,h3⟩:=Vh hnet ms m h λx hx=>hsh x (TB _ hx)
   have ha:(u,m,w u m)∈l:=(hnet.iff _ _ _).2 ⟨hs,rfl⟩
   refine⟨(u,m,w u m)::az,Way.step (a:=(u,m,w u m)) ha (hsh m TA) h1,by rw[h1.inner_cons,h2],?_⟩
   unfold Ze at h3⊢
   rw[YO,h3]
   simp[keyG]
variable {sh:Int->Bool}{az:List Lk}
theorem Uy(hnet:Net3 st w l)(hl:Arcs8 nodes l)(hto:sh t=true)(h:Way l sh t u az)(hu:u≠t):Qv st nodes t u (Xl az)/\Ze az=keyG w (u::(Xl az++[t])):=by
 induction h with
 |@last a ha ht=>
  obtain⟨a1,a2,a3⟩:=a
  simp only at ht hu⊢
  subst ht
  obtain⟨hs,hc⟩:=(hnet.iff _ _ _).1 ha
  refine⟨.step hu hs (hl _ ha).2.1 .done,?_⟩
  show Ze [(a1,a2,a3)]=keyG w [a1,a2]
  simp[Ze,sumI,keyG,hc]
 |@step a az ha hs h ih=>
  obtain⟨a1,a2,a3⟩:=a
  simp only at hs hu h ih⊢
  have hne:a2≠t:=λe=>by rw[e,hto]at hs;cases hs
  obtain⟨i1,i2⟩:=ih hne
  obtain⟨hg,hc⟩:=(hnet.iff _ _ _).1 ha
  rw[h.inner_cons]
  refine⟨.step hu hg (hl _ ha).2.1 i1,?_⟩
  unfold Ze at i2⊢
  rw[YO,i2]
  simp[keyG,hc]
theorem Yfw(h:Way l sh t u az):∀a∈az,a.2.1=t\/a.2.1∈Xl az:=by
 induction h with
 |last ha ht=>intro a ha2;obtain rfl:=TJ.1 ha2;exact .inl ht
 |@step a az ha hs h ih=>
  intro b hb
  rw[h.inner_cons]
  rcases TN.1 hb with rfl|hb
  ·exact .inr TA
  ·rcases ih b hb with h1|h1
   ·exact .inl h1
   ·exact .inr (TB _ h1)
theorem OO(h:Way l sh t u az):az.map (λa=>a.1)=u::Xl az:=by
 obtain⟨a,az',rfl,rfl⟩:=h.cons_
 rfl
theorem PathG.mono{st2:Int->Int->Bool}(h:PathG st nodes t u p)(hs:∀x y,x=u\/x∈p->y∈p->st x y=true->st2 x y=true):PathG st2 nodes t u p:=by
 induction h with
 |done=>exact .done
 |@step u v r hu hst hv h ih=>
  refine .step hu (hs u v (.inl rfl) TA hst) hv (ih λx y hx hy hxy=>hs x y ?_ (TB _ hy) hxy)
  rcases hx with rfl|hx
  ·exact .inr TA
  ·exact .inr (TB _ hx)
theorem PathG.append{v:Int}{q:List Int}(h:PathG st nodes t u (p++v::q)):PathG st nodes t v q:=by
 induction p generalizing u with
 |nil=>cases h with|step _ _ _ h=>exact h
 |cons x p ih=>cases h with|step _ _ _ h=>exact ih h
end
end Go.Rt
namespace Go.Proofs.YtaholidehobiiaaGreatDoor
open Go.RowKit Go.Eng Go.Nw Go.Rt
def XC(n:Net)(u v:Int):Int:=QZ n u v+1
variable {n:Net}
theorem Yng(h:Ok n){u v c:Int}:(u,v,c)∈YS n↔YA n u v=true/\c=QZ n u v+1:=by
 unfold YS
 rw[Oj]
 constructor
 ·rintro⟨i,hi,hu,he⟩
  unfold WX at he
  simp only[Prod.mk.injEq]at he
  obtain⟨rfl,rfl,rfl⟩:=he
  rw[UB h hi]at hu
  refine⟨hu,?_⟩
  unfold QZ
  rw[OE h hi,RZ]
 ·rintro⟨hg,rfl⟩
  have hf:=UZ hg
  have hl:=ZA hf
  obtain⟨e1,e2⟩:=UW hf
  refine⟨(Yw n u v).toNat,hl,?_,?_⟩
  ·rw[UB h hl,e1,e2];exact hg
  ·unfold WX QZ;rw[e1,e2]
theorem net0(h:Ok n):Net3 (YA n) (XC n) (YS n):=⟨λu v c=>Yng h,λu v _=>by have:=Q0 h u v;unfold XC;omega⟩
theorem Ycq(h:Ok n):Arcs8 n.nodes.toNat (YS n):=by
 intro a ha
 obtain⟨i,hi,_,rfl⟩:=Oj.1 ha
 have hl:=h.lk i hi
 have h1:=hl.f0;have h2:=hl.f1;have h3:=hl.t0;have h4:=hl.t1;have h5:=hl.l0;have h6:=hl.l1
 unfold WX
 simp only
 omega
theorem O9{n:Net}(h:Ok n):∀k,k<=n.links.length->(Zw n k).Nodup
 |0,_=>by simp[Zw]
 |k+1,hk=>by
  have ih:=O9 h k (by omega)
  cases hu:ZD n k with
  |false=>rw[Yas hu];exact ih
  |true=>
   rw[O8 hu]
   refine Ri.2 ⟨ih,by simp,λa ha b hb=>?_⟩
   obtain rfl:=TJ.1 hb
   intro e
   obtain⟨i,hi,_,he⟩:=Oj.1 (e▸ha)
   unfold WX at he
   simp only[Prod.mk.injEq]at he
   have h1:=OE h (i:=i) (by omega)
   have h2:=OE h (i:=k) (by omega)
   rw[he.1,he.2.1,h2]at h1
   omega
def rt(s t:Int)(ms:List Int):List Int:=s::(ms++[t])
structure IsRt(n:Net)(s t:Int)(ms:List Int):Prop where
 path:Qv (YA n) n.nodes.toNat t s ms
 nd:(rt s t ms).Nodup
variable {s t:Int}{ms:List Int}
theorem YbB(h:(rt s t ms).Nodup):s≠t/\s∉ms/\t∉ms/\ms.Nodup:=by
 unfold rt at h
 obtain⟨h1,h2⟩:=SH.1 h
 obtain⟨h3,_,h4⟩:=Ri.1 h2
 refine⟨λe=>h1 (by rw[e];simp),λe=>h1 (Ss _ e),λe=>h4 t e t (by simp) rfl,h3⟩
theorem YlI(h1:s≠t)(h2:s∉ms)(h3:t∉ms)(h4:ms.Nodup):(rt s t ms).Nodup:=by
 unfold rt
 refine SH.2 ⟨λh=>?_,Ri.2 ⟨h4,by simp,λa ha b hb=>?_⟩⟩
 ·rcases TT.1 h with h|h
  ·exact h2 h
  ·exact h1 (TJ.1 h)
 ·obtain rfl:=TJ.1 hb
  exactλe=>h3 (e▸ha)
theorem Yks(s t:Int)(ms:List Int):(rt s t ms).length=ms.length+2:=by simp[rt]
theorem Ykr{p q:List Int}(h:rt s t p=rt s t q):p=q:=by
 unfold rt at h
 have:=(List.cons.inj h).2
 exact List.append_cancel_right this
structure Two(n:Net)(s t:Int)(mp mq:List Int):Prop where
 p:IsRt n s t mp
 q:IsRt n s t mq
 ne:mp≠mq
 dis:∀x∈mp,x∉mq
theorem Two.symm{mp mq:List Int}(h:Two n s t mp mq):Two n s t mq mp:=⟨h.q,h.p,NZ h.ne,λx hx hy=>h.dis x hy hx⟩
def key(n:Net)(s t:Int)(ms:List Int):Int:=keyG (XC n) (rt s t ms)
theorem YiQ(a b to:Int)(closed:Int->Bool)(x:Int):YZ a b to closed x=false↔(x≠a/\x≠b/\x≠to)/\closed x=false:=by
 unfold YZ
 rw[Bool.or_eq_false_iff,Rl]
 constructor
 ·rintro⟨h1,h2⟩;exact⟨⟨λh=>h1 (.inl h),λh=>h1 (.inr (.inl h)),λh=>h1 (.inr (.inr h))⟩,h2⟩
 ·rintro⟨⟨h1,h2,h3⟩,h4⟩;exact⟨by rintro(h|h|h);exact h1 h;exact h2 h;exact h3 h,h4⟩
theorem YnP(hok:Ok n)(hs:0<=s/\s<n.nodes)(ht:0<=t/\t<n.nodes)(hst:s≠t):∃r,Ui 100000 n.nodes.toNat (YS n) s s t (λ_=>false)=some r/\((r.2.1=true/\(∃L π,YbS n.nodes.toNat (YS n) s s t r.1 (YZ s s t (λ_=>false)) r.2.2 L π)/\(∃mp mq,Two n s t mp mq/\key n s t mp+key n s t mq=r.1)/\∀mp mq,Two n s t mp mq->r.1<=key n s t mp+key n s t mq)\/(r.2.1=false/\∀mp mq,¬Two n s t mp mq)):=by
 have hn0:=hok.n0
 have hn1:=hok.n1
 have hnet:=net0 hok
 have h8:=Ycq hok
 have hsh:∀x,YZ s s t (λ_=>false) x=false↔x≠s/\x≠t:=λx=>by rw[YiQ];simp
 have hto:YZ s s t (λ_=>false) t=true:=by unfold YZ;simp
 have hm:2*n.nodes.toNat*(48*n.nodes.toNat+1)<100000:=by
  have h1:n.nodes.toNat<=32:=by omega
  have h2:2*n.nodes.toNat*(48*n.nodes.toNat+1)<=64*1537:=Nat.mul_le_mul (by omega) (by omega)
  omega
 obtain⟨r,hr,h⟩:=Yhr (closed:=λ_=>false) (fuel:=100000) ⟨by omega,by omega⟩ h8 (O9 hok n.links.length (TL _)) ⟨hs.1,by omega⟩ ⟨hs.1,by omega⟩ ⟨ht.1,by omega⟩ hm
 refine⟨r,hr,?_⟩
 --two routes are two ways
 have hto2:∀mp mq,Two n s t mp mq->∃ps qs,Cand (YS n) (YZ s s t (λ_=>false)) s s t ps qs/\Ze ps+Ze qs=key n s t mp+key n s t mq:=by
  intro mp mq h2
  obtain⟨_,p1,p2,p3⟩:=YbB h2.p.nd
  obtain⟨_,q1,q2,q3⟩:=YbB h2.q.nd
  obtain⟨ps,a1,a2,a3⟩:=Vh (sh:=YZ s s t (λ_=>false)) hnet mp s h2.p.path λx hx=>(hsh x).2 ⟨λe=>p1 (e▸hx),λe=>p2 (e▸hx)⟩
  obtain⟨qs,b1,b2,b3⟩:=Vh (sh:=YZ s s t (λ_=>false)) hnet mq s h2.q.path λx hx=>(hsh x).2 ⟨λe=>q1 (e▸hx),λe=>q2 (e▸hx)⟩
  have hnn:(Xl ps++Xl qs).Nodup:=by
   rw[a2,b2]
   exact Ri.2 ⟨p3,q3,λa ha b hb e=>h2.dis a ha (e▸hb)⟩
  refine⟨ps,qs,⟨a1,b1,?_,hnn⟩,by rw[a3,b3];rfl⟩
  --the arcs are not the same
  have hta:=OO a1
  have htb:=OO b1
  rw[a2]at hta
  rw[b2]at htb
  have n1:ps.Nodup:=JE (f:=λa:Lk=>a.1) (by rw[hta];exact SH.2 ⟨p1,p3⟩)
  have n2:qs.Nodup:=JE (f:=λa:Lk=>a.1) (by rw[htb];exact SH.2 ⟨q1,q3⟩)
  refine Ri.2 ⟨n1,n2,λa ha b hb e=>?_⟩
  subst e
  have e1:a.1∈s::mp:=by rw[<-hta];exact TG.2 ⟨a,ha,rfl⟩
  have e2:a.1∈s::mq:=by rw[<-htb];exact TG.2 ⟨a,hb,rfl⟩
  have e3:=Yfw a1 a ha
  have e4:=Yfw b1 a hb
  rw[a2]at e3
  rw[b2]at e4
  have hhead:a.2.1=t:=by
   rcases e3 with h|h
   ·exact h
   ·rcases e4 with h'|h'
    ·exact h'
    ·exact absurd h' (h2.dis _ h)
  --an arc to t is the last one of a way
  have hfirst:∀{u:Int}{cs:List Lk}{ms:List Int},Rt.Way (YS n) (YZ s s t (λ_=>false)) t u cs->Xl cs=ms->u∉ms->ms.Nodup->a∈cs->a.1=u->a.2.1=t->ms=[]:=by
   intro u cs ms hw hi hu hnd hac hau hat
   cases hw with
   |last _ _=>rw[<-hi];rfl
   |@step c cs hc hs2 hw=>
    rcases TN.1 hac with rfl|hac
    ·rw[hat,hto]at hs2;cases hs2
    ·exfalso
     apply hu
     rw[<-hi]
     have:Xl (c::cs)=cs.map λa=>a.1:=rfl
     rw[this,<-hau]
     exact TG.2 ⟨a,hac,rfl⟩
  rcases TN.1 e1 with h3|h3
  ·have m1:=hfirst a1 a2 p1 p3 ha h3 hhead
   have m2:=hfirst b1 b2 q1 q3 hb h3 hhead
   exact h2.ne (m1.trans m2.symm)
  ·rcases TN.1 e2 with h4|h4
   ·rw[h4]at h3;exact p1 h3
   ·exact h2.dis _ h3 h4
 have hfrom:∀ps qs,Cand (YS n) (YZ s s t (λ_=>false)) s s t ps qs->Two n s t (Xl ps) (Xl qs)/\Ze ps+Ze qs=key n s t (Xl ps)+key n s t (Xl qs):=by
  intro ps qs hc
  obtain⟨p1,p2⟩:=Uy hnet h8 hto hc.p hst
  obtain⟨q1,q2⟩:=Uy hnet h8 hto hc.q hst
  obtain⟨n1,n2,n3⟩:=Ri.1 hc.nodes
  have hps:=hc.p.open_
  have hqs:=hc.q.open_
  have hrp:(rt s t (Xl ps)).Nodup:=YlI hst (λh=>((hsh s).1 (hps s h)).1 rfl) (λh=>((hsh t).1 (hps t h)).2 rfl) n1
  have hrq:(rt s t (Xl qs)).Nodup:=YlI hst (λh=>((hsh s).1 (hqs s h)).1 rfl) (λh=>((hsh t).1 (hqs t h)).2 rfl) n2
  refine⟨⟨⟨p1,hrp⟩,⟨q1,hrq⟩,λe=>?_,λx hx hy=>n3 x hx x hy rfl⟩,by rw[p2,q2];rfl⟩
  cases hia:Xl ps with
  |cons x xs=>
   rw[<-e,hia]at n3
   exact n3 x TA x TA rfl
  |nil=>
   rw[hia]at e p1
   rw[<-e]at q1
   have hone:∀{cs:List Lk},Rt.Way (YS n) (YZ s s t (λ_=>false)) t s cs->Xl cs=[]->cs=[(s,t,XC n s t)]:=by
    intro cs hw hi
    generalize hu:s=u at hw
    cases hw with
    |@last a ha hat=>
     obtain⟨a1,a2,a3⟩:=a
     simp only at hat hu
     subst hat hu
     rw[((hnet.iff _ _ _).1 ha).2]
    |step _ _ hw=>
     rw[hw.inner_cons]at hi
     cases hi
   have ha:=hone hc.p hia
   have hb:=hone hc.q e.symm
   have:=(Ri.1 hc.arcs).2.2 (s,t,XC n s t) (by rw[ha];simp) (s,t,XC n s t) (by rw[hb];simp)
   exact this rfl
 rcases h with⟨h1,h2,⟨ps,qs,hc,he⟩,h4⟩|⟨h1,h2⟩
 ·obtain⟨k1,k2⟩:=hfrom ps qs hc
  refine .inl ⟨h1,h2,⟨_,_,k1,by rw[<-k2];exact he⟩,λmp mq hm=>?_⟩
  obtain⟨ps,qs,hc,he⟩:=hto2 mp mq hm
  rw[<-he]
  exact h4 ps qs hc
 ·refine .inr ⟨h1,λmp mq hm=>?_⟩
  obtain⟨ps,qs,hc,_⟩:=hto2 mp mq hm
  exact h2 ps qs hc
variable {st:Int->Int->Bool}{nodes:Nat}{t u s v:Int}{p mp mq:List Int}
theorem Ydl{st2:Int->Int->Bool}(h:PathG st nodes t u p)(hs:∀x y,st x y=true->st2 x y=true):PathG st2 nodes t u p:=h.mono λx y _ _=>hs x y
theorem Yke(h:PathG st nodes t u p):∀x∈p,∃y,st y x=true:=by
 induction h with
 |done=>exactλx hx=>absurd hx R7
 |@step u v r hu hs hv h ih=>
  intro x hx
  rcases TN.1 hx with rfl|hx
  ·exact⟨u,hs⟩
  ·exact ih x hx
variable {a b:Bool}
theorem VF(h:(a&&b)=true):a=true:=by cases a<;>simp_all
theorem Wf(h:(a&&b)=true):b=true:=by cases a<;>simp_all
variable {n:Net}
theorem Qj(h:Ok n)(g:Lk->Bool):Net3 (λu v=>YA n u v&&g (u,v,XC n u v)) (XC n) ((YS n).filter g):=by
 refine⟨λu v c=>?_,λu v hs=>(net0 h).pos u v (VF hs)⟩
 rw[Rr]
 constructor
 ·rintro⟨h1,h2⟩
  obtain⟨hg,rfl⟩:=((net0 h).iff u v c).1 h1
  exact⟨by rw[hg,h2];rfl,rfl⟩
 ·rintro⟨h1,rfl⟩
  exact⟨((net0 h).iff u v _).2 ⟨VF h1,rfl⟩,Wf h1⟩
def Zx(s t:Int)(mp:List Int)(a:Lk):Bool:=!(decide (a.1∈mp)||decide (a.2.1∈mp))&&!(decide (mp=[])&&decide (a.1=s/\a.2.1=t))
theorem YlF{l:List Lk}{g:Lk->Bool}(k:Nat)(hk:k=2↔mp=[])(hg:∀a,g a=!(decide (a.1∈mp)||decide (a.2.1∈mp))):((if k=2 then UF s t l else l).filter g)=l.filter (Zx s t mp):=by
 by_cases h:mp=[]
 ·rw[Tm (hk.2 h)]
  unfold UF
  rw[NR]
  apply Ni
  intro a _
  rw[hg];unfold Zx;rw[Tc h,RS]
 ·rw[Td (λe=>h (hk.1 e))]
  apply Ni
  intro a _
  rw[hg];unfold Zx;rw[Tn h,SI,Bool.not_false,Bool.and_true]
theorem YpX(s t:Int)(mp:List Int):(rt s t mp).length=2↔mp=[]:=by
 rw[Yks]
 constructor
 ·intro h;exact RJ (by omega)
 ·rintro rfl;rfl
theorem YlU(s t:Int)(mp:List Int):Ybr (rt s t mp)=t:=by
 unfold Ybr rt
 rw[show(s::(mp++[t])).length-1=mp.length+1 by simp,List.getD_cons_succ,Tt,Ro (TL _),Nb];rfl
theorem Ypo(l:List Lk)(s t:Int)(mp:List Int):V1 l s t (rt s t mp)=l.filter (Zx s t mp):=by
 unfold V1
 apply YlF _ (YpX s t mp)
 intro a
 have:midP (rt s t mp)=mp:=by
  unfold midP
  rw[Yks,SR]
  unfold rt
  rw[List.drop_one,List.tail_cons,List.take_left']
  rfl
 rw[this]
theorem Ypn(l:List Lk)(h:t∉mp):Od l (rt s t mp) t=l.filter (Zx s t mp):=by
 unfold Od
 apply YlF _ (YpX s t mp)
 intro a
 have:∀v,WR (rt s t mp) t v=decide (v∈mp):=λv=>by
  unfold WR Jn rt
  rw[List.drop_one,List.tail_cons]
  by_cases e:v=t
  ·subst e;rw[Tn h];simp
  ·simp[e]
 rw[this,this]
def stA(n:Net)(s t:Int)(mp:List Int)(u v:Int):Bool:=YA n u v&&Zx s t mp (u,v,XC n u v)
theorem UL{c:Int}:Zx s t mp (u,v,c)=true↔(u∉mp/\v∉mp)/\¬(mp=[]/\u=s/\v=t):=by
 unfold Zx
 simp only[To,Si,Bool.or_eq_false_iff,Rl]
 constructor
 ·rintro⟨h1,h2⟩
  refine⟨h1,λh3=>?_⟩
  rw[Tc h3.1,Tc h3.2]at h2
  cases h2
 ·rintro⟨h1,h2⟩
  refine⟨h1,?_⟩
  cases h3:(decide (mp=[])&&decide (u=s/\v=t))with
  |false=>rfl
  |true=>exact absurd ⟨Rm (VF h3),Rm (Wf h3)⟩ h2
theorem Wv(hp:IsRt n s t mp):(Qv (stA n s t mp) n.nodes.toNat t s mq/\(rt s t mq).Nodup)↔Two n s t mp mq:=by
 obtain⟨hst,p1,p2,p3⟩:=YbB hp.nd
 constructor
 ·rintro⟨h,hnd⟩
  have hd:∀x∈mq,x∉mp:=λx hx=>by
   obtain⟨y,hy⟩:=Yke h x (Ss _ hx)
   exact(UL.1 (Wf hy)).1.2
  refine⟨hp,⟨Ydl h λx y hxy=>VF hxy,hnd⟩,λe=>?_,λx hx hy=>hd x hy hx⟩
  subst e
  cases mp with
  |cons x xs=>exact hd x TA TA
  |nil=>
   cases h with
   |step _ hs _ _=>exact(UL.1 (Wf hs)).2 ⟨rfl,rfl,rfl⟩
 ·intro h2
  refine⟨?_,h2.q.nd⟩
  obtain⟨_,q1,q2,q3⟩:=YbB h2.q.nd
  have hx:∀x,x=s\/x∈mq++[t]->x∉mp:=λx hx hm=>by
   rcases hx with rfl|hx
   ·exact p1 hm
   ·rcases TT.1 hx with h|h
    ·exact h2.dis x hm h
    ·obtain rfl:=TJ.1 h;exact p2 hm
  by_cases he:mp=[]
  ·cases mq with
   |nil=>exact absurd he h2.ne
   |cons m ms=>
    have hpa:=h2.q.path
    cases hpa with
    |step hu hs hv h=>
     have hmt:m≠t:=λe=>q2 (by rw[e];exact TA)
     refine .step hu ?_ hv (h.mono λx y hx2 hy hxy=>?_)
     ·unfold stA
      rw[hs]
      exact UL.2 ⟨⟨hx s (.inl rfl),hx m (.inr TA)⟩,λh=>hmt h.2.2⟩
     ·unfold stA
      rw[hxy]
      have hxm:x∈(m::ms)++[t]:=by
       rcases hx2 with rfl|h
       ·exact TA
       ·exact TB _ h
      refine UL.2 ⟨⟨hx x (.inr hxm),hx y (.inr (TB _ hy))⟩,λh=>?_⟩
      rw[h.2.1]at hxm
      rcases TT.1 hxm with h|h
      ·exact q1 h
      ·exact hst (TJ.1 h)
  ·refine h2.q.path.mono λx y hx2 hy hxy=>?_
   unfold stA
   rw[hxy]
   exact UL.2 ⟨⟨hx x hx2,hx y (.inr hy)⟩,λh=>he h.1⟩
theorem YlT(hok:Ok n)(hs:0<=s/\s<n.nodes)(hp:IsRt n s t mp):mp.length+2<=n.nodes.toNat:=by
 have hn0:=hok.n0
 have:=Rt.nodup_len n.nodes.toNat _ hp.nd λx hx=>by
  unfold rt at hx
  rcases TN.1 hx with rfl|hx
  ·omega
  ·exact Yiu hp.path x hx
 rwa [Yks]at this
theorem Yfe(hok:Ok n)(hs:0<=s/\s<n.nodes)(ht:0<=t/\t<n.nodes)(hp:IsRt n s t mp):
 (Yf (ZY n.nodes.toNat ((YS n).filter (Zx s t mp)) t) s<YK/\∃mq,Two n s t mp mq/\ZM n.nodes.toNat (YS n) s t (rt s t mp)=rt s t mq/\key n s t mq=Yf (ZY n.nodes.toNat ((YS n).filter (Zx s t mp)) t) s/\FirstMin (keyG (XC n)) (Zr (stA n s t mp) n.nodes.toNat t (n.nodes.toNat-1) [s]) (rt s t mq))\/(YK<=Yf (ZY n.nodes.toNat ((YS n).filter (Zx s t mp)) t) s/\∀mq,¬Two n s t mp mq):=by
 have hn0:=hok.n0
 have hn1:=hok.n1
 obtain⟨hst,_⟩:=YbB hp.nd
 have hnet:Net3 (stA n s t mp) (XC n) ((YS n).filter (Zx s t mp)):=Qj hok _
 have h8:Arcs8 n.nodes.toNat ((YS n).filter (Zx s t mp)):=(Ycq hok).sub λa ha=>(Rr.1 ha).1
 have hd:=YcD (to:=t) (by omega) h8 ⟨ht.1,by omega⟩
 unfold ZM
 rw[Ypo]
 obtain⟨far,hfar⟩:∃far,ZY n.nodes.toNat ((YS n).filter (Zx s t mp)) t=far:=⟨_,rfl⟩
 rw[hfar]at hd⊢
 rcases MG (Yf far s) YK with hlt|hge
 ·left
  refine⟨hlt,?_⟩
  obtain⟨h1,h2⟩:=YnX hnet h8.ok hd ⟨ht.1,by omega⟩ (λu v hg=>by
   have:=h8 (u,v,XC n u v) ((hnet.iff u v _).2 ⟨hg,rfl⟩)
   exact this.2.1) (by omega) (Yf far s).toNat (n.nodes.toNat-1) [s] s (by simp) (by simp) rfl hs.1 (by omega) hlt (TL _) (λx hx=>by obtain rfl:=TJ.1 hx;exact⟨⟨hs.1,by omega⟩,SD _⟩) (by simp only[TP];omega)
  have hmem:=h1.mem
  obtain⟨p,hpe,hpath⟩:=Wa _ _ _ hmem
  have hnd:=Qu _ _ _ (by simp) hmem
  obtain⟨mq,rfl⟩:=Yfh hpath hst
  rw[hpe]at h1 h2 hnd
  have hwf:wayF ((YS n).filter (Zx s t mp)) far s t=rt s t mq:=by
   unfold wayF
   rw[Td (by omega)]
   exact hpe
  refine⟨mq,(Wv hp).1 ⟨hpath,hnd⟩,hwf,?_,h1⟩
  have:keyG (XC n) [s]=0:=rfl
  have h3:key n s t mq=keyG (XC n) [s]+Yf far s:=h2
  omega
 ·right
  refine⟨hge,λmq h2=>?_⟩
  have hl:=YlT hok hs h2.q
  have:=(Ydk hnet hd ((Wv hp).2 h2).1 (by rw[Tj,TP];omega)).2
  omega
theorem Yis(hok:Ok n)(hs:0<=s/\s<n.nodes)(ht:0<=t/\t<n.nodes)(h2:Two n s t mp mq):Yf (ZY n.nodes.toNat ((YS n).filter (Zx s t mp)) t) s<=key n s t mq:=by
 have hn0:=hok.n0
 have hn1:=hok.n1
 have hnet:Net3 (stA n s t mp) (XC n) ((YS n).filter (Zx s t mp)):=Qj hok _
 have h8:Arcs8 n.nodes.toNat ((YS n).filter (Zx s t mp)):=(Ycq hok).sub λa ha=>(Rr.1 ha).1
 have hd:=YcD (to:=t) (by omega) h8 ⟨ht.1,by omega⟩
 have hl:=YlT hok hs h2.q
 exact(Ydk hnet hd ((Wv h2.p).2 h2).1 (by rw[Tj,TP];omega)).1
theorem YpR(hok:Ok n)(hs:0<=s/\s<n.nodes)(ht:0<=t/\t<n.nodes)(hp:IsRt n s t mp)(fuel:Nat):∃c,O0 fuel n.nodes.toNat (YS n) (rt s t mp) t=some c/\((c.2=true/\(∃mq,Two n s t mp mq/\key n s t mq=c.1)/\∀mq,Two n s t mp mq->c.1<=key n s t mq)\/(c.2=false/\∀mq,¬Two n s t mp mq)):=by
 obtain⟨_,_,p2,_⟩:=YbB hp.nd
 unfold O0
 rw[Tm (YlU s t mp),Ypn _ p2]
 refine⟨_,rfl,?_⟩
 have hh:OX (rt s t mp)=s:=rfl
 rw[hh]
 rcases Yfe hok hs ht hp with⟨h1,mq,h2,_,h3,_⟩|⟨h1,h2⟩
 ·exact .inl ⟨Tc h1,⟨mq,h2,h3⟩,λmq h2=>Yis hok hs ht h2⟩
 ·exact .inr ⟨Tn (by omega),h2⟩
theorem YpS(hok:Ok n){ms:List Int}(hs:0<=s/\s<n.nodes)(ht:0<=t/\t<n.nodes)(hv:0<=v/\v<n.nodes)(hst:s≠t)(hvt:v≠t)(htm:t∉ms)(hnd:(s::(ms++[v])).Nodup)(hext:∀p,PathG (YA n) n.nodes.toNat t v p->PathG (YA n) n.nodes.toNat t s (ms++v::p)):
 ∃c,O0 100000 n.nodes.toNat (YS n) (s::(ms++[v])) t=some c/\((c.2=true/\(∃x mq,Two n s t (ms++v::x) mq/\keyG (XC n) (v::(x++[t]))+key n s t mq=c.1)/\∀x mq,Two n s t (ms++v::x) mq->c.1<=keyG (XC n) (v::(x++[t]))+key n s t mq)\/(c.2=false/\∀x mq,¬Two n s t (ms++v::x) mq)):=by
 have hn0:=hok.n0
 have hn1:=hok.n1
 obtain⟨pre,hpre⟩:∃pre,s::(ms++[v])=pre:=⟨_,rfl⟩
 have hlast:Ybr pre=v:=by rw[<-hpre];exact YlU s v ms
 have hhead:OX pre=s:=by rw[<-hpre];rfl
 have hshP:∀x,Jn pre x=decide (x∈ms++[v]):=λx=>by rw[<-hpre];rfl
 obtain⟨hnd1,hnd2⟩:=SH.1 hnd
 obtain⟨hnd3,_,hnd4⟩:=Ri.1 hnd2
 have hvm:v∉ms:=λh=>hnd4 v h v (by simp) rfl
 have hsv:s≠v:=λe=>hnd1 (by rw[e];simp)
 have hsm:s∉ms:=λe=>hnd1 (Ss _ e)
 unfold O0
 rw[hpre,hlast,hhead,Td hvt]
 have hbad:∀u x c:Int,(!badB pre (u,x,c))=true↔x∉ms++[v]/\(u∈ms++[v]->u=v)/\x≠s:=λu x c=>by
  unfold badB
  rw[hlast,hhead,hshP,hshP]
  simp only[Si,Bool.or_eq_false_iff,Rl,Bool.and_eq_false_iff,ne_eq,RL]
  constructor
  ·rintro⟨⟨h1,h2⟩,h3⟩
   refine⟨h1,λh4=>?_,h3⟩
   rcases h2 with h2|h2
   ·exact absurd h4 h2
   ·exact h2
  ·rintro⟨h1,h2,h3⟩
   refine⟨⟨h1,?_⟩,h3⟩
   by_cases h4:u∈ms++[v]
   ·exact .inr (h2 h4)
   ·exact .inl h4
 have hnet:Net3 (λu x=>YA n u x&&!badB pre (u,x,XC n u x)) (XC n) (Oe (YS n) pre):=Qj hok λa=>!badB pre a
 have h8:Arcs8 n.nodes.toNat (Oe (YS n) pre):=(Ycq hok).sub λa ha=>(Rr.1 ha).1
 have hlnd:(Oe (YS n) pre).Nodup:=(NB (l:=YS n)).nodup (O9 hok n.links.length (TL _))
 have hsh:∀x,YZ v s t (Jn pre) x=false↔(x≠v/\x≠s/\x≠t)/\x∉ms++[v]:=λx=>by rw[YiQ,hshP,Rl]
 have hto:YZ v s t (Jn pre) t=true:=by unfold YZ;simp
 have hm:2*n.nodes.toNat*(48*n.nodes.toNat+1)<100000:=by
  have h1:n.nodes.toNat<=32:=by omega
  have h2:2*n.nodes.toNat*(48*n.nodes.toNat+1)<=64*1537:=Nat.mul_le_mul (by omega) (by omega)
  omega
 obtain⟨r,hr,h⟩:=Yhr (closed:=Jn pre) (fuel:=100000) ⟨by omega,by omega⟩ h8 hlnd (a:=v) (b:=s) (to:=t) ⟨hv.1,by omega⟩ ⟨hs.1,by omega⟩ ⟨ht.1,by omega⟩ hm
 rw[hr]
 refine⟨_,rfl,?_⟩
 have hto2:∀x mq,Two n s t (ms++v::x) mq->∃ps qs,Cand (Oe (YS n) pre) (YZ v s t (Jn pre)) v s t ps qs/\Ze ps+Ze qs=keyG (XC n) (v::(x++[t]))+key n s t mq:=by
  intro x mq h2
  obtain⟨_,p1,p2,p3⟩:=YbB h2.p.nd
  obtain⟨_,q1,q2,q3⟩:=YbB h2.q.nd
  obtain⟨p4,p5,p6⟩:=Ri.1 p3
  obtain⟨p7,p8⟩:=SH.1 p5
  have hx1:∀y∈x,(y≠v/\y≠s/\y≠t)/\y∉ms++[v]:=λy hy=>by
   have h1:y≠v:=λe=>p7 (e▸hy)
   have h2:y∈ms++v::x:=by simp[hy]
   refine⟨⟨h1,λe=>p1 (e▸h2),λe=>p2 (e▸h2)⟩,λh=>?_⟩
   rcases TT.1 h with h|h
   ·exact p6 y h y (TB _ hy) rfl
   ·exact h1 (TJ.1 h)
  have hq1:∀y∈mq,(y≠v/\y≠s/\y≠t)/\y∉ms++[v]:=λy hy=>by
   refine⟨⟨λe=>h2.dis v (by simp) (e▸hy),λe=>q1 (e▸hy),λe=>q2 (e▸hy)⟩,λh=>?_⟩
   rcases TT.1 h with h|h
   ·exact h2.dis y (by simp[h]) hy
   ·obtain rfl:=TJ.1 h
    exact h2.dis y (by simp) hy
  have htv:t∉ms++[v]:=λh=>by
   rcases TT.1 h with h|h
   ·exact htm h
   ·exact hvt (TJ.1 h).symm
  have hend:∀{z:List Int},(∀y∈z,(y≠v/\y≠s/\y≠t)/\y∉ms++[v])->∀y∈z++[t],y∉ms++[v]/\y≠s:=λhz y hy=>by
   rcases TT.1 hy with h|h
   ·exact⟨(hz y h).2,(hz y h).1.2.1⟩
   ·obtain rfl:=TJ.1 h
    exact⟨htv,NZ hst⟩
  have hpath:Qv (YA n) n.nodes.toNat t v x:=by
   have:=h2.p.path
   unfold Qv at this
   rw[TX,TC]at this
   exact PathG.append this
  obtain⟨ps,a1,a2,a3⟩:=Vh (sh:=YZ v s t (Jn pre)) hnet x v (hpath.mono λy z hy hz hyz=>by
   rw[hyz,RS,hbad]
   refine⟨(hend hx1 z hz).1,λh=>?_,(hend hx1 z hz).2⟩
   rcases hy with rfl|hy
   ·rfl
   ·exact absurd h (hend hx1 y hy).1) λy hy=>(hsh y).2 (hx1 y hy)
  obtain⟨qs,b1,b2,b3⟩:=Vh (sh:=YZ v s t (Jn pre)) hnet mq s (h2.q.path.mono λy z hy hz hyz=>by
   rw[hyz,RS,hbad]
   refine⟨(hend hq1 z hz).1,λhin4=>?_,(hend hq1 z hz).2⟩
   rcases hy with hy|hy
   ·rw[hy]at hin4;exact absurd hin4 hnd1
   ·exact absurd hin4 (hend hq1 y hy).1) λy hy=>(hsh y).2 (hq1 y hy)
  have hnn:(x++mq).Nodup:=Ri.2 ⟨p8,q3,λa ha b hb e=>h2.dis a (by simp[ha]) (e▸hb)⟩
  refine⟨ps,qs,⟨a1,b1,?_,by rw[a2,b2];exact hnn⟩,by rw[a3,b3];rfl⟩
  apply JE (f:=λa:Lk=>a.1)
  rw[T8,OO a1,OO b1,a2,b2]
  refine Ri.2 ⟨p5,SH.2 ⟨q1,q3⟩,λa ha b hb e=>?_⟩
  subst e
  have ha2:a∈ms++v::x:=Rb _ ha
  rcases TN.1 hb with rfl|hb
  ·exact p1 ha2
  ·exact h2.dis a ha2 hb
 have hfrom:∀ps qs,Cand (Oe (YS n) pre) (YZ v s t (Jn pre)) v s t ps qs->Two n s t (ms++v::Xl ps) (Xl qs)/\Ze ps+Ze qs=keyG (XC n) (v::(Xl ps++[t]))+key n s t (Xl qs):=by
  intro ps qs hc
  obtain⟨p1,p2⟩:=Uy hnet h8 hto hc.p hvt
  obtain⟨q1,q2⟩:=Uy hnet h8 hto hc.q hst
  obtain⟨n1,n2,n3⟩:=Ri.1 hc.nodes
  have hps:=λx hx=>(hsh x).1 (hc.p.open_ x hx)
  have hqs:=λx hx=>(hsh x).1 (hc.q.open_ x hx)
  have hgp:Qv (YA n) n.nodes.toNat t s (ms++v::Xl ps):=by
   have:=hext _ (Ydl p1 λx y hxy=>VF hxy)
   unfold Qv
   rw[TX,TC]
   exact this
  have hmpn:(ms++v::Xl ps).Nodup:=Ri.2 ⟨hnd3,SH.2 ⟨λh=>(hps v h).1.1 rfl,n1⟩,λa ha b hb e=>by
   subst e
   rcases TN.1 hb with rfl|hb
   ·exact hvm ha
   ·exact(hps a hb).2 (Ss _ ha)⟩
  have hrp:(rt s t (ms++v::Xl ps)).Nodup:=YlI hst (λh=>by
   rcases TT.1 h with h|h
   ·exact hsm h
   ·rcases TN.1 h with h|h
    ·exact hsv h
    ·exact(hps s h).1.2.1 rfl) (λh=>by
   rcases TT.1 h with h|h
   ·exact htm h
   ·rcases TN.1 h with h|h
    ·exact hvt h.symm
    ·exact(hps t h).1.2.2 rfl) hmpn
  have hrq:(rt s t (Xl qs)).Nodup:=YlI hst (λh=>(hqs s h).1.2.1 rfl) (λh=>(hqs t h).1.2.2 rfl) n2
  refine⟨⟨⟨hgp,hrp⟩,⟨Ydl q1 λx y hxy=>VF hxy,hrq⟩,λe=>?_,λx hx hy=>?_⟩,by rw[p2,q2];rfl⟩
  ·have:v∈Xl qs:=by rw[<-e];simp
   exact(hqs v this).1.1 rfl
  ·rcases TT.1 hx with h|h
   ·exact(hqs x hy).2 (Ss _ h)
   ·rcases TN.1 h with rfl|h
    ·exact(hqs x hy).1.1 rfl
    ·exact n3 x h x hy rfl
 rcases h with⟨h1,_,⟨ps,qs,hc,he⟩,h4⟩|⟨h1,h2⟩
 ·obtain⟨k1,k2⟩:=hfrom ps qs hc
  refine .inl ⟨h1,⟨_,_,k1,by rw[<-k2];exact he⟩,λx mq hm=>?_⟩
  obtain⟨ps,qs,hc,he⟩:=hto2 x mq hm
  rw[<-he]
  exact h4 ps qs hc
 ·refine .inr ⟨h1,λx mq hm=>?_⟩
  obtain⟨ps,qs,hc,_⟩:=hto2 x mq hm
  exact h2 ps qs hc
theorem Yga:∀(r:List Int) {b c:Int}(p q:List Int),b<c->Xd (r++b::p) (r++c::q)=true
 |[],b,c,p,q,h=>by
  show(if b≠c then decide (b<c)else Xd p q)=true
  rw[Tm (by omega)];exact Tc h
 |x::r,b,c,p,q,h=>by
  show(if x≠x then decide (x<x)else Xd (r++b::p) (r++c::q))=true
  rw[Td (λh=>h rfl)];exact Yga r p q h
theorem YbI{st:Int->Int->Bool}{nodes:Nat}{to:Int}:∀(f:Nat) (r:List Int),(Zr st nodes to f r).Pairwise λa b=>Xd a b=true
 |0,r=>by
  unfold Zr
  split
  ·exact List.pairwise_singleton _ _
  ·exact .nil
 |f+1,r=>by
  unfold Zr
  split
  ·exact List.pairwise_singleton _ _
  ·rw[List.pairwise_flatMap]
   refine⟨λb _=>?_,?_⟩
   ·split
    ·exact YbI f _
    ·exact .nil
   ·refine List.Pairwise.imp ?_ (List.pairwise_lt_range (n:=nodes))
    intro b c hbc x hx y hy
    split at hx
    ·split at hy
     ·obtain⟨p,rfl,_⟩:=Wa f _ x hx
      obtain⟨q,rfl,_⟩:=Wa f _ y hy
      rw[TX,TX]
      exact Yga r p q (by omega)
     ·cases hy
    ·cases hx
variable {x:List Int}
theorem YmT{key:List Int->Int}{l:List (List Int)}{y:List Int}(h:FirstMin key l x)(hp:l.Pairwise λa b=>Xd a b=true)(hy:y∈l):key x<=key y/\(key y=key x->y=x\/Xd x y=true):=by
 refine⟨h.le hy,λhe=>?_⟩
 obtain⟨l1,l2,rfl,h1,h2⟩:=h
 rcases TT.1 hy with hy|hy
 ·have:=h1 y hy;omega
 ·rcases TN.1 hy with rfl|hy
  ·exact .inl rfl
  ·obtain⟨_,h4,_⟩:=N3.1 hp
   exact .inr ((Ns.1 h4).1 y hy)
structure Ch(L:List Lk)(at_:Int)(r:List Int)(C:Int->Prop)(st:Int×Int):Prop where
 pos:0<=st.1
 ok:C st.1
 arc:(at_,st.1,st.2)∈L
 out:st.1∉r
theorem YlV{fuel nodes:Nat}{L:List Lk}{t total:Int}{r:List Int}{spent at_:Int}{C:Int->Prop}(hrest:∀a∈L,a.1=at_->a.2.1∉r->∃c,O0 fuel nodes L (r++[a.2.1]) t=some c/\(c.2=true/\spent+a.2.2+c.1=total↔C a.2.1))(h0:∀a∈L,0<=a.2.1):∀(m:List Lk),(∀a∈m,a∈L)->∀st:Int×Int,(st.1= -1\/Ch L at_ r C st)->
 ∃st2,JG fuel nodes L t total r spent at_ m st=some st2/\(st2.1= -1\/Ch L at_ r C st2)/\(0<=st.1->0<=st2.1/\st2.1<=st.1)/\∀a∈m,a.1=at_->a.2.1∉r->C a.2.1->0<=st2.1/\st2.1<=a.2.1
 |[],_,st,hst=>⟨st,rfl,hst,λh=>⟨h,SD _⟩,λa ha=>absurd ha R7⟩
 |a::m,hm,st,hst=>by
  have haL:=hm a TA
  have ih:=YlV hrest h0 m λb hb=>hm b (TB _ hb)
  by_cases hskip:a.1≠at_\/a.2.1∈r\/(0<=st.1/\st.1<a.2.1)
  ·have hs:U7 fuel nodes L t total r spent at_ st a=some st:=by unfold U7;rw[Tm hskip]
   obtain⟨st2,h1,h2,h3,h4⟩:=ih st hst
   refine⟨st2,by unfold JG;rw[hs];exact h1,h2,h3,λb hb e1 e2 e3=>?_⟩
   rcases TN.1 hb with rfl|hb
   ·rcases hskip with h|h|h
    ·exact absurd e1 h
    ·exact absurd h e2
    ·have:=h3 h.1;omega
   ·exact h4 b hb e1 e2 e3
  ·have ha1:a.1=at_:=Np λh=>hskip (.inl h)
   have ha2:a.2.1∉r:=λh=>hskip (.inr (.inl h))
   have ha3:¬(0<=st.1/\st.1<a.2.1):=λh=>hskip (.inr (.inr h))
   obtain⟨c,hc,hiff⟩:=hrest a haL ha1 ha2
   have hs:U7 fuel nodes L t total r spent at_ st a=if c.2=true/\spent+a.2.2+c.1=total then some (a.2.1,a.2.2)else some st:=by unfold U7;rw[Td hskip,hc]
   by_cases hf:c.2=true/\spent+a.2.2+c.1=total
   ·rw[Tm hf]at hs
    have hch:Ch L at_ r C (a.2.1,a.2.2):=⟨h0 a haL,hiff.1 hf,by rw[<-ha1];exact haL,ha2⟩
    obtain⟨st2,h1,h2,h3,h4⟩:=ih (a.2.1,a.2.2) (.inr hch)
    have h5:=h3 hch.pos
    simp only at h5
    refine⟨st2,by unfold JG;rw[hs];exact h1,h2,λh=>⟨h5.1,by omega⟩,λb hb e1 e2 e3=>?_⟩
    rcases TN.1 hb with rfl|hb
    ·exact h5
    ·exact h4 b hb e1 e2 e3
   ·rw[Td hf]at hs
    obtain⟨st2,h1,h2,h3,h4⟩:=ih st hst
    refine⟨st2,by unfold JG;rw[hs];exact h1,h2,h3,λb hb e1 e2 e3=>?_⟩
    rcases TN.1 hb with rfl|hb
    ·exact absurd (hiff.2 e3) hf
    ·exact h4 b hb e1 e2 e3
def inB(n:Net)(s t total:Int)(q:List Int):Prop:=∃mp,q=rt s t mp/\∃mq,Two n s t mp mq/\key n s t mp+key n s t mq=total
variable {n:Net}{s t:Int}
theorem Yq6{v:Int}{ms:List Int}:key n s t (ms++v::x)=keyG (XC n) (s::ms++[v])+keyG (XC n) (v::(x++[t])):=by
 have:=Oc (w:=XC n) (s::ms) v (x++[t])
 unfold key rt
 rw[<-this]
 simp
theorem Yq8(hok:Ok n){total:Int}(hs:0<=s/\s<n.nodes)(ht:0<=t/\t<n.nodes)(hst:s≠t)(hmin:∀x y,Two n s t x y->total<=key n s t x+key n s t y):∀(k:Nat) (ms:List Int) (spent at_:Int),(s::ms).Nodup->Vk (s::ms)=at_->(∀x∈s::ms,0<=x/\x<n.nodes)->spent=keyG (XC n) (s::ms)->(∀p,PathG (YA n) n.nodes.toNat t at_ p->PathG (YA n) n.nodes.toNat t s (ms++p))->(at_≠t->t∉s::ms)->n.nodes.toNat+1<=(s::ms).length+k->(∃p,PathG (YA n) n.nodes.toNat t at_ p/\inB n s t total (s::ms++p))->
 ∃P,Vf 100000 n.nodes.toNat (YS n) t total k (s::ms) spent at_=some P/\inB n s t total P/\(∃p,P=s::ms++p)/\∀f,∀x∈Zr (YA n) n.nodes.toNat t f (s::ms),inB n s t total x->x=P\/Xd P x=true:=by
 have hn0:=hok.n0
 have hn1:=hok.n1
 intro k
 induction k with
 |zero=>
  intro ms spent at_ hnd _ hr _ _ _ hk _
  have:=Rt.nodup_len n.nodes.toNat _ hnd λx hx=>by have:=hr x hx;omega
  omega
 |succ k ih=>
  intro ms spent at_ hnd hl hr hsp hext hnt hk ⟨p,hp,hin⟩
  by_cases hat:at_=t
  ·subst hat
   obtain rfl:p=[]:=by
    cases hp with
    |done=>rfl
    |step hu=>exact absurd rfl hu
   rw[TM]at hin
   refine⟨s::ms,by unfold Vf;rw[Tm rfl],hin,⟨[],by simp⟩,λf x hx _=>?_⟩
   left
   cases f<;>(unfold Zr at hx;rw[Tm hl]at hx;exact TJ.1 hx)
  ·have htr:=hnt hat
   obtain⟨hnd1,hnd2⟩:=SH.1 hnd
   have hsn:∀{v:Int},v∉s::ms->(s::(ms++[v])).Nodup:=λ{v} hv=>by
    have:(s::ms++[v]).Nodup:=Ri.2 ⟨hnd,by simp,λa ha b hb=>by
     obtain rfl:=TJ.1 hb
     exactλe=>hv (e▸ha)⟩
    exact this
   have hks:∀v,keyG (XC n) (s::ms++[v])=spent+XC n at_ v:=λv=>by
    rw[YaL (by simp),hl,hsp];simp[keyG]
   --what a further node is worth
   have hrest:∀a∈YS n,a.1=at_->a.2.1∉s::ms->∃c,O0 100000 n.nodes.toNat (YS n) (s::ms++[a.2.1]) t=some c/\(c.2=true/\spent+a.2.2+c.1=total↔∃p,PathG (YA n) n.nodes.toNat t a.2.1 p/\inB n s t total (s::ms++a.2.1::p)):=by
    rintro⟨u,v,c0⟩ ha hau hav
    simp only at hau hav⊢
    subst hau
    obtain⟨hg,rfl⟩:=((net0 hok).iff _ _ _).1 ha
    have hvr:=(Ycq hok _ ha).2.1
    simp only at hvr
    have hstep:∀p,PathG (YA n) n.nodes.toNat t v p->PathG (YA n) n.nodes.toNat t s (ms++v::p):=λp hp=>hext _ (.step hat hg hvr hp)
    by_cases hvt:v=t
    ·subst hvt
     have hrt:IsRt n s v ms:=⟨hstep [] .done,hsn hav⟩
     obtain⟨c,hc,h⟩:=YpR hok hs ht hrt 100000
     refine⟨c,hc,?_⟩
     have hk1:key n s v ms=spent+XC n u v:=hks v
     rcases h with⟨h1,⟨mq,h2,h3⟩,h4⟩|⟨h1,h2⟩
     ·constructor
      ·rintro⟨_,he⟩
       exact⟨[],.done,ms,rfl,mq,h2,by omega⟩
      ·rintro⟨p,hp,mp,heq,mq2,h5,h6⟩
       obtain rfl:p=[]:=by
        cases hp with
        |done=>rfl
        |step hu=>exact absurd rfl hu
       obtain rfl:ms=mp:=Ykr heq
       have h7:=h4 mq2 h5
       have h8:=hmin _ _ h2
       exact⟨h1,by omega⟩
     ·constructor
      ·rintro⟨h3,_⟩;rw[h1]at h3;cases h3
      ·rintro⟨p,hp,mp,heq,mq2,h5,h6⟩
       obtain rfl:p=[]:=by
        cases hp with
        |done=>rfl
        |step hu=>exact absurd rfl hu
       obtain rfl:ms=mp:=Ykr heq
       exact absurd h5 (h2 mq2)
    ·obtain⟨c,hc,h⟩:=YpS hok hs ht (v:=v) (ms:=ms) ⟨hvr.1,by omega⟩ hst hvt (λh=>htr (TB _ h)) (hsn hav) hstep
     refine⟨c,hc,?_⟩
     have hk1:∀x,key n s t (ms++v::x)=spent+XC n u v+keyG (XC n) (v::(x++[t])):=λx=>by rw[Yq6,hks]
     have hsh:∀x,s::ms++v::(x++[t])=rt s t (ms++v::x):=λx=>by unfold rt;simp
     have hback:∀p mp,PathG (YA n) n.nodes.toNat t v p->s::ms++v::p=rt s t mp->∃x,mp=ms++v::x:=λp mp hp heq=>by
      obtain⟨x,rfl⟩:=Yfh hp hvt
      rw[hsh]at heq
      exact⟨x,(Ykr heq).symm⟩
     rcases h with⟨h1,⟨x,mq,h2,h3⟩,h4⟩|⟨h1,h2⟩
     ·constructor
      ·rintro⟨_,he⟩
       have hpath:PathG (YA n) n.nodes.toNat t v (x++[t]):=by
        have:=h2.p.path
        unfold Qv at this
        rw[TX,TC]at this
        exact PathG.append this
       refine⟨x++[t],hpath,ms++v::x,hsh x,mq,h2,?_⟩
       rw[hk1];omega
      ·rintro⟨p,hp,mp,heq,mq2,h5,h6⟩
       obtain⟨x2,rfl⟩:=hback p mp hp heq
       have h7:=h4 x2 mq2 h5
       have h8:=hmin _ _ h2
       rw[hk1]at h6 h8
       exact⟨h1,by omega⟩
     ·constructor
      ·rintro⟨h3,_⟩;rw[h1]at h3;cases h3
      ·rintro⟨p,hp,mp,heq,mq2,h5,h6⟩
       obtain⟨x2,rfl⟩:=hback p mp hp heq
       exact absurd h5 (h2 x2 mq2)
   obtain⟨st2,g1,g2,_,g4⟩:=YlV (C:=λv=>∃p,PathG (YA n) n.nodes.toNat t v p/\inB n s t total (s::ms++v::p)) hrest (λa ha=>(Ycq hok a ha).2.1.1) (YS n) (λa ha=>ha) (-1,0) (.inl rfl)
   --some node goes on
   have hnode:∀{c:Int}{q:List Int},YA n at_ c=true->PathG (YA n) n.nodes.toNat t c q->inB n s t total (s::ms++c::q)->0<=st2.1/\st2.1<=c:=λ{c q} hg hq hin=>by
    have hnin:c∉s::ms:=by
     obtain⟨mp,heq,mq,h2,_⟩:=hin
     have:=h2.p.nd
     rw[<-heq]at this
     exactλh=>(Ri.1 this).2.2 c h c TA rfl
    exact g4 (at_,c,XC n at_ c) (((net0 hok).iff _ _ _).2 ⟨hg,rfl⟩) rfl hnin ⟨q,hq,hin⟩
   have hpos:0<=st2.1:=by
    cases hp with
    |done=>exact absurd rfl hat
    |@step _ v q hu hg hv hq=>exact(hnode hg hq hin).1
   rcases g2 with g2|⟨g5,⟨pb,hpb,hinb⟩,garc,gout⟩
   ·omega
   ·obtain⟨b,pr⟩:=st2
    simp only at g5 hpb hinb garc gout hpos hnode
    obtain⟨hg,rfl⟩:=((net0 hok).iff _ _ _).1 garc
    have hbr:=(Ycq hok _ garc).2.1
    simp only at hbr
    obtain⟨P,i1,i2,⟨i3,i4⟩,i5⟩:=ih (ms++[b]) (spent+XC n at_ b) b (hsn gout) (by rw[<-TC,Jm]) (λx hx=>by
     rw[<-TC]at hx
     rcases TT.1 hx with h|h
     ·exact hr x h
     ·obtain rfl:=TJ.1 h;omega) (by rw[<-TC,hks]) (λq hq=>by
     rw[TX]
     exact hext _ (.step hat hg hbr hq)) (λhbt hm=>by
     rw[<-TC]at hm
     rcases TT.1 hm with h|h
     ·exact htr h
     ·exact hbt (TJ.1 h).symm) (by simp only[TS,Tj,RD]at hk⊢;omega) ⟨pb,hpb,by rw[<-TC,TX];exact hinb⟩
    refine⟨P,?_,i2,⟨b::i3,by rw[i4];simp⟩,λf x hx hxin=>?_⟩
    ·unfold Vf
     rw[Td hat,g1]
     dsimp only
     rw[Td (by omega)]
     exact i1
    ·cases f with
     |zero=>unfold Zr at hx;rw[Td (by rw[hl];exact hat)]at hx;cases hx
     |succ f=>
      unfold Zr at hx
      rw[Td (by rw[hl];exact hat),hl]at hx
      obtain⟨c,hc,hx⟩:=RN.1 hx
      split at hx
      ·rename_i hcc
       obtain⟨q,hxe,hq⟩:=Wa f _ x hx
       rw[Jm]at hq
       rw[TX,List.singleton_append]at hxe
       have hle:=(hnode hcc.1 hq (by rw[<-hxe];exact hxin)).2
       rcases Int.lt_or_eq_of_le hle with h|h
       ·right
        rw[i4,hxe,show s::(ms++[b])++i3=(s::ms)++b::i3 by simp]
        exact Yga (s::ms) i3 q h
       ·refine i5 f x ?_ hxin
        rw[h];exact hx
      ·cases hx
def allW(n:Net)(s t:Int):List (List Int):=Zr (YA n) n.nodes.toNat t (n.nodes.toNat-1) [s]
variable {n:Net}{s t:Int}
theorem Yrs(hok:Ok n){mp:List Int}(hs:0<=s/\s<n.nodes)(h:IsRt n s t mp):rt s t mp∈allW n s t:=by
 have hl:=YlT hok hs h
 have:=YdP (n.nodes.toNat-1) [s] (mp++[t]) h.path h.nd (by rw[Tj,TP];omega)
 exact this
structure Best(n:Net)(s t total:Int)(mp mq:List Int):Prop where
 two:Two n s t mp mq
 cost:key n s t mp+key n s t mq=total
 least:∀x y,Two n s t x y->total<=key n s t x+key n s t y
 fst:∀x y,Two n s t x y->key n s t x+key n s t y=total->rt s t x=rt s t mp\/Xd (rt s t mp) (rt s t x)=true
 snd:∀y,Two n s t mp y->key n s t mp+key n s t y=total->rt s t y=rt s t mq\/Xd (rt s t mq) (rt s t y)=true
theorem Ynn(hok:Ok n)(hs:0<=s/\s<n.nodes)(ht:0<=t/\t<n.nodes)(hst:s≠t):∃r,Ui 100000 n.nodes.toNat (YS n) s s t (λ_=>false)=some r/\((r.2.1=true/\(∃L π,YbS n.nodes.toNat (YS n) s s t r.1 (YZ s s t (λ_=>false)) r.2.2 L π)/\∃mp mq,Yac 100000 n.nodes.toNat (YS n) s t=some (some (rt s t mp,rt s t mq))/\Best n s t r.1 mp mq)\/(r.2.1=false/\Yac 100000 n.nodes.toNat (YS n) s t=some none/\∀mp mq,¬Two n s t mp mq)):=by
 have hn0:=hok.n0
 have hn1:=hok.n1
 obtain⟨r,hr,h⟩:=YnP hok hs ht hst
 refine⟨r,hr,?_⟩
 unfold Yac
 rw[hr]
 dsimp only
 rcases h with⟨h1,h2,⟨mp0,mq0,h3,h4⟩,h5⟩|⟨h1,h2⟩
 ·refine .inl ⟨h1,h2,?_⟩
  rw[Td (by rw[h1];decide)]
  obtain⟨P,l1,⟨mp,rfl,mq1,l2,l3⟩,_,l4⟩:=Yq8 hok hs ht hst h5 400 [] 0 s (by simp) rfl (λx hx=>by obtain rfl:=TJ.1 hx;exact hs) rfl (λp hp=>hp) (λ_ hm=>hst (TJ.1 hm).symm) (by simp only[TP];omega) ⟨mp0++[t],h3.p.path,mp0,rfl,mq0,h3,h4⟩
  rcases Yfe hok hs ht l2.p with⟨_,mq,k1,k2,k3,k4⟩|⟨_,k⟩
  ·rw[l1]
   dsimp only
   rw[k2]
   have hle:=Yis hok hs ht l2
   have hle2:=h5 _ _ k1
   refine⟨mp,mq,rfl,k1,by omega,h5,λx y h6 h7=>?_,λy h6 h7=>?_⟩
   ·exact l4 _ (rt s t x) (Yrs hok hs h6.p) ⟨x,rfl,y,h6,h7⟩
   ·have hl:=YlT hok hs h6.q
    obtain⟨g1,g2⟩:=(Wv l2.p).2 h6
    have hm:rt s t y∈Zr (stA n s t mp) n.nodes.toNat t (n.nodes.toNat-1) [s]:=YdP (n.nodes.toNat-1) [s] (y++[t]) g1 g2 (by rw[Tj,TP];omega)
    obtain⟨_,h8⟩:=YmT k4 (YbI _ _) hm
    exact h8 (show key n s t y=key n s t mq by omega)
  ·exact absurd l2 (k mq1)
 ·rw[Tm h1]
  exact .inr ⟨h1,rfl,h2⟩
theorem getD_some{l:List (List Int)}{i:Nat}{x:List Int}(h:l[i]? =some x):l.getD i []=x:=by
 rw[Tt,h];rfl
theorem Yit(n:Net)(s t:Int):∃res,Ya0 100000 n s t=some res:=by
 unfold Ya0
 by_cases he:Z1 n s t=0
 ·rw[Td (λh=>h he)]
  obtain⟨hck,hs,ht,hst⟩:=Yf0 he
  obtain⟨r,hr,h⟩:=Ynn (YM hck) hs ht hst
  rcases h with⟨_,_,mp,mq,h2,_⟩|⟨_,h2,_⟩
  ·rw[h2]
   dsimp only
   split<;>exact⟨_,rfl⟩
  ·rw[h2];exact⟨_,rfl⟩
 ·rw[Tm he];exact⟨_,rfl⟩
theorem Yff(n:Net)(f:Flw):Ya0 100000 n f.2.1 f.2.2.1=some (WP n f):=by
 obtain⟨res,h⟩:=Yit n f.2.1 f.2.2.1
 unfold WP
 rw[h];rfl
theorem Yno(n:Net)(f:Flw):((WP n f).1=none/\(WP n f).2≠0)\/∃p q,WP n f=(some (p,q),0):=by
 have h:=Yff n f
 generalize WP n f=R at h⊢
 unfold Ya0 at h
 by_cases he:Z1 n f.2.1 f.2.2.1=0
 rotate_left
 ·rw[Tm he]at h
  rw[<-Tz h]
  exact .inl ⟨rfl,he⟩
 rw[Td (λe=>e he)]at h
 split at h
 ·cases h
 ·rw[<-Tz h];exact .inl ⟨rfl,by decide⟩
 ·rename_i pq _
  split at h
  ·rw[<-Tz h];exact .inl ⟨rfl,by decide⟩
  ·rw[<-Tz h];exact .inr ⟨pq.1,pq.2,rfl⟩
theorem Ys9(n:Net)(s t:Int):(Z5 n s t).1.length<=9:=by
 unfold Z5
 repeat' split
 all_goals(first|(simp;done)|(simp only;omega))
variable {B:Nat}{w0 w:World}{H:List HP}
theorem Yi0(c:Cel)(l:Lk)(hw:St B w0 H w):
 Calls Tryz.prog 420 [celV c,lkV l].toArray w (Post B w0 λv K=>v=.bool (YC c (0,0,l.1,l.2.1,0))/\K=H):=by
 refine Yc Tryz.func420 Tryz.ntmps420 rfl rfl hw ?_
 have htc:YC c (0,0,l.1,l.2.1,0)=true↔(c.2.2.1=l.1\/c.2.2.1=l.2.1\/c.2.2.2.1=l.1\/c.2.2.2.1=l.2.1):=by unfold YC Yx toC;rw[Tq]
 obtain⟨z,hz⟩:∃z,YC c (0,0,l.1,l.2.1,0)=z:=⟨_,rfl⟩
 rw[hz]at htc⊢
 unfold lkV
 repeat'(first|refine zgc ?_|(refine zge ?_ ?_<;>intro _<;>try exact zo)|(refine zgh ?_;intro _)|fail)
 all_goals(
  apply Yj H
  ·exact zk
  apply Yd;exact rfl;exact rfl
  cases z<;>simp at htc<;>first|exact⟨rfl,rfl⟩|(exfalso;omega))
abbrev grdA(g:Nat)(n:NetM)(s:SchM):HP:=blk g (.cells #[.int .i64 n.nodes,.slice n.pA n.rows.length n.pcap,.int .i64 n.noise,.int .i64 n.thr,.slice n.lA n.links.length n.lcap,.slice n.mA n.margin.length n.mcap,.int .i64 s.len,.int .i64 s.off,.slice s.A s.cells.length s.cap] 292 (0,0))
def grdV(n:NetM)(s:SchM):Value:=.agg #[.int .i64 n.nodes,.slice n.pA n.rows.length n.pcap,.int .i64 n.noise,.int .i64 n.thr,.slice n.lA n.links.length n.lcap,.slice n.mA n.margin.length n.mcap,.int .i64 s.len,.int .i64 s.off,.slice s.A s.cells.length s.cap]
abbrev lnkA(g:Nat)(l:Lk):HP:=blk g (.cells #[.int .i64 l.1,.int .i64 l.2.1,.int .i64 l.2.2] 140 (0,0))
abbrev intA(g:Nat)(v:Int):HP:=blk g (.cells #[.int .i64 v] 3 (0,0))
theorem YmX(c:Cel)(l:Lk)(slot id:Int)(g7 g5 g6:Nat)(h7:intA g7 slot∈H)(h5:lnkA g5 l∈H)(h6:intA g6 id∈H)(hw:St B w0 H w):
 Calls Tryz.prog 418 [celV c,.pointer (some ⟨g7,0,none⟩),.pointer (some ⟨g5,0,none⟩),.pointer (some ⟨g6,0,none⟩)].toArray w (Post B w0 λv K=>v=.bool (decide (c.1=slot/\Yx c=l.1/\toC c=l.2.1/\Xy c=id))/\K=H):=by
 refine Yc Tryz.func418 Tryz.ntmps418 rfl rfl hw ?_
 have hb:decide (c.1=slot/\Yx c=l.1/\toC c=l.2.1/\Xy c=id)=true↔c.1=slot/\c.2.2.1=l.1/\c.2.2.2.1=l.2.1/\c.2.2.2.2=id:=by unfold Xy Yx toC;rw[Tq]
 obtain⟨b,hbe⟩:∃b,decide (c.1=slot/\Yx c=l.1/\toC c=l.2.1/\Xy c=id)=b:=⟨_,rfl⟩
 rw[hbe]at hb⊢
 repeat'(first|refine zgc ?_|(refine zge ?_ ?_<;>intro _<;>try exact zo)|(refine zgh ?_;intro _)|fail)
 all_goals(
  apply Yj H
  ·exact zk
  apply Yd;exact rfl;exact rfl
  cases b<;>simp at hb<;>first|exact⟨rfl,rfl⟩|(exfalso;omega))
theorem YmY(n:NetM)(s:SchM)(l:Lk)(id slot:Int)(hl:s.cells.length<=1000)(hr:Rd B w0 H s.A (s.cells.flatMap celF))(hw:St B w0 H w):
 Calls Tryz.prog 393 [grdV n s,lkV l,.int .i64 id,.int .i64 slot].toArray w (Post B w0 λv K=>v=.bool (hasC s.cells slot l.1 l.2.1 id)/\K=H):=by
 refine Yc Tryz.func393 Tryz.ntmps393 rfl rfl hw ?_
 unfold grdV lkV
 repeat'(first|(apply zg23;first|(refine zs52 ?_;intro _)|(refine zs53 ?_;intro _))|(apply zg29;(apply Ym;exact za;exact rfl))|refine zgb ?_|fail)
 rename_i g4 g5 g6 g7
 first|apply Ya en32|apply Yb en32
 exact za
 exact rfl
 exactλ_ hw=>(W5 (λc=>decide (c.1=slot/\Yx c=l.1/\toC c=l.2.1/\Xy c=id)) s.cells 418 [.pointer (some ⟨g7,0,none⟩),.pointer (some ⟨g5,0,none⟩),.pointer (some ⟨g6,0,none⟩)] Yt8 hl hr.cons.cons.cons.cons (λc _ w hw=>YmX c l slot id g7 g5 g6 zm zm zm hw) hw)
 repeat'(first|refine zga ?_|fail)
 apply Yj H
 ·exact zk
 apply Yd;exact rfl;exact rfl;exact⟨rfl,rfl⟩
theorem Yj9(c:Cel)(o:Int)(g:Nat)(hm:intA g o∈H)(hw:St B w0 H w):
 Calls Tryz.prog 421 [celV c,.pointer (some ⟨g,0,none⟩)].toArray w (Post B w0 λv K=>v=.bool (!(decide (c.2.1=o)))/\K=H):=by
 refine Yc Tryz.func421 Tryz.ntmps421 rfl rfl hw ?_
 by_cases h:c.2.1=o
 ·rw[Tc h]
  repeat'(first|refine zgb ?_|(refine zge ?_ ?_<;>intro _<;>try exact zo)|(refine zgh ?_;intro _)|fail)
  apply Yj H
  ·exact zk
  apply Yd;exact rfl;exact rfl;exact⟨rfl,rfl⟩
 ·rw[Tn h]
  repeat'(first|refine zgb ?_|(refine zge ?_ ?_<;>intro _<;>try exact zo)|(refine zgh ?_;intro _)|fail)
  apply Yj H
  ·exact zk
  apply Yd;exact rfl;exact rfl;exact⟨rfl,rfl⟩
theorem YjC(c:Cel)(id:Int)(g:Nat)(hm:intA g id∈H)(hw:St B w0 H w):
 Calls Tryz.prog 208 [celV c,.pointer (some ⟨g,0,none⟩)].toArray w (Post B w0 λv K=>v=.bool (decide (Xy c=id))/\K=H):=by
 refine Yc Tryz.func208 Tryz.ntmps208 rfl rfl hw ?_
 by_cases h:c.2.2.2.2=id
 ·rw[Tc (show Xy c=id from h)]
  repeat'(first|refine zgb ?_|(refine zge ?_ ?_<;>intro _<;>try exact zo)|(refine zgh ?_;intro _)|fail)
  apply Yj H
  ·exact zk
  apply Yd;exact rfl;exact rfl;exact⟨rfl,rfl⟩
 ·rw[Tn (show¬Xy c=id from h)]
  repeat'(first|refine zgb ?_|(refine zge ?_ ?_<;>intro _<;>try exact zo)|(refine zgh ?_;intro _)|fail)
  apply Yj H
  ·exact zk
  apply Yd;exact rfl;exact rfl;exact⟨rfl,rfl⟩
open Go.RowKit Go.Eng Go.Nw
variable {B cap:Nat}{w0 w:World}{H:List HP}
theorem NetM.In.inM{K:List HP}{n:NetM}(h:n.In B w0 H)(hm:Eng.many H∈K):n.In B w0 K:=
 ⟨h.pw.inM hm,λr hr=>(h.rw_ r hr).inM hm,h.lk.inM hm,h.mg.inM hm,h.s1,h.s2,h.s3,h.s4⟩
theorem YgI(a b:Cel)(hw:St B w0 H w):
 Calls Tryz.prog 444 [celV a,celV b].toArray w (Post B w0 λv K=>v=.bool (YC a b)/\K=H):=by
 refine Yc Tryz.func444 Tryz.ntmps444 rfl rfl hw ?_
 have htc:YC a b=true↔(a.2.2.1=b.2.2.1\/a.2.2.1=b.2.2.2.1\/a.2.2.2.1=b.2.2.1\/a.2.2.2.1=b.2.2.2.1):=by unfold YC Yx toC;rw[Tq]
 obtain⟨z,hz⟩:∃z,YC a b=z:=⟨_,rfl⟩
 rw[hz]at htc⊢
 repeat'(first|apply(zs1 ?_)|apply(zs2 ?_)|(apply zg1;first|refine zs3 ?_|refine zs4 ?_)|(apply zg2;refine zs6 ?_)|(apply zg3;refine zs7 ?_)|(apply zg6;first|refine zs11 ?_|refine zs12 ?_)|(apply zg7;(refine zs15 ?_ ?_<;>intro _<;>try exact zo))|(apply zg23;(refine zs52 ?_;intro _))|apply(zs65 ?_)|apply(zs68 ?_)|apply(zs69 ?_)|apply(zs70 ?_)|apply(zs74 ?_)|fail)
 all_goals(
  apply Yj H
  ·exact zk
  apply Yd;exact rfl;exact rfl
  cases z<;>simp at htc<;>first|exact⟨rfl,rfl⟩|(exfalso;omega))
def Ur(_:Net)(l:List Cel)(i:Nat)(c:Cel)(k:Nat):Bool:=(List.range k).any λj=>decide (j≠i)&&YC c (celL l j)
theorem Ybl(n:NetM)(l:List Cel)(i:Nat)(gn gl gi:Nat)(A:Option Addr)(cap:Nat)(lk node:Int)(hok:Ok n.net)(hnode:0<=node/\node<n.nodes)(hlk:0<=lk/\lk.toNat<n.net.links.length)(hlen:l.length<=1000)(hin:n.In B w0 H)(hr:Rd B w0 H A (l.flatMap celF))
 (h1:netN gn n∈H) (h2:blk gl (.cells #[.slice A l.length cap] 35 (0,0))∈H) (h3:blk gi (.cells #[.int .i64 i] 3 (0,0))∈H) (hw:St B w0 H w):
 Calls Tryz.prog 445 [.int .i64 lk,.int .i64 node,.pointer (some ⟨gn,0,none⟩),.pointer (some ⟨gl,0,none⟩),.pointer (some ⟨gi,0,none⟩)].toArray w (Post B w0 λv K=>v=.bool (Zl n.net (mar n.net lk.toNat) (Yu n.net l i node l.length))/\K=H):=by
 refine Yc Tryz.func445 Tryz.ntmps445 rfl rfl hw ?_
 have hmg:=hin.mg
 have hs4:=hin.s4
 have hml:n.margin.length=n.net.links.length:=hok.k1
 have hm1:n.margin[lk.toNat]? =some (mar n.net lk.toNat):=by
  unfold mar
  rw[Tt,show n.net.margin=n.margin from rfl,Ta (by omega)];rfl
 have p1:=λ{w:World}(hw:St B w0 H w)=>YcH n l i node hok hnode hlen (cap:=cap) hin hr hw
 obtain⟨d,hd⟩:∃d,Yu n.net l i node l.length=d:=⟨_,rfl⟩
 rw[hd]at p1⊢
 have p2:=λ{w:World}(hw:St B w0 H w)=>O7 n (mar n.net lk.toNat) d hin hw
 unfold netN at h1
 repeat'(first|apply(zs2 ?_)|apply(zs65 ?_)|apply(zs68 ?_)|apply(zs69 ?_)|apply(zs70 ?_)|fail)
 apply Xv [0,1,2,3,4,5,6,7,8,9,10,11,12] []
 kernel_rfl
 kernel_rfl
 (simp only[Yg,nthO];rfl)
 exact rfl
 repeat'(first|apply(zs1 ?_)|(apply zg2;refine zs6 ?_)|(apply zg3;first|refine zs7 ?_|refine zs8 ?_|refine zs60 ?_)|(apply zg5;refine zs57 ?_)|apply(zs87 ?_)|fail)
 first|apply Ya Ylp|apply Yb Ylp
 exact za
 exact rfl
 exactλ_ hw=>(p1 hw)
 repeat'(first|apply(zs65 ?_)|apply(zs87 ?_)|(apply Yk;(repeat(first|with_reducible exact Y6|(with_reducible apply YX;(repeat(first|with_reducible exact Yt|with_reducible apply YD))))))|fail)
 ·show Perm H (H++[])
  rw[TM];exact Perm.refl _
 repeat'(first|fail)
 first|apply Ya WL|apply Yb WL
 exact za
 exact rfl
 exactλ_ hw=>(p2 hw)
 repeat'(first|apply(zs2 ?_)|apply(zs65 ?_)|(apply X5;exact zp)|apply(zs68 ?_)|apply(zs74 ?_)|(apply Yk;(repeat(first|with_reducible exact Y6|(with_reducible apply YX;(repeat(first|with_reducible exact Yt|with_reducible apply YD))))))|apply(zs93 ?_)|apply(zs94 ?_)|fail)
 ·show Perm H (H++[])
  rw[TM];exact Perm.refl _
 repeat'(first|fail)
 apply Yd;exact rfl;exact rfl;exact⟨rfl,rfl⟩
variable {A:Option Addr}
theorem YhN(n:NetM)(l:List Cel)(i:Nat)(hck:Yq n.net=0)(hi:i<l.length)(hlen:l.length<=1000)(hin:n.In B w0 H)(hr:Rd B w0 H A (l.flatMap celF))(hw:St B w0 H w):
 Calls Tryz.prog 442 [n.val,.slice A l.length cap,.int .i64 i].toArray w (Post B w0 λv K=>v=.bool (ZB n.net l i)/\K=H):=by
 refine Yc Tryz.func442 Tryz.ntmps442 rfl rfl hw ?_
 have hok:=YM hck
 have hget:l[i]? =some (celL l i):=by unfold celL;rw[Tt,Ta hi];rfl
 obtain⟨c,hc⟩:∃c,celL l i=c:=⟨_,rfl⟩
 rw[hc]at hget
 have p1:=λ{H':List HP}{w:World}(hin:n.In B w0 H') (hw:St B w0 H' w)=>XZ n c.2.2.1 c.2.2.2.1 hin hw
 have p2:=λ{H':List HP}{w:World}(hin:n.In B w0 H') (hw:St B w0 H' w)=>XZ n c.2.2.2.1 c.2.2.1 hin hw
 have hix:∀u v:Int,Zd n.net u v=Yw n.net u v:=λu v=>by unfold Zd;rw[Td (by omega)]
 have hus:=Yi2 hck c.2.2.1 c.2.2.2.1
 have p3:=λ{H':List HP}{w:World}(hin:n.In B w0 H') (hw:St B w0 H' w)=>Uf n (Zd n.net c.2.2.1 c.2.2.2.1) hin hw
 rw[hus]at p3
 have hP:ZB n.net l i=(!(YA n.net c.2.2.1 c.2.2.2.1)||Ur n.net l i c l.length||(!(Zl n.net (mar n.net (Yw n.net c.2.2.1 c.2.2.2.1).toNat) (Yu n.net l i c.2.2.2.1 l.length))||!(Zl n.net (mar n.net (Yw n.net c.2.2.2.1 c.2.2.1).toNat) (Yu n.net l i c.2.2.1 l.length)))):=by
  unfold ZB Ur
  rw[hc,show J3 n.net (Zd n.net (Yx c) (toC c))=YA n.net c.2.2.1 c.2.2.2.1 from hus]
  rfl
 rw[hP]
 by_cases hg:YA n.net c.2.2.1 c.2.2.2.1=true
 rotate_left
 ·have hg:YA n.net c.2.2.1 c.2.2.2.1=false:=by simpa using hg
  rw[hg]at p3⊢
  repeat'(first|apply(zs2 ?_)|(apply zg3;first|refine zs7 ?_|refine zs61 ?_)|(apply zg5;refine zs57 ?_)|(apply zg22;refine zs51 ?_)|(apply zg23;first|(refine zs52 ?_;intro _)|(refine zs53 ?_;intro _))|(apply zg24;(refine zs54 ?_;intro _))|apply(zs65 ?_)|apply(zs68 ?_)|apply(zs69 ?_)|apply(zs70 ?_)|fail)
  rename_i gn gl gi gc
  apply YU [0,1,2,3,4,6,7,8,9,10,5,11,12,13] [] [true,false,false,true]
  kernel_rfl
  kernel_rfl
  exact zy
  (simp only[Yg,nthO];rfl)
  exact rfl
  repeat'(first|(apply zg2;refine zs6 ?_)|(apply zg3;first|refine zs7 ?_|refine zs8 ?_)|apply(zs87 ?_)|fail)
  first|apply Ya Xc|apply Yb Xc
  exact za
  exact rfl
  exactλ_ hw=>(p1 (by repeat(first|exact hin|apply NetM.In.cons)) hw)
  repeat'(first|apply(zs65 ?_)|apply(zs87 ?_)|(apply Yk;(repeat(first|with_reducible exact Y6|(with_reducible apply YX;(repeat(first|with_reducible exact Yt|with_reducible apply YD))))))|fail)
  first|apply Ya Xc|apply Yb Xc
  exact za
  exact rfl
  exactλ_ hw=>(p2 (by repeat(first|exact hin|apply NetM.In.cons)) hw)
  repeat'(first|apply(zs1 ?_)|apply(zs2 ?_)|(apply zg3;refine zs8 ?_)|apply(zs65 ?_)|(apply X5;exact zp)|apply(zs68 ?_)|apply(zs69 ?_)|apply(zs70 ?_)|(apply Yk;(repeat(first|with_reducible exact Y6|(with_reducible apply YX;(repeat(first|with_reducible exact Yt|with_reducible apply YD))))))|apply(zs93 ?_)|apply(zs94 ?_)|fail)
  first|apply Ya ZZ|apply Yb ZZ
  exact za
  exact rfl
  exactλ_ hw=>(p3 (by repeat(first|exact hin|apply NetM.In.cons)) hw)
  repeat'(first|apply(zs2 ?_)|(apply zg20;refine zs48 ?_)|apply(zs65 ?_)|apply(zs68 ?_)|apply(zs69 ?_)|apply(zs70 ?_)|(apply zg27;refine zs71 ?_)|apply(zs74 ?_)|apply(zs77 ?_)|fail)
  apply Yj H
  ·exact zk
  apply Yd;exact rfl;exact rfl;exact⟨rfl,rfl⟩
 rw[hg]at p3⊢
 obtain⟨⟨f0,f1⟩,⟨t0,t1⟩,_,k1,k2⟩:(0<=c.2.2.1/\c.2.2.1<n.net.nodes)/\(0<=c.2.2.2.1/\c.2.2.2.1<n.net.nodes)/\c.2.2.1≠c.2.2.2.1/\0<=Yw n.net c.2.2.1 c.2.2.2.1/\0<=Yw n.net c.2.2.2.1 c.2.2.1:=Xu hok hg
 have x1:=ZA k1
 have x2:=ZA k2
 rw[hix]at p1 p2 p3
 obtain⟨i1,hi1⟩:∃z,Yw n.net c.2.2.1 c.2.2.2.1=z:=⟨_,rfl⟩
 obtain⟨i2,hi2⟩:∃z,Yw n.net c.2.2.2.1 c.2.2.1=z:=⟨_,rfl⟩
 rw[hi1]at p1 p3 k1 x1⊢
 rw[hi2]at p2 k2 x2⊢
 have q1:=λ{H':List HP}{w:World}(gn gl gi:Nat) (hin:n.In B w0 H') (hr:Rd B w0 H' A (l.flatMap celF)) (h1:netN gn n∈H') (h2:blk gl (.cells #[.slice A l.length cap] 35 (0,0))∈H') (h3:blk gi (.cells #[.int .i64 i] 3 (0,0))∈H') (hw:St B w0 H' w)=>Ybl n l i gn gl gi A cap i1 c.2.2.2.1 hok ⟨t0,t1⟩ ⟨k1,x1⟩ hlen hin hr h1 h2 h3 hw
 have q2:=λ{H':List HP}{w:World}(gn gl gi:Nat) (hin:n.In B w0 H') (hr:Rd B w0 H' A (l.flatMap celF)) (h1:netN gn n∈H') (h2:blk gl (.cells #[.slice A l.length cap] 35 (0,0))∈H') (h3:blk gi (.cells #[.int .i64 i] 3 (0,0))∈H') (hw:St B w0 H' w)=>Ybl n l i gn gl gi A cap i2 c.2.2.1 hok ⟨f0,f1⟩ ⟨k2,x2⟩ hlen hin hr h1 h2 h3 hw
 obtain⟨b1,hb1⟩:∃b,Zl n.net (mar n.net i1.toNat) (Yu n.net l i c.2.2.2.1 l.length)=b:=⟨_,rfl⟩
 obtain⟨b2,hb2⟩:∃b,Zl n.net (mar n.net i2.toNat) (Yu n.net l i c.2.2.1 l.length)=b:=⟨_,rfl⟩
 rw[hb1]at q1⊢
 rw[hb2]at q2⊢
 repeat'(first|apply(zs2 ?_)|(apply zg3;first|refine zs7 ?_|refine zs61 ?_)|(apply zg5;refine zs57 ?_)|(apply zg22;refine zs51 ?_)|(apply zg23;first|(refine zs52 ?_;intro _)|(refine zs53 ?_;intro _))|(apply zg24;(refine zs54 ?_;intro _))|apply(zs65 ?_)|apply(zs68 ?_)|apply(zs69 ?_)|apply(zs70 ?_)|fail)
 rename_i gn gl gi gc
 apply YU [0,1,2,3,4,6,7,8,9,10,5,11,12,13] [] [true,false,false,true]
 kernel_rfl
 kernel_rfl
 exact zy
 (simp only[Yg,nthO];rfl)
 exact rfl
 repeat'(first|(apply zg2;refine zs6 ?_)|(apply zg3;first|refine zs7 ?_|refine zs8 ?_)|apply(zs87 ?_)|fail)
 first|apply Ya Xc|apply Yb Xc
 exact za
 exact rfl
 exactλ_ hw=>(p1 (by repeat(first|exact hin|apply NetM.In.cons)) hw)
 repeat'(first|apply(zs65 ?_)|apply(zs87 ?_)|(apply Yk;(repeat(first|with_reducible exact Y6|(with_reducible apply YX;(repeat(first|with_reducible exact Yt|with_reducible apply YD))))))|fail)
 first|apply Ya Xc|apply Yb Xc
 exact za
 exact rfl
 exactλ_ hw=>(p2 (by repeat(first|exact hin|apply NetM.In.cons)) hw)
 repeat'(first|apply(zs1 ?_)|apply(zs2 ?_)|(apply zg3;refine zs8 ?_)|apply(zs65 ?_)|(apply X5;exact zp)|apply(zs68 ?_)|apply(zs69 ?_)|apply(zs70 ?_)|(apply Yk;(repeat(first|with_reducible exact Y6|(with_reducible apply YX;(repeat(first|with_reducible exact Yt|with_reducible apply YD))))))|apply(zs93 ?_)|apply(zs94 ?_)|fail)
 first|apply Ya ZZ|apply Yb ZZ
 exact za
 exact rfl
 exactλ_ hw=>(p3 (by repeat(first|exact hin|apply NetM.In.cons)) hw)
 repeat'(first|apply(zs1 ?_)|(apply zg3;refine zs7 ?_)|(apply zg4;refine zs9 ?_)|(apply zg20;refine zs47 ?_)|apply(zs65 ?_)|apply(zs68 ?_)|apply(zs69 ?_)|apply(zs70 ?_)|(apply zg27;refine zs72 ?_)|apply(zs73 ?_)|apply(zs76 ?_)|fail)
 refine Yi (λ(k:Nat)=>[(35,.int .i64 k),(34,.int .i64 l.length),(33,.slice A l.length cap),(3,.pointer (some ⟨gn,0,none⟩)),(4,.pointer (some ⟨gl,0,none⟩)),(5,.pointer (some ⟨gi,0,none⟩)),(7,.pointer (some ⟨gc,0,none⟩)),(8,.int .i64 i1),(9,.int .i64 i2)])
  (λ_=>blk gc (.cells #[.int .i64 c.1,.int .i64 c.2.1,.int .i64 c.2.2.1,.int .i64 c.2.2.2.1,.int .i64 c.2.2.2.2] 64 (0,0))::blk gi (.cells #[.int .i64 i] 3 (0,0))::blk gl (.cells #[.slice A l.length cap] 35 (0,0))::netN gn n::H) (λk=>k<=l.length/\Ur n.net l i c k=false) (λk=>l.length-k) 0 ⟨Tu _,rfl⟩ ?_ ?_ ?_
 ·exact zu
 ·unfold netN
  exact zk
 rintro k ⟨hk,hno⟩ K hK
 have hrc:Rd B w0 (blk gc (.cells #[.int .i64 c.1,.int .i64 c.2.1,.int .i64 c.2.2.1,.int .i64 c.2.2.2.1,.int .i64 c.2.2.2.2] 64 (0,0))::blk gi (.cells #[.int .i64 i] 3 (0,0))::blk gl (.cells #[.slice A l.length cap] 35 (0,0))::netN gn n::H) A (l.flatMap celF):=hr.cons.cons.cons.cons
 by_cases hlt:k<l.length
 ·have hgk:l[k]? =some (celL l k):=by unfold celL;rw[Tt,Ta hlt];rfl
  have hst:Ur n.net l i c (k+1)=(Ur n.net l i c k||(decide (k≠i)&&YC c (celL l k))):=by
   unfold Ur
   rw[RA,SV]
   simp
  obtain⟨d,hd⟩:∃d,celL l k=d:=⟨_,rfl⟩
  rw[hd]at hgk hst
  have p4:=λ{H':List HP}{w:World}(hw:St B w0 H' w)=>YgI c d hw
  unfold netN at hrc⊢
  obtain⟨t,ht⟩:∃t,YC c d=t:=⟨_,rfl⟩
  rw[ht]at p4 hst
  rw[hno,ND]at hst
  by_cases hki:k=i
  ·rw[Tn (λh=>h hki),SI]at hst
   repeat'(first|apply(zs1 ?_)|apply(zs2 ?_)|(apply zg1;refine zs3 ?_)|(apply zg3;first|refine zs7 ?_|refine zs61 ?_)|(apply zg5;refine zs57 ?_)|(apply zg6;refine zs12 ?_)|(apply zg8;(refine zs16 ?_ ?_<;>intro _<;>try exact zo))|(apply(zs17 ?_ ?_)<;>intro _<;>try exact zo)|(apply zg13;refine zs30 ?_)|(apply zg22;refine zs51 ?_)|(apply zg24;(refine zs54 ?_;intro _))|apply(zs65 ?_)|apply(zs68 ?_)|apply(zs69 ?_)|apply(zs70 ?_)|(apply zg27;first|refine zs71 ?_|refine zs72 ?_)|apply(zs73 ?_)|apply(zs76 ?_)|apply(zs79 ?_)|fail)
   apply hK (k+1)
   ·exact⟨by omega,hst⟩
   ·omega
   ·exact zu
   ·unfold netN
    exact zk
  rw[Tc hki,RS]at hst
  cases t with
  |false=>
   repeat'(first|((first|apply Ya Ylv|apply Yb Ylv);exact za;exact rfl;exactλ_ hw=>(p4 hw))|apply(zs1 ?_)|apply(zs2 ?_)|(apply zg1;refine zs4 ?_)|(apply zg3;first|refine zs7 ?_|refine zs8 ?_|refine zs61 ?_)|(apply zg5;refine zs57 ?_)|(apply zg6;refine zs11 ?_)|(apply zg8;(refine zs16 ?_ ?_<;>intro _<;>try exact zo))|(apply(zs17 ?_ ?_)<;>intro _<;>try exact zo)|(apply zg13;refine zs30 ?_)|(apply zg22;refine zs51 ?_)|(apply zg24;(refine zs54 ?_;intro _))|apply(zs65 ?_)|apply(zs68 ?_)|apply(zs69 ?_)|apply(zs70 ?_)|(apply zg27;first|refine zs71 ?_|refine zs72 ?_)|apply(zs73 ?_)|apply(zs76 ?_)|apply(zs79 ?_)|fail)
   apply hK (k+1)
   ·exact⟨by omega,hst⟩
   ·omega
   ·exact zu
   ·unfold netN
    exact zk
  |true=>
   have hfa:Ur n.net l i c l.length=true:=by
    unfold Ur
    rw[Rk]
    exact⟨k,TO.2 hlt,by rw[hd,ht,Tc hki];rfl⟩
   rw[hfa]
   repeat'(first|((first|apply Ya Ylv|apply Yb Ylv);exact za;exact rfl;exactλ_ hw=>(p4 hw))|apply(zs1 ?_)|apply(zs2 ?_)|(apply zg1;refine zs4 ?_)|(apply zg3;first|refine zs7 ?_|refine zs8 ?_|refine zs61 ?_)|(apply zg5;refine zs57 ?_)|(apply zg6;refine zs11 ?_)|(apply zg8;(refine zs16 ?_ ?_<;>intro _<;>try exact zo))|(apply(zs17 ?_ ?_)<;>intro _<;>try exact zo)|(apply zg22;refine zs51 ?_)|(apply zg24;(refine zs54 ?_;intro _))|apply(zs65 ?_)|apply(zs68 ?_)|apply(zs69 ?_)|apply(zs70 ?_)|(apply zg27;refine zs71 ?_)|apply(zs73 ?_)|apply(zs74 ?_)|apply(zs76 ?_)|apply(zs77 ?_)|apply(zs78 ?_)|fail)
   apply Yj H
   ·exact zk
   apply Yd;exact rfl;exact rfl;exact⟨rfl,rfl⟩
 ·obtain rfl:k=l.length:=by omega
  rw[hno]
  clear hK
  unfold netN at hrc q1 q2⊢
  cases b1 with
  |false=>
   repeat'(first|apply(zs1 ?_)|apply(zs2 ?_)|(apply zg2;refine zs6 ?_)|(apply zg3;refine zs7 ?_)|(apply(zs17 ?_ ?_)<;>intro _<;>try exact zo)|apply(zs65 ?_)|apply(zs68 ?_)|apply(zs69 ?_)|apply(zs70 ?_)|(apply zg27;refine zs72 ?_)|apply(zs75 ?_)|apply(zs80 ?_)|apply(zs81 ?_)|(apply zg29;(apply Ym;exact za;exact rfl))|fail)
   first|apply Yz (cs:=[.pointer (some ⟨gn,0,none⟩),.pointer (some ⟨gl,0,none⟩),.pointer (some ⟨gi,0,none⟩)])|apply Y4 (cs:=[.pointer (some ⟨gn,0,none⟩),.pointer (some ⟨gl,0,none⟩),.pointer (some ⟨gi,0,none⟩)])
   exact rfl
   exact Yo0
   exact za
   exact rfl
   exactλ_ hw=>q1 gn gl gi (by repeat(first|exact hin|apply NetM.In.cons)) hrc zm zm zm hw
   repeat'(first|apply(zs1 ?_)|apply(zs2 ?_)|(apply zg1;refine zs3 ?_)|(apply zg6;refine zs11 ?_)|(apply zg20;refine zs48 ?_)|apply(zs65 ?_)|apply(zs68 ?_)|apply(zs74 ?_)|fail)
   apply Yj H
   ·exact zk
   apply Yd;exact rfl;exact rfl;exact⟨rfl,rfl⟩
  |true=>
   cases b2<;>(
    repeat'(first|apply(zs1 ?_)|apply(zs2 ?_)|(apply zg2;refine zs6 ?_)|(apply zg3;refine zs7 ?_)|(apply(zs17 ?_ ?_)<;>intro _<;>try exact zo)|apply(zs65 ?_)|apply(zs68 ?_)|apply(zs69 ?_)|apply(zs70 ?_)|(apply zg27;refine zs72 ?_)|apply(zs75 ?_)|apply(zs80 ?_)|apply(zs81 ?_)|(apply zg29;(apply Ym;exact za;exact rfl))|fail)
    first|apply Yz (cs:=[.pointer (some ⟨gn,0,none⟩),.pointer (some ⟨gl,0,none⟩),.pointer (some ⟨gi,0,none⟩)])|apply Y4 (cs:=[.pointer (some ⟨gn,0,none⟩),.pointer (some ⟨gl,0,none⟩),.pointer (some ⟨gi,0,none⟩)])
    exact rfl
    exact Yo0
    exact za
    exact rfl
    exactλ_ hw=>q1 gn gl gi (by repeat(first|exact hin|apply NetM.In.cons)) hrc zm zm zm hw
    repeat'(first|apply(zs1 ?_)|(apply zg1;refine zs4 ?_)|(apply zg2;refine zs6 ?_)|(apply zg3;refine zs7 ?_)|(apply zg20;refine zs47 ?_)|fail)
    first|apply Yz (cs:=[.pointer (some ⟨gn,0,none⟩),.pointer (some ⟨gl,0,none⟩),.pointer (some ⟨gi,0,none⟩)])|apply Y4 (cs:=[.pointer (some ⟨gn,0,none⟩),.pointer (some ⟨gl,0,none⟩),.pointer (some ⟨gi,0,none⟩)])
    exact rfl
    exact Yo0
    exact za
    exact rfl
    exactλ_ hw=>q2 gn gl gi (by repeat(first|exact hin|apply NetM.In.cons)) hrc zm zm zm hw
    repeat'(first|apply(zs2 ?_)|(apply zg1;refine zs4 ?_)|(apply zg6;refine zs12 ?_)|(apply zg20;first|refine zs47 ?_|refine zs48 ?_)|apply(zs65 ?_)|apply(zs68 ?_)|apply(zs74 ?_)|fail)
    apply Yj H
    ·exact zk
    apply Yd;exact rfl;exact rfl;exact⟨rfl,rfl⟩)
def J6(n:Net)(l:List Cel)(k:Nat):Bool:=(List.range k).any (ZB n l)
theorem YhP(n:NetM)(l:List Cel)(hck:Yq n.net=0)(hlen:l.length<=1000)(hin:n.In B w0 H)(hr:Rd B w0 H A (l.flatMap celF))(hw:St B w0 H w):
 Calls Tryz.prog 435 [n.val,.slice A l.length cap].toArray w (Post B w0 λv K=>∃i:Int,v=.tuple #[.int .i64 i,.bool (J6 n.net l l.length)]/\K=H):=by
 refine Yc Tryz.func435 Tryz.ntmps435 rfl rfl hw ?_
 have p1:=λ{H':List HP}{w:World}(hin:n.In B w0 H') (hw:St B w0 H' w)=>YY n hin hw
 rw[hck]at p1
 (apply Xt;apply Y0;apply YR;exact rfl;exact rfl;intro g)
 repeat'(first|((first|apply Ya en82|apply Yb en82);exact za;exact rfl;exactλ_ hw=>(p1 hin.cons hw))|apply(zs1 ?_)|apply(zs2 ?_)|(apply zg3;refine zs8 ?_)|(apply zg4;refine zs9 ?_)|(apply zg8;(refine zs16 ?_ ?_<;>intro _<;>try exact zo))|apply(zs65 ?_)|apply(zs68 ?_)|apply(zs69 ?_)|apply(zs70 ?_)|(apply zg27;refine zs72 ?_)|apply(zs73 ?_)|apply(zs76 ?_)|fail)
 refine Yi (λ(k:Nat)=>[(12,.int .i64 k),(11,.int .i64 l.length),(1,.slice A l.length cap),(2,.pointer (some ⟨g,0,none⟩))]) (λ_=>netN g n::H) (λk=>k<=l.length/\J6 n.net l k=false) (λk=>l.length-k) 0 ⟨Tu _,rfl⟩ ?_ (λw hw=>hw) ?_
 ·exact zu
 rintro k ⟨hk,hno⟩ K hK
 unfold netN
 by_cases hlt:k<l.length
 ·have p2:=λ{H':List HP}{w:World}(hin:n.In B w0 H') (hr:Rd B w0 H' A (l.flatMap celF)) (hw:St B w0 H' w)=>YhN n l k hck hlt hlen (cap:=cap) hin hr hw
  have hst:J6 n.net l (k+1)=(J6 n.net l k||ZB n.net l k):=by
   unfold J6
   rw[RA,SV]
   simp
  rw[hno,ND]at hst
  cases hp:ZB n.net l k with
  |false=>
   rw[hp]at p2 hst
   repeat'(first|((first|apply Ya Ylu|apply Yb Ylu);exact za;exact rfl;exactλ_ hw=>(p2 hin.cons hr.cons hw))|apply(zs1 ?_)|apply(zs2 ?_)|(apply zg3;refine zs8 ?_)|(apply(zs17 ?_ ?_)<;>intro _<;>try exact zo)|(apply zg13;refine zs30 ?_)|apply(zs65 ?_)|apply(zs68 ?_)|apply(zs69 ?_)|apply(zs70 ?_)|(apply zg27;first|refine zs71 ?_|refine zs72 ?_)|apply(zs73 ?_)|apply(zs76 ?_)|apply(zs79 ?_)|fail)
   apply hK (k+1)
   ·exact⟨by omega,hst⟩
   ·omega
   ·exact zu
   ·unfold netN
    exact zk
  |true=>
   rw[hp]at p2
   have hfa:J6 n.net l l.length=true:=by
    unfold J6
    rw[Rk]
    exact⟨k,TO.2 hlt,hp⟩
   rw[hfa]
   repeat'(first|((first|apply Ya Ylu|apply Yb Ylu);exact za;exact rfl;exactλ_ hw=>(p2 hin.cons hr.cons hw))|apply(zs1 ?_)|apply(zs2 ?_)|(apply zg3;refine zs8 ?_)|(apply(zs17 ?_ ?_)<;>intro _<;>try exact zo)|apply(zs65 ?_)|apply(zs68 ?_)|apply(zs69 ?_)|apply(zs70 ?_)|(apply zg27;refine zs71 ?_)|apply(zs73 ?_)|apply(zs74 ?_)|apply(zs76 ?_)|apply(zs77 ?_)|apply(zs78 ?_)|fail)
   apply Yj H
   ·exact zk
   apply Yp;(iterate 3 exact rfl);exact⟨_,rfl,rfl⟩
 ·obtain rfl:k=l.length:=by omega
  rw[hno]
  repeat'(first|apply(zs2 ?_)|(apply(zs17 ?_ ?_)<;>intro _<;>try exact zo)|apply(zs65 ?_)|apply(zs68 ?_)|apply(zs69 ?_)|apply(zs70 ?_)|(apply zg27;refine zs72 ?_)|apply(zs74 ?_)|apply(zs75 ?_)|apply(zs80 ?_)|apply(zs81 ?_)|fail)
  apply Yj H
  ·exact zk
  apply Yp;(iterate 3 exact rfl);exact⟨_,rfl,rfl⟩
theorem YhZ{n:Net}{l:List Cel}(hck:Yq n=0):Jz n l=!(J6 n l l.length):=by
 unfold Jz J6
 rw[Tc hck,RS,List.not_any_eq_all_not]
theorem YjN(n:NetM)(l:List Cel)(hck:Yq n.net=0)(hlen:l.length<=1000)(hin:n.In B w0 H)(hr:Rd B w0 H A (l.flatMap celF))(hw:St B w0 H w):
 Calls Tryz.prog 422 [n.val,.slice A l.length cap].toArray w (Post B w0 λv K=>v=.bool (Jz n.net l)/\K=H):=by
 refine Yc Tryz.func422 Tryz.ntmps422 rfl rfl hw ?_
 have p1:=λ{H':List HP}{w:World}(hin:n.In B w0 H') (hw:St B w0 H' w)=>YY n hin hw
 rw[hck]at p1
 rw[YhZ hck]
 repeat'(first|apply(zs1 ?_)|apply(zs2 ?_)|(apply zg3;refine zs8 ?_)|(apply zg23;(refine zs52 ?_;intro _))|apply(zs65 ?_)|apply(zs68 ?_)|apply(zs69 ?_)|apply(zs70 ?_)|fail)
 apply Yh _ Yud
 exact za
 exact rfl
 exactλ_ hw=>(YhP n l hck hlen hin.cons hr.cons (hw))
 rintro _ _ ⟨i,rfl,rfl⟩
 cases J6 n.net l l.length<;>(
  repeat'(first|((first|apply Ya en82|apply Yb en82);exact za;exact rfl;exactλ_ hw=>(p1 hin.cons hw))|apply(zs1 ?_)|apply(zs2 ?_)|(apply zg1;refine zs4 ?_)|(apply zg3;refine zs8 ?_)|(apply zg6;refine zs11 ?_)|apply(zs13 ?_)|(apply zg7;(refine zs15 ?_ ?_<;>intro _<;>try exact zo))|(apply zg20;first|refine zs47 ?_|refine zs48 ?_)|apply(zs65 ?_)|apply(zs68 ?_)|apply(zs69 ?_)|apply(zs70 ?_)|apply(zs74 ?_)|fail)
  apply Yj H
  ·exact zk
  apply Yd;exact rfl;exact rfl;exact⟨rfl,rfl⟩)
def tchB(l:List Cel)(slot a b:Int):Bool:=l.any λd=>decide (d.1=slot)&&YC d (0,0,a,b,0)
def offI(n:Net)(l:List Cel)(slot a b:Int)(k:Nat):List Nat:=(List.range k).filter λo:Nat=>Jz n (l.filter (atP slot o)++[(0,0,a,b,0)])
def U6(n:Net)(s:Sch)(slot a b:Int):List (List Value):=if tchB s.cells slot a b=true then []else(offI n s.cells slot a b s.off.toNat).map λ(o:Nat)=>[Value.int .i64 (o:Int)]
variable {n:Net}{l:List Cel}{slot a b:Int}{k i:Nat}
theorem YpC(h:Jz n (l.filter (atP slot k)++[(0,0,a,b,0)])=true):offI n l slot a b (k+1)=offI n l slot a b k++[k]:=by
 unfold offI;rw[RA,Rj];simp[h]
theorem Yrf(h:Jz n (l.filter (atP slot k)++[(0,0,a,b,0)])=false):offI n l slot a b (k+1)=offI n l slot a b k:=by
 unfold offI;rw[RA,Rj];simp[h]
theorem YpB{m:Nat}(h:Jz n (l.filter (atP slot k)++[(0,0,a,b,0)])=true)(hk:k<m):(offI n l slot a b m)[(offI n l slot a b k).length]? =some k:=by
 obtain⟨j,rfl⟩:∃j,m=k+(j+1):=⟨m-k-1,by omega⟩
 have e:offI n l slot a b (k+(j+1))=offI n l slot a b k++((List.range (j+1)).map (k+·)).filter λo:Nat=>Jz n (l.filter (atP slot o)++[(0,0,a,b,0)]):=by
  unfold offI;rw[List.range_add,Rj]
 rw[e,Ro (TL _),Nb,Nj]
 simp[h]
structure AiM where
 i:Nat
 A:Option Addr
 cap:Nat
 l:List Cel
variable {c:Cel}
theorem Ypb(hc:l[i]? =some c)(h:c.1=slot):(l.take (i+1)).filter (λd=>decide (d.1=slot))=(l.take i).filter (λd=>decide (d.1=slot))++[c]:=by
 rw[TF,hc,Rj];simp[h]
theorem YqY(hc:l[i]? =some c)(h:c.1≠slot):(l.take (i+1)).filter (λd=>decide (d.1=slot))=(l.take i).filter (λd=>decide (d.1=slot)):=by
 rw[TF,hc,Rj];simp[h]
theorem Yp9(hc:l[i]? =some c):tchB (l.take (i+1)) slot a b=(tchB (l.take i) slot a b||(decide (c.1=slot)&&YC c (0,0,a,b,0))):=by
 unfold tchB
 rw[TF,hc,SV];simp
theorem Ytk(hc:l[i]? =some c)(h:c.1=slot)(ht:YC c (0,0,a,b,0)=true):tchB l slot a b=true:=
 Rk.2 ⟨c,Tf hc,by rw[Tc h,ht];rfl⟩
theorem Ynl(n:NetM)(s:SchM)(l:Lk)(slot:Int)(g3 g5 g4:Nat)(hck:Yq n.net=0)(hl:s.cells.length<=900)(hoff:0<=s.off/\s.off<=16){B:Nat}{w0:World}{R:List HP}(hin:n.In B w0 [many R])(hr:Rd B w0 [many R] s.A (s.cells.flatMap celF)):
 Yb8 Tryz.prog 419 [.pointer (some ⟨g3,0,none⟩),.pointer (some ⟨g5,0,none⟩),.pointer (some ⟨g4,0,none⟩)] (U6 n.net s.sch slot l.1 l.2.1) B w0 [intA g5 slot,lnkA g4 l,grdA g3 n s,many R]:=by
 refine Yb9 Tryz.func419 Tryz.ntmps419 rfl rfl ?_
 intro ly SS X hy L0 h0
 refine Je 64 5 ?_
 have hsc:s.sch.cells=s.cells:=rfl
 repeat'(first|refine zgb ?_|fail)
 refine Yi (λ(x:AiM)=>[(14,.int .i64 x.i),(13,.int .i64 s.cells.length),(12,.slice s.A s.cells.length s.cap),(5,.slice x.A x.l.length x.cap),(0,.func (.yield ly) #[] #[]),(1,.pointer (some ⟨g3,0,none⟩)),(2,.pointer (some ⟨g5,0,none⟩)),(3,.pointer (some ⟨g4,0,none⟩))])
  (λx=>sl 64 5 x.A x.l.length x.cap (x.l.flatMap celF)::many L0::intA g5 slot::lnkA g4 l::grdA g3 n s::[many R]) (λx=>x.i<=s.cells.length/\x.l=(s.cells.take x.i).filter (λd=>decide (d.1=slot))/\tchB (s.cells.take x.i) slot l.1 l.2.1=false) (λx=>s.cells.length-x.i) ⟨0,none,0,[]⟩ ⟨Tu _,by simp,rfl⟩ ?_ ?_ ?_
 ·exact zu
 ·dsimp only
  rw[show([]:List Cel).flatMap celF=[] from rfl,show([]:List Cel).length=0 from rfl]
  exact zk
 rintro⟨i,A,cap,hs⟩ ⟨hi,hhs,htc⟩ K hK
 dsimp only at hi hhs htc⊢
 have hhl:hs.length<=900:=by
  have:=Rn (λd:Cel=>decide (d.1=slot)) (s.cells.take i)
  rw[<-hhs,TD]at this
  omega
 by_cases hlt:i<s.cells.length
 ·obtain⟨c,hc⟩:∃c,s.cells[i]? =some c:=⟨_,Ta hlt⟩
  have hts:=Yp9 (slot:=slot) (a:=l.1) (b:=l.2.1) hc
  rw[htc,ND]at hts
  have p1:=λ{H':List HP}{w:World}(hw:St B w0 H' w)=>Yi0 c l hw
  unfold celV lkV at p1
  by_cases hsl:c.1=slot
  rotate_left
  ·rw[Tn hsl,SI]at hts
   repeat'(first|refine zgd ?_|(refine zge ?_ ?_<;>intro _<;>try exact zo)|(refine zgh ?_;intro _)|fail)
   apply hK ⟨i+1,A,cap,hs⟩
   ·exact⟨by show i+1<=_;omega,by rw[YqY hc hsl];exact hhs,hts⟩
   ·dsimp only;omega
   ·exact zu
   ·exact zk
  cases ht:YC c (0,0,l.1,l.2.1,0)with
  |true=>
   rw[ht]at p1
   have hnil:U6 n.net s.sch slot l.1 l.2.1=[]:=by
    unfold U6
    rw[Tm (by rw[hsc];exact Ytk hc hsl ht)]
   clear hK
   repeat'(first|((first|apply Ya Ylt|apply Yb Ylt);exact za;exact rfl;exactλ_ hw=>(p1 hw))|refine zgd ?_|(refine zge ?_ ?_<;>intro _<;>try exact zo)|(refine zgh ?_;intro _)|fail)
   apply Yj (many L0::intA g5 slot::lnkA g4 l::grdA g3 n s::[many R])
   ·exact zk
   apply We;exact rfl
   exact .inl ⟨L0,by rw[hnil];exact h0,rfl⟩
  |false=>
   rw[Tc hsl,ht,RS]at hts
   rw[ht]at p1
   repeat'(first|((first|apply Ya Ylt|apply Yb Ylt);exact za;exact rfl;exactλ_ hw=>(p1 hw))|refine zgd ?_|(refine zge ?_ ?_<;>intro _<;>try exact zo)|(refine zgh ?_;intro _)|(refine zgi ?_;intro _ _)|fail)
   rename_i A' cap'
   have hl1:(hs++[c]).length=hs.length+1:=by rw[Tj];rfl
   apply hK ⟨i+1,A',cap',hs++[c]⟩
   ·exact⟨by show i+1<=_;omega,by rw[Ypb hc hsl,<-hhs],hts⟩
   ·dsimp only;omega
   ·dsimp only
    rw[hl1]
    exact zu
   ·dsimp only
    have e5:=Wi A' cap' hs c
    unfold cels at e5
    rw[<-e5]
    exact zk
 ·obtain rfl:i=s.cells.length:=by omega
  rw[TY]at hhs htc
  clear hK
  repeat'(first|refine zgc ?_|(refine zge ?_ ?_<;>intro _<;>try exact zo)|fail)
  have hxs:U6 n.net s.sch slot l.1 l.2.1=(offI n.net s.cells slot l.1 l.2.1 s.off.toNat).map λ(o:Nat)=>[Value.int .i64 (o:Int)]:=by
   unfold U6
   rw[Td (by rw[hsc,htc];decide)];rfl
  refine Yi (λ(x:Nat×List HP)=>[(33,.int .i64 (x.1:Nat)),(32,.int .i64 s.off),(5,.slice A hs.length cap),(0,.func (.yield ly) #[] #[]),(1,.pointer (some ⟨g3,0,none⟩)),(2,.pointer (some ⟨g5,0,none⟩)),(3,.pointer (some ⟨g4,0,none⟩))])
   (λx=>sl 64 5 A hs.length cap (hs.flatMap celF)::many x.2::intA g5 slot::lnkA g4 l::grdA g3 n s::[many R]) (λx=>(x.1:Int)<=s.off/\SS (offI n.net s.cells slot l.1 l.2.1 x.1).length x.2) (λx=>(s.off-x.1).toNat) (0,L0) ⟨by show((0:Nat):Int)<=_;omega,h0⟩ ?_ ?_ ?_
  ·exact zu
  ·exact zk
  rintro⟨o,L⟩ ⟨ho,hS⟩ K hK
  dsimp only at ho hS⊢
  by_cases hlt2:(o:Int)<s.off
  rotate_left
  ·obtain rfl:o=s.off.toNat:=by omega
   clear hK
   repeat'(first|refine zgc ?_|(refine zge ?_ ?_<;>intro _<;>try exact zo)|fail)
   apply Yj (many L::intA g5 slot::lnkA g4 l::grdA g3 n s::[many R])
   ·exact zk
   apply Zz;exact rfl
   exact .inl ⟨L,by rw[hxs,Tv];exact hS,rfl⟩
  obtain⟨own,hown⟩:∃own,s.cells.filter (atP slot o)=own:=⟨_,rfl⟩
  have hof:(hs.filter λc=>!!(decide (c.2.1=(o:Int))))=own:=by
   rw[<-hown,hhs,NR]
   refine Ni λc _=>?_
   unfold atP
   rw[MF,Bool.decide_and,Bool.and_comm]
  have hol:own.length<=900:=by
   have:=Rn (atP slot o) s.cells
   rw[hown]at this
   omega
  have pg:=λ{A2:Option Addr}{cap2:Nat}{H':List HP}{w:World}(hin:n.In B w0 H') (hr:Rd B w0 H' A2 (own.flatMap celF++#[Value.int .i64 0,.int .i64 0,.int .i64 l.1,.int .i64 l.2.1,.int .i64 0].toList)) (hw:St B w0 H' w)=>YjN n (own++[(0,0,l.1,l.2.1,0)]) hck (by rw[Tj];show own.length+1<=1000;omega) (A:=A2) (cap:=cap2) hin (by rw[TV];exact hr) hw
  have hol1:(own++[((0,0,l.1,l.2.1,0):Cel)]).length=own.length+1:=by rw[Tj];rfl
  rw[hol1]at pg
  unfold NetM.val at pg
  repeat'(first|refine zgd ?_|(refine zge ?_ ?_<;>intro _<;>try exact zo)|(refine zgh ?_;intro _)|fail)
  rename_i g8
  apply Yh _ YeI
  exact za
  exact rfl
  exactλ_ hw=>(Jl hs (by omega) (.sl zm) (hw))
  rintro _ _ ⟨A1,c1,rfl,rfl⟩
  repeat'(first|(apply zg29;(apply Ym;exact za;exact rfl))|fail)
  apply Yh _ Yli
  exact za
  exact rfl
  exactλ_ hw=>(Ul (λc=>!(decide (c.2.1=(o:Int)))) hs 421 [.pointer (some ⟨g8,0,none⟩)] Yua (by omega) (λc _ X w hw=>Yj9 c o g8 (Rb _ zm) hw) (hw))
  rintro _ _ ⟨rfl,rfl⟩
  rw[hof]
  unfold cels
  repeat'(first|refine zga ?_|fail)
  apply Yl5 [0,1,2,3,4,5,6,7,8,9,10,11,12,13] [14,15,16] [false,true,false,false,true,true,true,true]
  kernel_rfl
  kernel_rfl
  exact zy
  (simp only[Yg,nthO];rfl)
  (simp only[Yg,nthO];rfl)
  repeat'(first|(apply Ye T;exact rfl;exact zm;exact rfl;exact zv;exact rfl;exact rfl)|(apply Yk;try exact zl)|refine zgd ?_|(refine zgh ?_;intro _)|(refine zgi ?_;intro _ _)|fail)
  first|apply Ya Ysm|apply Yb Ysm
  exact za
  exact rfl
  exactλ_ hw=>(pg (hin.mono zk) (.sl zm) hw)
  cases hg:Jz n.net (own++[(0,0,l.1,l.2.1,0)])with
  |true=>
   have hg2:Jz n.net (s.cells.filter (atP slot o)++[(0,0,l.1,l.2.1,0)])=true:=by rw[hown];exact hg
   have hx:(U6 n.net s.sch slot l.1 l.2.1)[(offI n.net s.cells slot l.1 l.2.1 o).length]? =some [.int .i64 (o:Int)]:=by
    rw[hxs,TE,YpB hg2 (by omega)];rfl
   have hY:=hy _ _ hx [sl 64 5 A hs.length cap (hs.flatMap celF)] L hS
   repeat'(first|(apply Yk;try exact zl)|refine zgd ?_|fail)
   apply Yj (sl 64 5 A hs.length cap (hs.flatMap celF)::many L::intA g5 slot::lnkA g4 l::grdA g3 n s::[many R])
   ·exact zk
   apply Yoy
   apply Yck _ _ (hy:=hY)
   ·exact YbK (j:=11) (s:=51) rfl rfl rfl
   ·exact rfl
   ·exact za
   ·exact rfl
   ·rintro⟨_,_,_,_,h,_⟩;cases h
   ·rintro _ ⟨L',hS',rfl⟩
    repeat'(first|refine zgd ?_|fail)
    apply hK (o+1,L')
    ·exact⟨by show((o+1:Nat):Int)<=_;omega,by rw[YpC hg2,Tj];exact hS'⟩
    ·dsimp only;omega
    ·exact zu
    ·exactλw hw=>hw
   ·rintro _ ⟨L',hX',rfl⟩
    repeat'(first|refine zgd ?_|fail)
    apply Yj (many L'::intA g5 slot::lnkA g4 l::grdA g3 n s::[many R])
    ·exactλw hw=>hw.tail
    apply We;exact rfl
    exact .inr ⟨L',hX',rfl⟩
  |false=>
   have hg2:Jz n.net (s.cells.filter (atP slot o)++[(0,0,l.1,l.2.1,0)])=false:=by rw[hown];exact hg
   repeat'(first|(apply Yk;try exact zl)|refine zgd ?_|fail)
   apply Yoy
   apply Yhf (by rintro⟨_,_,_,_,h,_⟩;cases h)
   repeat'(first|refine zgc ?_|fail)
   apply hK (o+1,L)
   ·exact⟨by show((o+1:Nat):Int)<=_;omega,by rw[Yrf hg2];exact hS⟩
   ·dsimp only;omega
   ·exact zu
   ·exact zk
section
variable {m:Eng.Mode}{n:Shp}{B d:Nat}{w0:World}{ops:Array Oper}{Q:Exit->Act->World->Prop}{rest:List Oper}{env:Env}{H:List HP}{ty:TypeId}{pos:String}{after:Array Edge}{x y lo:Operand}
variable {k cap gv:Nat}{A:Option Addr}
theorem YP{P:Program}(T:Tab P)(o n':Nat){t e size bytes:Nat}{ki:IntKind}{z:Int}(hx:evo env x=some (.slice A k cap))(hl:evo env lo=some (.int ki z))(ht:Eng.look T.sl t=some (e,size,bytes))(hn:Nat.ble (d+1) n.k=true)(hz:z=(o:Int))(hb:o<=k)(hn':k-o=n')
 (h:VL P m n B w0 ops Q rest ((d,.slice (subA A o cap size) n' (cap-o))::env) H):VL P m n B w0 ops Q (⟨some d,.slice t x (some lo) none none,ty,pos,after,none⟩::rest) env H:=by
 subst hz
 exact XS T hx hl ht hn ⟨by omega,by omega⟩ hn' h
theorem Yg5{g o la ca lb cb:Nat}{tt:TypeId}{cs:Array Value}{xs:List Value}{tys:Array TypeId}(hx:evo env x=some (.slice (some ⟨gv,0,none⟩) la ca))(hy:evo env y=some (.slice (subA (some ⟨g,0,none⟩) o cap 5) lb cb))(hm1:Eng.blk gv (.cells cs tt (0,0))∈H)(hm2:sl 64 5 (some ⟨g,0,none⟩) k cap xs∈H)
 (hne:∀w,St B w0 H w->gv≠g) (hc:0<cap/\cap≠o) (hn:Nat.ble (d+1) n.k=true) (h:VL Tryz.prog none n B w0 ops Q rest ((d,.bool false)::env) H):
 VL Tryz.prog none n B w0 ops Q (⟨some d,.call ⟨.value (.func 423),#[x,y],tys⟩,ty,pos,after,none⟩::rest) env H:=by
 have hsub:subA (some ⟨g,0,none⟩) o cap 5=some ⟨g,o*5,none⟩:=by
  unfold subA
  rw[Td hc.2,RH,Addr.add_lit,Ry]
 rw[hsub]at hy
 refine XH (λu K'=>u=.bool false/\K'=H) rfl rfl hn (λa w ha hw=>⟨.bool false,H,w,?_,hw,rfl,rfl⟩) (by rintro _ _ ⟨rfl,rfl⟩;exact h)
 have hb:=(hw.blk hm1).1
 rcases Ja (hw.sl hm2)with⟨h0,_⟩|⟨g',cur,e0,g1,_,_,g4,_⟩
 ·cases h0
 injection e0 with e0
 injection e0 with e0
 subst e0
 obtain⟨bb,htl⟩:∃bb,Eng.look T.sl 35=some (64,5,bb):=⟨_,rfl⟩
 obtain⟨_,inf,_,hi,_,_,hsi,_⟩:=YG (T.slic htl)
 have hr:=run_callFunc_extern (P:=Tryz.prog) Tryz.func423 (by kernel_rfl) (by kernel_rfl) (by kernel_rfl) (e:=Extern.SlicesOverlaps.overlaps #[35,35] #[4]) (by kernel_rfl) #[.slice (some ⟨gv,0,none⟩) la ca,.slice (some ⟨g,o*5,none⟩) lb cb] w
 have hov:=Lib.run_overlaps_apart (P:=Tryz.prog) w 35 4 64 Tryz.underlying35 5 (λw=>by simp[sizeOf,typeInfo,hi,hsi]) ⟨gv,0,none⟩ ⟨g,o*5,none⟩ la ca lb cb (hne w hw) tt 64 cs.size cur.size (by simp[World.shape?,hb]) (by simp[World.shape?,g1]) (by rw[g4];omega) (by simp[World.frozen?,hb]) (by simp[World.frozen?,hb])
 have he:a.eval (.func 423)=.func (.func 423) #[] #[]:=rfl
 simp[execOp,resolve,invoke,ha.eval hx,ha.eval hy,he,Deferred.ofValue,hr,hov,Result.andThen]
end
variable {k cap gv:Nat}
theorem YsV(l:List Cel)(c:Cel)(i:Nat)(hk:k=1):(l.take i).take i++[c].take k++(l.take i).drop (i+k)=l.take i++[c]:=by
 rw[hk,Nk,Nat.min_self,TZ (by rw[TD];omega),TM];rfl
theorem YsW(l:List Cel)(c:Cel)(i:Nat)(hi:i<=l.length)(hk:k=l.length-i):(l.take i++[c]).take (i+1)++(l.drop i).take k++(l.take i++[c]).drop (i+1+k)=l.take i++c::l.drop i:=by
 have h1:(l.take i++[c]).length=i+1:=by rw[Tj,TD,TP];omega
 have h2:(l.take i++[c]).drop (i+1+k)=[]:=TZ (by omega)
 have h3:(l.drop i).take k=l.drop i:=TQ (by rw[Rf];omega)
 rw[TQ (l:=l.take i++[c]) (by omega),h2,h3];simp
theorem YsX(l:List Cel)(i:Nat)(hi:i<=l.length)(hk:k=l.length-i):l.take (i+1)++(l.drop i).take k++l.drop (i+1+k)=l.take (i+1)++l.drop i:=by
 have h2:l.drop (i+1+k)=[]:=TZ (by omega)
 have h3:(l.drop i).take k=l.drop i:=TQ (by rw[Rf];omega)
 rw[h2,h3,TM]
theorem YsY(l:List Cel)(c:Cel)(i:Nat)(hi:i<l.length)(hk:k=1):(l.take (i+1)++l.drop i).take i++[c].take k++(l.take (i+1)++l.drop i).drop (i+k)=l.take i++c::l.drop i:=by
 have h1:(l.take (i+1)).length=i+1:=by rw[TD];omega
 rw[hk,List.take_append_of_le_length (by omega),Nk,SG (by omega),List.drop_left' h1]
 simp
theorem Ypg(l:List Cel)(c:Cel)(i:Nat)(hi:i<=l.length):(l.take i++c::l.drop i).length=l.length+1:=by
 rw[Tj,TD,TS,Rf];omega
variable {A:Option Addr}
theorem Yf7(l:List Cel)(i:Nat)(c:Cel)(hi:i<=l.length)(hlen:l.length<=1000){B:Nat}{w0:World}{H:List HP}{w:World}(hw:St B w0 (cels A cap l::blk gv (.cells #[.int .i64 c.1,.int .i64 c.2.1,.int .i64 c.2.2.1,.int .i64 c.2.2.2.1,.int .i64 c.2.2.2.2] 64 (0,0))::H) w):
 Calls Tryz.prog 396 [.slice A l.length cap,.int .i64 i,.slice (some ⟨gv,0,none⟩) 1 1].toArray w (Post B w0 λv K=>∃A' cap',v=.slice A' (l.take i++c::l.drop i).length cap'/\K=cels A' cap' (l.take i++c::l.drop i)::H):=by
 refine Yc Tryz.func396 Tryz.ntmps396 rfl rfl hw ?_
 unfold cels
 refine Qw (k:=l.length) (cap:=cap) zm λhcap=>?_
 have hli:=Ypg l c i hi
 have hrv:∀{L:List HP},blk gv (.cells #[.int .i64 c.1,.int .i64 c.2.1,.int .i64 c.2.2.1,.int .i64 c.2.2.2.1,.int .i64 c.2.2.2.2] 64 (0,0))∈L->Rd B w0 L (some ⟨gv,0,none⟩) (([c]:List Cel).flatMap celF):=λh=>by
  have h1:=Rd.blk (B:=B) (w0:=w0) (cs:=(celF c).toArray) h
  rw[show([c]:List Cel).flatMap celF=(celF c).toArray.toList by simp]
  exact h1
 have hq5:∀c:Cel,(celF c).length=5:=λ_=>rfl
 have ho5:∀c:Cel,Ju (celF c)=true:=λ_=>rfl
 repeat'(first|refine zga ?_|fail)
 apply YP T i (l.length-i);(iterate 5 exact rfl);exact hi;exact rfl
 by_cases hin:i=l.length
 ·have e1:l.take i++c::l.drop i=l++[c]:=by rw[hin,TY,S0]
  rw[e1]
  repeat'(first|refine zgb ?_|(refine zge ?_ ?_<;>intro _<;>try exact zo)|(refine zgi ?_;intro _ _)|fail)
  rename_i A' cap'
  apply Yj (cels A' cap' (l++[c])::H)
  ·intro w hw
   rw[<-Wi]
   revert w
   exact zk
  apply Yd;exact rfl;exact rfl
  exact⟨A',cap',by rw[Tj];rfl,rfl⟩
 have hlt:i<l.length:=by omega
 have hrs:∀{L:List HP}{g:Nat},sl 64 5 (some ⟨g,0,none⟩) l.length cap (l.flatMap celF)∈L->Rd B w0 L (subA (some ⟨g,0,none⟩) i cap 5) ((l.drop i).flatMap celF):=λh=>by
  have h1:=Rd.sub (B:=B) (w0:=w0) (q:=5) (o:=i) (k:=l.length-i) (cap:=cap) hq5 (Rd.sl h) hcap
  rw[TQ (by rw[Rf];omega)]at h1
  exact h1
 apply YfK (k:=l.length) zm (by omega)
 rintro g rfl
 have hA:∃g',(some ⟨g,0,none⟩:Option Addr)=some ⟨g',0,none⟩:=⟨g,rfl⟩
 repeat'(first|(apply YkL T;(iterate 3 exact rfl))|refine zgc ?_|(refine zgf ?_ ?_<;>intro _<;>try exact zo)|fail)
 ·apply Vs T (n':=i);(iterate 4 exact rfl);omega;omega;exact hA
  repeat'(first|refine zgd ?_|fail)
  rw[show(l.length:Int)+((1:Nat):Int)-(i:Int)=((l.length+1-i:Nat):Int) by omega]
  apply Ya2 T (e:=64) (size:=5) (k:=l.length) (xs:=l.flatMap celF);exact rfl;exact rfl;exact zm;exact rfl;kernel_rfl;exact rfl;kernel_rfl;omega;intro g2 c2 hc2
  rw[show i+(l.length+1-i)=l.length+1 by omega]at hc2⊢
  have e2:sl 64 5 (some ⟨g2,0,none⟩) i c2 ((l.flatMap celF).take (i*5))=sl 64 5 (some ⟨g2,0,none⟩) (l.take i).length c2 ((l.take i).flatMap celF):=by
   rw[XG hq5,TD,SG hi]
  rw[e2]
  have hA2:∃g',(some ⟨g2,0,none⟩:Option Addr)=some ⟨g',0,none⟩:=⟨g2,rfl⟩
  have htl:(l.take i).length=i:=by rw[TD];omega
  repeat'(first|refine zga ?_|fail)
  apply YP T i (l.length+1-i);(iterate 5 exact rfl);omega;exact rfl
  repeat'(first|refine zga ?_|fail)
  apply J8 T (l.take i) [c] (l.take i++[c]) (f:=celF) (o:=i) (cap:=c2);exact rfl;exact rfl;exact hrv zm;exact hq5;exact ho5;exact rfl;exact rfl;exact hA2;(simp only[TP];omega);exact YsV l c i (by omega);exact zd
  repeat'(first|refine zga ?_|fail)
  apply YU [0,1,2,3,4,5,6,7] [8] [true,true,true]
  kernel_rfl
  kernel_rfl
  exact zy
  (simp only[Yg,nthO];rfl)
  (simp only[Yg,nthO];rfl)
  repeat'(first|refine zgc ?_|fail)
  apply YP T (i+1) (l.length+1-(i+1));(iterate 4 exact rfl);omega;omega;exact rfl
  repeat'(first|refine zga ?_|fail)
  apply YP T i (l.length-i);(iterate 5 exact rfl);omega;exact rfl
  repeat'(first|refine zgd ?_|fail)
  apply J8 T (l.take i++[c]) (l.drop i) (l.take i++c::l.drop i) (f:=celF) (o:=i+1) (cap:=c2);exact rfl;exact rfl;exact hrs zm;exact hq5;exact ho5;exact rfl;exact rfl;exact hA2;(simp only[Tj,TD,TP,Rf];omega);exact YsW l c i hi (by omega);exact zd
  repeat'(first|refine zgd ?_|fail)
  apply Yj (cels (some ⟨g2,0,none⟩) c2 (l.take i++c::l.drop i)::H)
  ·unfold cels
   exact zk
  apply Yd;exact rfl;exact rfl
  exact⟨_,c2,by rw[hli],rfl⟩
 ·apply Vs T (n':=l.length+1);(iterate 4 exact rfl);omega;omega;exact hA
  repeat'(first|refine zgc ?_|fail)
  apply YP T (i+1) (l.length+1-(i+1));(iterate 4 exact rfl);omega;omega;exact rfl
  apply Yg5 (gv:=gv) (g:=g) (o:=i+1) (cap:=cap) (k:=l.length) (xs:=l.flatMap celF);exact rfl;exact rfl;exact zm;exact zm;exactλw hw=>Yes (hw.perm (.swap _ _ _));omega;exact rfl
  repeat'(first|refine zgd ?_|fail)
  apply YU [0,1,2,3,4,5,6,7] [8] [true,true]
  kernel_rfl
  kernel_rfl
  exact zy
  (simp only[Yg,nthO];rfl)
  (simp only[Yg,nthO];rfl)
  repeat'(first|refine zgc ?_|fail)
  apply YP T (i+1) (l.length+1-(i+1));(iterate 4 exact rfl);omega;omega;exact rfl
  repeat'(first|refine zga ?_|fail)
  apply YP T i (l.length+1-i);(iterate 5 exact rfl);omega;exact rfl
  repeat'(first|refine zgd ?_|fail)
  apply J8 T l (l.drop i) (l.take (i+1)++l.drop i) (f:=celF) (o:=i+1) (cap:=cap);exact rfl;exact rfl;exact hrs zm;exact hq5;exact ho5;exact rfl;exact rfl;exact hA;(simp only[Rf];omega);exact YsX l i hi (by omega);exact zd
  repeat'(first|refine zgd ?_|fail)
  apply YP T i (l.length+1-i);(iterate 5 exact rfl);omega;exact rfl
  repeat'(first|refine zga ?_|fail)
  apply J8 T (l.take (i+1)++l.drop i) [c] (l.take i++c::l.drop i) (f:=celF) (o:=i) (cap:=cap);exact rfl;exact rfl;exact hrv zm;exact hq5;exact ho5;exact rfl;exact rfl;exact hA;(simp only[Tj,TD,TP,Rf];omega);exact YsY l c i hlt (by omega);exact zd
  repeat'(first|refine zgb ?_|fail)
  apply Yj (cels (some ⟨g,0,none⟩) cap (l.take i++c::l.drop i)::H)
  ·unfold cels
   exact zk
  apply Yd;exact rfl;exact rfl
  exact⟨_,cap,by rw[hli],rfl⟩
theorem Yj6:∀a b:List Int,a.length=b.length->Xn (List.zipWith cmpI a b)=cmpV a b
 |[],[],_=>rfl
 |[],_::_,h=>by cases h
 |_::_,[],h=>by cases h
 |x::a,y::b,h=>by
  have ih:=Yj6 a b (by simpa using h)
  rw[List.zipWith_cons_cons,Xn]
  by_cases h1:x<y
  ·have e1:cmpI x y= -1:=Tm h1
   have e2:Xd (x::a) (y::b)=true:=by rw[Xd,Tm (show x≠y by omega)];exact Tc h1
   rw[e1,Tm (show(-1:Int)≠0 by decide),cmpV,Tm e2]
  ·by_cases h2:y<x
   ·have e1:cmpI x y=1:=by unfold cmpI;rw[Td h1,Tm h2]
    have e2:Xd (x::a) (y::b)=false:=by rw[Xd,Tm (show x≠y by omega)];exact Tn h1
    have e3:Xd (y::b) (x::a)=true:=by rw[Xd,Tm (show y≠x by omega)];exact Tc h2
    rw[e1,Tm (show(1:Int)≠0 by decide),cmpV,e2,e3];rfl
   ·obtain rfl:x=y:=by omega
    have e1:cmpI x x=0:=by unfold cmpI;rw[Td h1,Td h1]
    have e2:∀l m:List Int,Xd (x::l) (x::m)=Xd l m:=λl m=>by rw[Xd,Td (λh=>h rfl)]
    rw[e1,Td (λh=>h rfl),ih]
    unfold cmpV
    rw[e2,e2]
variable {B:Nat}{w0 w:World}{H:List HP}
theorem OR(a b:Cel)(hw:St B w0 H w):
 Calls Tryz.prog 161 [celV a,celV b].toArray w (Post B w0 λv K=>v=.int .i64 (cmpV (nums a) (nums b))/\K=H):=by
 refine Yc Tryz.func161 Tryz.ntmps161 rfl rfl hw ?_
 rw[<-Yj6 (nums a) (nums b) rfl]
 unfold celV
 repeat'(first|refine zga ?_|(refine zgh ?_;intro _)|fail)
 apply YU [0,1,2,3,5,6,7,8,10,11,12,13,15,16,17,18,20,21,22,23,4,9,14,19,24,25,26,27] [] [true,true]
 kernel_rfl
 kernel_rfl
 exact zy
 (simp only[Yg,nthO];rfl)
 exact rfl
 repeat'(first|((first|apply Ya WJ|apply Yb WJ);exact za;exact rfl;exactλ_ hw=>(Uj _ _ hw))|(apply Yk;try exact zl)|refine zgd ?_|(refine zgh ?_;intro _)|fail)
 rename_i g
 first|apply Ya Ylc|apply Yb Ylc
 exact za
 exact rfl
 exactλ_ hw=>(YlL (List.zipWith cmpI (nums a) (nums b)) (by simp[nums]) (Rd.blk (g:=g) (cs:=#[.int .i64 (cmpI a.1 b.1),.int .i64 (cmpI a.2.1 b.2.1),.int .i64 (cmpI a.2.2.1 b.2.2.1),.int .i64 (cmpI a.2.2.2.1 b.2.2.2.1),.int .i64 (cmpI a.2.2.2.2 b.2.2.2.2)]) zm) hw)
 repeat'(first|(apply Yk;try exact zl)|refine zgd ?_|fail)
 apply Yj H
 ·exact zk
 apply Yd;exact rfl;exact rfl
 exact⟨rfl,rfl⟩
theorem Ygy(l:List Cel)(c:Cel)(ho:Ord l)(hlen:l.length<=1000000000){A:Option Addr}{cap:Nat}(hr:Rd B w0 H A (l.flatMap celF))(hw:St B w0 H w):
 Calls Tryz.prog 395 [.slice A l.length cap,celV c,.func (.func 161) #[] #[]].toArray w (Post B w0 λv K=>
  v=.tuple #[.int .i64 (posE l c),.bool (decide (c∈l))]/\K=H):=by
 refine Yc Tryz.func395 Tryz.ntmps395 rfl rfl hw ?_
 (apply Xt;apply Y0;apply YR;exact rfl;exact rfl;intro g)
 repeat'(first|refine zgb ?_|fail)
 have hr:=hr.cons (X:=blk g (.cells (celF c).toArray 64 (0,0)))
 refine Yca (λ(lo hi:Nat)=>[(9,.int .i64 lo),(10,.int .i64 hi),(8,.int .i64 l.length),(0,.slice A l.length cap),(2,.func (.func 161) #[] #[]),(4,.pointer (some ⟨g,0,none⟩))]) (λ_ _=>blk g (.cells (celF c).toArray 64 (0,0))::H)
  (λlo hi=>lo<=hi/\hi<=l.length/\(∀i x,i<lo->l[i]? =some x->Y8 x c=true)/\(∀i x,hi<=i->l[i]? =some x->Y8 x c=false)) (λlo hi=>hi-lo) 0 l.length ⟨by omega,by omega,λj x hj=>by omega,λj x h1 h2=>by have:=(Ti.1 h2).1;omega⟩ ?_ (λw hw=>hw) ?_
 ·exact zu
 rintro lo hi ⟨h1,h2,h3,h4⟩ K hK
 by_cases hlt:lo<hi
 ·obtain⟨b,hb⟩:∃b,l[(((lo:Int)+hi)/2).toNat]? =some b:=⟨_,Ta (by omega)⟩
  have hm:(((lo:Int)+hi)/2).toNat=(lo+hi)/2:=by omega
  have hb2:l[(lo+hi)/2]? =some b:=by rw[<-hm];exact hb
  repeat'(first|((first|apply Yz (cs:=[])|apply Y4 (cs:=[]));exact rfl;exact YoU;exact za;exact rfl;exactλ_ hw=>(OR b c hw))|(apply zg28;refine zs84 ?_)|refine zgd ?_|(refine zge ?_ ?_<;>intro _<;>try exact zo)|fail)
  ·rename_i hc
   rw[Yaz]at hc
   apply hK ((lo+hi)/2+1) hi
   ·refine⟨by omega,by omega,λj x hj hx=>?_,h4⟩
    by_cases e:j=(lo+hi)/2
    ·rw[e,hb2]at hx
     injection hx with hx;subst hx;exact hc
    ·exact Jk (Ygh ho hx hb2 (by omega)) hc
   ·omega
   ·exact zu
   ·exactλw hw=>hw
  ·rename_i hc
   have hc:Y8 b c=false:=by
    cases h:Y8 b c with
    |false=>rfl
    |true=>rw[<-Yaz]at h;omega
   apply hK lo ((lo+hi)/2)
   ·refine⟨by omega,by omega,h3,λj x hj hx=>?_⟩
    by_cases e:j=(lo+hi)/2
    ·rw[e,hb2]at hx
     injection hx with hx;subst hx;exact hc
    ·cases h:Y8 x c with
     |false=>rfl
     |true=>rw[Jk (Ygh ho hb2 hx (by omega)) h]at hc;cases hc
   ·omega
   ·exact zu
   ·exactλw hw=>hw
 ·obtain rfl:lo=hi:=by omega
  have hp:Pos l c lo:=⟨h2,h3,h4⟩
  have hpe:=hp.posE ho
  have hpm:=Yro ho hp
  by_cases hl:lo<l.length
  ·obtain⟨b,hb⟩:∃b,l[lo]? =some b:=⟨_,Ta hl⟩
   rw[hb]at hpm
   repeat'(first|((first|apply Yz (cs:=[])|apply Y4 (cs:=[]));exact rfl;exact YoU;exact za;exact rfl;exactλ_ hw=>(OR b c hw))|(apply zg28;refine zs84 ?_)|refine zgd ?_|(refine zge ?_ ?_<;>intro _<;>try exact zo)|fail)
   all_goals(apply Yl;apply Yp;(iterate 3 exact rfl);rw[<-hpe])
   ·rename_i hc
    rw[YoH]at hc
    exact⟨by rw[Tc (hpm.1 (by rw[hc]))],rfl⟩
   ·rename_i hc
    rw[ne_eq,YoH]at hc
    exact⟨by rw[Tn λh=>hc (Tz (hpm.2 h))],rfl⟩
  ·repeat'(first|(apply zg28;refine zs84 ?_)|refine zgd ?_|(refine zge ?_ ?_<;>intro _<;>try exact zo)|fail)
   apply Yl;apply Yp;(iterate 3 exact rfl);rw[<-hpe]
   rw[RP (by omega)]at hpm
   exact⟨by rw[Tn λh=>by cases hpm.2 h],rfl⟩
theorem Ygg(n:NetM)(s:SchM)(l:Lk)(slot:Int)(hw:St B w0 H w):
 Calls Tryz.prog 394 [grdV n s,lkV l,.int .i64 slot].toArray w (Post B w0 λv K=>∃g3 g4 g5,v=.func (.func 419) #[] #[.pointer (some ⟨g3,0,none⟩),.pointer (some ⟨g5,0,none⟩),.pointer (some ⟨g4,0,none⟩)]/\K=intA g5 slot::lnkA g4 l::grdA g3 n s::H):=by
 refine Yc Tryz.func394 Tryz.ntmps394 rfl rfl hw ?_
 unfold grdV lkV
 repeat'(first|(apply zg23;first|(refine zs52 ?_;intro _)|(refine zs53 ?_;intro _))|(apply zg29;(apply Ym;exact za;exact rfl))|refine zga ?_|fail)
 apply Yd;exact rfl;exact rfl
 exact⟨_,_,_,rfl,rfl⟩
end Go.Proofs.YtaholidehobiiaaGreatDoor
namespace Go.Eng
open Go.RowKit
section
variable {P:Program}{B:Nat}{w0:World}{env:Env}{H:List HP}
theorem Yci{n:Nat}(T:Tab P){fn:Func}{Φ:Value->List HP->Prop}{p g k q g2 rt st:Nat}{v:Value}{cs:Array Value}{tt tt2:TypeId}{fr fr2:Nat×Nat}(hr:fn.results=#[.cell p rt,.cell q st])(hp:get env p=some (.pointer (some ⟨g,0,none⟩)))(hq:get env q=some (.pointer (some ⟨g2,0,none⟩)))
 (hm:blk g (.cells cs tt fr)∈H) (hm2:blk g2 (.cells #[v] tt2 fr2)∈H) (ht:look T.ag rt=some k) (hk:cs.size=k) (ht2:look T.sc st=some ()) {H2:List HP}(hH:∀w,St B w0 H w->St B w0 H2 w) (h:Φ (.tuple #[.agg cs,v]) H2):VQ ⟨n,[],none⟩ B w0 (bodyPost P fn (Post B w0 Φ)) .ret env H:=by
 refine⟨λa w ha hw=>bodyPost_ret (v:=.tuple #[.agg cs,v]) ?_ ha.defers ⟨_,H2,rfl,hH w hw,h⟩⟩
 have hp':=ha.slot p _ hp
 have hq':=ha.slot q _ hq
 have hc:=Y3 (i:=0) (hw.blk hm2).1
 have h2:(loadVar st ⟨g2,0,none⟩).run P w=.ok v w:=by simp[loadVar,Xi (T.scal ht2).1,hc]
 simp[results,hr,Array.getD_eq_getD_getElem?,hp',hq',asAddr,VB T (hw.blk hm).1 ht hk,h2]
end
end Go.Eng
namespace Go.Proofs.YtaholidehobiiaaGreatDoor
open Go.RowKit Go.Eng Go.Nw Go.Rt
theorem Wm{α:Type}(p:α->Bool):∀l:List α,(l.filter p)[0]? =l.find? p
 |[]=>rfl
 |a::l=>by
  rw[Su,N9]
  cases h:p a with
  |true=>rfl
  |false=>exact Wm p l
variable {n:Net}{l:List Cel}{slot a b id:Int}
theorem Ylz(h:tchB l slot a b=false):(λo:Nat=>fitE n l slot o a b)=λo:Nat=>Jz n (l.filter (atP slot o)++[(0,0,a,b,0)]):=by
 funext o
 unfold fitE
 unfold tchB at h
 rw[h];rfl
theorem YsT(h:tchB l slot a b=true):(λo:Nat=>fitE n l slot o a b)=λ_=>false:=by
 funext o
 unfold fitE
 unfold tchB at h
 rw[h];rfl
variable {s:Sch}
theorem Yj7(hh:hasC s.cells slot a b id=false)(h:(U6 n s slot a b).length=0):JI n s a b id slot=none:=by
 unfold JI
 rw[hh,Td (by decide)]
 have:((List.range s.off.toNat).find? λo:Nat=>fitE n s.cells slot o a b)=none:=by
  cases ht:tchB s.cells slot a b with
  |true=>rw[YsT ht];simp
  |false=>
   rw[Ylz ht,<-Wm]
   unfold U6 at h
   rw[ht,Td (by decide),Tv]at h
   unfold offI at h
   rw[RJ h];rfl
 rw[this];rfl
theorem Yj8(hh:hasC s.cells slot a b id=false){args:List Value}(h:(U6 n s slot a b)[0]? =some args):∃o:Nat,args=[.int .i64 (o:Int)]/\o<s.off.toNat/\fitE n s.cells slot o a b=true/\JI n s a b id slot=some ⟨s.len,s.off,insC s.cells (slot,(o:Int),a,b,id)⟩:=by
 unfold U6 at h
 cases ht:tchB s.cells slot a b with
 |true=>rw[ht,Tm rfl]at h;cases h
 |false=>
  rw[ht,Td (by decide),TE]at h
  unfold offI at h
  rw[Wm]at h
  cases hf:(List.range s.off.toNat).find? λo:Nat=>Jz n (s.cells.filter (atP slot o)++[(0,0,a,b,0)])with
  |none=>rw[hf]at h;cases h
  |some o=>
   rw[hf]at h
   have hf2:(List.range s.off.toNat).find? (λo:Nat=>fitE n s.cells slot o a b)=some o:=by rw[Ylz ht];exact hf
   refine⟨o,(Tz h).symm,TO.1 (List.mem_of_find?_eq_some hf),(by have h5:=List.find?_some hf2;exact h5),?_⟩
   unfold JI
   rw[hh,Td (by decide),hf2];rfl
theorem Ykw(n:NetM)(s:SchM)(l:Lk)(id slot:Int)(hck:Yq n.net=0)(hl:s.cells.length<=900)(hoff:0<=s.off/\s.off<=16)(ho:Ord s.cells){B:Nat}{w0:World}{R:List HP}{w:World}(hin:n.In B w0 [many R])(hr:Rd B w0 [many R] s.A (s.cells.flatMap celF))(hw:St B w0 [many R] w):
 Calls Tryz.prog 344 [grdV n s,lkV l,.int .i64 id,.int .i64 slot].toArray w (Post B w0 λv K=>
  (v=.tuple #[grdV n s,.bool true]/\JI n.net s.sch l.1 l.2.1 id slot=some s.sch/\K=[many R])\/
  (v=.tuple #[grdV n s,.bool false]/\JI n.net s.sch l.1 l.2.1 id slot=none/\K=[many R])\/
  ∃A cap c,v=.tuple #[grdV n ⟨s.len,s.off,A,cap,insC s.cells c⟩,.bool true]/\JI n.net s.sch l.1 l.2.1 id slot=some ⟨s.len,s.off,insC s.cells c⟩/\K=[cels A cap (insC s.cells c),many R]):=by
 refine Zi Tryz.func344 Tryz.ntmps344 rfl rfl hw ?_
 have p1:=λ{H':List HP}{w:World}(hr:Rd B w0 H' s.A (s.cells.flatMap celF)) (hw:St B w0 H' w)=>YmY n s l id slot (by omega) hr hw
 have p2:=λ{H':List HP}{w:World}(hw:St B w0 H' w)=>Ygg n s l slot hw
 cases hh:hasC s.cells slot l.1 l.2.1 id with
 |true=>
  rw[hh]at p1
  unfold grdV lkV at p1⊢
  repeat'(first|(apply zg23;first|(refine zs52 ?_;intro _)|(refine zs53 ?_;intro _))|refine zgb ?_|(refine zgh ?_;intro _)|fail)
  first|apply Ya Ylr|apply Yb Ylr
  exact za
  exact rfl
  exactλ_ hw=>(p1 hr.cons.cons.cons.cons.cons.cons hw)
  repeat'(first|refine zgd ?_|fail)
  apply VQ_m
  apply Yci T (H2:=[many R]);(iterate 3 exact rfl);exact zm;exact zm;(iterate 3 exact rfl);exact zk
  refine .inl ⟨rfl,?_,rfl⟩
  unfold JI
  rw[show s.sch.cells=s.cells from rfl,Tm hh]
 |false=>
 rw[hh]at p1
 unfold grdV lkV at p1 p2⊢
 repeat'(first|(apply zg23;first|(refine zs52 ?_;intro _)|(refine zs53 ?_;intro _))|refine zgb ?_|(refine zgh ?_;intro _)|fail)
 rename_i g4 g5 g6 g7 g8 g9
 first|apply Ya Ylr|apply Yb Ylr
 exact za
 exact rfl
 exactλ_ hw=>(p1 hr.cons.cons.cons.cons.cons.cons hw)
 repeat'(first|refine zgb ?_|fail)
 apply Yh _ Yt3
 exact za
 exact rfl
 exactλ_ hw=>(p2 (hw))
 rintro _ _ ⟨k3,k4,k5,rfl,rfl⟩
 repeat'(first|refine zgb ?_|fail)
 have hlen0:∀args∈U6 n.net s.sch slot l.1 l.2.1,args.length=[24].length:=by
  intro args h
  unfold U6 at h
  split at h
  ·cases h
  ·obtain⟨o,_,rfl⟩:=TG.1 h
   rfl
 refine Zj (gf:=419) (lb:=[.pointer (some ⟨k3,0,none⟩),.pointer (some ⟨k5,0,none⟩),.pointer (some ⟨k4,0,none⟩)]) (xs:=U6 n.net s.sch slot l.1 l.2.1) (intA k5 slot::lnkA k4 l::grdA k3 n s::[many R])
  (λ_:Unit=>[blk g9 (.cells #[.bool false] 4 (0,0)),blk g8 (.cells #[.int .i64 0,.slice none 0 0,.int .i64 0,.int .i64 0,.slice none 0 0,.slice none 0 0,.int .i64 0,.int .i64 0,.slice none 0 0] 292 (0,0)),intA g7 slot,intA g6 id,lnkA g5 l,grdA g4 n s])
  (λk _=>k=0) (λe K=>e=.ret/\∃A cap,∃o:Int,JI n.net s.sch l.1 l.2.1 id slot=some ⟨s.len,s.off,insC s.cells (slot,o,l.1,l.2.1,id)⟩/\K=[blk g9 (.cells #[.bool true] 4 (0,0)),grdA g8 n ⟨s.len,s.off,A,cap,insC s.cells (slot,o,l.1,l.2.1,id)⟩,cels A cap (insC s.cells (slot,o,l.1,l.2.1,id))]) () rfl Yt9 (Ynl n s l slot k3 k5 k4 hck hl hoff hin hr) rfl hlen0 (by kernel_rfl) (by kernel_rfl) ?_ rfl ?_ ?_ ?_
 ·intro w hw
  have h5:St B w0 (blk g9 (.cells (Value.bool false).cells 4 (0,0))::blk g8 (.cells (Value.agg #[.int .i64 0,.slice none 0 0,.int .i64 0,.int .i64 0,.slice none 0 0,.slice none 0 0,.int .i64 0,.int .i64 0,.slice none 0 0]).cells 292 (0,0))::intA g7 slot::intA g6 id::lnkA g5 l::grdA g4 n s::intA k5 slot::lnkA k4 l::grdA k3 n s::[many R]) w:=by
   revert w
   exact zk
  exact h5
 ·rintro ly k args R1 ⟨⟩ hk rfl
  obtain⟨o,rfl,hol,hfit,hsl⟩:=Yj8 (id:=id) hh hk
  dsimp only[UG,List.cons_append,List.nil_append]
  have hrx:∀{H':List HP},(∀w,St B w0 H' w->St B w0 [many R] w)->Rd B w0 H' s.A (s.cells.flatMap celF):=λh=>hr.mono h
  repeat'(first|refine zga ?_|fail)
  apply JO Yt
  intro R2
  have hpl:posE s.cells (slot,(o:Int),l.1,l.2.1,id)<=s.cells.length:=(Ygn ho _).1
  repeat'(first|refine zgd ?_|(refine zgh ?_;intro _)|fail)
  rename_i g11
  first|apply Ya Ysk|apply Yb Ysk
  exact za
  exact rfl
  exactλ_ hw=>(Ygy s.cells (slot,(o:Int),l.1,l.2.1,id) ho (by omega) (hrx zk) hw)
  repeat'(first|refine zgc ?_|fail)
  apply YgV (.p1 0 (.p1 1 (.p1 2 (.p1 4 (.p1 5 (.d2 3 (.d1 6 (.d1 7 (.d1 8 (.d1 9 .done)))) 6 (.d1 3 (.d1 7 (.d1 8 (.d1 9 .done)))))))))) [10] [true,false,false,false,false,false,false,true,false,false,false,true]
  kernel_rfl
  kernel_rfl
  exact zy
  (simp only[Yg,nthO];rfl)
  repeat'(first|((apply Yh _ YeI);exact za;exact rfl;exactλ_ hw=>Jl s.cells (by omega) (hrx zk) hw;rintro _ _ ⟨A1,cap1,rfl,rfl⟩)|(apply VO T T2;(iterate 7 exact rfl);intro gv)|(apply Xw [cels A1 cap1 s.cells,blk gv (.cells #[.int .i64 slot,.int .i64 (o:Int),.int .i64 l.1,.int .i64 l.2.1,.int .i64 id] 64 (0,0))] _ Yt4;exact za;try exact zl;exact zp;exact rfl;exactλ_ hw=>Yf7 s.cells _ (slot,(o:Int),l.1,l.2.1,id) hpl (by omega) hw;rintro _ _ ⟨A2,cap2,rfl,rfl⟩)|(apply YrJ;(simp only[nthO];rfl))|(apply YrH;(simp only[nthO];rfl);exact zp)|(apply YrI;(simp only[nthO];rfl);(simp only[nthO];rfl);exact zp)|(apply Yhe;try exact zl)|refine zgd ?_|fail)
  all_goals(
   refine QB [blk g9 (.cells #[.bool true] 4 (0,0)),grdA g8 n ⟨s.len,s.off,A2,cap2,insC s.cells (slot,(o:Int),l.1,l.2.1,id)⟩,cels A2 cap2 (insC s.cells (slot,(o:Int),l.1,l.2.1,id))] ⟨rfl,A2,cap2,(o:Int),hsl,rfl⟩ ?_
   dsimp only[List.cons_append,List.nil_append]
   unfold insC
   exact zk)
 ·rintro D ⟨⟩ hI
  have hnone:=Yj7 (id:=id) hh hI
  dsimp only[List.cons_append,List.nil_append]
  repeat'(first|refine zgd ?_|fail)
  apply ZR Yt
  apply VQ_m
  apply Yci T (H2:=[many R]);(iterate 3 exact rfl);exact zm;exact zm;(iterate 3 exact rfl);exact zk
  exact .inr (.inl ⟨rfl,hnone,rfl⟩)
 ·rintro D e K ⟨rfl,A,cap,o,hsl,rfl⟩ hjmp
  dsimp only[List.cons_append,List.nil_append]
  repeat'(first|refine zgd ?_|fail)
  apply ZR Yt
  apply VQ_m
  apply Yci T (H2:=[cels A cap (insC s.cells (slot,o,l.1,l.2.1,id)),many R]);(iterate 3 exact rfl);exact zm;exact zm;(iterate 3 exact rfl);exact zk
  exact .inr (.inr ⟨A,cap,_,rfl,hsl,rfl⟩)
variable {n:Net}
theorem Sm.few{l:List Flw}{s:Sch}(h:Sm n l s)(hl:s.len<=24):s.cells.length<=768:=by
 have hok:=YM h.ck
 have hnd:(s.cells.map λc=>c.1*32+Yx c).Nodup:=by
  refine Md.2 (h.once.imp_of_mem λ{a b} ha hb hab e=>?_)
  have h1:=Xu hok (h.good a ha).1
  have h2:=Xu hok (h.good b hb).1
  have hn:=hok.n1
  have hs:a.1=b.1:=by omega
  have:=hab hs
  unfold YC at this
  exact of_decide_eq_false this (.inl (by omega))
 have:=Go.Nw.nodup_len 768 _ hnd λx hx=>by
  obtain⟨c,hc,rfl⟩:=TG.1 hx
  have h1:=Xu hok (h.good c hc).1
  have hn:=hok.n1
  have hf:=h.formed c hc
  unfold ZT ZC insE at hf
  simp only[To,Tq]at hf
  have:=hf.1.1.1.1
  omega
 rw[Tv]at this
 exact this
variable {B:Nat}{w0 w:World}{H:List HP}
theorem Yp1(n:NetM)(s:SchM)(l:Lk)(id slot:Int)(hck:Yq n.net=0)(hl:s.cells.length<=900)(hoff:0<=s.off/\s.off<=16)(ho:Ord s.cells)(hin:n.In B w0 H)(hr:Rd B w0 H s.A (s.cells.flatMap celF))(hw:St B w0 H w):
 Calls Tryz.prog 344 [grdV n s,lkV l,.int .i64 id,.int .i64 slot].toArray w (Post B w0 λv K=>
  (v=.tuple #[grdV n s,.bool true]/\JI n.net s.sch l.1 l.2.1 id slot=some s.sch/\K=H)\/
  (v=.tuple #[grdV n s,.bool false]/\JI n.net s.sch l.1 l.2.1 id slot=none/\K=H)\/
  ∃A cap c,v=.tuple #[grdV n ⟨s.len,s.off,A,cap,insC s.cells c⟩,.bool true]/\JI n.net s.sch l.1 l.2.1 id slot=some ⟨s.len,s.off,insC s.cells c⟩/\K=cels A cap (insC s.cells c)::H):=by
 have hop:∀w,St B w0 [many H] w->St B w0 H w:=λw hw=>hw.perm (.openT H)
 refine(Ykw n s l id slot hck hl hoff ho (R:=H) (hin.mono hop) (hr.mono hop) (hw.perm (.closeT H))).mono ?_
 rintro e w' ⟨v,K,h1,hst,h⟩
 rcases h with⟨h2,h3,rfl⟩|⟨h2,h3,rfl⟩|⟨A,cap,c,h2,h3,rfl⟩
 ·exact⟨v,_,h1,hop _ hst,.inl ⟨h2,h3,rfl⟩⟩
 ·exact⟨v,_,h1,hop _ hst,.inr (.inl ⟨h2,h3,rfl⟩)⟩
 ·exact⟨v,_,h1,hst.perm (.cons _ (.openT H)),.inr (.inr ⟨A,cap,c,h2,h3,rfl⟩)⟩
structure ReM where
 i:Nat
 s:SchM
 z:Int
 L:List HP
theorem Ykj(m k:Nat)(h:k<m):(List.range m).drop k=k::(List.range m).drop (k+1):=by
 rw[Rx (by simpa using h)];simp
theorem YjY{r:List Int}{k:Nat}(h:k+1<r.length):(Yr n r).drop k=ZK n r k::(Yr n r).drop (k+1):=by
 unfold Yr
 rw[<-List.map_drop,<-List.map_drop,Ykj _ _ (by omega),Re]
abbrev flwA(g:Nat)(f:Flw):HP:=blk g (.cells #[.int .i64 f.1,.int .i64 f.2.1,.int .i64 f.2.2.1,.int .i64 f.2.2.2.1,.int .i64 f.2.2.2.2.1,.int .i64 f.2.2.2.2.2] 53 (0,0))
theorem YmZ(n:Net)(a b id:Int)(f:Nat)(s:Sch)(z:Int):hopA n a b id f 0 s z=some (s,z):=by cases f<;>rfl
structure FilI(n:NetM)(L:List Flw)(len off:Int)(B:Nat)(w0:World)(H:List HP)(s:SchM)(P:List HP):Prop where
 sm:Sm n.net L s.sch
 len:s.len=len
 off:s.off=off
 rd:Rd B w0 (many P::[many H]) s.A (s.cells.flatMap celF)
theorem Yeb(n:NetM)(L:List Flw)(s:SchM)(f:Flw)(r:RowM)(at_:Int)(hsm:Sm n.net L s.sch)(h24:s.len<=24)(hk:∀x∈Yr n.net r.xs,LkOk n.net L x.1 x.2.1 f.1)(hkey:∀i,i+1<r.xs.length->0<=Yw n.net (r.xs.getD i 0) (r.xs.getD (i+1) 0))
 (hrl:1<=r.xs.length/\r.xs.length<=9) (hat:0<=at_/\at_<=1000) (hd:0<=f.2.2.2.2.2/\f.2.2.2.2.2<=512) {R:List HP}(hin:n.In B w0 H) (hr:Rd B w0 H s.A (s.cells.flatMap celF)) (hrr:Rd B w0 H r.A (r.xs.flatMap numF)) (hw:St B w0 (many R::H) w):
 Calls Tryz.prog 273 [grdV n s,flwV f,.slice r.A r.xs.length r.cap,.int .i64 at_].toArray w (Post B w0 λv K=>∃s' ok P,v=.tuple #[grdV n s',.bool ok]/\
  (ok=true->relA n.net f.1 (at_+f.2.2.2.2.2) (Yr n.net r.xs) s.sch at_=some s'.sch/\Rd B w0 (many P::H) s'.A (s'.cells.flatMap celF))/\(ok=false->relA n.net f.1 (at_+f.2.2.2.2.2) (Yr n.net r.xs) s.sch at_=none)/\K=many P::many R::H):=by
 refine Yc Tryz.func273 Tryz.ntmps273 rfl rfl hw ?_
 have hop:∀w,St B w0 [many H] w->St B w0 H w:=λw hw=>hw.perm (.openT H)
 have hin:=hin.mono hop
 have hr:=hr.mono hop
 have hrr:=hrr.mono hop
 have hok:=YM hsm.ck
 obtain⟨endd,hend⟩:∃e,at_+f.2.2.2.2.2=e:=⟨_,rfl⟩
 obtain⟨RR,hRR⟩:∃R,relA n.net f.1 endd (Yr n.net r.xs) s.sch at_=R:=⟨_,rfl⟩
 rw[hend,hRR]
 have hsz:1<=s.len/\s.len<=512/\1<=s.off/\s.off<=16:=Rm hsm.sized
 refine Jf (many R::[many H]) (λw hw=>hw.perm (.cons _ (.closeT H))) ?_
 refine Jf (many []::many R::[many H]) (λw hw=>hw.perm (.noMany _)) ?_
 unfold grdV flwV
 repeat'(first|refine zgc ?_|(refine zgh ?_;intro _)|fail)
 rename_i g4 g5 g8
 rw[hend]
 refine Yi (λz:ReM=>[(11,.int .i64 (z.i:Nat)),(10,.int .i64 endd),(9,.bool false),(3,.int .i64 z.z),(2,.slice r.A r.xs.length r.cap),(4,.pointer (some ⟨g4,0,none⟩)),(5,.pointer (some ⟨g5,0,none⟩)),(8,.pointer (some ⟨g8,0,none⟩))])
  (λz=>grdA g4 n z.s::flwA g5 f::blk g8 (.cells #[.int .i64 0,.slice none 0 0,.int .i64 0,.int .i64 0,.slice none 0 0,.slice none 0 0,.int .i64 0,.int .i64 0,.slice none 0 0] 292 (0,0))::many z.L::many R::[many H])
  (λz=>(1<=z.i/\z.i<=r.xs.length)/\FilI n L s.len s.off B w0 H z.s z.L/\(0<=z.z/\z.z<=endd)/\relA n.net f.1 endd ((Yr n.net r.xs).drop (z.i-1)) z.s.sch z.z=RR) (λz=>r.xs.length-z.i) ⟨1,s,at_,[]⟩ ⟨⟨by show 1<=1;omega,hrl.1⟩,⟨hsm,rfl,rfl,hr.cons⟩,⟨hat.1,by show at_<=endd;omega⟩,hRR⟩ ?_ ?_ ?_
 ·exact zu
 ·intro w hw
  have h5:St B w0 (grdA g4 n s::flwA g5 f::blk g8 (.cells (Value.agg #[.int .i64 0,.slice none 0 0,.int .i64 0,.int .i64 0,.slice none 0 0,.slice none 0 0,.int .i64 0,.int .i64 0,.slice none 0 0]).cells 292 (0,0))::many []::many R::[many H]) w:=by
   revert w
   exact zk
  exact h5
 rintro⟨i,s1,z,P⟩ ⟨⟨hi1,hi2⟩,hF,hz,hrel⟩ K hK
 dsimp only at hi1 hi2 hF hz hrel⊢
 by_cases hlt:i<r.xs.length
 rotate_left
 ·obtain rfl:i=r.xs.length:=by omega
  clear hK
  rw[TZ (by unfold Yr;simp)]at hrel
  repeat'(first|refine zgc ?_|(refine zge ?_ ?_<;>intro _<;>try exact zo)|fail)
  apply Yv T (H2:=many P::many R::H);(iterate 3 exact rfl);exact zm;exact rfl;exact rfl
  ·intro w hw
   have h5:St B w0 (many P::many R::[many H]) w:=by
    revert w
    exact zk
   exact h5.perm (.cons _ (.cons _ (.openT H)))
  exact⟨s1,true,P,rfl,λ_=>⟨hrel.symm,hF.rd.mono λw hw=>hw.perm (.cons _ (.closeT H))⟩,λh=>(by cases h),rfl⟩
 obtain⟨k,rfl⟩:∃k,i=k+1:=⟨i-1,by omega⟩
 rw[SR,YjY hlt]at hrel
 obtain⟨a,ha⟩:∃a,r.xs[(((k+1:Nat):Int)-1).toNat]? =some a:=⟨_,Ta (by omega)⟩
 obtain⟨b,hb⟩:∃b,r.xs[((k+1:Nat):Int).toNat]? =some b:=⟨_,Ta (by omega)⟩
 have ha2:r.xs.getD k 0=a:=by rw[Tt,<-show(((k+1:Nat):Int)-1).toNat=k by omega,ha];rfl
 have hb2:r.xs.getD (k+1) 0=b:=by rw[Tt,<-show((k+1:Nat):Int).toNat=k+1 by omega,hb];rfl
 have hfi:=hkey k hlt
 rw[ha2,hb2]at hfi
 have hfl:=ZA hfi
 have hlk:n.links[(Yw n.net a b).toNat]? =some (ZK n.net r.xs k):=by
  unfold ZK
  rw[ha2,hb2]
  obtain⟨x,hx⟩:∃x,n.links[(Yw n.net a b).toNat]? =some x:=⟨_,Ta hfl⟩
  rw[VA (n:=n.net) hx];exact hx
 obtain⟨lk,hlkd⟩:∃lk,ZK n.net r.xs k=lk:=⟨_,rfl⟩
 rw[hlkd]at hlk hrel
 have pi:=λ{H':List HP}{w:World}(hin:n.In B w0 H') (hw:St B w0 H' w)=>XZ n a b hin hw
 rw[show Zd n.net a b=Yw n.net a b by unfold Zd;rw[Td (λe=>e hsm.ck)]]at pi
 unfold NetM.val at pi
 have hnl:n.links.length<=128:=hok.k0
 have hnlk:=hin.lk
 have hfl2:(Yw n.net a b).toNat<n.links.length:=hfl
 repeat'(first|refine zgb ?_|(refine zge ?_ ?_<;>intro _<;>try exact zo)|fail)
 refine J4 (λg12:Nat=>[(12,.pointer (some ⟨g12,0,none⟩)),(11,.int .i64 ((k+1:Nat):Int)),(10,.int .i64 endd),(9,.bool false),(3,.int .i64 z),(2,.slice r.A r.xs.length r.cap),(4,.pointer (some ⟨g4,0,none⟩)),(5,.pointer (some ⟨g5,0,none⟩)),(8,.pointer (some ⟨g8,0,none⟩))])
  (λg12=>lnkA g12 lk::grdA g4 n s1::flwA g5 f::blk g8 (.cells #[.int .i64 0,.slice none 0 0,.int .i64 0,.int .i64 0,.slice none 0 0,.slice none 0 0,.int .i64 0,.int .i64 0,.slice none 0 0] 292 (0,0))::many P::many R::[many H]) ?_ ?_
 ·intro K2 hK2
  apply Vr (.n1 0 (.n1 1 (.n1 2 (.n1 3 (.n1 4 (.n1 5 (.n1 6 (.n1 7 (.n1 8 (.n1 9 (.n1 10 (.n1 11 (.n1 12 (.n1 13 (.n2 14 (.n1 15 (.n1 16 (.n1 17 .done))) 17 (.n1 14 (.n1 15 (.n1 16 .done)))))))))))))))))) [18] [true,true,true,true,true,true]
  kernel_rfl
  kernel_rfl
  exact zy
  (simp only[Yg,nthO];rfl)
  repeat'(first|((first|apply Ya Xc|apply Yb Xc);exact za;exact rfl;exactλ_ hw=>(pi (hin.mono zk) hw))|(apply Ye T;exact rfl;exact zm;exact rfl;exact zv;exact rfl;exact rfl)|(apply Yk;try exact zl)|apply(zs91 ?_ ?_)|(apply Xp;try exact zl)|refine zgd ?_|(refine zgh ?_;intro _)|fail)
  all_goals(
   rename_i g12
   apply hK2 g12
   ·exact zu
   ·exact zk)
 rintro g12
 dsimp only
 have hlb:=Q0 hok (r.xs.getD k 0) (r.xs.getD (k+1) 0)
 have hlb2:0<=lk.2.2/\lk.2.2<=7:=by rw[<-hlkd];exact hlb
 obtain⟨HR,hHR⟩:∃R,hopA n.net lk.1 lk.2.1 f.1 (endd-z).toNat (Xg lk) s1.sch z=R:=⟨_,rfl⟩
 rw[relA,hHR]at hrel
 have hnd:lk.2.2+1=((Xg lk:Nat):Int):=by unfold Xg;omega
 have hkl:LkOk n.net L lk.1 lk.2.1 f.1:=hk lk (by rw[<-hlkd];exact SO (TO.2 (by omega)))
 repeat'(first|refine zgc ?_|fail)
 rw[hnd]
 refine Yi (λy:ReM=>[(13,.int .i64 (y.i:Nat)),(12,.pointer (some ⟨g12,0,none⟩)),(11,.int .i64 ((k+1:Nat):Int)),(10,.int .i64 endd),(9,.bool false),(3,.int .i64 y.z),(2,.slice r.A r.xs.length r.cap),(4,.pointer (some ⟨g4,0,none⟩)),(5,.pointer (some ⟨g5,0,none⟩)),(8,.pointer (some ⟨g8,0,none⟩))])
  (λy=>lnkA g12 lk::grdA g4 n y.s::flwA g5 f::blk g8 (.cells #[.int .i64 0,.slice none 0 0,.int .i64 0,.int .i64 0,.slice none 0 0,.slice none 0 0,.int .i64 0,.int .i64 0,.slice none 0 0] 292 (0,0))::many y.L::many R::[many H])
  (λy=>FilI n L s.len s.off B w0 H y.s y.L/\(0<=y.z/\y.z<=endd)/\y.i<=8/\hopA n.net lk.1 lk.2.1 f.1 (endd-y.z).toNat y.i y.s.sch y.z=HR) (λy=>(endd-y.z).toNat) ⟨Xg lk,s1,z,P⟩ ⟨hF,hz,by show Xg lk<=8;omega,hHR⟩ ?_ ?_ ?_
 ·exact zu
 ·exact zk
 clear hF hz hHR
 rintro⟨m,s2,y,P2⟩ ⟨hF,hz,hm8,hHR⟩ K2 hK2
 dsimp only at hF hz hm8 hHR⊢
 cases m with
 |zero=>
  rw[YmZ]at hHR
  subst hHR
  dsimp only at hrel
  clear hK2
  repeat'(first|refine zgc ?_|(refine zgf ?_ ?_<;>intro _<;>try exact zo)|fail)
  apply hK ⟨k+1+1,s2,y,P2⟩
  ·exact⟨⟨by show 1<=k+1+1;omega,by show k+1+1<=_;omega⟩,hF,hz,hrel⟩
  ·dsimp only;omega
  ·exact zu
  ·exact zk
 |succ m=>
 by_cases hlt2:y<endd
 rotate_left
 ·rw[show(endd-y).toNat=0 by omega,hopA]at hHR
  subst hHR
  dsimp only at hrel
  clear hK2 hK
  repeat'(first|refine zgd ?_|(refine zgf ?_ ?_<;>intro _<;>try exact zo)|fail)
  apply Yv T (H2:=many P2::many R::H);(iterate 3 exact rfl);exact zm;exact rfl;exact rfl
  ·intro w hw
   have h5:St B w0 (many P2::many R::[many H]) w:=by
    revert w
    exact zk
   exact h5.perm (.cons _ (.cons _ (.openT H)))
  exact⟨s2,false,P2,rfl,λh=>(by cases h),λ_=>hrel.symm,rfl⟩
 have hfew:=hF.sm.few (by show s2.len<=24;rw[hF.len];exact h24)
 have h2l:=hF.len
 have h2o:=hF.off
 have ps:=λ{H':List HP}{w:World}(hin:n.In B w0 H') (hr:Rd B w0 H' s2.A (s2.cells.flatMap celF)) (hw:St B w0 H' w)=>Yp1 n s2 lk f.1 (y%s2.len) hsm.ck (by have:s2.sch.cells.length=s2.cells.length:=rfl;omega) ⟨by omega,by omega⟩ hF.sm.ord hin hr hw
 unfold grdV lkV at ps
 rw[show(endd-y).toNat=(endd-(y+1)).toNat+1 by omega,hopA,RV hz.1]at hHR
 repeat'(first|refine zgc ?_|(refine zgf ?_ ?_<;>intro _<;>try exact zo)|fail)
 apply UI [0,1,2,3,4,5,6,7,8,9,10,12,11] [12,13,14] [13,14] [true,true,true,true,true,true,true]
 kernel_rfl
 kernel_rfl
 exact zy
 (simp only[Yg,nthO];rfl)
 (simp only[Yg,nthO];rfl)
 repeat'(first|refine zgd ?_|fail)
 apply Yh _ YtX
 exact za
 exact rfl
 exactλ_ hw=>(ps (hin.mono zk) (hF.rd.mono zk) (hw))
 rintro _ _ (⟨rfl,hs,rfl⟩|⟨rfl,hs,rfl⟩|⟨A3,cap3,c3,rfl,hs,rfl⟩)
 ·rw[show JI n.net s2.sch lk.1 lk.2.1 f.1 (y%s2.sch.len)=some s2.sch from hs]at hHR
  dsimp only at hHR
  repeat'(first|(apply Yk;try exact zl)|refine zgd ?_|fail)
  rw[show((m+1:Nat):Int)-1=(m:Nat) by omega]
  apply hK2 ⟨m,s2,y+1,P2⟩
  ·exact⟨hF,⟨by show 0<=y+1;omega,by show y+1<=endd;omega⟩,by show m<=8;omega,hHR⟩
  ·dsimp only;omega
  ·exact zu
  ·exact zk
 ·rw[show JI n.net s2.sch lk.1 lk.2.1 f.1 (y%s2.sch.len)=none from hs]at hHR
  dsimp only at hHR
  repeat'(first|(apply Yk;try exact zl)|refine zgd ?_|fail)
  apply hK2 ⟨m+1,s2,y+1,P2⟩
  ·exact⟨hF,⟨by show 0<=y+1;omega,by show y+1<=endd;omega⟩,hm8,hHR⟩
  ·dsimp only;omega
  ·exact zu
  ·exact zk
 ·rw[show JI n.net s2.sch lk.1 lk.2.1 f.1 (y%s2.sch.len)=some ⟨s2.len,s2.off,insC s2.cells c3⟩ from hs]at hHR
  dsimp only at hHR
  have hmz:0<=y%s2.len/\y%s2.len<s2.len:=⟨Int.emod_nonneg _ (by omega),Int.emod_lt_of_pos _ (by omega)⟩
  obtain⟨hsm3,-,-⟩:=YiR hF.sm hkl hmz hs
  have hop3:∀w,St B w0 (many (cels A3 cap3 (insC s2.cells c3)::[many P2])::[many H]) w->St B w0 (cels A3 cap3 (insC s2.cells c3)::many P2::[many H]) w:=λw hw=>hw.perm (.open_ [_,_] [many H])
  repeat'(first|(apply Yk;try exact zl)|refine zgd ?_|fail)
  rw[show((m+1:Nat):Int)-1=(m:Nat) by omega]
  apply hK2 ⟨m,⟨s2.len,s2.off,A3,cap3,insC s2.cells c3⟩,y+1,cels A3 cap3 (insC s2.cells c3)::[many P2]⟩
  ·exact⟨⟨hsm3,h2l,h2o,(Rd.sl (.head _)).mono hop3⟩,⟨by show 0<=y+1;omega,by show y+1<=endd;omega⟩,by show m<=8;omega,hHR⟩
  ·dsimp only;omega
  ·exact zu
  ·intro w hw
   have h5:St B w0 (lnkA g12 lk::grdA g4 n ⟨s2.len,s2.off,A3,cap3,insC s2.cells c3⟩::flwA g5 f::blk g8 (.cells #[.int .i64 0,.slice none 0 0,.int .i64 0,.int .i64 0,.slice none 0 0,.slice none 0 0,.int .i64 0,.int .i64 0,.slice none 0 0] 292 (0,0))::cels A3 cap3 (insC s2.cells c3)::many P2::many R::[many H]) w:=by
    revert w
    exact zk
   exact h5.perm (.cons _ (.cons _ (.cons _ (.cons _ (.close [_,_] (many R::[many H]))))))
structure Yn7(n:NetM)(L:List Flw)(id:Int)(r:RowM):Prop where
 lk:∀x∈Yr n.net r.xs,LkOk n.net L x.1 x.2.1 id
 key:∀i,i+1<r.xs.length->0<=Yw n.net (r.xs.getD i 0) (r.xs.getD (i+1) 0)
 len:1<=r.xs.length/\r.xs.length<=9
structure PlM2 where
 i:Nat
 s:SchM
 P:List HP
theorem Yiz(n:NetM)(L:List Flw)(s:SchM)(x:RqM)(hsm:Sm n.net L s.sch)(h24:s.len<=24)(hrow:∀r∈x.rows,Yn7 n L x.f.1 r)(hf:XD n.net.nodes x.f=0){B:Nat}{w0:World}{H:List HP}{w:World}(hin:n.In B w0 H)(hr:Rd B w0 H s.A (s.cells.flatMap celF))(hx:x.In B w0 H)(hw:St B w0 H w):
 Calls Tryz.prog 201 [n.val,s.val,rqV x].toArray w (Post B w0 λv K=>∃(s':SchM) (ok:Bool) (P:List HP),v=.tuple #[s'.val,.bool ok]/\
  (ok=true->JH n.net x.f (x.rows.map (·.xs)) s.sch=some s'.sch/\Rd B w0 (many P::H) s'.A (s'.cells.flatMap celF))/\(ok=false->JH n.net x.f (x.rows.map (·.xs)) s.sch=none)/\K=many P::H):=by
 refine Yc Tryz.func201 Tryz.ntmps201 rfl rfl hw ?_
 have hop:∀w,St B w0 [many H] w->St B w0 H w:=λw hw=>hw.perm (.openT H)
 have hin:=hin.mono hop
 have hr:=hr.mono hop
 have hx:=hx.mono hop
 obtain⟨-,hper,hph,-,hd⟩:=ZI hf
 have hxr:=hx.rt
 have hxl:=hx.ln
 obtain⟨RR,hRR⟩:∃R,JH n.net x.f (x.rows.map (·.xs)) s.sch=R:=⟨_,rfl⟩
 rw[hRR]
 have hsz:1<=s.len/\s.len<=512/\1<=s.off/\s.off<=16:=Rm hsm.sized
 refine Jf [many H] (λw hw=>hw.perm (.closeT H)) ?_
 refine Jf (many []::[many H]) (λw hw=>hw.perm (.noMany _)) ?_
 unfold NetM.val SchM.val rqV
 repeat'(first|refine zgd ?_|(refine zgh ?_;intro _)|fail)
 rename_i g3 g4 g5 g6 g8
 refine Yi (λz:PlM2=>[(19,.int .i64 (z.i:Nat)),(18,.int .i64 x.rows.length),(17,.slice x.A x.rows.length x.cap),(9,.bool true),(7,.bool false),(8,.pointer (some ⟨g8,0,none⟩)),(6,.pointer (some ⟨g6,0,none⟩)),(5,.pointer (some ⟨g5,0,none⟩)),(4,.pointer (some ⟨g4,0,none⟩)),(3,.pointer (some ⟨g3,0,none⟩))])
  (λz=>grdA g8 n z.s::blk g6 (.cells #[.int .i64 0,.int .i64 0,.slice none 0 0] 37 (0,0))::rqA g5 x::schA g4 s::many z.P::[many H])
  (λz=>z.i<=x.rows.length/\FilI n L s.len s.off B w0 H z.s z.P/\JH n.net x.f ((x.rows.map (·.xs)).drop z.i) z.s.sch=RR) (λz=>x.rows.length-z.i) ⟨0,s,[]⟩ ⟨Tu _,⟨hsm,rfl,rfl,hr.cons⟩,hRR⟩ ?_ ?_ ?_
 ·exact zu
 ·intro w hw
  have h5:St B w0 (grdA g8 n s::blk g6 (.cells (Value.agg #[.int .i64 0,.int .i64 0,.slice none 0 0]).cells 37 (0,0))::rqA g5 x::schA g4 s::many []::[many H]) w:=by
   revert w
   exact zk
  exact h5
 rintro⟨i,s1,P⟩ ⟨hi,hF,hrel⟩ K hK
 dsimp only at hi hF hrel⊢
 by_cases hlt:i<x.rows.length
 rotate_left
 ·obtain rfl:i=x.rows.length:=by omega
  clear hK
  rw[TZ (by rw[Tv];exact TL _)]at hrel
  repeat'(first|(apply Ye T;exact rfl;exact zm;exact rfl;exact zv;exact rfl;exact rfl)|refine zgc ?_|(refine zge ?_ ?_<;>intro _<;>try exact zo)|fail)
  apply Yv T (H2:=many P::H);(iterate 3 exact rfl);exact zm;exact rfl;exact rfl
  ·intro w hw
   have h5:St B w0 (many P::[many H]) w:=by
    revert w
    exact zk
   exact h5.perm (.cons _ (.openT H))
  exact⟨s1,true,P,rfl,λ_=>⟨hrel.symm,hF.rd.mono λw hw=>hw.perm (.cons _ (.closeT H))⟩,λh=>(by cases h),rfl⟩
 obtain⟨r,hrx⟩:∃r,x.rows[i]? =some r:=⟨_,Ta hlt⟩
 have hrm:r∈x.rows:=Tf hrx
 have hro:=hrow r hrm
 have hdrop:(x.rows.map (·.xs)).drop i=r.xs::(x.rows.map (·.xs)).drop (i+1):=by
  have hl2:i<(x.rows.map (·.xs)).length:=by rw[Tv];exact hlt
  rw[Rx hl2]
  congr 1
  have h6:(x.rows.map (·.xs))[i]? =some r.xs:=by rw[TE,hrx];rfl
  rw[Ta hl2]at h6
  exact Tz h6
 rw[hdrop,JH]at hrel
 obtain⟨HR,hHR⟩:∃R,Yaf n.net x.f (Yr n.net r.xs) s1.sch.len.toNat s1.sch x.f.2.2.2.2.1=R:=⟨_,rfl⟩
 rw[hHR]at hrel
 have hl1:s1.sch.len=s.len:=hF.len
 rw[hl1]at hHR
 repeat'(first|refine zgd ?_|(refine zge ?_ ?_<;>intro _<;>try exact zo)|fail)
 refine Yi (λz:PlM2=>[(12,.int .i64 (x.f.2.2.2.2.1+(z.i:Int)*x.f.2.2.2.1)),(11,.slice r.A r.xs.length r.cap),(19,.int .i64 (i:Nat)),(18,.int .i64 x.rows.length),(17,.slice x.A x.rows.length x.cap),(9,.bool true),(7,.bool false),(8,.pointer (some ⟨g8,0,none⟩)),(6,.pointer (some ⟨g6,0,none⟩)),(5,.pointer (some ⟨g5,0,none⟩)),(4,.pointer (some ⟨g4,0,none⟩)),(3,.pointer (some ⟨g3,0,none⟩))])
  (λz=>grdA g8 n z.s::blk g6 (.cells #[.int .i64 0,.int .i64 0,.slice none 0 0] 37 (0,0))::rqA g5 x::schA g4 s::many z.P::[many H])
  (λz=>z.i<=s.len.toNat/\FilI n L s.len s.off B w0 H z.s z.P/\Yaf n.net x.f (Yr n.net r.xs) (s.len.toNat-z.i) z.s.sch (x.f.2.2.2.2.1+(z.i:Int)*x.f.2.2.2.1)=HR) (λz=>s.len.toNat-z.i) ⟨0,s1,P⟩ ⟨Tu _,hF,by simpa using hHR⟩ ?_ ?_ ?_
 ·dsimp only
  rw[show x.f.2.2.2.2.1+((0:Nat):Int)*x.f.2.2.2.1=x.f.2.2.2.2.1 by simp]
  exact zu
 ·exact zk
 clear hF hHR hl1
 rintro⟨j,s2,P2⟩ ⟨hj,hF,hHR⟩ K2 hK2
 dsimp only at hj hF hHR⊢
 have hl2:s2.sch.len=s.len:=hF.len
 obtain⟨y,hy⟩:∃y:Int,x.f.2.2.2.2.1+(j:Int)*x.f.2.2.2.1=y:=⟨_,rfl⟩
 have hjy:(j:Int)<=(j:Int)*x.f.2.2.2.1:=by
  have:=Ny hper.1 (show(0:Int)<=j by omega)
  rw[Int.mul_one]at this
  exact this
 rw[hy]at hHR⊢
 by_cases hyl:y<s.len
 rotate_left
 ·have hHR2:HR=some s2.sch:=by
   rw[<-hHR]
   cases s.len.toNat-j with
   |zero=>rfl
   |succ k=>rw[Yaf,Td (by rw[hl2];exact hyl)]
  rw[hHR2]at hrel
  dsimp only at hrel
  clear hK2
  repeat'(first|refine zgc ?_|(refine zge ?_ ?_<;>intro _<;>try exact zo)|fail)
  apply hK ⟨i+1,s2,P2⟩
  ·exact⟨by show i+1<=_;omega,hF,hrel⟩
  ·dsimp only;omega
  ·exact zu
  ·exact zk
 obtain⟨k,hk⟩:∃k,s.len.toNat-j=k+1:=⟨s.len.toNat-j-1,by omega⟩
 rw[hk,Yaf,Tm (by rw[hl2];exact hyl)]at hHR
 have hxw:=hx.rw_ r hrm
 have pr:=λ{R':List HP}{w:World}(hw:St B w0 (many R'::many P2::[many H]) w)=>Yeb n L s2 x.f r y hF.sm (by have:=hF.len;omega) hro.lk hro.key hro.len ⟨by omega,by omega⟩ ⟨by omega,by omega⟩ (R:=R') (H:=many P2::[many H]) hin.cons hF.rd hxw.cons hw
 unfold grdV flwV at pr
 repeat'(first|(apply Ye T;exact rfl;exact zm;exact rfl;exact zv;exact rfl;exact rfl)|refine zgb ?_|(refine zge ?_ ?_<;>intro _<;>try exact zo)|fail)
 apply XL (many [grdA g8 n s2,blk g6 (.cells #[.int .i64 0,.int .i64 0,.slice none 0 0] 37 (0,0)),rqA g5 x,schA g4 s]::many P2::[many H])
 ·intro w hw
  have h5:St B w0 (grdA g8 n s2::blk g6 (.cells #[.int .i64 0,.int .i64 0,.slice none 0 0] 37 (0,0))::rqA g5 x::schA g4 s::many P2::[many H]) w:=by
   revert w
   exact zk
  exact h5.perm (.close [_,_,_,_] (many P2::[many H]))
 apply Yh _ YtS
 exact za
 exact rfl
 exactλ_ hw=>(pr (hw))
 rintro _ _ ⟨s3,ok,P3,rfl,ho1,ho2,rfl⟩
 apply XL (many P3::grdA g8 n s2::blk g6 (.cells #[.int .i64 0,.int .i64 0,.slice none 0 0] 37 (0,0))::rqA g5 x::schA g4 s::many P2::[many H])
 ·exactλw hw=>hw.perm (.cons _ (.open_ [_,_,_,_] (many P2::[many H])))
 cases ok with
 |false=>
  have hn:=ho2 rfl
  rw[hn]at hHR
  dsimp only at hHR
  rw[<-hHR]at hrel
  dsimp only at hrel
  clear hK hK2
  repeat'(first|refine zgd ?_|fail)
  apply Yv T (H2:=many P2::H);(iterate 3 exact rfl);exact zm;exact rfl;exact rfl
  ·intro w hw
   have h5:St B w0 (many P2::[many H]) w:=by
    revert w
    exact zk
   exact h5.perm (.cons _ (.openT H))
  exact⟨s,false,P2,rfl,λh=>(by cases h),λ_=>hrel.symm,rfl⟩
 |true=>
  obtain⟨h1,hrd3⟩:=ho1 rfl
  rw[h1]at hHR
  dsimp only at hHR
  obtain⟨hsm3,hg3,-⟩:=Ygp (Yr n.net r.xs) hro.lk hF.sm (by omega) (by omega) (by rw[hl2];omega) h1
  have h3l:s3.len=s.len:=hg3.len.trans hF.len
  have h3o:s3.off=s.off:=hg3.off.trans hF.off
  have hyn:x.f.2.2.2.2.1+((j+1:Nat):Int)*x.f.2.2.2.1=y+x.f.2.2.2.1:=by
   rw[<-hy,show((j+1:Nat):Int)=(j:Int)+1 by omega,Int.add_mul];omega
  repeat'(first|refine zgd ?_|fail)
  apply hK2 ⟨j+1,s3,[many P3,many P2]⟩
  ·refine⟨by show j+1<=_;omega,⟨hsm3,h3l,h3o,hrd3.mono λw hw=>hw.perm (.open_ [_,_] [many H])⟩,?_⟩
   dsimp only
   rw[hyn,show s.len.toNat-(j+1)=k by omega]
   exact hHR
  ·dsimp only;omega
  ·dsimp only
   rw[hyn]
   exact zu
  ·intro w hw
   have h5:St B w0 (grdA g8 n s3::blk g6 (.cells #[.int .i64 0,.int .i64 0,.slice none 0 0] 37 (0,0))::rqA g5 x::schA g4 s::many P3::many P2::[many H]) w:=by
    revert w
    exact zk
   exact h5.perm (.cons _ (.cons _ (.cons _ (.cons _ (.close [_,_] [many H])))))
variable {B:Nat}{w0 w:World}{H:List HP}
theorem YbC(n:NetM)(q:List RqM)(s:SchM){A:Option Addr}{cap:Nat}(ht:TabsB B w0)(hin:n.In B w0 H)(hq:QIn B w0 H A q)(hrs:Rd B w0 H s.A (s.cells.flatMap celF))(hsl:s.cells.length<=1000000000000)(hw:St B w0 H w):
 Calls Tryz.prog 158 [n.val,.slice A q.length cap,s.val].toArray w (Post B w0 λv K=>v=.bool (decide ((YT n.net (q.map RqM.rq) s.sch).2.2=0))/\K=H):=by
 refine Yc Tryz.func158 Tryz.ntmps158 rfl rfl hw ?_
 have p1:=λ{H':List HP}{w:World}(hin:n.In B w0 H') (hq:QIn B w0 H' A q) (hrs:Rd B w0 H' s.A (s.cells.flatMap celF)) (hw:St B w0 H' w)=>U3 n q s (cap:=cap) ht hin hq hrs hsl hw
 unfold OutC NetM.val SchM.val at p1
 obtain⟨⟨RC,ri,re⟩,hR⟩:∃R,YT n.net (q.map RqM.rq) s.sch=R:=⟨_,rfl⟩
 rw[hR]at p1⊢
 dsimp only at p1⊢
 unfold NetM.val SchM.val
 repeat'(first|refine zgb ?_|(refine zgh ?_;intro _)|fail)
 apply Yh _ en80
 exact za
 exact rfl
 exactλ_ hw=>(p1 hin.cons.cons hq.cons.cons hrs.cons.cons (hw))
 rintro _ _ ⟨A2,cap2,C,rfl,hC,hCl,rfl⟩
 by_cases h0:re=0
 ·rw[Tc h0]
  repeat'(first|refine zgc ?_|(refine zge ?_ ?_<;>intro _<;>try exact zo)|fail)
  apply Yj H
  ·exact zk
  apply Yd;exact rfl;exact rfl;exact⟨rfl,rfl⟩
 ·rw[Tn h0]
  repeat'(first|refine zgc ?_|(refine zge ?_ ?_<;>intro _<;>try exact zo)|fail)
  apply Yj H
  ·exact zk
  apply Yd;exact rfl;exact rfl;exact⟨rfl,rfl⟩
theorem YqS(s:SchM)(id:Int)(hf:Xz s.sch=true):QN s.sch id=(⟨s.len,s.off,s.cells.filter λc=>!(decide (Xy c=id))⟩,0):=by
 unfold QN
 rw[Td (by rw[hf];exactλh=>Bool.noConfusion h)]
 unfold YrK
 have h1:s.sch.cells=s.cells:=rfl
 rw[h1]
 have h2:(λc:Cel=>decide (Xy c≠id))=λc=>!(decide (Xy c=id)):=by
  funext c
  by_cases h:Xy c=id<;>simp[h]
 rw[h2]
 exact rfl
theorem Yl1(s:SchM)(id:Int)(ht:TabsB B w0)(hr:Rd B w0 H s.A (s.cells.flatMap celF))(hl:s.cells.length<=1000000000000)(hw:St B w0 H w):
 Calls Tryz.prog 109 [s.val,.int .i64 id].toArray w (Post B w0 (OutS H (QN s.sch id))):=by
 refine Yc Tryz.func109 Tryz.ntmps109 rfl rfl hw ?_
 have p1:=λ{H':List HP}{w:World}(hr:Rd B w0 H' s.A (s.cells.flatMap celF)) (hw:St B w0 H' w)=>Wx s ht hr hl hw
 unfold SchM.val at p1⊢
 repeat'(first|(apply zg23;first|(refine zs52 ?_;intro _)|(refine zs53 ?_;intro _))|refine zgb ?_|(refine zgh ?_;intro _)|fail)
 first|apply Ya en40|apply Yb en40
 exact za
 exact rfl
 exactλ_ hw=>(p1 hr.cons.cons.cons hw)
 cases hf:Xz s.sch with
 |false=>
  rw[show(XO s.sch).2=1 by unfold XO;rw[hf,Tm rfl]]
  repeat'(first|refine zgd ?_|(refine zge ?_ ?_<;>intro _<;>try exact zo)|fail)
  apply Yv T (H2:=cels none 0 []::H);(iterate 3 exact rfl);exact zm;exact rfl;exact rfl;(intro w hw;refine St.nilSlice (H:=H) ?_ _ _;revert w;exact zk)
  exact Ux 1 (by rw[QN,Tm hf]) rfl
 |true=>
  rw[show(XO s.sch).2=0 by unfold XO;rw[hf,Td (by decide)]]
  have hle:s.cells.length<=512:=(ZJ.1 hf).few
  repeat'(first|refine zgc ?_|(refine zge ?_ ?_<;>intro _<;>try exact zo)|fail)
  rename_i g2 g3 g4
  apply Yh _ YeI
  exact za
  exact rfl
  exactλ_ hw=>(Jl s.cells (by omega) hr.cons.cons.cons (hw))
  rintro _ _ ⟨A1,c1,rfl,rfl⟩
  repeat'(first|(apply zg29;(apply Ym;exact za;exact rfl))|fail)
  apply Yh _ Yli
  exact za
  exact rfl
  exactλ_ hw=>(Ul (λc=>decide (Xy c=id)) s.cells 208 [.pointer (some ⟨g2,0,none⟩)] YtI (by omega) (λc _ X w hw=>YjC c id g2 (Rb _ zm) hw) (hw))
  rintro _ _ ⟨rfl,rfl⟩
  have hd:=YqS s id hf
  repeat'(first|refine zgd ?_|fail)
  apply Yv T (H2:=cels A1 c1 (s.cells.filter λc=>!(decide (Xy c=id)))::H);(iterate 3 exact rfl);exact zm;exact rfl;exact rfl;exact zk
  rw[hd]
  exact⟨A1,c1,rfl,rfl⟩
def rqs(A:Option Addr)(cap:Nat)(l:List RqM):HP:=sl 86 7 A l.length cap (l.flatMap rqF)
theorem YaT(A:Option Addr)(cap:Nat)(l:List RqM)(x:RqM):sl 86 7 A (l.length+1) cap (l.flatMap rqF++#[Value.int .i64 x.f.1,.int .i64 x.f.2.1,.int .i64 x.f.2.2.1,.int .i64 x.f.2.2.2.1,.int .i64 x.f.2.2.2.2.1,.int .i64 x.f.2.2.2.2.2,.slice x.A x.rows.length x.cap].toList)=rqs A cap (l++[x]):=by
 unfold rqs;simp[rqF]
variable {A:Option Addr}{cap B k gv:Nat}{w0 w:World}{H:List HP}
theorem W4(l:List RqM)(hlen:l.length<=1000000)(hr:Rd B w0 H A (l.flatMap rqF))(hw:St B w0 H w):
 Calls Tryz.prog 102 [.slice A l.length cap].toArray w (Post B w0 λv K=>∃A' cap',v=.slice A' l.length cap'/\K=rqs A' cap' l::H):=by
 cases A with
 |none=>
  have hl:l=[]:=by
   cases l with
   |nil=>rfl
   |cons x l=>
    obtain⟨g,o,e,_⟩:=hr w hw 0 _ rfl
    cases e
  subst hl
  refine Yc Tryz.func102 Tryz.ntmps102 rfl rfl hw ?_
  repeat'(first|(apply YW;(iterate 3 exact rfl))|refine zgb ?_|fail)
  apply XT 86 7;apply Yd;exact rfl;exact rfl;exact⟨none,0,rfl,rfl⟩
 |some a=>
  refine Yc Tryz.func102 Tryz.ntmps102 rfl rfl hw ?_
  repeat'(first|(apply YW;(iterate 3 exact rfl))|(apply Xe T;exact rfl;exact rfl;intro g2)|refine zgb ?_|fail)
  apply XA T (f:=rqF) (l2:=l) (e:=86) (size:=7) (xs:=[]);(iterate 3 exact rfl);exact hr.cons;exact(λ_=>rfl);exact(λ_=>rfl);exact rfl;(intro _ _;exact zd);omega;intro A' cap'
  repeat'(first|refine zga ?_|fail)
  rw[Ry,TK]
  apply Yd;exact rfl;exact rfl;exact⟨A',cap',rfl,rfl⟩
section
variable {m:Eng.Mode}{n:Shp}{B d:Nat}{w0:World}{ops:Array Oper}{Q:Exit->Act->World->Prop}{rest:List Oper}{env:Env}{H:List HP}{ty:TypeId}{pos:String}{after:Array Edge}{x y lo:Operand}
variable {gv k cap:Nat}
theorem YfI{g o la ca lb cb:Nat}{tt:TypeId}{cs:Array Value}{xs:List Value}{tys:Array TypeId}(hx:evo env x=some (.slice (some ⟨gv,0,none⟩) la ca))(hy:evo env y=some (.slice (subA (some ⟨g,0,none⟩) o cap 7) lb cb))(hm1:Eng.blk gv (.cells cs tt (0,0))∈H)(hm2:sl 86 7 (some ⟨g,0,none⟩) k cap xs∈H)
 (hne:∀w,St B w0 H w->gv≠g) (hc:0<cap/\cap≠o) (hn:Nat.ble (d+1) n.k=true) (h:VL Tryz.prog none n B w0 ops Q rest ((d,.bool false)::env) H):
 VL Tryz.prog none n B w0 ops Q (⟨some d,.call ⟨.value (.func 204),#[x,y],tys⟩,ty,pos,after,none⟩::rest) env H:=by
 have hsub:subA (some ⟨g,0,none⟩) o cap 7=some ⟨g,o*7,none⟩:=by
  unfold subA
  rw[Td hc.2,RH,Addr.add_lit,Ry]
 rw[hsub]at hy
 refine XH (λu K'=>u=.bool false/\K'=H) rfl rfl hn (λa w ha hw=>⟨.bool false,H,w,?_,hw,rfl,rfl⟩) (by rintro _ _ ⟨rfl,rfl⟩;exact h)
 have hb:=(hw.blk hm1).1
 rcases Ja (hw.sl hm2)with⟨h0,_⟩|⟨g',cur,e0,g1,_,_,g4,_⟩
 ·cases h0
 injection e0 with e0
 injection e0 with e0
 subst e0
 obtain⟨bb,htl⟩:∃bb,Eng.look T.sl 30=some (86,7,bb):=⟨_,rfl⟩
 obtain⟨_,inf,_,hi,_,_,hsi,_⟩:=YG (T.slic htl)
 have hr:=run_callFunc_extern (P:=Tryz.prog) Tryz.func204 (by kernel_rfl) (by kernel_rfl) (by kernel_rfl) (e:=Extern.SlicesOverlaps.overlaps #[30,30] #[4]) (by kernel_rfl) #[.slice (some ⟨gv,0,none⟩) la ca,.slice (some ⟨g,o*7,none⟩) lb cb] w
 have hov:=Lib.run_overlaps_apart (P:=Tryz.prog) w 30 4 86 Tryz.underlying30 7 (λw=>by simp[sizeOf,typeInfo,hi,hsi]) ⟨gv,0,none⟩ ⟨g,o*7,none⟩ la ca lb cb (hne w hw) tt 86 cs.size cur.size (by simp[World.shape?,hb]) (by simp[World.shape?,g1]) (by rw[g4];omega) (by simp[World.frozen?,hb]) (by simp[World.frozen?,hb])
 have he:a.eval (.func 204)=.func (.func 204) #[] #[]:=rfl
 simp[execOp,resolve,invoke,ha.eval hx,ha.eval hy,he,Deferred.ofValue,hr,hov,Result.andThen]
end
theorem Yq0(l:List RqM)(c:RqM)(i:Nat)(hk:k=1):(l.take i).take i++[c].take k++(l.take i).drop (i+k)=l.take i++[c]:=by
 rw[hk,Nk,Nat.min_self,TZ (by rw[TD];omega),TM];rfl
theorem Yq1(l:List RqM)(c:RqM)(i:Nat)(hi:i<=l.length)(hk:k=l.length-i):(l.take i++[c]).take (i+1)++(l.drop i).take k++(l.take i++[c]).drop (i+1+k)=l.take i++c::l.drop i:=by
 have h1:(l.take i++[c]).length=i+1:=by rw[Tj,TD,TP];omega
 have h2:(l.take i++[c]).drop (i+1+k)=[]:=TZ (by omega)
 have h3:(l.drop i).take k=l.drop i:=TQ (by rw[Rf];omega)
 rw[TQ (l:=l.take i++[c]) (by omega),h2,h3];simp
theorem Yq2(l:List RqM)(i:Nat)(hi:i<=l.length)(hk:k=l.length-i):l.take (i+1)++(l.drop i).take k++l.drop (i+1+k)=l.take (i+1)++l.drop i:=by
 have h2:l.drop (i+1+k)=[]:=TZ (by omega)
 have h3:(l.drop i).take k=l.drop i:=TQ (by rw[Rf];omega)
 rw[h2,h3,TM]
theorem Yq3(l:List RqM)(c:RqM)(i:Nat)(hi:i<l.length)(hk:k=1):(l.take (i+1)++l.drop i).take i++[c].take k++(l.take (i+1)++l.drop i).drop (i+k)=l.take i++c::l.drop i:=by
 have h1:(l.take (i+1)).length=i+1:=by rw[TD];omega
 rw[hk,List.take_append_of_le_length (by omega),Nk,SG (by omega),List.drop_left' h1]
 simp
theorem OG(l:List RqM)(c:RqM)(i:Nat)(hi:i<=l.length):(l.take i++c::l.drop i).length=l.length+1:=by
 rw[Tj,TD,TS,Rf];omega
theorem Yf8(l:List RqM)(i:Nat)(c:RqM)(hi:i<=l.length)(hlen:l.length<=1000)(hw:St B w0 (rqs A cap l::blk gv (.cells #[.int .i64 c.f.1,.int .i64 c.f.2.1,.int .i64 c.f.2.2.1,.int .i64 c.f.2.2.2.1,.int .i64 c.f.2.2.2.2.1,.int .i64 c.f.2.2.2.2.2,.slice c.A c.rows.length c.cap] 86 (0,0))::H) w):
 Calls Tryz.prog 101 [.slice A l.length cap,.int .i64 i,.slice (some ⟨gv,0,none⟩) 1 1].toArray w (Post B w0 λv K=>∃A' cap',v=.slice A' (l.take i++c::l.drop i).length cap'/\K=rqs A' cap' (l.take i++c::l.drop i)::H):=by
 refine Yc Tryz.func101 Tryz.ntmps101 rfl rfl hw ?_
 unfold rqs
 refine Qw (k:=l.length) (cap:=cap) zm λhcap=>?_
 have hli:=OG l c i hi
 have hrv:∀{L:List HP},blk gv (.cells #[.int .i64 c.f.1,.int .i64 c.f.2.1,.int .i64 c.f.2.2.1,.int .i64 c.f.2.2.2.1,.int .i64 c.f.2.2.2.2.1,.int .i64 c.f.2.2.2.2.2,.slice c.A c.rows.length c.cap] 86 (0,0))∈L->Rd B w0 L (some ⟨gv,0,none⟩) (([c]:List RqM).flatMap rqF):=λh=>by
  have h1:=Rd.blk (B:=B) (w0:=w0) (cs:=(rqF c).toArray) h
  rw[show([c]:List RqM).flatMap rqF=(rqF c).toArray.toList by simp]
  exact h1
 have hq7:∀c:RqM,(rqF c).length=7:=λ_=>rfl
 have ho7:∀c:RqM,Ju (rqF c)=true:=λ_=>rfl
 repeat'(first|refine zga ?_|fail)
 apply YP T i (l.length-i);(iterate 5 exact rfl);exact hi;exact rfl
 by_cases hin:i=l.length
 ·have e1:l.take i++c::l.drop i=l++[c]:=by rw[hin,TY,S0]
  rw[e1]
  repeat'(first|refine zgb ?_|(refine zge ?_ ?_<;>intro _<;>try exact zo)|(refine zgi ?_;intro _ _)|fail)
  rename_i A' cap'
  apply Yj (rqs A' cap' (l++[c])::H)
  ·intro w hw
   rw[<-YaT]
   revert w
   exact zk
  apply Yd;exact rfl;exact rfl
  exact⟨A',cap',by rw[Tj];rfl,rfl⟩
 have hlt:i<l.length:=by omega
 have hrs:∀{L:List HP}{g:Nat},sl 86 7 (some ⟨g,0,none⟩) l.length cap (l.flatMap rqF)∈L->Rd B w0 L (subA (some ⟨g,0,none⟩) i cap 7) ((l.drop i).flatMap rqF):=λh=>by
  have h1:=Rd.sub (B:=B) (w0:=w0) (q:=7) (o:=i) (k:=l.length-i) (cap:=cap) hq7 (Rd.sl h) hcap
  rw[TQ (by rw[Rf];omega)]at h1
  exact h1
 apply YfK (k:=l.length) zm (by omega)
 rintro g rfl
 have hA:∃g',(some ⟨g,0,none⟩:Option Addr)=some ⟨g',0,none⟩:=⟨g,rfl⟩
 repeat'(first|(apply YkL T;(iterate 3 exact rfl))|refine zgc ?_|(refine zgf ?_ ?_<;>intro _<;>try exact zo)|fail)
 ·apply Vs T (n':=i);(iterate 4 exact rfl);omega;omega;exact hA
  repeat'(first|refine zgd ?_|fail)
  rw[show(l.length:Int)+((1:Nat):Int)-(i:Int)=((l.length+1-i:Nat):Int) by omega]
  apply Ya2 T (e:=86) (size:=7) (k:=l.length) (xs:=l.flatMap rqF);exact rfl;exact rfl;exact zm;exact rfl;kernel_rfl;exact rfl;kernel_rfl;omega;intro g2 c2 hc2
  rw[show i+(l.length+1-i)=l.length+1 by omega]at hc2⊢
  have e2:sl 86 7 (some ⟨g2,0,none⟩) i c2 ((l.flatMap rqF).take (i*7))=sl 86 7 (some ⟨g2,0,none⟩) (l.take i).length c2 ((l.take i).flatMap rqF):=by
   rw[XG hq7,TD,SG hi]
  rw[e2]
  have hA2:∃g',(some ⟨g2,0,none⟩:Option Addr)=some ⟨g',0,none⟩:=⟨g2,rfl⟩
  have htl:(l.take i).length=i:=by rw[TD];omega
  repeat'(first|refine zga ?_|fail)
  apply YP T i (l.length+1-i);(iterate 5 exact rfl);omega;exact rfl
  repeat'(first|refine zga ?_|fail)
  apply J8 T (l.take i) [c] (l.take i++[c]) (f:=rqF) (o:=i) (cap:=c2);exact rfl;exact rfl;exact hrv zm;exact hq7;exact ho7;exact rfl;exact rfl;exact hA2;(simp only[TP];omega);exact Yq0 l c i (by omega);exact zd
  repeat'(first|refine zga ?_|fail)
  apply YU [0,1,2,3,4,5,6,7] [8] [true,true,true]
  kernel_rfl
  kernel_rfl
  exact zy
  (simp only[Yg,nthO];rfl)
  (simp only[Yg,nthO];rfl)
  repeat'(first|refine zgc ?_|fail)
  apply YP T (i+1) (l.length+1-(i+1));(iterate 4 exact rfl);omega;omega;exact rfl
  repeat'(first|refine zga ?_|fail)
  apply YP T i (l.length-i);(iterate 5 exact rfl);omega;exact rfl
  repeat'(first|refine zgd ?_|fail)
  apply J8 T (l.take i++[c]) (l.drop i) (l.take i++c::l.drop i) (f:=rqF) (o:=i+1) (cap:=c2);exact rfl;exact rfl;exact hrs zm;exact hq7;exact ho7;exact rfl;exact rfl;exact hA2;(simp only[Tj,TD,TP,Rf];omega);exact Yq1 l c i hi (by omega);exact zd
  repeat'(first|refine zgd ?_|fail)
  apply Yj (rqs (some ⟨g2,0,none⟩) c2 (l.take i++c::l.drop i)::H)
  ·unfold rqs
   exact zk
  apply Yd;exact rfl;exact rfl
  exact⟨_,c2,by rw[hli],rfl⟩
 ·apply Vs T (n':=l.length+1);(iterate 4 exact rfl);omega;omega;exact hA
  repeat'(first|refine zgc ?_|fail)
  apply YP T (i+1) (l.length+1-(i+1));(iterate 4 exact rfl);omega;omega;exact rfl
  apply YfI (gv:=gv) (g:=g) (o:=i+1) (cap:=cap) (k:=l.length) (xs:=l.flatMap rqF);exact rfl;exact rfl;exact zm;exact zm;exactλw hw=>Yes (hw.perm (.swap _ _ _));omega;exact rfl
  repeat'(first|refine zgd ?_|fail)
  apply YU [0,1,2,3,4,5,6,7] [8] [true,true]
  kernel_rfl
  kernel_rfl
  exact zy
  (simp only[Yg,nthO];rfl)
  (simp only[Yg,nthO];rfl)
  repeat'(first|refine zgc ?_|fail)
  apply YP T (i+1) (l.length+1-(i+1));(iterate 4 exact rfl);omega;omega;exact rfl
  repeat'(first|refine zga ?_|fail)
  apply YP T i (l.length+1-i);(iterate 5 exact rfl);omega;exact rfl
  repeat'(first|refine zgd ?_|fail)
  apply J8 T l (l.drop i) (l.take (i+1)++l.drop i) (f:=rqF) (o:=i+1) (cap:=cap);exact rfl;exact rfl;exact hrs zm;exact hq7;exact ho7;exact rfl;exact rfl;exact hA;(simp only[Rf];omega);exact Yq2 l i hi (by omega);exact zd
  repeat'(first|refine zgd ?_|fail)
  apply YP T i (l.length+1-i);(iterate 5 exact rfl);omega;exact rfl
  repeat'(first|refine zga ?_|fail)
  apply J8 T (l.take (i+1)++l.drop i) [c] (l.take i++c::l.drop i) (f:=rqF) (o:=i) (cap:=cap);exact rfl;exact rfl;exact hrv zm;exact hq7;exact ho7;exact rfl;exact rfl;exact hA;(simp only[Tj,TD,TP,Rf];omega);exact Yq3 l c i hlt (by omega);exact zd
  repeat'(first|refine zgb ?_|fail)
  apply Yj (rqs (some ⟨g,0,none⟩) cap (l.take i++c::l.drop i)::H)
  ·unfold rqs
   exact zk
  apply Yd;exact rfl;exact rfl
  exact⟨_,cap,by rw[hli],rfl⟩
theorem YiY{id:Int}:∀{q:List Rqs}{k:Nat},k<=q.length->(∀i (x:Rqs),i<k->q[i]? =some x->x.1.1<id)->(∀x:Rqs,q[k]? =some x->¬x.1.1<id)->posQ q id=k
 |[],k,hk,_,_=>by
  have:k=0:=by simpa using hk
  subst this;rfl
 |y::q,0,_,_,h2=>by
  unfold posQ
  rw[NC,Td (by simpa using h2 y rfl)];rfl
 |y::q,k+1,hk,h1,h2=>by
  have ih:=YiY (id:=id) (q:=q) (k:=k) (by simpa using hk) (λi x hi hx=>h1 (i+1) x (by omega) hx) λx hx=>h2 x hx
  unfold posQ at ih⊢
  rw[NC,Tm (Tc (h1 0 y (by omega) rfl)),TS,ih]
theorem Ye2(a b:RqM)(hw:St B w0 H w):
 Calls Tryz.prog 272 [rqV a,rqV b].toArray w (Post B w0 λv K=>v=.int .i64 (cmpI a.f.1 b.f.1)/\K=H):=by
 refine Yc Tryz.func272 Tryz.ntmps272 rfl rfl hw ?_
 unfold rqV
 repeat'(first|((first|apply Ya WJ|apply Yb WJ);exact za;exact rfl;exactλ_ hw=>(Uj _ _ hw))|refine zgb ?_|(refine zgh ?_;intro _)|fail)
 apply Yj H
 ·exact zk
 apply Yd;exact rfl;exact rfl
 exact⟨rfl,rfl⟩
theorem Yk3{a b:Int}:cmpI a b<0↔a<b:=by
 unfold cmpI
 by_cases h:a<b
 ·rw[Tm h];simp[h]
 ·rw[Td h]
  by_cases h2:b<a
  ·rw[Tm h2];simp[h]
  ·rw[Td h2];simp[h]
def Yn3(l:List RqM):Prop:=∀(i j:Nat) (x y:RqM),i<j->l[i]? =some x->l[j]? =some y->x.f.1<y.f.1
theorem Ygz(l:List RqM)(c:RqM)(ho:Yn3 l)(hlen:l.length<=1000000000)(hr:Rd B w0 H A (l.flatMap rqF))(hw:St B w0 H w):
 Calls Tryz.prog 271 [.slice A l.length cap,rqV c,.func (.func 272) #[] #[]].toArray w (Post B w0 λv K=>
  ∃b,v=.tuple #[.int .i64 (posQ (l.map RqM.rq) c.f.1:Nat),.bool b]/\K=H):=by
 refine Yc Tryz.func271 Tryz.ntmps271 rfl rfl hw ?_
 (apply Xt;apply Y0;apply YR;exact rfl;exact rfl;intro g)
 repeat'(first|refine zgb ?_|fail)
 have hr:=hr.cons (X:=blk g (.cells (rqF c).toArray 86 (0,0)))
 refine Yca (λ(lo hi:Nat)=>[(9,.int .i64 lo),(10,.int .i64 hi),(8,.int .i64 l.length),(0,.slice A l.length cap),(2,.func (.func 272) #[] #[]),(4,.pointer (some ⟨g,0,none⟩))]) (λ_ _=>blk g (.cells (rqF c).toArray 86 (0,0))::H)
  (λlo hi=>lo<=hi/\hi<=l.length/\(∀i x,i<lo->l[i]? =some x->x.f.1<c.f.1)/\(∀i x,hi<=i->l[i]? =some x->¬x.f.1<c.f.1)) (λlo hi=>hi-lo) 0 l.length ⟨by omega,by omega,λj x hj=>by omega,λj x h1 h2=>by have:=(Ti.1 h2).1;omega⟩ ?_ (λw hw=>hw) ?_
 ·exact zu
 rintro lo hi ⟨h1,h2,h3,h4⟩ K hK
 by_cases hlt:lo<hi
 ·obtain⟨b,hb⟩:∃b,l[(((lo:Int)+hi)/2).toNat]? =some b:=⟨_,Ta (by omega)⟩
  have hm:(((lo:Int)+hi)/2).toNat=(lo+hi)/2:=by omega
  have hb2:l[(lo+hi)/2]? =some b:=by rw[<-hm];exact hb
  repeat'(first|((first|apply Yz (cs:=[])|apply Y4 (cs:=[]));exact rfl;exact Yr4;exact za;exact rfl;exactλ_ hw=>(Ye2 b c hw))|(apply zg28;refine zs84 ?_)|refine zgd ?_|(refine zge ?_ ?_<;>intro _<;>try exact zo)|fail)
  ·rename_i hc
   rw[Yk3]at hc
   apply hK ((lo+hi)/2+1) hi
   ·refine⟨by omega,by omega,λj x hj hx=>?_,h4⟩
    by_cases e:j=(lo+hi)/2
    ·rw[e,hb2]at hx
     injection hx with hx;subst hx;exact hc
    ·exact Int.lt_trans (ho j _ x b (by omega) hx hb2) hc
   ·omega
   ·exact zu
   ·exactλw hw=>hw
  ·rename_i hc
   have hc:¬b.f.1<c.f.1:=λh=>by have:=Yk3.2 h;omega
   apply hK lo ((lo+hi)/2)
   ·refine⟨by omega,by omega,h3,λj x hj hx=>?_⟩
    by_cases e:j=(lo+hi)/2
    ·rw[e,hb2]at hx
     injection hx with hx;subst hx;exact hc
    ·exactλh=>hc (Int.lt_trans (ho _ j b x (by omega) hb2 hx) h)
   ·omega
   ·exact zu
   ·exactλw hw=>hw
 ·obtain rfl:lo=hi:=by omega
  have hpe:posQ (l.map RqM.rq) c.f.1=lo:=YiY (by rw[Tv];exact h2) (λi x hi hx=>by
   rw[TE]at hx
   cases hl:l[i]? with
   |none=>rw[hl]at hx;cases hx
   |some y=>rw[hl]at hx;cases hx;exact h3 i y hi hl) λx hx=>by
   rw[TE]at hx
   cases hl:l[lo]? with
   |none=>rw[hl]at hx;cases hx
   |some y=>rw[hl]at hx;cases hx;exact h4 lo y (TL _) hl
  rw[hpe]
  by_cases hl:lo<l.length
  ·obtain⟨b,hb⟩:∃b,l[lo]? =some b:=⟨_,Ta hl⟩
   repeat'(first|((first|apply Yz (cs:=[])|apply Y4 (cs:=[]));exact rfl;exact Yr4;exact za;exact rfl;exactλ_ hw=>(Ye2 b c hw))|(apply zg28;refine zs84 ?_)|refine zgd ?_|(refine zge ?_ ?_<;>intro _<;>try exact zo)|fail)
   all_goals(apply Yl;apply Yp;(iterate 3 exact rfl);exact⟨_,rfl,rfl⟩)
  ·repeat'(first|(apply zg28;refine zs84 ?_)|refine zgd ?_|(refine zge ?_ ?_<;>intro _<;>try exact zo)|fail)
   apply Yl;apply Yp;(iterate 3 exact rfl);exact⟨_,rfl,rfl⟩
theorem Yea(q:List RqM)(x:RqM)(ho:Yn3 q)(hlen:q.length<=1000)(hr:Rd B w0 H A (q.flatMap rqF))(hw:St B w0 H w):
 Calls Tryz.prog 200 [.slice A q.length cap,rqV x].toArray w (Post B w0 λv K=>∃A' cap',v=.slice A' (q.length+1) cap'/\
  K=rqs A' cap' (q.take (posQ (q.map RqM.rq) x.f.1)++x::q.drop (posQ (q.map RqM.rq) x.f.1))::H):=by
 refine Yc Tryz.func200 Tryz.ntmps200 rfl rfl hw ?_
 have hp:posQ (q.map RqM.rq) x.f.1<=q.length:=by
  have:=(List.takeWhile_prefix (p:=λy:Rqs=>decide (y.1.1<x.f.1)) (l:=q.map RqM.rq)).length_le
  rw[Tv]at this
  exact this
 generalize hP:posQ (q.map RqM.rq) x.f.1=k at hp
 have p1:=λ{H':List HP}{w:World}(hr:Rd B w0 H' A (q.flatMap rqF)) (hw:St B w0 H' w)=>Ygz q x ho (by omega) (cap:=cap) hr hw
 rw[hP]at p1
 have p2:=λ{A':Option Addr}{cap' gv:Nat}{H':List HP}{w:World}(hw:St B w0 (rqs A' cap' q::rqA gv x::H') w)=>Yf8 q k x hp hlen hw
 rw[OG q x k hp]at p2
 have hr:Rd B w0 [many H] A (q.flatMap rqF):=hr.mono λw hw=>hw.perm (.openT H)
 have hrx:∀{L:List HP},(∀w,St B w0 L w->St B w0 [many H] w)->Rd B w0 L A (q.flatMap rqF):=λh=>hr.mono h
 refine Jf [many H] (λw hw=>hw.perm (.closeT H)) ?_
 unfold rqV at p1⊢
 (apply Xt;apply Y0;apply YR;exact rfl;exact rfl;intro g)
 repeat'(first|refine zgb ?_|fail)
 apply Yh _ YtR
 exact za
 exact rfl
 exactλ_ hw=>(p1 hr.cons (hw))
 rintro _ _ ⟨b,rfl,rfl⟩
 repeat'(first|refine zgc ?_|fail)
 apply YgV (.p1 0 (.p1 2 (.p1 3 (.d2 1 (.d1 4 (.d1 5 (.d1 6 .done))) 4 (.d1 1 (.d1 5 (.d1 6 .done))))))) [] [true,true]
 kernel_rfl
 kernel_rfl
 exact zy
 exact rfl
 repeat'(first|((apply Yh _ YoQ);exact za;exact rfl;exactλ_ hw=>W4 q (by omega) (hrx zk) hw;rintro _ _ ⟨A1,cap1,rfl,rfl⟩)|(apply VO T T2;(iterate 7 exact rfl);intro gv)|(apply Xw [rqs A1 cap1 q,rqA gv x] _ Ytr;exact za;try exact zl;exact zp;exact rfl;exactλ_ hw=>p2 hw;rintro _ _ ⟨A2,cap2,rfl,rfl⟩)|(apply YrJ;(simp only[nthO];rfl))|(apply YrH;(simp only[nthO];rfl);exact zp)|(apply YrI;(simp only[nthO];rfl);(simp only[nthO];rfl);exact zp)|(apply Yhe;try exact zl)|refine zgd ?_|fail)
 all_goals(
  apply Yj (rqs A2 cap2 (q.take k++x::q.drop k)::H)
  ·intro w hw
   have h5:St B w0 (rqs A2 cap2 (q.take k++x::q.drop k)::[many H]) w:=by
    revert w
    exact zk
   exact h5.perm (.cons _ (.openT H))
  apply Yd;exact rfl;exact rfl
  exact⟨A2,cap2,rfl,rfl⟩)
variable {A:Option Addr}{cap B:Nat}{w0 w:World}{H:List HP}
theorem Yc6(p:RqM->Bool)(l:List RqM)(f:Nat)(cs:List Value)(hen:∀xs w,(callFunc f xs).run Tryz.prog w=.ok (.enter f xs) w)(hlen:l.length<=100000000)(hr:Rd B w0 H A (l.flatMap rqF))
 (hp:∀a∈l,∀w,St B w0 H w->Calls Tryz.prog f ([rqV a]++cs).toArray w (Post B w0 λv K=>v=.bool (p a)/\K=H)) (hw:St B w0 H w):
 Calls Tryz.prog 106 [.slice A l.length cap,.func (.func f) #[] cs.toArray].toArray w (Post B w0 λv K=>v=.int .i64 (Yn p l 0)/\K=H):=by
 refine Yc Tryz.func106 Tryz.ntmps106 rfl rfl hw ?_
 repeat'(first|refine zgb ?_|fail)
 refine Yi (λ(k:Nat)=>[(8,.int .i64 k),(7,.int .i64 l.length),(0,.slice A l.length cap),(1,.func (.func f) #[] cs.toArray)]) (λ_=>H) (λk=>k<=l.length/\Yn p l 0=Yn p (l.drop k) k) (λk=>l.length-k) 0 ⟨Tu _,by simp⟩ ?_ (λw hw=>hw) ?_
 ·exact zu
 rintro k ⟨hk,hi⟩ K hK
 by_cases hlt:k<l.length
 ·obtain⟨a,ha⟩:∃a,l[k]? =some a:=⟨_,Ta hlt⟩
  have hpa:=hp a (Tf ha)
  rw[JA p l ha]at hi
  repeat'(first|((first|apply Yz (cs:=cs));exact rfl;exact hen;exact za;exact rfl;exactλ_ hw=>hpa _ hw)|refine zgd ?_|(refine zge ?_ ?_<;>intro _<;>try exact zo)|fail)
  cases hpv:p a
  ·rw[hpv]at hi
   repeat'(first|refine zgc ?_|fail)
   apply hK (k+1)
   ·exact⟨by omega,hi⟩
   ·omega
   ·exact zu
   ·exactλw hw=>hw
  ·rw[hpv]at hi
   repeat'(first|refine zgd ?_|fail)
   apply Yd;exact rfl;exact rfl
   exact⟨by rw[hi];rfl,rfl⟩
 ·repeat'(first|refine zgc ?_|(refine zge ?_ ?_<;>intro _<;>try exact zo)|fail)
  apply Yd;exact rfl;exact rfl
  rw[hi,TZ (by omega)]
  exact⟨rfl,rfl⟩
theorem W7(p:RqM->Bool)(l:List RqM)(f:Nat)(cs:List Value)(hen:∀xs w,(callFunc f xs).run Tryz.prog w=.ok (.enter f xs) w)(hlen:l.length<=100000000)(hr:Rd B w0 H A (l.flatMap rqF))
 (hp:∀a∈l,∀w,St B w0 H w->Calls Tryz.prog f ([rqV a]++cs).toArray w (Post B w0 λv K=>v=.bool (p a)/\K=H)) (hw:St B w0 H w):
 Calls Tryz.prog 197 [.slice A l.length cap,.func (.func f) #[] cs.toArray].toArray w (Post B w0 λv K=>v=.bool (l.any p)/\K=H):=by
 refine Yc Tryz.func197 Tryz.ntmps197 rfl rfl hw ?_
 rw[<-Yc3]
 repeat'(first|refine zga ?_|fail)
 first|apply Ya Yk6|apply Yb Yk6
 exact za
 exact rfl
 exactλ_ hw=>(Yc6 p l f cs hen hlen hr hp hw)
 by_cases h0:0<=Yn p l 0
 ·rw[Tc h0]
  repeat'(first|refine zga ?_|(refine zgf ?_ ?_<;>intro _<;>try exact zo)|fail)
  apply Yd;exact rfl;exact rfl
  exact⟨rfl,rfl⟩
 ·rw[Tn h0]
  repeat'(first|refine zga ?_|(refine zgf ?_ ?_<;>intro _<;>try exact zo)|fail)
  apply Yd;exact rfl;exact rfl
  exact⟨rfl,rfl⟩
theorem YpZ(n:Net)(l:List Flw):(schE n l Zs).2≠0:=by
 have h:Zy n l Zs≠0:=by
  unfold Zy
  split
  ·decide
  split
  ·decide
  rw[Tm (by decide)];decide
 unfold schE
 rw[Tm h]
 exact h
def Yf1(n:Net)(q:List Rqs):Bool:=decide (¬(YT n q Zs).2.2=1\/0<=(YT n q Zs).2.1)
variable {n:Net}{q:List Rqs}
theorem YeS(h:Yq n=0):Yf1 n q=decide ((rqsE n q).2≠0):=by
 unfold Yf1 YT
 by_cases h1:(rqsE n q).2=0
 ·rw[Td (λe=>e h1),Tm (YpZ n _)]
  have h3:decide ((rqsE n q).2≠0)=false:=Tn (λe=>e h1)
  rw[h3];rfl
 ·have h3:decide ((rqsE n q).2≠0)=true:=Tc h1
  rw[Tm h1,h3]
  refine Tc ?_
  show¬(rqsE n q).2=1\/0<=(rqsE n q).1
  have hff:∀{f:Nat->Int}{r:Nat},(YH f r 0).2≠0->0<=(YH f r 0).1:=λ{f r} hne=>by
   have aux:∀{r i:Nat},(YH f r i).2≠0->0<=(YH f r i).1:=by
    intro r
    induction r with
    |zero=>intro i h;exact absurd rfl h
    |succ r ih=>
     intro i h
     unfold YH at h⊢
     split
     ·split at h
      ·exact ih h
      ·contradiction
     ·show(0:Int)<=(i:Nat);omega
   exact aux hne
  unfold rqsE at h1⊢
  rw[Td (λe=>e h)]at h1⊢
  by_cases h2:(YE n.nodes (YB q)).2=0
  ·rw[Td (λe=>e h2)]at h1⊢
   exact .inr (hff h1)
  ·rw[Tm h2]at h1⊢
   unfold YE at h2⊢
   split at h2
   ·left;rw[Tm (by assumption)];decide
   rw[Td (by assumption)]
   split at h2
   ·left;rw[Tm (by assumption)];decide
   rw[Td (by assumption)]
   exact .inr (hff h2)
theorem Ybh(n:NetM)(q:List RqM)(ht:TabsB B w0)(hin:n.In B w0 H)(hq:QIn B w0 H A q)(hw:St B w0 H w):
 Calls Tryz.prog 199 [n.val,.slice A q.length cap].toArray w (Post B w0 λv K=>v=.bool (Yf1 n.net (q.map RqM.rq))/\K=H):=by
 refine Yc Tryz.func199 Tryz.ntmps199 rfl rfl hw ?_
 have p1:=λ{H':List HP}{w:World}(hin:n.In B w0 H') (hq:QIn B w0 H' A q) (hw:St B w0 H' w)=>U3 n q ⟨0,0,none,0,[]⟩ (cap:=cap) ht hin hq (.nil) (by decide) hw
 unfold OutC NetM.val SchM.val at p1
 have hz:(⟨0,0,none,0,[]⟩:SchM).sch=Zs:=rfl
 rw[hz]at p1
 unfold Yf1
 obtain⟨⟨RC,ri,re⟩,hR⟩:∃R,YT n.net (q.map RqM.rq) Zs=R:=⟨_,rfl⟩
 rw[hR]at p1⊢
 dsimp only at p1⊢
 unfold NetM.val
 repeat'(first|refine zgd ?_|(refine zgh ?_;intro _)|fail)
 apply Yh _ en80
 exact za
 exact rfl
 exactλ_ hw=>(p1 hin.cons hq.cons (hw))
 rintro _ _ ⟨A2,cap2,C,rfl,hC,hCl,rfl⟩
 by_cases h0:re=1
 ·by_cases h1:0<=ri
  ·rw[Tc (.inr h1)]
   repeat'(first|refine zgc ?_|(refine zgf ?_ ?_<;>intro _<;>try exact zo)|fail)
   all_goals(apply Yj H;exact zk;apply Yd;exact rfl;exact rfl;first|exact⟨rfl,rfl⟩|omega)
  ·rw[Tn (by rintro(h|h);exact h h0;exact h1 h)]
   repeat'(first|refine zgc ?_|(refine zgf ?_ ?_<;>intro _<;>try exact zo)|fail)
   all_goals(apply Yj H;exact zk;apply Yd;exact rfl;exact rfl;first|exact⟨rfl,rfl⟩|omega)
 ·rw[Tc (.inl h0)]
  repeat'(first|refine zgc ?_|(refine zge ?_ ?_<;>intro _<;>try exact zo)|fail)
  all_goals(apply Yj H;exact zk;apply Yd;exact rfl;exact rfl;first|exact⟨rfl,rfl⟩|omega)
theorem Ymi(y x:RqM)(g:Nat)(hm:rqA g x∈H)(hw:St B w0 H w):
 Calls Tryz.prog 198 [rqV y,.pointer (some ⟨g,0,none⟩)].toArray w (Post B w0 λv K=>v=.bool (decide (y.f.1=x.f.1))/\K=H):=by
 refine Yc Tryz.func198 Tryz.ntmps198 rfl rfl hw ?_
 unfold rqV
 by_cases h:y.f.1=x.f.1
 ·rw[Tc h]
  repeat'(first|refine zgb ?_|(refine zge ?_ ?_<;>intro _<;>try exact zo)|(refine zgh ?_;intro _)|fail)
  all_goals(apply Yj H;exact zk;apply Yd;exact rfl;exact rfl;first|exact⟨rfl,rfl⟩|contradiction)
 ·rw[Tn h]
  repeat'(first|refine zgb ?_|(refine zge ?_ ?_<;>intro _<;>try exact zo)|(refine zgh ?_;intro _)|fail)
  all_goals(apply Yj H;exact zk;apply Yd;exact rfl;exact rfl;first|exact⟨rfl,rfl⟩|contradiction)
theorem Ymj{s:Sch}{x:Rqs}(hc:(YT n q s).2.2=0)(hx:(rqsE n (insQ q x)).2=0)(hm:s.len.tmod x.1.2.2.2.1=0):
 Sm n (YB (insQ q x)) s/\XD n.nodes x.1=0/\(∀r∈x.2,(∀y∈Yr n r,LkOk n (YB (insQ q x)) y.1 y.2.1 x.1.1)/\(∀i,i+1<r.length->0<=Yw n (r.getD i 0) (r.getD (i+1) 0))/\1<=r.length/\r.length<=9):=by
 obtain⟨h1,h2⟩:=ZH.1 hc
 have hsem:=VD.1 (Jb.1 h1)
 obtain⟨-,hfl,hrt⟩:=V7 hx
 have hxm:x∈insQ q x:=Vc.2 (.inl rfl)
 have hrx:=hrt x hxm
 have hfx:XD n.nodes x.1=0:=VJ hfl (TG.2 ⟨x,hxm,rfl⟩)
 obtain⟨hib,-⟩:=ZI hfx
 have hsm:Sm n (YB (insQ q x)) s:=by
  have h0:=hsem.sm
  refine⟨h0.ck,hfl,λf hf=>?_,h0.sized,h0.formed,h0.ord,λc hcm=>⟨(h0.good c hcm).1,?_⟩,h0.once,h0.clear⟩
  ·obtain⟨y,hy,rfl⟩:=TG.1 hf
   rcases Vc.1 hy with rfl|hy
   ·exact hm
   ·exact h0.per _ (TG.2 ⟨y,hy,rfl⟩)
  ·obtain⟨f,hf,e⟩:=VH.1 (h0.good c hcm).2
   obtain⟨y,hy,rfl⟩:=TG.1 hf
   exact VH.2 ⟨y.1,TG.2 ⟨y,Vc.2 (.inr hy),rfl⟩,e⟩
 have hfi:0<=Z8 (YB (insQ q x)) x.1.1:=VH.2 ⟨x.1,TG.2 ⟨x,hxm,rfl⟩,rfl⟩
 refine⟨hsm,hfx,λr hr=>?_⟩
 have hck:=J0 hrx r hr
 obtain⟨-,hlen,hg⟩:=JU hck
 refine⟨λy hy=>⟨Ydb hck y hy,hfi,hib⟩,λi hi=>?_,by omega,hlen.2⟩
 have:=hg i hi
 unfold YA at this
 rw[To]at this
 exact Rm this.1
theorem QIn.insert{A':Option Addr}{cap':Nat}{q:List RqM}{x:RqM}(h:QIn B w0 H A q)(hx:x.In B w0 H)(hl:q.length<=1000)(k:Nat)(hk:k<=q.length):QIn B w0 (rqs A' cap' (q.take k++x::q.drop k)::H) A' (q.take k++x::q.drop k):=
 ⟨.sl TA,λy hy=>by
  rcases TT.1 hy with hy|hy
  ·exact(h.x y (SU hy)).cons
  ·rcases TN.1 hy with rfl|hy
   ·exact hx.cons
   ·exact(h.x y (List.mem_of_mem_drop hy)).cons,by rw[OG q x k hk];omega⟩
theorem Yq4(q:List RqM)(x:RqM):(q.take (posQ (q.map RqM.rq) x.f.1)++x::q.drop (posQ (q.map RqM.rq) x.f.1)).map RqM.rq=insQ (q.map RqM.rq) x.rq:=by
 unfold insQ
 rw[T8,Re,List.map_take,List.map_drop];rfl
theorem YsU{q:List RqM}(h:(rqsE n (q.map RqM.rq)).2=0):Yn3 q:=λi j x y hij hi hj=>by
 have hl:=(Ti.1 hj).1
 have:=YpW h hij (by rw[Tv];exact hl)
 unfold rqAt at this
 rw[Tt,Tt,TE,TE,hi,hj]at this
 exact this
theorem Yi9(n:NetM)(q:List RqM)(s:SchM)(x:RqM)(h24:s.len<=24){A:Option Addr}{cap B:Nat}{w0:World}{H:List HP}{w:World}(ht:TabsB B w0)(hin:n.In B w0 H)(hq:QIn B w0 H A q)(hrs:Rd B w0 H s.A (s.cells.flatMap celF))(hsl:s.cells.length<=1000000000000)(hx:x.In B w0 H)(hw:St B w0 H w):
 Calls Tryz.prog 99 [n.val,.slice A q.length cap,s.val,rqV x].toArray w (Post B w0 (OutS H (Jt n.net (q.map RqM.rq) s.sch x.rq))):=by
 refine Yc Tryz.func99 Tryz.ntmps99 rfl rfl hw ?_
 have p1:=λ{H':List HP}{w:World}(hin:n.In B w0 H') (hq:QIn B w0 H' A q) (hrs:Rd B w0 H' s.A (s.cells.flatMap celF)) (hw:St B w0 H' w)=>YbC n q s (cap:=cap) ht hin hq hrs hsl hw
 have pf:=λ{A':Option Addr}{cap':Nat}{q':List RqM}{H':List HP}{w:World}(hin:n.In B w0 H') (hq:QIn B w0 H' A' q') (hw:St B w0 H' w)=>Ybh n q' (cap:=cap') ht hin hq hw
 have pp:=λ(hsm:Sm n.net (YB (insQ (q.map RqM.rq) x.rq)) s.sch) (hrow:∀r∈x.rows,Yn7 n (YB (insQ (q.map RqM.rq) x.rq)) x.f.1 r) (hf:XD n.net.nodes x.f=0) {H':List HP}{w:World}(hin:n.In B w0 H') (hr:Rd B w0 H' s.A (s.cells.flatMap celF)) (hx:x.In B w0 H') (hw:St B w0 H' w)=>Yiz n _ s x hsm h24 hrow hf hin hr hx hw
 have hn1:n.val=.agg #[.int .i64 n.nodes,.slice n.pA n.rows.length n.pcap,.int .i64 n.noise,.int .i64 n.thr,.slice n.lA n.links.length n.lcap,.slice n.mA n.margin.length n.mcap]:=rfl
 unfold NetM.val SchM.val rqV at*
 clear hn1
 have hlenS:s.sch.len=s.len:=rfl
 have hxf:x.rq.1=x.f:=rfl
 have hop:∀w,St B w0 [many H] w->St B w0 H w:=λw hw=>hw.perm (.openT H)
 have hin:=hin.mono hop
 have hq:=hq.mono hop
 have hrs:=hrs.mono hop
 have hx:=hx.mono hop
 refine Jf [many H] (λw hw=>hw.perm (.closeT H)) ?_
 repeat'(first|refine zgb ?_|(refine zgh ?_;intro _)|fail)
 rename_i g4 g6 g7 g8
 first|apply Ya Ylf|apply Yb Ylf
 exact za
 exact rfl
 exactλ_ hw=>(p1 hin.cons.cons.cons.cons hq.cons.cons.cons.cons hrs.cons.cons.cons.cons hw)
 by_cases hc:(YT n.net (q.map RqM.rq) s.sch).2.2=0
 rotate_left
 ·rw[Tn hc]
  repeat'(first|refine zgd ?_|fail)
  apply Yv T (H2:=cels none 0 []::H);(iterate 3 exact rfl);exact zm;exact rfl;exact rfl
  ·intro w hw
   have h5:St B w0 [many H] w:=by
    revert w
    exact zk
   exact St.nilSlice (h5.perm (.openT H)) _ _
  exact Ux 1 (by rw[Jt,Tm hc]) rfl
 rw[Tc hc]
 have hrq:(rqsE n.net (q.map RqM.rq)).2=0:=RL.1 λh1=>by
  unfold YT at hc;rw[Tm h1]at hc;exact h1 hc
 have hck:=(V7 hrq).1
 have hql:q.length<=16:=by
  have h1:=(V7 hrq).2.1
  unfold YE at h1
  split at h1
  ·cases h1
  split at h1
  ·cases h1
  rename_i h2
  unfold YB at h2
  rw[Tv,Tv]at h2
  omega
 have hord:=YsU hrq
 repeat'(first|(apply zg29;(apply Ym;exact za;exact rfl))|refine zgd ?_|fail)
 first|apply Ya Ylh|apply Yb Ylh
 exact za
 exact rfl
 exactλ_ hw=>(W7 (λy=>decide (y.f.1=x.f.1)) q 198 [.pointer (some ⟨g7,0,none⟩)] YtE (by omega) hq.rd.cons.cons.cons.cons (λa _ w hw=>Ymi a x g7 zm hw) hw)
 have hhas:(q.any λy=>decide (y.f.1=x.f.1))=hasQ (q.map RqM.rq) x.f.1:=by
  unfold hasQ;rw[MD];rfl
 rw[hhas]
 cases hh:hasQ (q.map RqM.rq) x.f.1 with
 |true=>
  repeat'(first|refine zgd ?_|fail)
  apply Yv T (H2:=cels none 0 []::H);(iterate 3 exact rfl);exact zm;exact rfl;exact rfl
  ·intro w hw
   have h5:St B w0 [many H] w:=by
    revert w
    exact zk
   exact St.nilSlice (h5.perm (.openT H)) _ _
  exact Ux 6 (by rw[Jt,Td (λe=>e hc),Tm (show hasQ (q.map RqM.rq) x.rq.1.1=true from hh)]) rfl
 |false=>
 have hadm:Jt n.net (q.map RqM.rq) s.sch x.rq=(if(rqsE n.net (insQ (q.map RqM.rq) x.rq)).2≠0 then(Zs,1)
  else if s.sch.len.tmod x.rq.1.2.2.2.1≠0 then(Zs,11)else match JH n.net x.rq.1 x.rq.2 s.sch with
   |none=>(Zs,18)
   |some t=>if 512<t.cells.length then(Zs,8)else(t,0):Sch×Int):=by
  have hh2:¬hasQ (q.map RqM.rq) x.rq.1.1=true:=λh=>by rw[show hasQ (q.map RqM.rq) x.rq.1.1=false from hh]at h;cases h
  unfold Jt
  rw[Td (λe=>e hc),Td hh2]
  rfl
 rw[hadm]
 have pi:=λ{H':List HP}{w:World}(hr:Rd B w0 H' A (q.flatMap rqF)) (hw:St B w0 H' w)=>Yea q x hord (by omega) (cap:=cap) hr hw
 have hkl:posQ (q.map RqM.rq) x.f.1<=q.length:=by
  have:=(List.takeWhile_prefix (p:=λy:Rqs=>decide (y.1.1<x.f.1)) (l:=q.map RqM.rq)).length_le
  rw[Tv]at this
  exact this
 have hmap:=Yq4 q x
 have hins:=OG q x _ hkl
 generalize posQ (q.map RqM.rq) x.f.1=k at*
 unfold rqV at pi
 repeat'(first|refine zga ?_|fail)
 apply YU [0,1,2,3,4,5] [] [true,true,true,true,true]
 kernel_rfl
 kernel_rfl
 exact zy
 (simp only[Yg,nthO];rfl)
 exact rfl
 repeat'(first|refine zgd ?_|fail)
 apply Yh _ YtF
 exact za
 exact rfl
 exactλ_ hw=>(pi hq.rd.cons.cons.cons.cons (hw))
 rintro _ _ ⟨A1,cap1,rfl,rfl⟩
 rw[<-hins]
 have hqi:=hq.insert (A':=A1) (cap':=cap1) hx (by omega) k hkl
 repeat'(first|(apply Yk;try exact zl)|refine zgd ?_|fail)
 first|apply Ya YeH|apply Yb YeH
 exact za
 exact rfl
 exactλ_ hw=>(pf (hin.mono zk) (hqi.mono zk) hw)
 rw[hmap,YeS hck]
 by_cases hrx:(rqsE n.net (insQ (q.map RqM.rq) x.rq)).2=0
 rotate_left
 ·rw[Tc hrx]
  repeat'(first|(apply Yk;try exact zl)|refine zgd ?_|fail)
  apply Yv T (H2:=cels none 0 []::H);(iterate 3 exact rfl);exact zm;exact rfl;exact rfl
  ·intro w hw
   have h5:St B w0 [many H] w:=by
    revert w
    exact zk
   exact St.nilSlice (h5.perm (.openT H)) _ _
  exact Ux 1 (by rw[Tm hrx]) rfl
 have hdf:decide ((rqsE n.net (insQ (q.map RqM.rq) x.rq)).2≠0)=false:=Tn (λe=>e hrx)
 rw[hdf,Td (λe=>e hrx)]
 have hxm:x.rq∈insQ (q.map RqM.rq) x.rq:=Vc.2 (.inl rfl)
 have hfx:XD n.net.nodes x.f=0:=VJ (V7 hrx).2.1 (TG.2 ⟨x.rq,hxm,rfl⟩)
 obtain⟨-,hper,hph,-,hd⟩:=ZI hfx
 have hl1:1<=s.len:=by
  have h0:=(VD.1 (Jb.1 (ZH.1 hc).1)).frm.sized
  unfold ZO at h0
  exact(Rm h0).1
 have hmm:s.len.tmod x.f.2.2.2.1=s.len%x.f.2.2.2.1:=RV (by omega)
 by_cases hm:s.len%x.f.2.2.2.1=0
 rotate_left
 ·rw[Tm (show s.sch.len.tmod x.rq.1.2.2.2.1≠0 fromλe=>hm (hmm.symm.trans e))]
  repeat'(first|(apply Yk;try exact zl)|refine zgd ?_|(refine zge ?_ ?_<;>intro _<;>try exact zo)|fail)
  apply Yv T (H2:=cels none 0 []::H);(iterate 3 exact rfl);exact zm;exact rfl;exact rfl
  ·intro w hw
   have h5:St B w0 [many H] w:=by
    revert w
    exact zk
   exact St.nilSlice (h5.perm (.openT H)) _ _
  exact Ux 11 rfl rfl
 rw[Td (show¬s.sch.len.tmod x.rq.1.2.2.2.1≠0 fromλe=>e (hmm.trans hm))]
 obtain⟨hsm,-,hrd⟩:=Ymj hc hrx (hmm.trans hm)
 have hrow:∀r∈x.rows,Yn7 n (YB (insQ (q.map RqM.rq) x.rq)) x.f.1 r:=λr hr=>by
  obtain⟨h1,h2,h3⟩:=hrd r.xs (TG.2 ⟨r,hr,rfl⟩)
  exact⟨h1,h2,h3⟩
 have pl:=λ{H':List HP}{w:World}=>@pp hsm hrow hfx H' w
 clear pp
 apply XL [many H,netA g4 n,schA g6 s,rqA g7 x,blk g8 (.cells (Value.agg #[.int .i64 0,.int .i64 0,.slice none 0 0]).cells 37 (0,0))]
 ·exact zk
 repeat'(first|(apply Yk;try exact zl)|refine zgd ?_|(refine zge ?_ ?_<;>intro _<;>try exact zo)|fail)
 apply Yh _ YtG
 exact za
 exact rfl
 exactλ_ hw=>(pl (hin.mono zk) (hrs.mono zk) (hx.mono zk) (hw))
 rintro _ _ ⟨s',ok,P,rfl,ho1,ho2,rfl⟩
 cases ok with
 |false=>
  rw[show JH n.net x.rq.1 x.rq.2 s.sch=none from ho2 rfl]
  repeat'(first|refine zgd ?_|(refine zgh ?_;intro _)|fail)
  apply Yv T (H2:=cels none 0 []::H);(iterate 3 exact rfl);exact zm;exact rfl;exact rfl
  ·intro w hw
   have h5:St B w0 [many H] w:=by
    revert w
    exact zk
   exact St.nilSlice (h5.perm (.openT H)) _ _
  exact Ux 18 rfl rfl
 |true=>
 obtain⟨h1,h2⟩:=ho1 rfl
 rw[show JH n.net x.rq.1 x.rq.2 s.sch=some s'.sch from h1]
 have e3:s'.sch.cells=s'.cells:=rfl
 dsimp only
 rw[e3]
 by_cases h512:512<s'.cells.length
 ·rw[Tm h512]
  repeat'(first|refine zgd ?_|(refine zgf ?_ ?_<;>intro _<;>try exact zo)|(refine zgh ?_;intro _)|fail)
  apply Yv T (H2:=cels none 0 []::H);(iterate 3 exact rfl);exact zm;exact rfl;exact rfl
  ·intro w hw
   have h5:St B w0 [many H] w:=by
    revert w
    exact zk
   exact St.nilSlice (h5.perm (.openT H)) _ _
  exact Ux 8 rfl rfl
 rw[Td h512]
 repeat'(first|refine zgd ?_|(refine zgf ?_ ?_<;>intro _<;>try exact zo)|(refine zgh ?_;intro _)|fail)
 apply Yh _ YeI
 exact za
 exact rfl
 exactλ_ hw=>(Jl s'.cells (by omega) (h2.mono zk) (hw))
 rintro _ _ ⟨A2,c2,rfl,rfl⟩
 repeat'(first|refine zgd ?_|fail)
 apply Yv T (H2:=cels A2 c2 s'.cells::H);(iterate 3 exact rfl);exact zm;exact rfl;exact rfl
 ·intro w hw
  have h5:St B w0 (cels A2 c2 s'.cells::[many H]) w:=by
   revert w
   exact zk
  exact h5.perm (.cons _ (.openT H))
 exact⟨A2,c2,rfl,rfl⟩
end Go.Proofs.YtaholidehobiiaaGreatDoor
namespace Go.Eng
open Go.RowKit
variable {B:Nat}{w0:World}{H:List HP}
theorem UJ{P:Program}{env:Env}{n:Nat}(T:Tab P){fn:Func}{Φ:Value->List HP->Prop}{p g k u s rt:Nat}{x y:Value}{cs:Array Value}{tt:TypeId}{fr:Nat×Nat}(hr:fn.results=#[.cell p rt,.tmp u,.tmp s])(hp:get env p=some (.pointer (some ⟨g,0,none⟩)))(hu:get env u=some x)(hs:get env s=some y)
 (hm:blk g (.cells cs tt fr)∈H) (ht:look T.ag rt=some k) (hk:cs.size=k) {H2:List HP}(hH:∀w,St B w0 H w->St B w0 H2 w) (h:Φ (.tuple #[.agg cs,x,y]) H2):VQ ⟨n,[],none⟩ B w0 (bodyPost P fn (Post B w0 Φ)) .ret env H:=by
 refine⟨λa w ha hw=>bodyPost_ret (v:=.tuple #[.agg cs,x,y]) ?_ ha.defers ⟨_,H2,rfl,hH w hw,h⟩⟩
 have hp':=ha.slot p _ hp
 simp[results,hr,Array.getD_eq_getD_getElem?,hp',ha.slot u _ hu,ha.slot s _ hs,asAddr,VB T (hw.blk hm).1 ht hk]
end Go.Eng
namespace Go.Proofs.YtaholidehobiiaaGreatDoor
open Go.RowKit Go.Eng Go.Nw Go.Rt
def Z2(A:Option Addr)(cap:Nat)(l:List Int):HP:=sl 3 1 A l.length cap (l.flatMap numF)
def OutA(H:List HP)(R:(Sch×List Int)×Int)(v:Value)(K:List HP):Prop:=∃A cap A2 cap2,v=.tuple #[.agg #[.int .i64 R.1.1.len,.int .i64 R.1.1.off,.slice A R.1.1.cells.length cap],.slice A2 R.1.2.length cap2,.int .i64 R.2]/\K=cels A cap R.1.1.cells::Z2 A2 cap2 R.1.2::H
variable {H:List HP}
theorem Yb1{R:(Sch×List Int)×Int}{v:Value}(e:Int)(hR:R=((Zs,[]),e))(hv:v=.tuple #[.agg #[.int .i64 0,.int .i64 0,.slice none 0 0],.slice none 0 0,.int .i64 e]):OutA H R v (cels none 0 []::Z2 none 0 []::H):=⟨none,0,none,0,by rw[hR];exact hv,by rw[hR];rfl⟩
variable {B cap:Nat}{w0 w:World}
theorem nilA(h:St B w0 H w):St B w0 (cels none 0 []::Z2 none 0 []::H) w:=(h.nilSlice _ _).nilSlice _ _
variable {A:Option Addr}
theorem Wy{l:List Cel}(h:cels A cap l∈H):Rd B w0 H A (l.flatMap celF):=Rd.sl h
theorem Ykk{l:List RqM}(h:rqs A cap l∈H):Rd B w0 H A (l.flatMap rqF):=Rd.sl h
theorem YjQ(A:Option Addr)(cap:Nat)(l:List Int)(x:Int):sl 3 1 A (l.length+1) cap (l.flatMap numF++#[Value.int .i64 x].toList)=Z2 A cap (l++[x]):=by
 unfold Z2;simp[numF]
theorem Yml(y:RqM)(len:Int)(g:Nat)(hl:0<=len)(hp:1<=y.f.2.2.2.1)(hm:intA g len∈H)(hw:St B w0 H w):
 Calls Tryz.prog 246 [rqV y,.pointer (some ⟨g,0,none⟩)].toArray w (Post B w0 λv K=>v=.bool (decide (len.tmod y.f.2.2.2.1≠0))/\K=H):=by
 refine Yc Tryz.func246 Tryz.ntmps246 rfl rfl hw ?_
 unfold rqV
 rw[RV hl]
 by_cases h:len%y.f.2.2.2.1=0
 ·have h2:decide (len%y.f.2.2.2.1≠0)=false:=Tn (λe=>e h)
  rw[h2]
  repeat'(first|refine zgd ?_|(refine zge ?_ ?_<;>intro _<;>try exact zo)|(refine zgh ?_;intro _)|fail)
  all_goals(apply Yj H;exact zk;apply Yd;exact rfl;exact rfl;first|exact⟨rfl,rfl⟩|contradiction)
 ·have h2:decide (len%y.f.2.2.2.1≠0)=true:=Tc h
  rw[h2]
  repeat'(first|refine zgd ?_|(refine zge ?_ ?_<;>intro _<;>try exact zo)|(refine zgh ?_;intro _)|fail)
  all_goals(apply Yj H;exact zk;apply Yd;exact rfl;exact rfl;first|exact⟨rfl,rfl⟩|contradiction)
theorem Ykq{n:NetM}{q:List RqM}(h:(rqsE n.net (q.map RqM.rq)).2=0):q.length<=16/\∀x∈q,1<=x.f.2.2.2.1:=by
 have h1:=(V7 h).2.1
 refine⟨?_,λx hx=>?_⟩
 ·unfold YE at h1
  split at h1
  ·cases h1
  split at h1
  ·cases h1
  rename_i h2
  unfold YB at h2
  rw[Tv,Tv]at h2
  omega
 ·have hfx:XD n.net.nodes x.f=0:=VJ h1 (TG.2 ⟨x.rq,TG.2 ⟨x,hx,rfl⟩,rfl⟩)
  obtain⟨-,hper,-⟩:=ZI hfx
  exact hper.1
structure AlM where
 k:Nat
 s:SchM
 iA:Option Addr
 icap:Nat
 inn:List RqM
 oA:Option Addr
 ocap:Nat
 at_:List Int
theorem Yn1(n:NetM)(q:List RqM)(len off:Int)(h24:len<=24\/512<len)(ht:TabsB B w0)(hin:n.In B w0 H)(hq:QIn B w0 H A q)(hw:St B w0 H w):
 Calls Tryz.prog 156 [n.val,.slice A q.length cap,.int .i64 len,.int .i64 off].toArray w (Post B w0 (OutA H (Xb n.net (q.map RqM.rq) len off))):=by
 refine Yc Tryz.func156 Tryz.ntmps156 rfl rfl hw ?_
 have hop:∀w,St B w0 [many H] w->St B w0 H w:=λw hw=>hw.perm (.openT H)
 have hin:=hin.mono hop
 have hq:=hq.mono hop
 have p1:=λ{H':List HP}{w:World}(hin:n.In B w0 H') (hw:St B w0 H' w)=>YY n hin hw
 have p2:=λ{H':List HP}{w:World}(hin:n.In B w0 H') (hq:QIn B w0 H' A q) (hw:St B w0 H' w)=>Ybh n q (cap:=cap) ht hin hq hw
 have pa:=λ(z:AlM) (x:RqM) (hz:z.s.len<=24) (hzl:z.s.cells.length<=1000000000000) {H':List HP}{w:World}(hin:n.In B w0 H') (hq:QIn B w0 H' z.iA z.inn) (hrs:Rd B w0 H' z.s.A (z.s.cells.flatMap celF)) (hx:x.In B w0 H') (hw:St B w0 H' w)=>Yi9 n z.inn z.s x hz (cap:=z.icap) ht hin hq hrs hzl hx hw
 unfold NetM.val SchM.val rqV at*
 refine Jf [many H] (λw hw=>hw.perm (.closeT H)) ?_
 have hnil:∀{w:World},St B w0 [many H] w->St B w0 (cels none 0 []::Z2 none 0 []::H) w:=λh=>nilA (h.perm (.openT H))
 by_cases hck:Yq n.net=0
 rotate_left
 ·have hno:(if Yq n.net=0 then(0:Int)else 1)=1:=Td hck
  repeat'(first|(apply zg23;first|(refine zs52 ?_;intro _)|(refine zs53 ?_;intro _))|refine zgb ?_|(refine zgh ?_;intro _)|fail)
  first|apply Ya en82|apply Yb en82
  exact za
  exact rfl
  exactλ_ hw=>(p1 hin.cons.cons.cons hw)
  repeat'(first|refine zgd ?_|(refine zge ?_ ?_<;>intro _<;>try exact zo)|fail)
  apply UJ T (H2:=cels none 0 []::Z2 none 0 []::H);(iterate 4 exact rfl);exact zm;exact rfl;exact rfl
  ·intro w hw
   refine hnil ?_
   revert w
   exact zk
  exact Yb1 1 (by rw[Xb,Tm (.inl hck)]) rfl
 have hf2:=YeS (q:=q.map RqM.rq) hck
 rw[hf2]at p2
 clear hf2
 by_cases hrq:(rqsE n.net (q.map RqM.rq)).2=0
 rotate_left
 ·have hd:decide ((rqsE n.net (q.map RqM.rq)).2≠0)=true:=Tc hrq
  rw[hd]at p2
  rw[hck]at p1
  repeat'(first|(apply zg23;first|(refine zs52 ?_;intro _)|(refine zs53 ?_;intro _))|refine zgb ?_|(refine zgh ?_;intro _)|fail)
  first|apply Ya en82|apply Yb en82
  exact za
  exact rfl
  exactλ_ hw=>(p1 hin.cons.cons.cons hw)
  repeat'(first|refine zgc ?_|(refine zge ?_ ?_<;>intro _<;>try exact zo)|fail)
  first|apply Ya YeH|apply Yb YeH
  exact za
  exact rfl
  exactλ_ hw=>(p2 hin.cons.cons.cons hq.cons.cons.cons hw)
  repeat'(first|refine zgd ?_|fail)
  apply UJ T (H2:=cels none 0 []::Z2 none 0 []::H);(iterate 4 exact rfl);exact zm;exact rfl;exact rfl
  ·intro w hw
   refine hnil ?_
   revert w
   exact zk
  exact Yb1 1 (by rw[Xb,Tm (.inr hrq)]) rfl
 have hd:decide ((rqsE n.net (q.map RqM.rq)).2≠0)=false:=Tn (λe=>e hrq)
 rw[hd]at p2
 rw[hck]at p1
 have hadm:Xb n.net (q.map RqM.rq) len off=if len<1\/512<len\/off<1\/16<off then((Zs,[]),2)
  else if((q.map RqM.rq).any λx=>decide (len.tmod x.1.2.2.2.1≠0))=true then((Zs,[]),11)else(((JL n.net (q.map RqM.rq) len off (q.map RqM.rq).length).s,(JL n.net (q.map RqM.rq) len off (q.map RqM.rq).length).at_),0):=by
  rw[Xb,Td]
  rintro(h|h)
  ·exact h hck
  ·exact h hrq
 rw[hadm]
 repeat'(first|(apply zg23;first|(refine zs52 ?_;intro _)|(refine zs53 ?_;intro _))|refine zgb ?_|(refine zgh ?_;intro _)|fail)
 rename_i g4 g6 g8
 first|apply Ya en82|apply Yb en82
 exact za
 exact rfl
 exactλ_ hw=>(p1 hin.cons.cons.cons hw)
 repeat'(first|refine zgc ?_|(refine zge ?_ ?_<;>intro _<;>try exact zo)|fail)
 first|apply Ya YeH|apply Yb YeH
 exact za
 exact rfl
 exactλ_ hw=>(p2 hin.cons.cons.cons hq.cons.cons.cons hw)
 by_cases hr:len<1\/512<len\/off<1\/16<off
 ·rw[Tm hr]
  repeat'(first|refine zgd ?_|(refine zgf ?_ ?_<;>intro _<;>try exact zo)|fail)
  all_goals try exact zo
  all_goals(
   apply UJ T (H2:=cels none 0 []::Z2 none 0 []::H);(iterate 4 exact rfl);exact zm;exact rfl;exact rfl
   ·intro w hw
    refine hnil ?_
    revert w
    exact zk
   exact Yb1 2 rfl rfl)
 rw[Td hr]
 have hl:=Ykq hrq
 repeat'(first|(apply zg29;(apply Ym;exact za;exact rfl))|refine zgc ?_|(refine zgf ?_ ?_<;>intro _<;>try exact zo)|fail)
 all_goals try exact zo
 first|apply Ya Ylh|apply Yb Ylh
 exact za
 exact rfl
 exactλ_ hw=>(W7 (λy=>decide (len.tmod y.f.2.2.2.1≠0)) q 246 [.pointer (some ⟨g6,0,none⟩)] YtL (by omega) (hq.rd.mono zk) (λa ha w hw=>Yml a len g6 (by omega) (hl.2 a ha) zm hw) hw)
 have hhas:(q.any λy=>decide (len.tmod y.f.2.2.2.1≠0))=(q.map RqM.rq).any λx=>decide (len.tmod x.1.2.2.2.1≠0):=by
  rw[MD];rfl
 rw[hhas]
 cases hh:(q.map RqM.rq).any λx=>decide (len.tmod x.1.2.2.2.1≠0)with
 |true=>
  rw[Tm rfl]
  repeat'(first|refine zgd ?_|fail)
  apply UJ T (H2:=cels none 0 []::Z2 none 0 []::H);(iterate 4 exact rfl);exact zm;exact rfl;exact rfl
  ·intro w hw
   refine hnil ?_
   revert w
   exact zk
  exact Yb1 11 rfl rfl
 |false=>
 rw[Td (by decide)]
 repeat'(first|refine zgd ?_|(refine zgh ?_;intro _)|fail)
 rename_i g11
 refine Yi (λz:AlM=>[(54,.int .i64 (z.k:Nat)),(53,.int .i64 q.length),(52,.slice A q.length cap),(13,.slice z.oA z.at_.length z.ocap),(12,.slice z.iA z.inn.length z.icap),(11,.pointer (some ⟨g11,0,none⟩)),(10,.int .i64 0),(9,.slice none 0 0),(8,.pointer (some ⟨g8,0,none⟩)),(4,.pointer (some ⟨g4,0,none⟩))])
  (λz=>schA g11 z.s::cels z.s.A z.s.cap z.s.cells::rqs z.iA z.icap z.inn::Z2 z.oA z.ocap z.at_::blk g8 (.cells (Value.agg #[.int .i64 0,.int .i64 0,.slice none 0 0]).cells 37 (0,0))::netA g4 n::[many H])
  (λz=>z.k<=q.length/\(∀y∈z.inn,y∈q)/\(⟨z.s.sch,z.inn.map RqM.rq,z.at_⟩:AllS)=JL n.net (q.map RqM.rq) len off z.k) (λz=>q.length-z.k) ⟨0,⟨len,off,none,0,[]⟩,none,0,[],none,0,[]⟩ ⟨Tu _,(λy hy=>by cases hy),rfl⟩ ?_ ?_ ?_
 ·exact zu
 ·intro w hw
  have h5:St B w0 (blk g11 (.cells #[.int .i64 len,.int .i64 off,.slice none 0 0] 37 (0,0))::blk g8 (.cells (Value.agg #[.int .i64 0,.int .i64 0,.slice none 0 0]).cells 37 (0,0))::netA g4 n::[many H]) w:=by
   revert w
   exact zk
  have h6:=((h5.nilSlice 3 1).nilSlice 86 7).nilSlice 64 5
  clear h5 hw
  have h7:St B w0 (blk g11 (.cells #[.int .i64 len,.int .i64 off,.slice none 0 0] 37 (0,0))::sl 64 5 none 0 0 []::sl 86 7 none 0 0 []::sl 3 1 none 0 0 []::blk g8 (.cells (Value.agg #[.int .i64 0,.int .i64 0,.slice none 0 0]).cells 37 (0,0))::netA g4 n::[many H]) w:=by
   revert w
   exact zk
  exact h7
 rintro⟨k,s,iA,icap,inn,oA,ocap,at_⟩ ⟨hk,hmem,hall⟩ K hK
 dsimp only at hk hmem hall⊢
 have hor:1<=off/\off<=16:=by omega
 have hlr:1<=len/\len<=512:=by omega
 have hinv:=YbT hrq hlr hor k (by rw[Tv];exact hk)
 rw[<-hall]at hinv
 have hs24:s.len<=24:=by have:s.len=len:=hinv.len;omega
 have hfew:inn.length<=k:=by have:=hinv.few;rwa [Tv]at this
 have hsl:s.cells.length<=512:=(VD.1 (Jb.1 (ZH.1 hinv.ok).1)).frm.few
 have hcnt:at_.length=inn.length:=by have:=hinv.cnt;rwa [Tv]at this
 have hqI:QIn B w0 (schA g11 s::cels s.A s.cap s.cells::rqs iA icap inn::Z2 oA ocap at_::blk g8 (.cells (Value.agg #[.int .i64 0,.int .i64 0,.slice none 0 0]).cells 37 (0,0))::netA g4 n::[many H]) iA inn:=
  ⟨Ykk (cap:=icap) zm,λy hy=>((((((hq.x y (hmem y hy)).cons).cons).cons).cons).cons).cons,by omega⟩
 by_cases hlt:k<q.length
 rotate_left
 ·obtain rfl:k=q.length:=by omega
  clear hK
  have hall2:JL n.net (q.map RqM.rq) len off (q.map RqM.rq).length=⟨s.sch,inn.map RqM.rq,at_⟩:=by rw[Tv];exact hall.symm
  rw[hall2]
  repeat'(first|refine zgc ?_|(refine zge ?_ ?_<;>intro _<;>try exact zo)|fail)
  apply UJ T (H2:=cels s.A s.cap s.cells::Z2 oA ocap at_::H);(iterate 4 exact rfl);exact zm;exact rfl;exact rfl
  ·intro w hw
   have h5:St B w0 (cels s.A s.cap s.cells::Z2 oA ocap at_::[many H]) w:=by
    revert w
    exact zk
   exact h5.perm (.cons _ (.cons _ (.openT H)))
  exact⟨s.A,s.cap,oA,ocap,rfl,rfl⟩
 have hqrd:=hq.rd
 obtain⟨x,hx⟩:∃x,q[k]? =some x:=⟨_,Ta hlt⟩
 have hxm:=Tf hx
 have hrx:rqAt (q.map RqM.rq) k=x.rq:=by
  unfold rqAt
  rw[Tt,TE,hx];rfl
 have hstep:JL n.net (q.map RqM.rq) len off (k+1)=QF n.net ⟨s.sch,inn.map RqM.rq,at_⟩ k x.rq:=by
  rw[JL,hall,hrx]
 have pz:=λ{H':List HP}{w:World}=>pa ⟨k,s,iA,icap,inn,oA,ocap,at_⟩ x hs24 (by show s.cells.length<=_;omega) (H':=H') (w:=w)
 dsimp only at pz
 clear pa
 unfold QF at hstep
 dsimp only at hstep
 have hsn:(⟨k,s,iA,icap,inn,oA,ocap,at_⟩:AlM).s.sch=s.sch:=rfl
 generalize Jt n.net (inn.map RqM.rq) s.sch x.rq=R at pz hstep
 obtain⟨t,e⟩:=R
 unfold OutS at pz
 dsimp only at pz hstep
 repeat'(first|refine zgd ?_|(refine zge ?_ ?_<;>intro _<;>try exact zo)|(refine zgh ?_;intro _)|fail)
 rename_i g15
 apply Yh _ en99
 exact za
 exact rfl
 exactλ_ hw=>(pz (hin.mono zk) (hqI.mono zk) (Wy (cap:=s.cap) zm) ((hq.x x hxm).mono zk) (hw))
 rintro _ _ ⟨A2,c2,rfl,rfl⟩
 by_cases he:e=0
 rotate_left
 ·rw[Td he]at hstep
  repeat'(first|refine zgc ?_|(refine zge ?_ ?_<;>intro _<;>try exact zo)|(refine zgh ?_;intro _)|fail)
  apply hK ⟨k+1,s,iA,icap,inn,oA,ocap,at_⟩
  ·exact⟨by show k+1<=_;omega,hmem,hstep.symm⟩
  ·dsimp only;omega
  ·exact zu
  ·exact zk
 subst he
 rw[Tm rfl]at hstep
 unfold rqs Z2
 repeat'(first|refine zgc ?_|(refine zge ?_ ?_<;>intro _<;>try exact zo)|(refine zgh ?_;intro _)|fail)
 apply Vr (.n1 0 (.n1 1 (.n1 2 (.n1 5 (.n1 6 (.n2 3 (.n2 4 (.n1 7 (.n1 8 (.n1 9 (.n1 10 (.n1 11 .done))))) 7 (.n1 4 (.n1 8 (.n1 9 (.n1 10 (.n1 11 .done)))))) 7 (.n1 3 (.n1 4 (.n1 8 (.n1 9 (.n1 10 (.n1 11 .done)))))))))))) [] [true,false,true]
 kernel_rfl
 kernel_rfl
 exact zy
 exact rfl
 repeat'(first|(apply Yk;try exact zl)|apply(zs91 ?_ ?_)|(apply Xp;try exact zl)|refine zgd ?_|(refine zgh ?_;intro _)|(refine zgi ?_;intro _ _)|fail)
 all_goals(
  first|(rename_i A3 c3 gb A4 c4;guard_hyp A3:Option Addr;guard_hyp gb:Nat)|rename_i A3 c3 A4 c4
  apply hK ⟨k+1,⟨t.len,t.off,A2,c2,t.cells⟩,A3,c3,inn++[x],A4,c4,at_++[(k:Int)]⟩
  ·refine⟨by show k+1<=_;omega,λy hy=>?_,?_⟩
   ·rcases TT.1 hy with hy|hy
    ·exact hmem y hy
    ·rw[TJ.1 hy];exact hxm
   ·show(⟨t,(inn++[x]).map RqM.rq,at_++[(k:Int)]⟩:AllS)=_
    rw[hstep,T8];rfl
  ·dsimp only;omega
  ·rw[Tj,Tj]
   exact zu
  ·intro w hw
   dsimp only
   rw[<-YaT,<-YjQ]
   revert w
   exact zk)
variable {B:Nat}{w0 w:World}{H:List HP}
theorem WF(n:NetM)(hin:n.In B w0 H)(hw:St B w0 H w):
 Calls Tryz.prog 58 [n.val].toArray w (Post B w0 λv K=>v=.bool (decide (Yq n.net=0))/\K=H):=by
 refine Yc Tryz.func58 Tryz.ntmps58 rfl rfl hw ?_
 have p1:=λ{H':List HP}{w:World}(hin:n.In B w0 H') (hw:St B w0 H' w)=>Yl0 n [] (A:=none) (cap:=0) hin .nil (by decide) (by decide) hw
 have hc:(YgN n.net []).2=if Yq n.net≠0 then 1 else 9:=by
  unfold YgN
  by_cases h:Yq n.net=0
  ·rw[Td (show¬Yq n.net≠0 fromλe=>e h),Td (show¬Yq n.net≠0 fromλe=>e h)];rfl
  ·rw[Tm h,Tm h]
 unfold NetM.val at p1⊢
 by_cases h:Yq n.net=0
 ·rw[Td (λe=>e h)]at hc
  rw[hc]at p1
  rw[Tc h]
  repeat'(first|refine zgb ?_|(refine zgh ?_;intro _)|fail)
  first|apply Ya Yld|apply Yb Yld
  exact za
  exact rfl
  exactλ_ hw=>(p1 hin.cons hw)
  repeat'(first|refine zgc ?_|(refine zge ?_ ?_<;>intro _<;>try exact zo)|fail)
  apply Yj H
  ·exact zk
  apply Yd;exact rfl;exact rfl;exact⟨rfl,rfl⟩
 ·rw[Tm h]at hc
  rw[hc]at p1
  rw[Tn h]
  repeat'(first|refine zgb ?_|(refine zgh ?_;intro _)|fail)
  first|apply Ya Yld|apply Yb Yld
  exact za
  exact rfl
  exactλ_ hw=>(p1 hin.cons hw)
  repeat'(first|refine zgc ?_|(refine zge ?_ ?_<;>intro _<;>try exact zo)|fail)
  apply Yj H
  ·exact zk
  apply Yd;exact rfl;exact rfl;exact⟨rfl,rfl⟩
def rqQ(x:RqM):HP:=many [sl 93 1 x.A x.rows.length x.cap (x.rows.flatMap rowF),many (x.rows.map rowQ)]
def RqM.lens(x:RqM):Prop:=x.rows.length<=1000/\∀r∈x.rows,r.xs.length<=1000/\r.xs.length<=r.cap
theorem Ys6{x:RqM}(hm:rqQ x∈H)(hl:x.lens):x.In B w0 H:=by
 have hb:∀w,St B w0 H w->St B w0 [sl 93 1 x.A x.rows.length x.cap (x.rows.flatMap rowF),many (x.rows.map rowQ)] w:=λw hw=>hw.inM hm
 refine RqM.In.mono ⟨.sl (.head _),λr hr=>?_,RE hl.1 (by decide),λr hr=>⟨RE (hl.2 r hr).1 (by decide),(hl.2 r hr).2⟩⟩ hb
 exact Rd.many (L:=x.rows.map rowQ) (.tail _ (.head _)) (SO hr)
def Yfx:RqM:=⟨(0,0,0,0,0,0),none,0,[]⟩
theorem Yuh(h:St B w0 H w):St B w0 (rqQ Yfx::H) w:=by
 unfold rqQ Yfx
 dsimp only[List.flatMap_nil,List.map_nil,List.length_nil]
 exact((h.perm (.noMany H)).nilSlice 93 1).perm (.close [_,_] H)
def OutQ(H:List HP)(R:Rqs×Int)(v:Value)(K:List HP):Prop:=∃x:RqM,v=.tuple #[rqV x,.int .i64 R.2]/\x.rq=R.1/\x.lens/\K=rqQ x::H
theorem Yrm{R:Rqs×Int}{v:Value}(e:Int)(hR:R=(YlZ,e))(hv:v=.tuple #[rqV Yfx,.int .i64 e]):OutQ H R v (rqQ Yfx::H):=⟨Yfx,by rw[hR];exact hv,by rw[hR];rfl,⟨Tu _,λr hr=>by cases hr⟩,rfl⟩
theorem O5(n:NetM)(f:Flw)(hin:n.In B w0 H)(hw:St B w0 H w):
 Calls Tryz.prog 100 [n.val,flwV f].toArray w (Post B w0 (OutQ H (V9 n.net f))):=by
 refine Yc Tryz.func100 Tryz.ntmps100 rfl rfl hw ?_
 have p1:=λ{H':List HP}{w:World}(hin:n.In B w0 H') (hw:St B w0 H' w)=>Yeg n f.2.1 f.2.2.1 hin hw
 have hl9:=Ys9 n.net f.2.1 f.2.2.1
 have hsing:V9 n.net f=if(Z5 n.net f.2.1 f.2.2.1).2≠0 then(YlZ,(Z5 n.net f.2.1 f.2.2.1).2)else((f,[(Z5 n.net f.2.1 f.2.2.1).1]),0):=rfl
 rw[hsing]
 clear hsing
 generalize Z5 n.net f.2.1 f.2.2.1=R at*
 unfold NetM.val at p1⊢
 unfold flwV
 repeat'(first|refine zgb ?_|(refine zgh ?_;intro _)|fail)
 apply Yh _ YtH
 exact za
 exact rfl
 exactλ_ hw=>(p1 hin.cons.cons.cons (hw))
 rintro _ _ ⟨A,cap,rfl,-,-,rfl⟩
 apply Wc (e:=3) (size:=1) (k:=R.1.length) (cap:=cap) (A:=A) (xs:=R.1.flatMap numF) zm
 intro hcap
 obtain⟨r,e⟩:=R
 dsimp only at hl9 hcap⊢
 by_cases he:e=0
 ·rw[Td (λh=>h he)]
  repeat'(first|refine zgd ?_|(refine zge ?_ ?_<;>intro _<;>try exact zo)|(refine zgh ?_;intro _)|fail)
  rename_i gL
  apply Yv T (H2:=rqQ ⟨f,some ⟨gL,0,none⟩,1,[⟨A,cap,r⟩]⟩::H);(iterate 3 exact rfl);exact zm;exact rfl;exact rfl
  ·intro w hw
   have h5:St B w0 (blk gL (.cells #[.slice A r.length cap] 93 (0,0))::ints A cap r::H) w:=by
    revert w
    exact zk
   have h6:=h5.blk_sl (cs:=[Value.slice A r.length cap]) (len:=1) (size:=1) rfl (by omega)
   exact(h6.perm (.cons _ (.close [_] H))).perm (.close [_,_] H)
  refine⟨_,rfl,rfl,⟨T0 rfl,λx hx=>?_⟩,rfl⟩
  rw[TJ.1 hx]
  exact⟨by show r.length<=_;omega,hcap⟩
 ·rw[Tm he]
  repeat'(first|refine zgd ?_|(refine zge ?_ ?_<;>intro _<;>try exact zo)|fail)
  apply Yv T (H2:=rqQ Yfx::H);(iterate 3 exact rfl);exact zm;exact rfl;exact rfl
  ·intro w hw
   have h5:St B w0 H w:=by
    revert w
    exact zk
   exact Yuh h5
  exact Yrm e rfl rfl
theorem Ydq(n:NetM)(f:Flw)(hin:n.In B w0 H)(hw:St B w0 H w):
 Calls Tryz.prog 60 [n.val,flwV f].toArray w (Post B w0 (OutQ H (reqE n.net f))):=by
 refine Yc Tryz.func60 Tryz.ntmps60 rfl rfl hw ?_
 have p1:=λ{H':List HP}{w:World}(hin:n.In B w0 H') (hw:St B w0 H' w)=>Yl3 n f.2.1 f.2.2.1 100000 (WP n.net f) (TL _) (Yff n.net f) hin hw
 have p2:=λ{H':List HP}{w:World}(hin:n.In B w0 H') (hw:St B w0 H' w)=>O5 n f hin hw
 have hreq:reqE n.net f=match(WP n.net f).1 with|some pq=>((f,[pq.1,pq.2]),0)|none=>V9 n.net f:=rfl
 rw[hreq]
 clear hreq
 unfold NetM.val flwV at p2
 unfold NetM.val at p1⊢
 unfold flwV
 rcases Yno n.net f with⟨h1,h2⟩|⟨a,b,h1⟩
 ·generalize WP n.net f=R at*
  obtain⟨o,e⟩:=R
  dsimp only at h1 h2
  subst h1
  dsimp only at p1⊢
  repeat'(first|refine zgb ?_|(refine zgh ?_;intro _)|fail)
  first|apply Ya YoT|apply Yb YoT
  exact za
  exact rfl
  exactλ_ hw=>(p1 hin.cons.cons.cons hw)
  repeat'(first|refine zgc ?_|(refine zge ?_ ?_<;>intro _<;>try exact zo)|fail)
  apply Yh _ YrL
  exact za
  exact rfl
  exactλ_ hw=>(p2 hin.cons.cons.cons (hw))
  rintro _ _ ⟨x,rfl,hx,hxl,rfl⟩
  unfold rqV
  repeat'(first|refine zgc ?_|fail)
  apply Yv T (H2:=rqQ x::H);(iterate 3 exact rfl);exact zm;exact rfl;exact rfl
  ·exact zk
  exact⟨x,rfl,hx,hxl,rfl⟩
 ·rw[h1]at p1⊢
  dsimp only at p1⊢
  repeat'(first|refine zgb ?_|(refine zgh ?_;intro _)|fail)
  apply Yh _ YoT
  exact za
  exact rfl
  exactλ_ hw=>(p1 hin.cons.cons.cons (hw))
  rintro _ _ ⟨g,A1,c1,A2,c2,rfl,⟨l1,l2,l3⟩,-,rfl⟩
  apply Wc (e:=3) (size:=1) (k:=a.length) (cap:=c1) (A:=A1) (xs:=a.flatMap numF) zm
  intro hc1
  apply Wc (e:=3) (size:=1) (k:=b.length) (cap:=c2) (A:=A2) (xs:=b.flatMap numF) zm
  intro hc2
  try dsimp only at l1 l2 l3
  repeat'(first|refine zgd ?_|(refine zge ?_ ?_<;>intro _<;>try exact zo)|fail)
  apply Yv T (H2:=rqQ ⟨f,some ⟨g,0,none⟩,2,[⟨A1,c1,a⟩,⟨A2,c2,b⟩]⟩::H);(iterate 3 exact rfl);exact zm;exact rfl;exact rfl
  ·intro w hw
   have h5:St B w0 (sl 93 1 (some ⟨g,0,none⟩) 2 2 ([⟨A1,c1,a⟩,⟨A2,c2,b⟩].flatMap rowF)::ints A1 c1 a::ints A2 c2 b::H) w:=by
    revert w
    exact zk
   exact(h5.perm (.cons _ (.close [_,_] H))).perm (.close [_,_] H)
  refine⟨_,rfl,rfl,⟨T0 rfl,λx hx=>?_⟩,rfl⟩
  simp only[TN,R7,N2]at hx
  rcases hx with rfl|rfl
  ·exact⟨by show a.length<=_;omega,hc1⟩
  ·exact⟨by show b.length<=_;omega,hc2⟩
theorem Yde(q:List RqM)(x:RqM)(H:List HP):Perm (rqQ x::many (q.map rqQ)::H) (many ((q++[x]).map rqQ)::H):=by
 have:=Perm.push (rqQ x) (q.map rqQ) [] H
 rw[TM]at this
 rw[T8]
 exact this
def Yn5(H:List HP)(R:List Rqs×(Int×Int))(v:Value)(K:List HP):Prop:=∃A cap q,v=.tuple #[.slice A (q:List RqM).length cap,.int .i64 R.2.1,.int .i64 R.2.2]/\q.map RqM.rq=R.1/\(∀x∈q,x.lens)/\K=rqs A cap q::many (q.map rqQ)::H
variable {B:Nat}{w0 w:World}{H:List HP}
theorem Yge(h:St B w0 H w):St B w0 (rqs none 0 []::many (([]:List RqM).map rqQ)::H) w:=(h.perm (.noMany H)).nilSlice 86 7
theorem Ydi{R:List Rqs×(Int×Int)}{v:Value}(i e:Int)(hR:R=([],(i,e)))(hv:v=.tuple #[.slice none 0 0,.int .i64 i,.int .i64 e]):Yn5 H R v (rqs none 0 []::many (([]:List RqM).map rqQ)::H):=
 ⟨none,0,[],by rw[hR];exact hv,by rw[hR];rfl,(λx hx=>by cases hx),rfl⟩
theorem YlN{q:List RqM}{x:RqM}(hm:many (q.map rqQ)∈H)(hx:x∈q)(hl:x.lens):x.In B w0 H:=
 RqM.In.mono (H:=q.map rqQ) (Ys6 (SO hx) hl) λ_ hw=>hw.inM hm
structure RtM where
 i:Nat
 A:Option Addr
 cap:Nat
 q:List RqM
theorem Yed(n:NetM)(l:List Flw)(hll:l.length<=1000000000000){A:Option Addr}{cap:Nat}(hin:n.In B w0 H)(hr:Rd B w0 H A (l.flatMap flwF))(hw:St B w0 H w):
 Calls Tryz.prog 13 [n.val,.slice A l.length cap].toArray w (Post B w0 (Yn5 H (JZ n.net l))):=by
 refine Yc Tryz.func13 Tryz.ntmps13 rfl rfl hw ?_
 have p1:=λ{H':List HP}{w:World}(hin:n.In B w0 H') (hw:St B w0 H' w)=>WF n hin hw
 have p2:=λ{H':List HP}{w:World}(hr:Rd B w0 H' A (l.flatMap flwF)) (hw:St B w0 H' w)=>Y5 n.nodes l (RE hll (by decide)) (cap:=cap) hr hw
 have p3:=λ(f:Flw) {H':List HP}{w:World}(hin:n.In B w0 H') (hw:St B w0 H' w)=>Ydq n f hin hw
 have hop:∀w,St B w0 [many H] w->St B w0 H w:=λw hw=>hw.perm (.openT H)
 have hin:=hin.mono hop
 have hr:=hr.mono hop
 unfold NetM.val flwV at p3
 unfold NetM.val at p1⊢
 refine Jf [many H] (λw hw=>hw.perm (.closeT H)) ?_
 unfold JZ
 by_cases hck:Yq n.net=0
 rotate_left
 ·rw[Tm hck]
  rw[Tn hck]at p1
  repeat'(first|refine zgb ?_|(refine zgh ?_;intro _)|fail)
  first|apply Ya en58|apply Yb en58
  exact za
  exact rfl
  exactλ_ hw=>(p1 hin.cons hw)
  repeat'(first|refine zgd ?_|fail)
  apply Yj (rqs none 0 []::many (([]:List RqM).map rqQ)::H)
  ·intro w hw
   have h5:St B w0 [many H] w:=by
    revert w
    exact zk
   exact Yge (hop w h5)
  apply Jr;(iterate 4 exact rfl)
  exact Ydi _ _ rfl rfl
 rw[Td (λe=>e hck)]
 rw[Tc hck]at p1
 have hnd:n.net.nodes=n.nodes:=rfl
 rw[hnd]
 obtain⟨⟨fi,fe⟩,hF⟩:∃R,YE n.nodes l=R:=⟨_,rfl⟩
 rw[hF]at p2⊢
 dsimp only at p2⊢
 repeat'(first|refine zgb ?_|(refine zgh ?_;intro _)|fail)
 first|apply Ya en58|apply Yb en58
 exact za
 exact rfl
 exactλ_ hw=>(p1 hin.cons hw)
 repeat'(first|refine zgd ?_|fail)
 first|apply Ya en59|apply Yb en59
 exact za
 exact rfl
 exactλ_ hw=>(p2 hr.cons hw)
 by_cases hfe:fe=0
 rotate_left
 ·rw[Tm hfe]
  repeat'(first|refine zgc ?_|(refine zge ?_ ?_<;>intro _<;>try exact zo)|fail)
  apply Yj (rqs none 0 []::many (([]:List RqM).map rqQ)::H)
  ·intro w hw
   have h5:St B w0 [many H] w:=by
    revert w
    exact zk
   exact Yge (hop w h5)
  apply Jr;(iterate 4 exact rfl)
  exact Ydi _ _ rfl rfl
 subst hfe
 rw[Td (λe=>e rfl)]
 have hl16:l.length<=16:=by
  unfold YE at hF
  split at hF
  ·cases hF
  split at hF
  ·cases hF
  ·omega
 obtain⟨F,hFd⟩:∃F,(λi=>(reqE n.net (Y9 l i)).2)=F:=⟨_,rfl⟩
 have hFv:∀{i:Nat}{f:Flw},l[i]? =some f->F i=(reqE n.net f).2:=λ{i f} h=>by
  rw[<-hFd]
  show(reqE n.net (Y9 l i)).2=_
  unfold Y9
  rw[Tt,h];rfl
 unfold Ydp
 rw[hFd]
 repeat'(first|refine zgc ?_|(refine zge ?_ ?_<;>intro _<;>try exact zo)|fail)
 rename_i g2 _
 refine Yi (λz:RtM=>[(30,.int .i64 (z.i:Nat)),(29,.int .i64 l.length),(28,.slice A l.length cap),(9,.slice z.A z.q.length z.cap),(2,.pointer (some ⟨g2,0,none⟩))]) (λz=>rqs z.A z.cap z.q::many (z.q.map rqQ)::netA g2 n::[many H])
  (λz=>z.i<=l.length/\z.q.map RqM.rq=(l.take z.i).map (λf=>(reqE n.net f).1)/\(∀x∈z.q,x.lens)/\∀j,0<=j->j<z.i->F j=0) (λz=>l.length-z.i) ⟨0,none,0,[]⟩ ⟨Tu _,rfl,(λx hx=>by cases hx),λj _ h=>absurd h (Sv _)⟩ ?_ ?_ ?_
 ·exact zu
 ·intro w hw
  have h5:St B w0 (netA g2 n::[many H]) w:=by
   revert w
   exact zk
  exact Yge h5
 rintro⟨i,A1,c1,q⟩ ⟨hi,hq,hql,hz⟩ K hK
 dsimp only at hi hq hql hz⊢
 have hqn:q.length=i:=by
  have:=TU List.length hq
  rw[Tv,Tv,TD]at this
  omega
 by_cases hlt:i<l.length
 rotate_left
 ·obtain rfl:i=l.length:=by omega
  have hfe:=ZS (f:=F) (r:=l.length) (i0:=0) λj h1 h2=>hz j h1 (by omega)
  rw[hfe,Td (λe=>e rfl)]
  rw[TY]at hq
  clear hK
  repeat'(first|refine zgc ?_|(refine zge ?_ ?_<;>intro _<;>try exact zo)|fail)
  apply Yj (rqs A1 c1 q::many (q.map rqQ)::H)
  ·intro w hw
   have h5:St B w0 (rqs A1 c1 q::many (q.map rqQ)::[many H]) w:=by
    revert w
    exact zk
   exact h5.perm (.cons _ (.cons _ (.openT H)))
  apply Jr;(iterate 4 exact rfl)
  exact⟨A1,c1,q,rfl,hq,hql,rfl⟩
 obtain⟨f,hf⟩:∃f,l[i]? =some f:=⟨_,Ta hlt⟩
 have hr2:Rd B w0 (rqs A1 c1 q::many (q.map rqQ)::netA g2 n::[many H]) A (l.flatMap flwF):=hr.cons.cons.cons
 have hFi:=hFv hf
 have hst:(l.take (i+1)).map (λf=>(reqE n.net f).1)=(l.take i).map (λf=>(reqE n.net f).1)++[(reqE n.net f).1]:=by
  rw[TF,hf,T8];rfl
 have p4:=λ{H':List HP}{w:World}(hin:n.In B w0 H') (hw:St B w0 H' w)=>p3 f (H':=H') (w:=w) hin hw
 clear p3
 generalize reqE n.net f=RQ at p4 hFi hst
 obtain⟨rq,re⟩:=RQ
 dsimp only at hFi hst
 repeat'(first|refine zgd ?_|(refine zge ?_ ?_<;>intro _<;>try exact zo)|(refine zgh ?_;intro _)|fail)
 apply Yh _ en60
 exact za
 exact rfl
 exactλ_ hw=>(p4 (hin.mono zk) (hw))
 rintro _ _ ⟨x,rfl,hx,hxl,rfl⟩
 dsimp only at hx⊢
 by_cases he:re=0
 rotate_left
 ·have hfe:=Zt (f:=F) (r:=l.length) (i0:=0) (i:=i) (λj h1 h2=>hz j h1 h2) (Tu _) (by omega) (by rw[hFi];exact he)
  rw[hfe,Tm (by rw[hFi];exact he),hFi]
  clear hK
  repeat'(first|refine zgd ?_|(refine zge ?_ ?_<;>intro _<;>try exact zo)|(refine zgh ?_;intro _)|fail)
  apply Yj (rqs none 0 []::many (([]:List RqM).map rqQ)::H)
  ·intro w hw
   have h5:St B w0 [many H] w:=by
    revert w
    exact zk
   exact Yge (hop w h5)
  apply Jr;(iterate 4 exact rfl)
  exact Ydi _ _ rfl rfl
 subst he
 unfold rqV rqs
 repeat'(first|refine zgc ?_|(refine zge ?_ ?_<;>intro _<;>try exact zo)|(refine zgh ?_;intro _)|(refine zgi ?_;intro _ _)|fail)
 rename_i A2 c2
 apply hK ⟨i+1,A2,c2,q++[x]⟩
 ·refine⟨by show i+1<=_;omega,?_,λy hy=>?_,λj h1 h2=>?_⟩
  ·show(q++[x]).map RqM.rq=_
   rw[T8,hq,hst]
   exact TU _ (TU (λz=>[z]) hx)
  ·rcases TT.1 hy with hy|hy
   ·exact hql y hy
   ·rw[TJ.1 hy];exact hxl
  ·rcases RU.1 h2 with h|rfl
   ·exact hz j h1 h
   ·exact hFi
 ·dsimp only;omega
 ·rw[Tj]
  exact zu
 ·intro w hw
  have h5:St B w0 (rqQ x::many (q.map rqQ)::rqs A2 c2 (q++[x])::netA g2 n::[many H]) w:=by
   rw[<-YaT]
   revert w
   exact zk
  have h6:=h5.perm (Yde q x _)
  exact h6.perm (.swap _ _ _)
structure BuM where
 n:NetM
 qA:Option Addr
 qcap:Nat
 q:List RqM
 s:SchM
 cA:Option Addr
 ccap:Nat
 c:List ClM
 fA:Option Addr
 fcap:Nat
 f:List Int
 e:Int
abbrev bldA(g:Nat)(b:BuM):HP:=blk g (.cells #[.int .i64 b.n.nodes,.slice b.n.pA b.n.rows.length b.n.pcap,.int .i64 b.n.noise,.int .i64 b.n.thr,.slice b.n.lA b.n.links.length b.n.lcap,.slice b.n.mA b.n.margin.length b.n.mcap,.slice b.qA b.q.length b.qcap,.int .i64 b.s.len,.int .i64 b.s.off,.slice b.s.A b.s.cells.length b.s.cap,.slice b.cA b.c.length b.ccap,.slice b.fA b.f.length b.fcap,.int .i64 b.e] 114 (0,0))
def BuM.fail(b:BuM)(e:Int):BuM:={b with e:=Xr b.e e}
theorem Uq(b:BuM)(g:Nat)(e:Int){B:Nat}{w0:World}{H:List HP}{w:World}(hw:St B w0 (bldA g b::H) w):
 Calls Tryz.prog 70 [.pointer (some ⟨g,0,none⟩),.int .i64 e].toArray w (Post B w0 λv K=>v=.tuple #[]/\K=bldA g (b.fail e)::H):=by
 refine Yc Tryz.func70 Tryz.ntmps70 rfl rfl hw ?_
 unfold BuM.fail Xr
 by_cases h:b.e=0
 ·rw[Tm h]
  repeat'(first|refine zgd ?_|(refine zge ?_ ?_<;>intro _<;>try exact zo)|fail)
  all_goals first|(exfalso;contradiction)|skip
  apply Zz;exact rfl
  exact⟨rfl,rfl⟩
 ·rw[Td h]
  repeat'(first|refine zgd ?_|(refine zge ?_ ?_<;>intro _<;>try exact zo)|fail)
  all_goals first|(exfalso;contradiction)|skip
  apply Zz;exact rfl
  exact⟨rfl,rfl⟩
variable {A:Option Addr}{cap B:Nat}{w0 w:World}{H:List HP}
theorem Ycz(l:List RowM)(hlen:l.length<=1000)(hr:Rd B w0 H A (l.flatMap rowF))(hw:St B w0 H w):
 Calls Tryz.prog 166 [.slice A l.length cap].toArray w (Post B w0 λv K=>∃A' cap',v=.slice A' l.length cap'/\K=sl 93 1 A' l.length cap' (l.flatMap rowF)::H):=by
 cases A with
 |none=>
  have hl:l=[]:=by
   cases l with
   |nil=>rfl
   |cons x l=>
    obtain⟨g,o,e,_⟩:=hr w hw 0 _ rfl
    cases e
  subst hl
  refine Yc Tryz.func166 Tryz.ntmps166 rfl rfl hw ?_
  repeat'(first|(apply YW;(iterate 3 exact rfl))|refine zgb ?_|fail)
  apply XT 93 1;apply Yd;exact rfl;exact rfl;exact⟨none,0,rfl,rfl⟩
 |some a=>
  refine Yc Tryz.func166 Tryz.ntmps166 rfl rfl hw ?_
  repeat'(first|(apply YW;(iterate 3 exact rfl))|(apply Xe T;exact rfl;exact rfl;intro g2)|refine zgb ?_|fail)
  apply XA T (f:=rowF) (l2:=l) (e:=93) (size:=1) (xs:=[]);(iterate 3 exact rfl);exact hr.cons;exact(λ_=>rfl);exact(λ_=>rfl);exact rfl;(intro _ _;exact zd);omega;intro A' cap'
  repeat'(first|refine zga ?_|fail)
  rw[Ry,TK]
  apply Yd;exact rfl;exact rfl;exact⟨A',cap',rfl,rfl⟩
theorem Ycy(l:List Lk)(hlen:l.length<=1000)(hr:Rd B w0 H A (l.flatMap lkF))(hw:St B w0 H w):
 Calls Tryz.prog 163 [.slice A l.length cap].toArray w (Post B w0 λv K=>∃A' cap',v=.slice A' l.length cap'/\K=sl 140 3 A' l.length cap' (l.flatMap lkF)::H):=by
 cases A with
 |none=>
  have hl:l=[]:=by
   cases l with
   |nil=>rfl
   |cons x l=>
    obtain⟨g,o,e,_⟩:=hr w hw 0 _ rfl
    cases e
  subst hl
  refine Yc Tryz.func163 Tryz.ntmps163 rfl rfl hw ?_
  repeat'(first|(apply YW;(iterate 3 exact rfl))|refine zgb ?_|fail)
  apply XT 140 3;apply Yd;exact rfl;exact rfl;exact⟨none,0,rfl,rfl⟩
 |some a=>
  refine Yc Tryz.func163 Tryz.ntmps163 rfl rfl hw ?_
  repeat'(first|(apply YW;(iterate 3 exact rfl))|(apply Xe T;exact rfl;exact rfl;intro g2)|refine zgb ?_|fail)
  apply XA T (f:=lkF) (l2:=l) (e:=140) (size:=3) (xs:=[]);(iterate 3 exact rfl);exact hr.cons;exact(λ_=>rfl);exact(λ_=>rfl);exact rfl;(intro _ _;exact zd);omega;intro A' cap'
  repeat'(first|refine zga ?_|fail)
  rw[Ry,TK]
  apply Yd;exact rfl;exact rfl;exact⟨A',cap',rfl,rfl⟩
structure PnM where
 n:NetM
 qA:Option Addr
 qcap:Nat
 q:List RqM
 s:SchM
 cA:Option Addr
 ccap:Nat
 c:List ClM
 fA:Option Addr
 fcap:Nat
 f:List Int
def PnM.val(p:PnM):Value:=.agg #[.int .i64 p.n.nodes,.slice p.n.pA p.n.rows.length p.n.pcap,.int .i64 p.n.noise,.int .i64 p.n.thr,.slice p.n.lA p.n.links.length p.n.lcap,.slice p.n.mA p.n.margin.length p.n.mcap,.slice p.qA p.q.length p.qcap,.int .i64 p.s.len,.int .i64 p.s.off,.slice p.s.A p.s.cells.length p.s.cap,.slice p.cA p.c.length p.ccap,.slice p.fA p.f.length p.fcap]
def PnM.pln(p:PnM):Pln:=⟨p.n.net,p.q.map RqM.rq,p.s.sch,p.c.map ClM.clm,p.f⟩
structure PnM.In(B:Nat)(w0:World)(H:List HP)(p:PnM):Prop where
 n:p.n.In B w0 H
 q:QIn B w0 H p.qA p.q
 s:Rd B w0 H p.s.A (p.s.cells.flatMap celF)
 sl:p.s.cells.length<=1000000000000
 c:CIn B w0 H p.cA p.c
 f:Rd B w0 H p.fA (p.f.flatMap numF)
 fl:p.f.length<=1000000000000
variable {p:PnM}
theorem PnM.In.mono{H':List HP}(h:p.In B w0 H)(hH:∀w,St B w0 H' w->St B w0 H w):p.In B w0 H':=⟨h.n.mono hH,h.q.mono hH,h.s.mono hH,h.sl,h.c.mono hH,h.f.mono hH,h.fl⟩
theorem PnM.In.cons{X:HP}(h:p.In B w0 H):p.In B w0 (X::H):=h.mono λ_ hw=>hw.tail
def zeroPnV:Value:=.agg #[.int .i64 0,.slice none 0 0,.int .i64 0,.int .i64 0,.slice none 0 0,.slice none 0 0,.slice none 0 0,.int .i64 0,.int .i64 0,.slice none 0 0,.slice none 0 0,.slice none 0 0]
def YgP(B:Nat)(w0:World)(H:List HP)(R:Option Pln×Int)(v:Value)(K:List HP):Prop:=
 (R.1=none/\v=.tuple #[zeroPnV,.int .i64 R.2]/\K=H)\/∃(p:PnM) (X:List HP),R.1=some p.pln/\v=.tuple #[p.val,.int .i64 R.2]/\p.In B w0 (many X::H)/\K=many X::H
def Yto(B:Nat)(w0:World)(H:List HP)(s:SchM)(R:Option Pln×Int)(v:Value)(K:List HP):Prop:=
 (R.1=none/\v=.tuple #[zeroPnV,.int .i64 R.2]/\K=H)\/∃(p:PnM) (X:List HP),R.1=some p.pln/\v=.tuple #[p.val,.int .i64 R.2]/\(∀H',Rd B w0 H' s.A (s.cells.flatMap celF)->p.In B w0 (many X::H'))/\K=many X::H
structure PlnOk(p:Pln):Prop where
 cert:(YT p.n p.q p.s).2.2=0
 c:p.c=(YT p.n p.q p.s).1
 free:(Jy p.s).2=0
 f:p.f=(Jy p.s).1
theorem PlnOk.chk{p:Pln}(h:PlnOk p):chkP p=0:=by
 have hrq:(rqsE p.n p.q).2=0:=RL.1 λh1=>by
  have:=h.cert
  unfold YT at this;rw[Tm h1]at this;exact h1 this
 unfold chkP
 rw[Td (λe=>e (V7 hrq).1),Td (by rw[h.cert];omega),Td (λe=>e h.cert),Td,Td]
 ·rintro(h1|h1)
  ·exact h1 h.free
  ·exact h1 h.f.symm
 ·rw[h.c,Yhy h.cert];exactλe=>e rfl
theorem YmS(n:Net)(q:List Rqs)(s:Sch)(e:Int):(Ob n q s e≠0/\finE n q s e=(none,Ob n q s e))\/(e=0/\∃p,finE n q s e=(some p,0)/\PlnOk p/\p.n=n/\p.q=q/\p.s=s):=by
 unfold finE
 by_cases h:Ob n q s e=0
 ·rw[Td (λe=>e h)]
  right
  unfold Ob Xr at h
  by_cases he:e=0
  ·rw[Td (λh=>h he)]at h
   by_cases hc:(YT n q s).2.2=0
   ·rw[Tm hc]at h
    exact⟨he,_,rfl,⟨hc,rfl,h,rfl⟩,rfl,rfl,rfl⟩
   ·rw[Td hc]at h;exact absurd h hc
  ·rw[Tm he]at h;exact absurd h he
 ·rw[Tm h]
  exact .inl ⟨h,rfl⟩
def Made(n:Net)(l:List Flw)(len off:Int)(R:Option Pln×Int):Prop:=(R.2≠0/\R.1=none)\/∃p,R=(some p,0)/\PlnOk p/\p.n=n/\YB p.q=l/\p.s.len=len/\p.s.off=off
variable {n:Net}{q:List Rqs}{len off e:Int}
theorem YeT{s:Sch}(h:e=0->s.len=len/\s.off=off):Made n (YB q) len off (fin2 n q s e):=by
 unfold fin2
 by_cases he:e=0
 ·rw[Tm he]
  obtain⟨h1,h2⟩:=h he
  rcases YmS n q (WT n q s).1 (WT n q s).2 with⟨h3,h4⟩|⟨h3,p,h4,h5,h6,h7,h8⟩
  ·exact .inl ⟨by rw[h4];exact h3,by rw[h4]⟩
  ·refine .inr ⟨p,h4,h5,h6,by rw[h7],?_⟩
   have:(WT n q s).1.len=s.len/\(WT n q s).1.off=s.off:=by
    unfold WT at h3⊢
    split
    ·rename_i hc
     rw[Tm hc]at h3;cases h3
    ·exact⟨rfl,rfl⟩
   rw[h8,this.1,this.2]
   exact⟨h1,h2⟩
 ·rw[Td he]
  exact .inl ⟨he,rfl⟩
theorem YkU(n:Net)(q:List Rqs)(len off:Int):∀k,(JL n q len off k).s.len=len/\(JL n q len off k).s.off=off
 |0=>⟨rfl,rfl⟩
 |k+1=>by
  have ih:=YkU n q len off k
  unfold JL QF
  by_cases h:(Jt n (JL n q len off k).q (JL n q len off k).s (rqAt q k)).2=0
  ·rw[Tm h]
   obtain⟨-,h2,-⟩:=Yen h
   exact⟨h2.len.trans ih.1,h2.off.trans ih.2⟩
  ·rw[Td h];exact ih
theorem Yhh(h:(Xb n q len off).2=0):(Xb n q len off).1.1.len=len/\(Xb n q len off).1.1.off=off:=by
 unfold Xb at h⊢
 split
 ·rename_i h1;rw[Tm h1]at h;cases h
 rename_i h1
 rw[Td h1]at h
 split
 ·rename_i h2;rw[Tm h2]at h;cases h
 rename_i h2
 rw[Td h2]at h
 split
 ·rename_i h3;rw[Tm h3]at h;cases h
 exact YkU n q len off _
variable {f:Flw}
theorem Yfr(h:(V9 n f).2=0):(V9 n f).1.1=f:=by
 unfold V9 at h⊢
 split
 ·rename_i h1;rw[Tm h1]at h;exact absurd h h1
 ·rfl
theorem YpP(h:(reqE n f).2=0):(reqE n f).1.1=f:=by
 unfold reqE at h⊢
 split
 ·rfl
 ·rename_i h1
  rw[h1]at h
  exact Yfr h
theorem Ynd{at_:List Int}(h:lowB n at_ q=true):YB (lowL n at_ q)=YB q:=by
 unfold YB lowL
 rw[NS]
 apply List.ext_getElem (by simp)
 intro i h1 h2
 have hi:i<q.length:=by simpa using h2
 rw[NP,NP,List.getElem_range]
 have hq:rqAt q i=q[i]:=by
  have:=ZV hi
  rw[Ta hi]at this
  exact(Tz this).symm
 unfold lowB at h
 have h3:=TI.1 h i (TO.2 hi)
 rw[Sj,Tq,Tq]at h3
 show(lowQ n at_ q i).1=_
 unfold lowQ
 by_cases h4:(i:Int)∈at_
 ·rw[Tm h4,hq]
 ·rw[Td h4,Yfr (h3.resolve_left h4),hq]
theorem YbW{a b:Int}(h:b≠0):Xr a b≠0:=by
 unfold Xr
 split
 ·exact h
 ·assumption
theorem YmR:Made n (YB q) len off (fin3 n q len off e):=by
 unfold fin3
 split
 ·refine YeT λh=>?_
  have h2:(Xb n q len off).2=0:=by
   unfold Xr at h
   split at h
   ·exact h
   ·contradiction
  exact Yhh h2
 ·exact .inl ⟨YbW (by decide),rfl⟩
theorem Yjm:Made n (YB q) len off (Yau n q len off):=by
 unfold Yau
 split
 ·exact YeT Yhh
 split
 ·exact .inl ⟨YbW (by decide),rfl⟩
 ·rename_i h
  rw[<-Ynd (by simpa using h)]
  exact YmR
theorem Yds{l:List Flw}(h:(JZ n l).2.2=0):YB (JZ n l).1=l:=by
 unfold JZ at h⊢
 by_cases h1:Yq n=0
 rotate_left
 ·rw[Tm h1]at h;cases h
 rw[Td (λe=>e h1)]at h⊢
 by_cases h2:(YE n.nodes l).2=0
 rotate_left
 ·rw[Tm h2]at h;exact absurd h h2
 rw[Td (λe=>e h2)]at h⊢
 by_cases h3:(Ydp n l).2=0
 rotate_left
 ·rw[Tm h3]at h;exact absurd h h3
 rw[Td (λe=>e h3)]
 unfold Ydp at h3
 unfold YB
 show(l.map λf=>(reqE n f).1).map Prod.fst=l
 rw[NS]
 apply List.ext_getElem (by simp)
 intro i hi hi2
 rw[NP]
 have:=YL.1 h3 i (Tu _) (by omega)
 unfold Y9 at this
 rw[Tt,Ta hi2]at this
 exact YpP this
theorem Yne(n:Net)(l:List Flw)(len off:Int):Made n l len off (Ybv n l len off):=by
 unfold Ybv
 split
 ·exact .inl ⟨by decide,rfl⟩
 split
 ·exact .inl ⟨by decide,rfl⟩
 split
 ·exact .inl ⟨by decide,rfl⟩
 by_cases h:(JZ n l).2.2=0
 rotate_left
 ·rw[Tm h];exact .inl ⟨h,rfl⟩
 rw[Td (λe=>e h)]
 have:=Yjm (n:=n) (q:=(JZ n l).1) (len:=len) (off:=off)
 rwa [Yds h]at this
end Go.Proofs.YtaholidehobiiaaGreatDoor
