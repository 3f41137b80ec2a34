/- Lemmas for the claim, part 39. -/
import Derived.KernelRfl
import Derived.WalkKit
import Derived.Test.YtaholidehobiiaaGreatDoorQ3
set_option maxRecDepth 100000
set_option maxHeartbeats 8000000
set_option linter.all false
namespace Go.Rt
open Go.Nw
variable {l:List Lk}{to:Int}
theorem YoK{nodes:Nat}(hl:ArcsOk nodes l):∀(m:Nat) (far:List Int) (q:List (Int×Int)) (v:Int) (rest:List Lk),ZL far q*(l.length+1)+rest.length<m->(rest≠[]->0<=v/\v<nodes)->(∀a∈rest,a∈l)->rest.length<=l.length->DInv nodes l to far q v rest->∃far,Dist nodes l to far:=by
 intro m
 induction m with
 |zero=>intro _ _ _ _ h;exact absurd h (RL _)
 |succ m ih=>
  intro far q v rest hm hv hr hrl h
  match rest,hv,hr,hrl,hm,h with
  |a::rest,hv,hr,hrl,hm,h=>
   have hv:=hv (by simp)
   by_cases hc:a.2.1=v/\Yf far v+a.2.2<Yf far a.1
   ·have hal:=hr a (by simp)
    have h2:=Yi9 hl hv rfl hal h hc.1 hc.2 (List.Perm.refl _)
    refine ih _ _ v rest ?_ (λ_=>hv) (λb hb=>hr b (TA _ hb)) (by simp at hrl;omega) h2.1
    have:=Ri (l.length+1) h2.2.2
    rw[Sl,Nat.one_mul]at this
    simp only[TM]at hm hrl
    omega
   ·refine ih _ _ v rest ?_ (λ_=>hv) (λb hb=>hr b (TA _ hb)) (by simp at hrl;omega) (YmU h hc)
    simp only[TM]at hm
    omega
  |[],_,_,_,hm,h=>
   have h:=Yi8 h
   match q,hm,h with
   |[],_,h=>exact⟨far,YfT h⟩
   |x::q,hm,h=>
    have hw:ZL far (x::q)=ZL far q+1:=by unfold ZL;simp only[TM];omega
    rw[hw,Sl,Nat.one_mul]at hm
    simp only[Ry]at hm
    by_cases hx:Yf far x.1<x.2
    ·exact ih _ _ 0 [] (by simp only[Ry];omega) (λe=>absurd rfl e) (λb hb=>by cases hb) (Tm _) (YfV h (List.Perm.refl _) hx)
    ·exact ih _ _ x.1 l (by omega) (λ_=>(h.items x (by simp)).1) (λb hb=>hb) (TJ _) (YfU h (List.Perm.refl _))
theorem YqT{nodes:Nat}(hl:ArcsOk nodes l)(ht:0<=to/\to<nodes):∃far,Dist nodes l to far:=
 YoK hl _ _ _ 0 [] (Nat.lt_succ_self _) (λe=>absurd rfl e) (λ_ hb=>by cases hb) (Tm _) (Ydu hl ht.1 ht.2)
theorem YoJ{nodes:Nat}(hl:ArcsOk nodes l)(ht:0<=to/\to<nodes):Dist nodes l to (Ze nodes l to):=by
 obtain⟨far,h⟩:=YqT hl ht
 rw[Wm hl h];exact h
end Go.Rt
namespace Go
variable {p:Prop}
theorem zc64(h:p:=by
 apply Yi (ints none 0 []::H)
 ·intro w hw
  exact hw.tail.tail.tail.nilSlice _ _
 apply YM;(iterate 3 exact rfl)
 exact⟨none,0,rfl,rfl⟩):p:=h
theorem zc69(h:p:=by
 apply VW;(iterate 4 exact rfl)
 exact YrT _ _ rfl rfl):p:=h
theorem YvC(h:p:=by
 (repeat apply Yj)
 apply YM;(iterate 3 exact rfl)
 exact⟨rfl,λw hw=>hw⟩):p:=h
theorem YvD(h:p:=by
 obtain⟨_,_,_,_,_,h3,h4,h5⟩:=YqG hok ⟨s0,s1⟩ hm
 exact⟨h3,h4,by omega⟩):p:=h
end Go
