/- Lemmas. -/
import Derived.Test.YtjommdkgfbhbdaaGreatDoorQ18
set_option maxRecDepth 100000
set_option maxHeartbeats 8000000
set_option linter.all false
namespace Go.Proofs.YtjommdkgfbhbdaaGreatDoor
open Go.RowKit Go.Eng Go.Nw Go.Rt
structure YvG(p:Pln):Prop where
 cert:(YJ p.n p.q p.s).2.2=0
 c:p.c=(YJ p.n p.q p.s).1
 free:(XP p.s).2=0
 f:p.f=(XP p.s).1
def Made(n:Net)(l:List Flw)(len off:Int)(R:Option Pln×Int):Prop:=(R.2≠0/\R.1=none)\/∃p,R=(some p,0)/\YvG p/\p.n=n/\Y8 p.q=l/\p.s.len=len/\p.s.off=off
variable {n:Net}{f:Flw}
theorem Yn0(h:(Ua n f).2=0):(Ua n f).1.1=f:=by
 unfold Ua at h⊢
 grind
theorem Yqn(h:(reqE n f).2=0):(reqE n f).1.1=f:=by
 grind [reqE,Yn0]
theorem YlV{a b:Int}(h:b≠0):XN a b≠0:=by
 grind [XN]
theorem YkU{l:List Flw}(h:(V8 n l).2.2=0):Y8 (V8 n l).1=l:=by
 unfold V8 at h⊢
 by_cases h1:Yl n=0
 rotate_left
 ·simp_all
 rw[Tj (λe=>e h1)]at h⊢
 by_cases h2:(YB n.nodes l).2=0
 rotate_left
 ·simp_all
 rw[Tj (λe=>e h2)]at h⊢
 by_cases h3:(YdO n l).2=0
 rotate_left
 ·simp_all
 rw[Tj (λe=>e h3)]
 unfold YdO at h3
 unfold Y8
 apply List.ext_getElem (by simp)
 simp_all [YI,Xa,Yqn]
theorem Ym7{n:Net}{q:List Rqs}{s:Sch}(h:(YJ n q s).2.2=0):Xd s=true:=XF.2 (Vb.1 (Jh.1 (Z7.1 h).1)).frm
theorem Qm{f:Nat->Int}:∀{r i:Nat},(YD f r i).2≠0->0<=(YD f r i).1
 |0,_,h=>absurd rfl h
 |r+1,i,h=>by
  unfold YD at h⊢
  split
  ·rename_i h0
   rw[Tn h0]at h
   exact Qm h
  omega
variable {n:Net}
theorem YjY{s t:Int}{r:List Int}:Xu n s t r≠15:=by
 grind [Xu,Zp,JD]
theorem Ysd{x:Rqs}:rtsE n x≠15:=by
 grind [rtsE,V0,YjY]
theorem YpC{nodes:Int}{l:List Flw}{i:Nat}:YP nodes l i≠15:=by
 grind [YP,Xi]
theorem Ysc{q:List Rqs}(hck:Yl n=0)(h:(rqsE n q).2≠0):(rqsE n q).2≠15/\((rqsE n q).2=1->0<=(rqsE n q).1):=by
 unfold rqsE at h⊢
 rw[Tj (λe=>e hck)]at h⊢
 split
 ·rename_i h1
  unfold YB at h1⊢
  split
  ·omega
  split
  ·omega
  ·rename_i h2 h3
   rw[Tj h2,Tj h3]at h1
   obtain⟨k,-,-,e,-⟩:=V0 h1
   exact⟨by grind [YpC],λ_=>Qm h1⟩
 ·rename_i h1
  rw[Tj h1]at h
  obtain⟨k,-,-,e,-⟩:=V0 h
  exact⟨by grind [Ysd],λ_=>Qm h⟩
theorem Yry(p:Pln):chkP p=if(rqsE p.n p.q).2≠0 then 1 else if(YJ p.n p.q p.s).2.2≠0 then 18 else if(YJ p.n p.q p.s).1≠p.c then 20 else if(XP p.s).2≠0\/(XP p.s).1≠p.f then 11 else 0:=by
 unfold chkP
 by_cases hck:Yl p.n=0
 rotate_left
 ·simp_all [rqsE]
 rw[Tj (show¬Yl p.n≠0 fromλe=>e hck)]
 by_cases hrq:(rqsE p.n p.q).2=0
 rotate_left
 ·obtain⟨h1,h2⟩:=Ysc hck hrq
  simp_all [YJ]
 have hq0:¬(rqsE p.n p.q).2≠0:=λe=>e hrq
 rw[Tj hq0]
 by_cases hce:(YJ p.n p.q p.s).2.2=0
 rotate_left
 ·have hor:(YJ p.n p.q p.s).2.2=15\/(YJ p.n p.q p.s).2.2=1/\(YJ p.n p.q p.s).2.1<0:=by
   unfold YJ at hce⊢
   rw[Tj hq0]at hce⊢
   split
   ·simp_all
   rename_i h1
   rw[Tj h1]at hce
   split
   ·rename_i h2
    obtain⟨k,-,-,e,h3⟩:=V0 h2
    simp_all
   simp_all
  omega
 have hc0:¬(YJ p.n p.q p.s).2.2≠0:=λe=>e hce
 rw[Tj (show¬((YJ p.n p.q p.s).2.2=15\/(YJ p.n p.q p.s).2.2=1/\(YJ p.n p.q p.s).2.1<0) by omega),Tj hc0,Tj hc0]
 have hk:(chkE p.n p.q p.s p.c).2=0↔(YJ p.n p.q p.s).1=p.c:=by
  constructor
  ·intro h
   unfold chkE at h
   rw[Tj hc0]at h
   split at h
   ·cases h
   rename_i hl
   have hl:=Rw.1 hl
   rw[YI]at h
   refine List.ext_getElem hl.symm λi h1 h2=>?_
   have h3:=h i (Td _) (by omega)
   split at h3
   ·rename_i h4
    unfold Uh at h4
    rw[Tz,Tz,Ta h1,Ta h2]at h4
    exact h4.symm
   ·cases h3
  grind [Yo2]
 simp_all
end Go.Proofs.YtjommdkgfbhbdaaGreatDoor
