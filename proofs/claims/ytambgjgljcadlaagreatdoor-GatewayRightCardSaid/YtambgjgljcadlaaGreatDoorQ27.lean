/- Lemmas. -/
import Derived.Test.YtambgjgljcadlaaGreatDoorQ25
set_option maxRecDepth 100000
set_option maxHeartbeats 8000000
set_option linter.all false
namespace Go.Eng
open Go.ChangeShapes Go.WideShapes Go.ChangeAt Go.RowKit Go.Deep
section
variable {H:Type}{enc:TypeId×Value->H}{P:Program}{W:World}{spare:Nat->Bool}{held:Bool}
theorem wf_i64{z:Int}(h:(Lit.int .i64 z).wf=true): -9223372036854775808<=z/\z<=9223372036854775807:=by
 simp only[Lit.wf,To,Tt]at h
 have e1:IntKind.min .i64= -9223372036854775808:=by decide
 have e2:IntKind.max .i64=9223372036854775807:=by decide
 omega
end
end Go.Eng
namespace Go.Proofs.YtambgjgljcadlaaGreatDoor
open Go.RowKit Go.Eng Go.Nw Go.Rt
structure BothOk(p:Pln)(l:Lop)(s:Spl)(r:Pln)(q:Pln):Prop where
 cq:chkP q=0
 cr:chkP r=0
 nn:r.n=p.n
 fl:∀g,g∈Ys r.q↔g=JV l s\/g=JW l s\/g∈Ys p.q
 w1:wdrP q (2*l.1)=(some p,0)
 w2:wdrP r (2*l.1+1)=(some q,0)
variable {p:Pln}{l:Lop}
theorem YhU{r:Pln}{s:Spl}(hp:chkP p=0)(h:Og p l s=some r):∃q,BothOk p l s r q:=by
 unfold Og at h
 split at h
 ·rename_i q hq
  split at h
  ·rename_i r' hr
   obtain rfl:=Tv h
   obtain⟨a1,a2,a3,a4⟩:=Yaa hp hq
   obtain⟨b1,b2,b3,b4⟩:=Yaa a1 hr
   refine⟨q,a1,b1,b2.trans a2,λg=>?_,a4,b4⟩
   rw[b3,a3]
   constructor
   ·rintro(h|h|h)
    ·exact .inr (.inl h)
    ·exact .inl h
    ·exact .inr (.inr h)
   ·rintro(h|h|h)
    ·exact .inr (.inl h)
    ·exact .inl h
    ·exact .inr (.inr h)
  ·cases h
 ·cases h
theorem Yhe{p r:Pln}{l:Lop}{s:Spl}:∀{L:List Spl},tryG p l L=some (s,r)->s∈L/\Og p l s=some r
 |[],h=>by cases h
 |x::L,h=>by
  unfold tryG at h
  split at h
  ·rename_i q hq
   obtain⟨rfl,rfl⟩:=Prod.mk.inj (Tv h)
   exact⟨by simp,hq⟩
  ·obtain⟨h1,h2⟩:=Yhe h
   exact⟨Tz _ h1,h2⟩
theorem Yng(h:chkP p=0):p.n.nodes<=32:=(V1.1 (Ygz (UJ h).cert)).1.2
theorem YjQ{g a:Gwy}(hg:GwOk g)(h:admG g l=(some a,0)):GwOk a/\a.l.length=g.l.length+1:=by
 unfold admG at h
 rw[Td (λe=>e (XO.2 hg))]at h
 split at h
 ·cases h
 split at h
 ·cases h
 rename_i hlo
 have hlo:=TN.1 hlo
 split at h
 ·cases h
 split at h
 ·cases h
 rename_i s r htr
 obtain rfl:=Tv (TE Prod.fst h)
 obtain⟨hs,hb⟩:=Yhe htr
 obtain⟨q,hq⟩:=YhU hg.p hb
 have hk:=YgS g.l l.1
 generalize posL g.l l.1=k at*
 obtain⟨-,-,hfit,hpw⟩:=Zw.1 hlo
 have hlen:(g.l.take k).length=(g.s.take k).length:=by rw[TA,TA,hg.len]
 have hrs:XW l s=0:=Yec (Yue (hfit l (by unfold Xb;simp)) (Yng hg.p)) hs
 have hbad:badS g.l g.s=(badS (g.l.take k) (g.s.take k)||badS (g.l.drop k) (g.s.drop k)):=by
  rw[<-Vi hlen,Rk,Rk]
 have hfl:YS g.l g.s=YS (g.l.take k) (g.s.take k)++YS (g.l.drop k) (g.s.drop k):=by
  rw[<-J6 hlen,Rk,Rk]
 have hw:∀{α:Type}(L:List α) (x:α),k<=L.length->(Xb L k x).length=L.length+1:=λL x h=>by
  unfold Xb;rw[Tq,TG,TA,TZ];omega
 refine⟨⟨hq.cr,?_,?_,?_,?_⟩,hw _ _ hk⟩
 ·show(ZP r.n.nodes _).2=0
  rw[hq.nn];exact hlo
 ·show(Xb g.s k s).length=(Xb g.l k l).length
  rw[hw _ _ hk,hw _ _ (by rw[hg.len];exact hk),hg.len]
 ·show badS (g.l.take k++l::g.l.drop k) (g.s.take k++s::g.s.drop k)=false
  rw[Vi hlen]
  have:=hg.fit
  rw[hbad,Nv]at this
  simp only[badS,this.1,this.2,hrs]
  rfl
 ·refine Qc (k:=λf:Flw=>f.1) (YaV hpw) (YcP hq.cr) λf=>?_
  show f∈YS (g.l.take k++l::g.l.drop k) (g.s.take k++s::g.s.drop k)↔_
  rw[J6 hlen,hq.fl,<-hg.fl,hfl]
  simp only[YS,TJ,TI]
  constructor
  ·rintro(h|h|h|h)
   ·exact .inr (.inr (.inl h))
   ·exact .inl h
   ·exact .inr (.inl h)
   ·exact .inr (.inr (.inr h))
  ·rintro(h|h|h|h)
   ·exact .inr (.inl h)
   ·exact .inr (.inr (.inl h))
   ·exact .inl h
   ·exact .inr (.inr (.inr h))
theorem Yl8{g:GwM}(h:FewG g)(hk:chkG g.gw=0):g.p.s.len<=24:=by
 rcases h.1.2.2.2 with h1|h1
 ·exact h1
 ·have hok:=UJ (XO.1 hk).p
  have h2:g.p.s.len<=512:=(TY (Vt (X5.1 (XJ.1 hok.cert).1).whole).2.2.1).2.1
  omega
theorem YeX(g:Gwy)(l:Lop):(∃a,admG g l=(some a,0))\/∃e,admG g l=(none,e)/\e≠0:=by
 unfold admG
 split
 ·rename_i h;exact .inr ⟨_,rfl,h⟩
 split
 ·exact .inr ⟨_,rfl,by decide⟩
 split
 ·exact .inr ⟨_,rfl,by decide⟩
 split
 ·exact .inr ⟨_,rfl,by decide⟩
 split
 ·exact .inr ⟨_,rfl,by decide⟩
 ·exact .inl ⟨_,rfl⟩
theorem Ynn{g:Gwy}(hg:GwOk g)(id:Int):(∃b,disG g id=(some b,0)/\GwOk b/\b.l.length+1=g.l.length)\/∃e,disG g id=(none,e)/\e≠0:=by
 cases hh:hasL g.l id with
 |false=>
  refine .inr ⟨7,?_,by decide⟩
  unfold disG
  rw[Td (λe=>e (XO.2 hg)),Tm hh]
 |true=>
  obtain⟨q1,q2,-,-,-,h1,h2,h3,-⟩:=Ygq hg hh
  exact .inl ⟨_,h3,h1,h2⟩
theorem Yud(g:GwM)(l:Lop)(id:Int){B:Nat}{w0:World}{H:List HP}{w:World}(ht:TabsB B w0)(hg:g.Bg B w0 H)(hw:St B w0 H w):
 CX B w0 4 [g.val,lopV l,.int .i64 id] w λv K=>v=.bool true/\K=H:=by
 refine Yc Tryz.func4 Tryz.ntmps4 rfl rfl hw ?_
 have p0:=λ{H':List HP}{w:World}(hg:g.Bg B w0 H') (hw:St B w0 H' w)=>QF g hg hw
 have p1:=λ{H':List HP}{w:World}(hg:g.In B w0 H') (hw:St B w0 H' w)=>XC g ht hg hw
 have p2:=λ(h24:g.p.s.len<=24) {H':List HP}{w:World}(hg:g.In B w0 H') (hw:St B w0 H' w)=>VH g l (.inl h24) ht hg hw
 have p3:=λ{H':List HP}{w:World}(hg:g.In B w0 H') (hw:St B w0 H' w)=>Ub g id ht hg hw
 have hop:∀w,St B w0 [many H] w->St B w0 H w:=λw hw=>hw.perm (.openT H)
 have hbM:∀{H':List HP},many H∈H'->g.Bg B w0 H':=λhm=>hg.mono λw hw=>hw.inM hm
 unfold GwM.val at p0 p1 p2 p3
 unfold lopV at p2
 unfold GwM.val lopV
 refine Xf [many H] (λw hw=>hw.perm (.closeT H)) ?_
 iterate 8 (first|refine zga ?_|(refine zgh ?_;intro _)|fail)
 rename_i g3 g4
 refine ZV (λ_:{u:Unit//FewG g/\chkG g.gw=0}=>[(3,.pointer (some ⟨g3,0,none⟩)),(4,.pointer (some ⟨g4,0,none⟩)),(2,.int .i64 id)]) (λ_=>[lopA g4 l,gwyA g3 g,many H]) ?_ ?_
 ·intro K hK
  repeat'(first|refine zga ?_|fail)
  first|apply Ya en21|apply Yb en21
  exact za
  exact rfl
  exactλ_ hw=>(XF ht hw)
  repeat'(first|refine zgd ?_|fail)
  apply Yf _ en22
  exact za
  exact rfl
  exactλ_ hw=>(p0 (hbM zm) (hw))
  rintro _ _ ⟨⟨b,rfl,hfew⟩,hK0⟩
  rw[hK0]
  cases b with
  |false=>
   repeat'(first|((first|apply Ya en21|apply Yb en21);exact za;exact rfl;exactλ_ hw=>(XF ht hw))|refine zgd ?_|fail)
   apply Yi H
   ·intro w hw
    have h5:St B w0 [many H] w:=by
     revert w
     exact zk
    exact hop w h5
   apply Yd;exact rfl;exact rfl;exact⟨rfl,rfl⟩
  |true=>
  have hfew:=hfew rfl
  have hgM:∀{H':List HP},many H∈H'->g.In B w0 H':=λhm=>(hbM hm).small hfew
  by_cases hk:chkG g.gw=0
  ·rw[hk]at p1
   repeat'(first|((first|apply Ya en21|apply Yb en21);exact za;exact rfl;exactλ_ hw=>(XF ht hw))|((first|apply Ya en23|apply Yb en23);exact za;exact rfl;exactλ_ hw=>(p1 (hgM zm) hw))|refine zgd ?_|(refine zgf ?_ ?_<;>intro _<;>try exact zo)|fail)
   all_goals first
    |(apply hK ⟨(),hfew,hk⟩
      ·exact zu
      ·exact zk
      done)
    |(apply Yi H
      ·intro w hw
       have h5:St B w0 [many H] w:=by
        revert w
        exact zk
       exact hop w h5
      apply Yd;exact rfl;exact rfl;exact⟨rfl,rfl⟩)
  ·skip
   repeat'(first|((first|apply Ya en21|apply Yb en21);exact za;exact rfl;exactλ_ hw=>(XF ht hw))|((first|apply Ya en23|apply Yb en23);exact za;exact rfl;exactλ_ hw=>(p1 (hgM zm) hw))|refine zgd ?_|(refine zgf ?_ ?_<;>intro _<;>try exact zo)|fail)
   all_goals(
    apply Yi H
    ·intro w hw
     have h5:St B w0 [many H] w:=by
      revert w
      exact zk
     exact hop w h5
    apply Yd;exact rfl;exact rfl;exact⟨rfl,rfl⟩)
 rintro⟨⟨⟩,hfew,hk⟩
 have hgM:∀{H':List HP},many H∈H'->g.In B w0 H':=λhm=>(hbM hm).small hfew
 have p2:=λ{H':List HP}{w:World}=>p2 (Yl8 hfew hk) (H':=H') (w:=w)
 have hok:=XO.1 hk
 have hl9:=hfew.2.1
 unfold UP at p2 p3
 have hac:=YeX g.gw l
 have hao:=λ(a:Gwy) (h:admG g.gw l=(some a,0))=>YjQ hok h
 have hdc:=Ynn hok id
 generalize admG g.gw l=RA at p2 hac hao
 generalize disG g.gw id=RD at p3 hdc
 obtain⟨A,e⟩:=RA
 obtain⟨D,f⟩:=RD
 dsimp only at p2 p3
 repeat'(first|refine zgb ?_|fail)
 apply Yf _ en24
 exact za
 exact rfl
 exactλ_ hw=>(p2 (hgM zm) (hw))
 rintro _ _ (⟨ha,rfl,rfl⟩|⟨a,X,ha,rfl,hai,rfl⟩)
 ·obtain⟨e',h1,he⟩:∃e',(A,e)=(none,e')/\e'≠0:=by
   rcases hac with⟨a,h⟩|h
   ·rw[ha]at h;cases h
   ·exact h
  obtain rfl:e=e':=TE Prod.snd h1
  unfold VS
  repeat'(first|refine zgc ?_|(refine zgh ?_;intro _)|fail)
  apply Yf _ en25
  exact za
  exact rfl
  exactλ_ hw=>(p3 (hgM zm) (hw))
  rintro _ _ (⟨hd,rfl,rfl⟩|⟨b,Y,hd,rfl,hbi,rfl⟩)
  ·obtain⟨f',h1,hf⟩:∃f',(D,f)=(none,f')/\f'≠0:=by
    rcases hdc with⟨b,h,-⟩|h
    ·rw[hd]at h;cases h
    ·exact h
   obtain rfl:f=f':=TE Prod.snd h1
   unfold VS
   repeat'(first|refine zgc ?_|(refine zge ?_ ?_<;>intro _<;>try exact zo)|(refine zgh ?_;intro _)|fail)
   apply Yi H
   ·intro w hw
    have h5:St B w0 [many H] w:=by
     revert w
     exact zk
    exact hop w h5
   apply Yd;exact rfl;exact rfl;exact⟨rfl,rfl⟩
  ·obtain⟨rfl,hbo,hbl⟩:f=0/\GwOk b.gw/\b.gw.l.length+1=g.gw.l.length:=by
    rcases hdc with⟨b',h,h1,h2⟩|⟨e',h,-⟩
    ·rw[hd]at h
     obtain rfl:b.gw=b':=Tv (TE Prod.fst h)
     exact⟨TE Prod.snd h,h1,h2⟩
    ·rw[hd]at h;cases h
   have hbl:b.l.length+1=g.l.length:=hbl
   have p4:∀{H':List HP}{w:World},b.In B w0 H'->St B w0 H' w->CX B w0 23 [b.val] w λv K=>v=.int .i64 0/\K=H':=λhbi hw=>by
    have h:=XC b ht hbi hw
    rwa [XO.2 hbo]at h
   unfold GwM.val at p4
   repeat'(first|((first|apply Ya en23|apply Yb en23);exact za;exact rfl;exactλ_ hw=>(p4 (hbi.inX zm) hw))|refine zgd ?_|(refine zge ?_ ?_<;>intro _<;>try exact zo)|(refine zgh ?_;intro _)|fail)
   apply Yi H
   ·intro w hw
    have h5:St B w0 [many H] w:=by
     revert w
     exact zk
    exact hop w h5
   apply Yd;exact rfl;exact rfl;exact⟨rfl,rfl⟩
 ·obtain⟨rfl,hao,hal⟩:e=0/\GwOk a.gw/\a.gw.l.length=g.gw.l.length+1:=by
   rcases hac with⟨a',h⟩|⟨e',h,-⟩
   ·have h1:=hao a' h
    rw[ha]at h
    obtain rfl:a.gw=a':=Tv (TE Prod.fst h)
    exact⟨TE Prod.snd h,h1⟩
   ·rw[ha]at h;cases h
  have hal:a.l.length=g.l.length+1:=hal
  have p5:∀{H':List HP}{w:World},a.In B w0 H'->St B w0 H' w->CX B w0 23 [a.val] w λv K=>v=.int .i64 0/\K=H':=λhai hw=>by
   have h:=XC a ht hai hw
   rwa [XO.2 hao]at h
  have p6:∀{H':List HP}{w:World},a.In B w0 H'->St B w0 H' w->CX B w0 9 [a.p.val] w λv K=>v=.int .i64 0/\K=H':=λhai hw=>by
   have h:=VJ a.p ht hai.p hw
   rwa [show chkP a.p.pln=0 from hao.p]at h
  unfold GwM.val at p5
  unfold PnM.val at p6
  repeat'(first|refine zgc ?_|(refine zgh ?_;intro _)|fail)
  apply Yf _ en25
  exact za
  exact rfl
  exactλ_ hw=>(p3 (hgM zm) (hw))
  rintro _ _ (⟨hd,rfl,rfl⟩|⟨b,Y,hd,rfl,hbi,rfl⟩)
  ·obtain⟨f',h1,hf⟩:∃f',(D,f)=(none,f')/\f'≠0:=by
    rcases hdc with⟨b,h,-⟩|h
    ·rw[hd]at h;cases h
    ·exact h
   obtain rfl:f=f':=TE Prod.snd h1
   unfold VS
   repeat'(first|((first|apply Ya en23|apply Yb en23);exact za;exact rfl;exactλ_ hw=>(p5 (hai.inX zm) hw))|((first|apply Ya en9|apply Yb en9);exact za;exact rfl;exactλ_ hw=>(p6 (hai.inX zm) hw))|(apply Ye T;exact rfl;exact zm;exact rfl;exact zv;exact rfl;exact rfl)|refine zgc ?_|(refine zge ?_ ?_<;>intro _<;>try exact zo)|(refine zgh ?_;intro _)|fail)
   apply Yi H
   ·intro w hw
    have h5:St B w0 [many H] w:=by
     revert w
     exact zk
    exact hop w h5
   apply Yd;exact rfl;exact rfl;exact⟨rfl,rfl⟩
  ·obtain⟨rfl,hbo,hbl⟩:f=0/\GwOk b.gw/\b.gw.l.length+1=g.gw.l.length:=by
    rcases hdc with⟨b',h,h1,h2⟩|⟨e',h,-⟩
    ·rw[hd]at h
     obtain rfl:b.gw=b':=Tv (TE Prod.fst h)
     exact⟨TE Prod.snd h,h1,h2⟩
    ·rw[hd]at h;cases h
   have hbl:b.l.length+1=g.l.length:=hbl
   have p4:∀{H':List HP}{w:World},b.In B w0 H'->St B w0 H' w->CX B w0 23 [b.val] w λv K=>v=.int .i64 0/\K=H':=λhbi hw=>by
    have h:=XC b ht hbi hw
    rwa [XO.2 hbo]at h
   unfold GwM.val at p4
   repeat'(first|(apply Ye T;exact rfl;exact zm;exact rfl;exact zv;exact rfl;exact rfl)|refine zgc ?_|(refine zge ?_ ?_<;>intro _<;>try exact zo)|(refine zgh ?_;intro _)|fail)
   first|apply Ya en23|apply Yb en23
   exact za
   exact rfl
   exactλ_ hw=>(p5 (hai.inX zm) hw)
   repeat'(first|(apply Ye T;exact rfl;exact zm;exact rfl;exact zv;exact rfl;exact rfl)|refine zgc ?_|(refine zge ?_ ?_<;>intro _<;>try exact zo)|fail)
   first|apply Ya en9|apply Yb en9
   exact za
   exact rfl
   exactλ_ hw=>(p6 (hai.inX zm) hw)
   repeat'(first|(apply Ye T;exact rfl;exact zm;exact rfl;exact zv;exact rfl;exact rfl)|refine zgc ?_|(refine zge ?_ ?_<;>intro _<;>try exact zo)|fail)
   first|apply Ya en23|apply Yb en23
   exact za
   exact rfl
   exactλ_ hw=>(p4 (hbi.inX zm) hw)
   repeat'(first|(apply Ye T;exact rfl;exact zm;exact rfl;exact zv;exact rfl;exact rfl)|refine zgd ?_|(refine zge ?_ ?_<;>intro _<;>try exact zo)|fail)
   apply Yi H
   ·intro w hw
    have h5:St B w0 [many H] w:=by
     revert w
     exact zk
    exact hop w h5
   apply Yd;exact rfl;exact rfl;exact⟨rfl,rfl⟩
open Go.ChangeShapes Go.WideShapes Go.ChangeAt Go.RowKit Go.Eng Go.Nw Go.Rt
section
variable {H:Type}{enc:TypeId×Value->H}{W:World}{spare:Nat->Bool}{held:Bool}
theorem YwL{r:Reach}{b0:Nat}{v:Value}{d:DataW H}{p:List MemPlace}(hv:Value.okWide Tryz.prog W r b0 77 v)(h:DataW.Trod enc Tryz.prog W 0 spare held 77 v d p):∃f:Lop,v=lopV f/\LopG f:=by
 obtain⟨cs,rfl,_⟩:=okWide_struct Tryz.underlying77 hv
 obtain⟨fuel,hf⟩:=h
 obtain⟨n,h1,h2⟩:=Ymj fuel _ _ hf
 refine⟨n,?_,h2⟩
 have:cs=(lopF n).toArray:=by rw[<-h1];simp[Value.cells]
 rw[this];rfl
end
end Go.Proofs.YtambgjgljcadlaaGreatDoor
