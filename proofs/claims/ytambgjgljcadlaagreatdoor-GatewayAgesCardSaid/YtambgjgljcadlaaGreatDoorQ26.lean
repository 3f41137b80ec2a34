/- Lemmas. -/
import Derived.Test.YtambgjgljcadlaaGreatDoorProg
import Derived.KernelRfl
import Derived.Test.YtambgjgljcadlaaGreatDoorQ25
set_option maxRecDepth 100000
set_option maxHeartbeats 8000000
set_option linter.all false
namespace Go.Proofs.YtambgjgljcadlaaGreatDoor
open Go.Eng
theorem en29(xs:Array Value)(w:World):(callFunc 29 xs).run Tryz.prog w=.ok (.enter 29 xs) w:=by kernel_rfl
end Go.Proofs.YtambgjgljcadlaaGreatDoor
namespace Go.Eng
open Go.RowKit
end Go.Eng
namespace Go.Proofs.YtambgjgljcadlaaGreatDoor
open Go.RowKit Go.Eng Go.Nw Go.Rt
theorem YiC(l:Lop)(s:Spl)(h:XW l s=0){B:Nat}{w0:World}{H:List HP}{w:World}(hw:St B w0 H w):
 CX B w0 29 [lopV l,splV s] w λv K=>v=.tuple #[.int .i64 (Ybg l s),.int .i64 0]/\K=H:=by
 refine Yc Tryz.func29 Tryz.ntmps29 rfl rfl hw ?_
 obtain⟨h1,h2,h3,-⟩:=WG h
 have p1:=λ{H':List HP}{w:World}(hw:St B w0 H' w)=>YbI l s hw
 have p2:=λ{H':List HP}{w:World}(hw:St B w0 H' w)=>YbJ l s (JE h1).2.1 ⟨h2,h3⟩ hw
 rw[h]at p1
 unfold lopV splV at p1 p2⊢
 repeat'(first|((first|apply Ya en72|apply Yb en72);exact za;exact rfl;exactλ_ hw=>(p1 hw))|((first|apply Ya en73|apply Yb en73);exact za;exact rfl;exactλ_ hw=>(p2 hw))|refine zgb ?_|(refine zge ?_ ?_<;>intro _<;>try exact zo)|(refine zgh ?_;intro _)|fail)
 apply Yi H
 ·exact zk
 apply Yx;(iterate 3 exact rfl);exact⟨rfl,rfl⟩
theorem Yvo(g:GwM){B:Nat}{w0:World}{H:List HP}{w:World}(ht:TabsB B w0)(hg:g.Bg B w0 H)(hw:St B w0 H w):
 CX B w0 6 [g.val] w λv K=>v=.bool true/\K=H:=by
 refine Yc Tryz.func6 Tryz.ntmps6 rfl rfl hw ?_
 have p0:=λ{H':List HP}{w:World}(hg:g.Bg B w0 H') (hw:St B w0 H' w)=>QF g hg hw
 have p1:=λ{H':List HP}{w:World}(hg:g.In B w0 H') (hw:St B w0 H' w)=>XC g ht hg hw
 have p2:=λ(l:Lop) {H':List HP}{w:World}(hg:g.In B w0 H') (hw:St B w0 H' w)=>YcC g l.1 ht hg hw
 have hop:∀w,St B w0 [many H] w->St B w0 H w:=λw hw=>hw.perm (.openT H)
 have hbM:∀{H':List HP},many H∈H'->g.Bg B w0 H':=λhm=>hg.mono λw hw=>hw.inM hm
 unfold GwM.val at p0 p1 p2
 unfold GwM.val
 refine Xf [many H] (λw hw=>hw.perm (.closeT H)) ?_
 repeat'(first|refine zga ?_|(refine zgh ?_;intro _)|fail)
 first|apply Ya en21|apply Yb en21
 exact za
 exact rfl
 exactλ_ hw=>(XF ht hw)
 repeat'(first|refine zgd ?_|fail)
 apply Yf _ en22
 exact za
 exact rfl
 exactλ_ hw=>(p0 (hbM zm) (hw))
 rintro _ _ ⟨⟨b,rfl,hfew⟩,hK0⟩
 rw[hK0]
 cases b with
 |false=>
  repeat'(first|((first|apply Ya en21|apply Yb en21);exact za;exact rfl;exactλ_ hw=>(XF ht hw))|refine zgd ?_|fail)
  apply Yi H
  ·intro w hw
   have h5:St B w0 [many H] w:=by
    revert w
    exact zk
   exact hop w h5
  apply Yd;exact rfl;exact rfl;exact⟨rfl,rfl⟩
 |true=>
 have hfew:=hfew rfl
 have hgM:∀{H':List HP},many H∈H'->g.In B w0 H':=λhm=>(hbM hm).small hfew
 by_cases hk:chkG g.gw=0
 rotate_left
 ·skip
  repeat'(first|((first|apply Ya en21|apply Yb en21);exact za;exact rfl;exactλ_ hw=>(XF ht hw))|((first|apply Ya en23|apply Yb en23);exact za;exact rfl;exactλ_ hw=>(p1 (hgM zm) hw))|refine zgd ?_|(refine zge ?_ ?_<;>intro _<;>try exact zo)|fail)
  apply Yi H
  ·intro w hw
   have h5:St B w0 [many H] w:=by
    revert w
    exact zk
   exact hop w h5
  apply Yd;exact rfl;exact rfl;exact⟨rfl,rfl⟩
 rw[hk]at p1
 have hok:=XO.1 hk
 have hl9:=hfew.2.1
 have hsl:g.s.length=g.l.length:=hok.len
 repeat'(first|((first|apply Ya en23|apply Yb en23);exact za;exact rfl;exactλ_ hw=>(p1 (hgM zm) hw))|(apply Ye T;exact rfl;exact zm;exact rfl;exact zv;exact rfl;exact rfl)|refine zgd ?_|(refine zge ?_ ?_<;>intro _<;>try exact zo)|fail)
 rename Nat=>g1
 refine Yj (λi:Nat=>[(25,.int .i64 i),(24,.int .i64 g.l.length),(23,.slice g.lA g.l.length g.lcap),(1,.pointer (some ⟨g1,0,none⟩))]) (λ_=>[gwyA g1 g,many H]) (λi=>i<=g.l.length) (λi=>g.l.length-i) 0 (Tj _) ?_ ?_ ?_
 ·exact zu
 ·exact zk
 rintro i hi K hK
 by_cases hlt:i<g.l.length
 rotate_left
 ·repeat'(first|refine zgc ?_|(refine zge ?_ ?_<;>intro _<;>try exact zo)|fail)
  apply Yi H
  ·intro w hw
   have h5:St B w0 [many H] w:=by
    revert w
    exact zk
   exact hop w h5
  apply Yd;exact rfl;exact rfl;exact⟨rfl,rfl⟩
 obtain⟨l,hl⟩:∃l,g.l[i]? =some l:=⟨_,Ta hlt⟩
 obtain⟨s,hs⟩:∃s,g.s[i]? =some s:=⟨_,Ta (by omega)⟩
 obtain⟨b,hb,hb1,hb2,hr⟩:=Yph (g:=g.gw) hok hl hs
 obtain⟨h32,hs1,hs2,hs3,hs4⟩:=WG hr
 obtain⟨-,hP,-,hA⟩:=JE h32
 have hwo:Ybg l s=l.2.2.2.2.1+s.1+s.2-1:=rfl
 have p3:=λ{H':List HP}{w:World}(hg:g.In B w0 H') (hw:St B w0 H' w)=>p2 l hg hw
 have p4:=λ{H':List HP}{w:World}(hw:St B w0 H' w)=>YiC l s hr hw
 rw[hb]at p3
 rw[hwo]at p4 hs4
 unfold lopV splV at p4
 have hrl:=(hgM (H':=[gwyA g1 g,many H]) (.tail _ (.head _))).l
 have hrs:=(hgM (H':=[gwyA g1 g,many H]) (.tail _ (.head _))).s
 have hsi:i<g.s.length:=by omega
 repeat'(first|(apply Ye T;exact rfl;exact zm;exact rfl;exact zv;exact rfl;exact rfl)|((first|apply Ya en28|apply Yb en28);exact za;exact rfl;exactλ_ hw=>(p3 (hgM zm) hw))|((first|apply Ya en29|apply Yb en29);exact za;exact rfl;exactλ_ hw=>(p4 hw))|(apply zg28;first|refine zs83 ?_|refine zs84 ?_)|refine zgd ?_|(refine zgf ?_ ?_<;>intro _<;>try exact zo)|(refine zgh ?_;intro _)|fail)
 apply hK (i+1)
 ·omega
 ·omega
 ·exact zu
 ·exact zk
end Go.Proofs.YtambgjgljcadlaaGreatDoor
