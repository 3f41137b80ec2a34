/- Lemmas. -/
import Derived.Test.YtambgjgljcadlaaGreatDoorQ23
import Derived.Test.YtambgjgljcadlaaGreatDoorQ24
set_option maxRecDepth 100000
set_option maxHeartbeats 8000000
set_option linter.all false
namespace Go.Proofs.YtambgjgljcadlaaGreatDoor
open Go.RowKit Go.Eng Go.Nw Go.Rt
variable {B:Nat}{w0 w:World}{H:List HP}
theorem GwM.In.inX{X:List HP}{g:GwM}(h:g.In B w0 [many X])(hm:many X∈H):g.In B w0 H:=h.mono λ_ hw=>(hw.inM hm).perm (.closeT X)
theorem YpN:Ydj exH6=(6,0):=by
 unfold Ydj
 rw[Td (by decide)]
 decide+kernel
theorem Ykf(hw:St B w0 H w):
 CX B w0 56 [] w λv K=>∃(n:NetM) (X:List HP),v=n.val/\n.net=exN6/\n.In B w0 [many X]/\K=many X::H:=by
 refine Yc Tryz.func56 Tryz.ntmps56 rfl rfl hw ?_
 repeat'(first|refine zgd ?_|(refine zgh ?_;intro _)|fail)
 rename_i g0 r1 r2 gp gl gm
 apply YhE T (H2:=many [blk gm (.cells #[.int .i64 20,.int .i64 20] 3 (0,0)),blk gl (.cells #[.int .i64 0,.int .i64 1,.int .i64 0,.int .i64 1,.int .i64 0,.int .i64 0] 124 (0,0)),blk gp (.cells #[.slice (some ⟨r1,0,none⟩) 2 2,.slice (some ⟨r2,0,none⟩) 2 2] 24 (0,0)),blk r2 (.cells #[.int .i64 40,.int .i64 0] 3 (0,0)),blk r1 (.cells #[.int .i64 0,.int .i64 40] 3 (0,0))]::H);exact rfl;exact rfl;exact zm;exact rfl;exact rfl
 ·intro w hw
  have h5:St B w0 (blk gm (.cells #[.int .i64 20,.int .i64 20] 3 (0,0))::blk gl (.cells #[.int .i64 0,.int .i64 1,.int .i64 0,.int .i64 1,.int .i64 0,.int .i64 0] 124 (0,0))::blk gp (.cells #[.slice (some ⟨r1,0,none⟩) 2 2,.slice (some ⟨r2,0,none⟩) 2 2] 24 (0,0))::blk r2 (.cells #[.int .i64 40,.int .i64 0] 3 (0,0))::blk r1 (.cells #[.int .i64 0,.int .i64 40] 3 (0,0))::H) w:=by
   revert w
   exact zk
  exact h5.perm (.close [_,_,_,_,_] H)
 refine⟨⟨2,(some ⟨gp,0,none⟩),2,[⟨(some ⟨r1,0,none⟩),2,[0,40]⟩,⟨(some ⟨r2,0,none⟩),2,[40,0]⟩],1,2000,(some ⟨gl,0,none⟩),2,[(0,1,0),(1,0,0)],(some ⟨gm,0,none⟩),2,[20,20]⟩,_,rfl,rfl,?_,rfl⟩
 refine NetM.In.mono (H:=[_,_,_,_,_]) ?_ λw hw=>hw.perm (.open_ [_,_,_,_,_] [])
 refine⟨Rd.blk (cs:=#[.slice (some ⟨r1,0,none⟩) 2 2,.slice (some ⟨r2,0,none⟩) 2 2]) (t:=24) (fr:=(0,0)) zm,λr hr=>?_,Rd.blk (cs:=#[.int .i64 0,.int .i64 1,.int .i64 0,.int .i64 1,.int .i64 0,.int .i64 0]) (t:=124) (fr:=(0,0)) zm,Rd.blk (cs:=#[.int .i64 20,.int .i64 20]) (t:=3) (fr:=(0,0)) zm,by show 2<=_;omega,λr hr=>?_,by show 2<=_;omega,by show 2<=_;omega⟩
 ·simp only[TI,RG,NB]at hr
  rcases hr with rfl|rfl
  ·exact Rd.blk (cs:=#[.int .i64 0,.int .i64 40]) (t:=3) (fr:=(0,0)) zm
  ·exact Rd.blk (cs:=#[.int .i64 40,.int .i64 0]) (t:=3) (fr:=(0,0)) zm
 ·simp only[TI,RG,NB]at hr
  rcases hr with rfl|rfl<;>(show 2<=_;omega)
theorem XF(ht:TabsB B w0)(hw:St B w0 H w):
 CX B w0 21 [] w λv K=>v=.bool true/\K=H:=by
 refine Yc Tryz.func21 Tryz.ntmps21 rfl rfl hw ?_
 refine Xf [many H] (λw hw=>hw.perm (.closeT H)) ?_
 repeat'(first|refine zga ?_|fail)
 apply Yf _ en56
 exact za
 exact rfl
 exactλ_ hw=>(Ykf (hw))
 rintro _ _ ⟨n,X0,rfl,hn,hin,rfl⟩
 have hinX:∀{H':List HP},many X0∈H'->n.In B w0 H':=λhm=>hin.mono λ_ hw=>(hw.inM hm).perm (.closeT X0)
 have p0:=λ{H':List HP}{w:World}(hin:n.In B w0 H') (hw:St B w0 H' w)=>YnZ n 8 1 ht hin hw
 rw[hn,show newG exN6 8 1=(some exG6,0) from rfl]at p0
 unfold UP NetM.val at p0
 unfold NetM.val
 repeat'(first|fail)
 apply Yf _ en55
 exact za
 exact rfl
 exactλ_ hw=>(p0 (hinX zm) (hw))
 rintro _ _ (⟨h,-⟩|⟨g,X1,hg,rfl,hgi,rfl⟩)
 ·cases h
 have hg:g.gw=exG6:=(Tv hg).symm
 have hg24:g.p.s.len<=24:=by
  have h1:g.gw.p.s.len=8:=by rw[hg];rfl
  have h2:g.gw.p.s.len=g.p.s.len:=rfl
  omega
 have p1:∀{H':List HP}{w:World},g.In B w0 H'->St B w0 H' w->CX B w0 24 [g.val,lopV exL6] w (UP B w0 H' (some exH6,0)):=λhgi hw=>by
  have h:=VH g exL6 (.inl hg24) ht hgi hw
  rw[hg,Yr7]at h
  exact h
 have p2:∀{H':List HP}{w:World},g.In B w0 H'->St B w0 H' w->CX B w0 25 [g.val,.int .i64 2] w (UP B w0 H' (none,7)):=λhgi hw=>by
  have h:=Ub g 2 ht hgi hw
  rw[hg,Yr9]at h
  exact h
 unfold UP at p1 p2
 unfold GwM.val at p1 p2⊢
 unfold lopV exL6 at p1
 dsimp only at p1 p2
 repeat'(first|refine zgd ?_|(refine zgh ?_;intro _)|fail)
 apply Yf _ en24
 exact za
 exact rfl
 exactλ_ hw=>(p1 (hgi.inX zm) (hw))
 rintro _ _ (⟨h,-⟩|⟨a,X2,ha,rfl,hai,rfl⟩)
 ·cases h
 have ha:exH6=a.gw:=Tv ha
 have has:a.s=[(1,7)]:=by have:=TE Gwy.s ha;exact this.symm
 have hal:a.s.length=1:=by rw[has];rfl
 have ha24:a.p.s.len<=24:=by
  have h1:a.gw.p.s.len=8:=by rw[<-ha];rfl
  have h2:a.gw.p.s.len=a.p.s.len:=rfl
  omega
 have p3:∀{H':List HP}{w:World},a.In B w0 H'->St B w0 H' w->CX B w0 28 [a.val,.int .i64 2] w λv K=>v=.tuple #[.int .i64 9,.int .i64 0]/\K=H':=λhai hw=>by
  have h:=YcC a 2 ht hai hw
  rw[<-ha,Yr8]at h
  exact h
 have p4:∀{H':List HP}{w:World},a.In B w0 H'->St B w0 H' w->CX B w0 27 [a.val] w λv K=>v=.tuple #[.int .i64 6,.int .i64 0]/\K=H':=λhai hw=>by
  have h:=Ou a ht hai hw
  rw[<-ha,YpN]at h
  exact h
 have p5:∀{H':List HP}{w:World},a.In B w0 H'->St B w0 H' w->CX B w0 24 [a.val,lopV exL6] w (UP B w0 H' (none,6)):=λhai hw=>by
  have h:=VH a exL6 (.inl ha24) ht hai hw
  rw[<-ha,Ynt]at h
  exact h
 have hrs:=λ{H':List HP}(hm:many X2∈H')=>(hai.inX hm).s
 unfold UP at p5
 unfold GwM.val at p3 p4 p5
 unfold lopV exL6 at p5
 dsimp only at p5
 rw[hal]at p3 p4 p5⊢
 rw[has]at hrs
 repeat'(first|(apply Ye T;exact rfl;exact zm;exact rfl;exact zv;exact rfl;exact rfl)|((first|apply Ya en28|apply Yb en28);exact za;exact rfl;exactλ_ hw=>(p3 (hai.inX zm) hw))|((first|apply Ya en27|apply Yb en27);exact za;exact rfl;exactλ_ hw=>(p4 (hai.inX zm) hw))|refine zgc ?_|(refine zgh ?_;intro _)|fail)
 apply Yf _ en24
 exact za
 exact rfl
 exactλ_ hw=>(p5 (hai.inX zm) (hw))
 rintro _ _ (⟨-,rfl,rfl⟩|⟨b,X3,h,-⟩)
 rotate_left
 ·cases h
 unfold VS
 repeat'(first|refine zgc ?_|(refine zgh ?_;intro _)|fail)
 apply Yf _ en25
 exact za
 exact rfl
 exactλ_ hw=>(p2 (hgi.inX zm) (hw))
 rintro _ _ (⟨-,rfl,rfl⟩|⟨b,X3,h,-⟩)
 rotate_left
 ·cases h
 unfold VS
 have hsp:[((1:Int),(7:Int))][(0:Int).toNat]? =some (1,7):=rfl
 repeat'(first|(apply Ye T;exact rfl;exact zm;exact rfl;exact zv;exact rfl;exact rfl)|(apply Zi T (l:=[((1:Int),(7:Int))]) (f:=splF);exact rfl;exact rfl;exact hrs zm;exact rfl;exactλ_=>rfl;exact rfl;exact rfl;exact⟨by decide,by decide⟩)|(apply Oa T (l:=[((1:Int),(7:Int))]) (f:=splF);exact rfl;exact hrs zm;exact hsp;exactλ_=>rfl;(iterate 3 exact rfl))|(apply YrE (xs:=[.int .i64 1,.int .i64 7]) (ys:=[.int .i64 1,.int .i64 7]);(iterate 3 exact rfl);kernel_rfl;kernel_rfl;rotate_left;(intro hne;exact absurd rfl hne);intro _)|refine zgd ?_|(refine zge ?_ ?_<;>intro _<;>try exact zo)|(refine zgh ?_;intro _)|fail)
 apply Yi H
 ·intro w hw
  have h5:St B w0 [many H] w:=by
   revert w
   exact zk
  exact h5.perm (.openT H)
 apply Yd;exact rfl;exact rfl;exact⟨rfl,rfl⟩
theorem PnM.Bg.mono{B:Nat}{w0:World}{H H':List HP}{p:PnM}(h:p.Bg B w0 H)(hH:∀w,St B w0 H' w->St B w0 H w):p.Bg B w0 H':=⟨h.n.mono hH,h.q.mono hH,h.s.mono hH,h.sl,h.c.mono5 hH,h.f.mono hH,h.fl⟩
structure GwM.Bg(B:Nat)(w0:World)(H:List HP)(g:GwM):Prop where
 p:g.p.Bg B w0 H
 l:Rd B w0 H g.lA (g.l.flatMap lopF)
 s:Rd B w0 H g.sA (g.s.flatMap splF)
 ll:g.l.length<=9223372036854775807
 sl:g.s.length<=9223372036854775807
 lc:g.l.length<=g.lcap
 sc:g.s.length<=g.scap
def FewG(g:GwM):Prop:=FewP g.p/\g.l.length<=9/\g.s.length<=10
variable {B:Nat}{w0:World}{H:List HP}{g:GwM}
theorem GwM.Bg.small(h:g.Bg B w0 H)(hf:FewG g):g.In B w0 H:=
 ⟨h.p.small hf.1,h.l,h.s,by have:=hf.2.1;omega,by have:=hf.2.2;omega,h.lc,h.sc⟩
theorem GwM.Bg.mono{H':List HP}(h:g.Bg B w0 H)(hH:∀w,St B w0 H' w->St B w0 H w):g.Bg B w0 H':=⟨h.p.mono hH,h.l.mono hH,h.s.mono hH,h.ll,h.sl,h.lc,h.sc⟩
theorem QF(g:GwM){w:World}(hg:g.Bg B w0 H)(hw:St B w0 H w):
 CX B w0 22 [g.val] w λv K=>(∃b,v=.bool b/\(b=true->FewG g))/\K=H:=by
 refine Yc Tryz.func22 Tryz.ntmps22 rfl rfl hw ?_
 have p1:=λ{H':List HP}{w:World}(hp:g.p.Bg B w0 H') (hw:St B w0 H' w)=>Yki g.p hp hw
 have hll:=hg.ll
 have hsl:=hg.sl
 unfold GwM.val
 unfold PnM.val at p1
 (apply Xi;apply YU;apply YB;exact rfl;exact rfl;intro g)
 repeat'(first|(apply Ye T;exact rfl;exact zm;exact rfl;exact zv;exact rfl;exact rfl)|refine zgb ?_|fail)
 apply Yf _ en8
 exact za
 exact rfl
 exactλ_ hw=>(p1 (hg.p.mono zk) (hw))
 rintro _ _ ⟨⟨b,rfl,hb⟩,hK⟩
 rw[hK]
 cases b with
 |false=>
  repeat'(first|(apply Ye T;exact rfl;exact zm;exact rfl;exact zv;exact rfl;exact rfl)|refine zgc ?_|fail)
  apply Yl;apply Yd;exact rfl;exact rfl;exact⟨⟨_,rfl,λh=>by cases h⟩,rfl⟩
 |true=>
 repeat'(first|(apply Ye T;exact rfl;exact zm;exact rfl;exact zv;exact rfl;exact rfl)|refine zgc ?_|(refine zgf ?_ ?_<;>intro _<;>try exact zo)|fail)
 all_goals(
  apply Yl
  apply Yd;exact rfl;exact rfl
  exact⟨⟨_,rfl,λh=>by first|(exact absurd h (by decide))|exact⟨hb rfl,by omega,by omega⟩⟩,rfl⟩)
open Go.ChangeShapes Go.WideShapes Go.ChangeAt Go.RowKit Go.Eng Go.Nw Go.Rt
def gwF(g:GwM):List Value:=plnF g.p++[.slice g.lA g.l.length g.lcap,.slice g.sA g.s.length g.scap]
section
variable {H:Type}{enc:TypeId×Value->H}{W:World}{spare:Nat->Bool}{held:Bool}
abbrev LopG(l:Lop):Prop:=I64 l.1/\I64 l.2.1/\I64 l.2.2.1/\I64 l.2.2.2.1/\I64 l.2.2.2.2.1/\I64 l.2.2.2.2.2.1/\I64 l.2.2.2.2.2.2
structure GwG(W:World)(g:GwM):Prop where
 p:PlnG W g.p
 l:SlG W lopF LopG ⟨g.lA,g.lcap,g.l⟩
 s:SlG W splF (λs:Spl=>I64 s.1/\I64 s.2) ⟨g.sA,g.scap,g.s⟩
theorem Ymj:Opn enc Tryz.prog W spare held 77 lopF LopG:=
 J9 (Ze (ts:=[3,3,3,3,3,3,3]) (by kernel_rfl) (Yu op_i (Yu op_i (Yu op_i (Yu op_i (Yu op_i (Yu op_i (Yu op_i JB)))))))) (λx=>(x.1,x.2.1,x.2.2.1,x.2.2.2.1,x.2.2.2.2.1,x.2.2.2.2.2.1,x.2.2.2.2.2.2.1)) (λ_=>rfl) (λ_ h=>⟨h.1,h.2.1,h.2.2.1,h.2.2.2.1,h.2.2.2.2.1,h.2.2.2.2.2.1,h.2.2.2.2.2.2.1⟩)
theorem Yqv:Opn enc Tryz.prog W spare held 90 splF (λs:Spl=>I64 s.1/\I64 s.2):=
 J9 (Ze (ts:=[3,3]) (by kernel_rfl) (Yu op_i (Yu op_i JB))) (λx=>(x.1,x.2.1)) (λ_=>rfl) (λ_ h=>⟨h.1,h.2.1⟩)
theorem YkK:Opn enc Tryz.prog W spare held 75 gwF (GwG W):=
 J9 (Ze (ts:=[35,72,73]) (by kernel_rfl) (Yu YsI (Yu (Zq (q:=7) Tryz.underlying72 (by kernel_rfl) (by decide) Ymj) (Yu (Zq (q:=2) Tryz.underlying73 (by kernel_rfl) (by decide) Yqv) JB))))
  (λx=>⟨x.1,x.2.1.A,x.2.1.cap,x.2.1.xs,x.2.2.1.A,x.2.2.1.cap,x.2.2.1.xs⟩) (λx=>by simp[gwF,SlM.val]) (λx h=>⟨h.1,h.2.1,h.2.2.1⟩)
theorem YwK{r:Reach}{b0:Nat}{v:Value}{d:DataW H}{p:List MemPlace}(hv:Value.okWide Tryz.prog W r b0 75 v)(h:DataW.Trod enc Tryz.prog W 0 spare held 75 v d p):∃n:GwM,v=n.val/\GwG W n:=by
 obtain⟨cs,rfl,_⟩:=okWide_struct Tryz.underlying75 hv
 obtain⟨fuel,hf⟩:=h
 obtain⟨n,h1,h2⟩:=YkK fuel _ _ hf
 refine⟨n,?_,h2⟩
 have:cs=(gwF n).toArray:=by rw[<-h1];simp[Value.cells]
 rw[this];rfl
theorem GwG.bg{g:GwM}{K:List HP}(h:GwG W g):g.Bg W.heap.size W K:=
 ⟨h.p.bg,h.l.old.rd,h.s.old.rd,Rh h.l.len maxL,Rh h.s.len maxL,h.l.cap,h.s.cap⟩
end
end Go.Proofs.YtambgjgljcadlaaGreatDoor
