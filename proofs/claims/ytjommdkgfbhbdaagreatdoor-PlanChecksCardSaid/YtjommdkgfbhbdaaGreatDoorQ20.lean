/- Lemmas. -/
import Derived.LoopN
import Derived.StillTailTactics
import Derived.Test.YtjommdkgfbhbdaaGreatDoorQ9
import Derived.Test.YtjommdkgfbhbdaaGreatDoorQ18
set_option maxRecDepth 100000
set_option maxHeartbeats 8000000
set_option linter.all false
namespace Go.Proofs.YtjommdkgfbhbdaaGreatDoor
open Go.RowKit Go.Eng Go.Nw Go.Rt
variable {B:Nat}{w0 w:World}{H:List HP}
theorem YeJ(x:WayM)(hi:x.In B w0 H)(hw:St B w0 H w):
 CX B w0 308 [x.n.val,x.s.val,flwV x.f,.slice x.A x.r.length x.cap] w λv K=>v=.int .i64 (wayE x.n.net x.s.sch x.f x.r)/\K=H:=by
 refine Ya Tryz.func308 Tryz.ntmps308 rfl rfl hw ?_
 have hn:=hi.n
 have hs:=hi.s
 have hr:=hi.r
 have p1:=λ{H':List HP}{w:World}(hin:x.n.In B w0 H') (hw:St B w0 H' w)=>Vm x.n hin hw
 have p2:=λ{H':List HP}{w:World}(hr:Rd B w0 H' x.s.A (x.s.cells.flatMap celF)) (hw:St B w0 H' w)=>VB x.s hr hi.sl hw
 have p3:=λ(hn:2<=x.n.nodes/\x.n.nodes<=32) {H':List HP}{w:World}(hw:St B w0 H' w)=>Wr x.n.nodes x.f hn hw
 have p4:=λ{H':List HP}{w:World}(hin:x.n.In B w0 H') (hr:Rd B w0 H' x.A (x.r.flatMap numF)) (hw:St B w0 H' w)=>Ybz x.n x.f.2.1 x.f.2.2.1 x.r (cap:=x.cap) hin hr hi.rl hw
 have hok:Yl x.n.net=0->2<=x.n.nodes/\x.n.nodes<=32:=λh=>⟨(YO h).n0,(YO h).n1⟩
 have e1:x.n.net.nodes=x.n.nodes:=rfl
 have e2:x.s.sch.len=x.s.len:=rfl
 unfold wayE
 rw[e1,e2]
 obtain⟨c,hc⟩:∃c,Yl x.n.net=c:=⟨_,rfl⟩
 obtain⟨fm,hfm⟩:∃e,Xd x.s.sch=e:=⟨_,rfl⟩
 obtain⟨k,hk⟩:∃k,Xu x.n.net x.f.2.1 x.f.2.2.1 x.r=k:=⟨_,rfl⟩
 rw[hc]at p1 hok⊢
 rw[hfm]at p2⊢
 rw[hk]at p4⊢
 unfold NetM.val SchM.val flwV
 unfold NetM.val at p1 p4
 unfold SchM.val at p2
 unfold flwV at p3
 by_cases h1:c=0
 rotate_left
 ·rw[Tn (.inl h1)]
  refine zX73 ?_<;>intros
  apply Yb UR
  exact za
  exact rfl
  exactλ_ hw=>(p1 (hn.mono zc0) hw)
  refine zX50 ?_<;>intros
  apply Yf H
  ·exact zc0
  exact zc10
 subst h1
 cases fm with
 |false=>
  rw[Tn (.inr (.inl rfl))]
  refine zX73 ?_<;>intros
  apply Yb UR
  exact za
  exact rfl
  exactλ_ hw=>(p1 (hn.mono zc0) hw)
  refine zX0 ?_<;>intros
  apply Yb YcY
  exact za
  exact rfl
  exactλ_ hw=>(p2 (hs.mono zc0) hw)
  refine zX3 ?_
  apply Yf H
  ·exact zc0
  exact zc3
 |true=>
 have p5:=λ{H':List HP}{w:World}(hw:St B w0 H' w)=>p3 (hok rfl) hw
 obtain⟨fe,hfe⟩:∃e,Xi x.n.nodes x.f=e:=⟨_,rfl⟩
 have hper:Xi x.n.nodes x.f=0->1<=x.f.2.2.2.1:=λh=>by
  unfold Xi at h
  split at h
  ·cases h
  split at h
  ·cases h
  omega
 rw[hfe]at p5 hper⊢
 by_cases h3:fe=0
 rotate_left
 ·rw[Tn (.inr (.inr h3))]
  refine zX73 ?_<;>intros
  apply Yb UR
  exact za
  exact rfl
  exactλ_ hw=>(p1 (hn.mono zc0) hw)
  refine zX0 ?_<;>intros
  apply Yb YcY
  exact za
  exact rfl
  exactλ_ hw=>(p2 (hs.mono zc0) hw)
  refine zX10 ?_
  apply Yb Yfb
  exact za
  exact rfl
  exactλ_ hw=>(p5 hw)
  refine zX0 ?_<;>intros
  apply Yf H
  ·exact zc0
  exact zc3
 subst h3
 have hper:=hper rfl
 rw[Tj (by rintro(h|h|h);exact h rfl;cases h;exact h rfl)]
 have hsz:1<=x.s.len/\x.s.len<=512:=by
  have:=TT (XF.1 hfm).sized
  exact⟨this.1,this.2.1⟩
 rw[Rh (show 0<=x.s.len by omega)]
 by_cases h4:x.s.len%x.f.2.2.2.1=0
 rotate_left
 ·rw[Tn h4]
  refine zX73 ?_<;>intros
  apply Yb UR
  exact za
  exact rfl
  exactλ_ hw=>(p1 (hn.mono zc0) hw)
  refine zX0 ?_<;>intros
  apply Yb YcY
  exact za
  exact rfl
  exactλ_ hw=>(p2 (hs.mono zc0) hw)
  refine zX10 ?_
  apply Yb Yfb
  exact za
  exact rfl
  exactλ_ hw=>(p5 hw)
  refine zX50 ?_<;>intros
  apply Yf H
  ·exact zc0
  exact zc3
 rw[Tj (λe=>e h4)]
 refine zX73 ?_<;>intros
 apply Yb UR
 exact za
 exact rfl
 exactλ_ hw=>(p1 (hn.mono zc0) hw)
 refine zX0 ?_<;>intros
 apply Yb YcY
 exact za
 exact rfl
 exactλ_ hw=>(p2 (hs.mono zc0) hw)
 refine zX10 ?_
 apply Yb Yfb
 exact za
 exact rfl
 exactλ_ hw=>(p5 hw)
 refine zX50 ?_<;>intros
 apply Yb Ypj
 exact za
 exact rfl
 exactλ_ hw=>(p4 (hn.mono zc0) (hr.mono zc0) hw)
 refine zX2 ?_
 apply Yf H
 ·exact zc0
 exact zc3
theorem YeM(x:WayM)(hi:x.In B w0 H)(hw:St B w0 H w):
 CX B w0 229 [x.n.val,x.s.val,flwV x.f,.slice x.A x.r.length x.cap] w λv K=>∃A cap,v=.tuple #[.int .i64 (Y1 x.n.net x.s.sch x.f x.r).1.1,.int .i64 (Y1 x.n.net x.s.sch x.f x.r).1.2.1,.slice A (Y1 x.n.net x.s.sch x.f x.r).1.2.2.length cap,.int .i64 (Y1 x.n.net x.s.sch x.f x.r).2]/\K=nrs A cap (Y1 x.n.net x.s.sch x.f x.r).1.2.2::H:=by
 refine Ya Tryz.func229 Tryz.ntmps229 rfl rfl hw ?_
 have p1:=λ{H':List HP}{w:World}(hi:x.In B w0 H') (hw:St B w0 H' w)=>YeJ x hi hw
 obtain⟨R,hR⟩:∃R,Y1 x.n.net x.s.sch x.f x.r=R:=⟨_,rfl⟩
 rw[hR]
 unfold Y1 at hR
 obtain⟨e,he⟩:∃e,wayE x.n.net x.s.sch x.f x.r=e:=⟨_,rfl⟩
 rw[he]at p1 hR
 have p3:=λ(hok:Ve x) {H':List HP}{w:World}(hi:x.In B w0 H') (hw:St B w0 H' w)=>YkT x hok hi hw
 unfold NetM.val SchM.val flwV
 unfold NetM.val SchM.val flwV at p1 p3
 by_cases h0:e=0
 rotate_left
 ·rw[Tn h0]at hR
  subst hR
  refine zX73 ?_<;>intros
  apply Yb Ypn
  exact za
  exact rfl
  exactλ_ hw=>(p1 (hi.mono zc0) hw)
  refine zX1 ?_<;>intros
  apply Yf (nrs none 0 []::H)
  ·intro w hw
   have h5:St B w0 H w:=by
    revert w
    exact zc0
   exact Yen
  apply YbY;(iterate 5 exact rfl)
  grind
 subst h0
 rw[Tj (λh=>h rfl)]at hR
 have hok:=Ycd he
 have p2:=λ{H':List HP}{w:World}(hi:x.In B w0 H') (hw:St B w0 H' w)=>p3 hok hi hw
 unfold Z3 at p2
 cases hb:JC x.n.net x.s.sch x.f x.r with
 |none=>
  rw[hb]at hR p2
  dsimp only[Wc]at hR p2
  subst hR
  refine zX73 ?_<;>intros
  apply Yb Ypn
  exact za
  exact rfl
  exactλ_ hw=>(p1 (hi.mono zc0) hw)
  refine zX1 ?_<;>intros
  apply Yg _ Ytd
  exact za
  exact rfl
  exactλ_ hw=>(p2 (hi.mono zc0) (hw))
  rintro _ _ ⟨A2,cap2,rfl,rfl⟩
  refine zX3 ?_
  apply Yf (nrs none 0 []::H)
  ·intro w hw
   have h5:St B w0 H w:=by
    revert w
    exact zc0
   exact Yen
  exact zc37
 |some b=>
  rw[hb]at hR p2
  dsimp only[Wc]at hR p2
  subst hR
  refine zX73 ?_<;>intros
  apply Yb Ypn
  exact za
  exact rfl
  exactλ_ hw=>(p1 (hi.mono zc0) hw)
  refine zX1 ?_<;>intros
  apply Yg _ Ytd
  exact za
  exact rfl
  exactλ_ hw=>(p2 (hi.mono zc0) (hw))
  rintro _ _ ⟨A2,cap2,rfl,rfl⟩
  refine zX10 ?_
  apply Yf (nrs A2 cap2 b.2.2::H)
  ·exact zc0
  exact Yt6
open Go.RowKit Go.Eng Go.Nw Go.Rt Go.Sort Go.Shelf Go.Proofs
theorem Yr5(a b c d e:Int)(g:Nat)(W:World)(h0:W.cell? ⟨g,0,none⟩=some (.int .i64 a))(h1:W.cell? ⟨g,1,none⟩=some (.int .i64 b))(h2:W.cell? ⟨g,2,none⟩=some (.int .i64 c))(h3:W.cell? ⟨g,3,none⟩=some (.int .i64 d))(h4:W.cell? ⟨g,4,none⟩=some (.int .i64 e)):
 Calls Tryz.prog 221 #[.slice (some ⟨g,0,none⟩) 5 5] W λr w'=>r=.returned (.int .i64 (Zc [a,b,c,d,e]))/\w'=W:=by
 go_enter Tryz.func221,Tryz.ntmps221
 go_wp2
 refine wp_loop_rounds 6 ?_
 rw[rounds_succ]
 go_wp2
 ·rename_i hx
  have hx:a≠0:=by simp_all
  exact zc78
 rename_i ha
 have ha:a=0:=by simp_all
 rw[rounds_succ]
 go_wp2
 ·rename_i hx
  have hx:b≠0:=by simp_all
  exact zc78
 rename_i hb
 have hb:b=0:=by simp_all
 rw[rounds_succ]
 go_wp2
 ·rename_i hx
  have hx:c≠0:=by simp_all
  exact zc78
 rename_i hc
 have hc:c=0:=by simp_all
 rw[rounds_succ]
 go_wp2
 ·rename_i hx
  have hx:d≠0:=by simp_all
  exact zc78
 rename_i hd
 have hd:d=0:=by simp_all
 rw[rounds_succ]
 go_wp2
 ·rename_i hx
  have hx:e≠0:=by simp_all
  exact zc78
 rename_i he
 have he:e=0:=by simp_all
 rw[rounds_succ]
 go_wp2
 exact zc78
def cfC(x y:Cel):Int:=Zc [Lib.compareInt x.1 y.1,Lib.compareInt x.2.1 y.2.1,Lib.compareInt x.2.2.1 y.2.2.1,Lib.compareInt x.2.2.2.1 y.2.2.2.1,Lib.compareInt x.2.2.2.2 y.2.2.2.2]
theorem Yu4(x y:Cel)(W:World):Calls Tryz.prog 126 #[.agg #[.int .i64 x.1,.int .i64 x.2.1,.int .i64 x.2.2.1,.int .i64 x.2.2.2.1,.int .i64 x.2.2.2.2],.agg #[.int .i64 y.1,.int .i64 y.2.1,.int .i64 y.2.2.1,.int .i64 y.2.2.2.1,.int .i64 y.2.2.2.2]] W λe w'=>e=.returned (.int .i64 (cfC x y))/\∃q os',w'=grow (W.drewN q) os':=by
 have c1:=λW'=>Tryz.cmp_Compare_int x.1 y.1 W'
 have c2:=λW'=>Tryz.cmp_Compare_int x.2.1 y.2.1 W'
 have c3:=λW'=>Tryz.cmp_Compare_int x.2.2.1 y.2.2.1 W'
 have c4:=λW'=>Tryz.cmp_Compare_int x.2.2.2.1 y.2.2.2.1 W'
 have c5:=λW'=>Tryz.cmp_Compare_int x.2.2.2.2 y.2.2.2.2 W'
 unfold cfC
 generalize Lib.compareInt x.1 y.1=r1 at c1⊢
 generalize Lib.compareInt x.2.1 y.2.1=r2 at c2⊢
 generalize Lib.compareInt x.2.2.1 y.2.2.1=r3 at c3⊢
 generalize Lib.compareInt x.2.2.2.1 y.2.2.2.1=r4 at c4⊢
 generalize Lib.compareInt x.2.2.2.2 y.2.2.2.2=r5 at c5⊢
 go_enter Tryz.func126,Tryz.ntmps126
 go_wp2
 generalize hw1:(W.alloc (.cells #[.int .i64 x.1,.int .i64 x.2.1,.int .i64 x.2.2.1,.int .i64 x.2.2.2.1,.int .i64 x.2.2.2.2] 162)).alloc (.cells #[.int .i64 y.1,.int .i64 y.2.1,.int .i64 y.2.2.1,.int .i64 y.2.2.2.1,.int .i64 y.2.2.2.2] 162)=w1
 have hg:grow W #[.cells #[.int .i64 x.1,.int .i64 x.2.1,.int .i64 x.2.2.1,.int .i64 x.2.2.2.1,.int .i64 x.2.2.2.2] 162 (0,0),.cells #[.int .i64 y.1,.int .i64 y.2.1,.int .i64 y.2.2.1,.int .i64 y.2.2.2.1,.int .i64 y.2.2.2.2] 162 (0,0)]=w1:=by
  rw[<-hw1,alloc_eq_grow,alloc_eq_grow,grow_grow];rfl
 have x0:w1.drew.cell? ⟨W.heap.size,0,none⟩=some (.int .i64 x.1):=Qh
 have x1:w1.drew.cell? ⟨W.heap.size,1,none⟩=some (.int .i64 x.2.1):=Qh
 have x2:w1.drew.cell? ⟨W.heap.size,2,none⟩=some (.int .i64 x.2.2.1):=Qh
 have x3:w1.drew.cell? ⟨W.heap.size,3,none⟩=some (.int .i64 x.2.2.2.1):=Qh
 have x4:w1.drew.cell? ⟨W.heap.size,4,none⟩=some (.int .i64 x.2.2.2.2):=Qh
 have y0:w1.drew.cell? ⟨W.heap.size+1,0,none⟩=some (.int .i64 y.1):=Qh
 have y1:w1.drew.cell? ⟨W.heap.size+1,1,none⟩=some (.int .i64 y.2.1):=Qh
 have y2:w1.drew.cell? ⟨W.heap.size+1,2,none⟩=some (.int .i64 y.2.2.1):=Qh
 have y3:w1.drew.cell? ⟨W.heap.size+1,3,none⟩=some (.int .i64 y.2.2.2.1):=Qh
 have y4:w1.drew.cell? ⟨W.heap.size+1,4,none⟩=some (.int .i64 y.2.2.2.2):=Qh
 refine wp_region_still_tail 25 (by kernel_rfl) (by kernel_rfl) ?_
 have e9:({w1 with drawn:=w1.drawn+1}:World)=w1.drew:=rfl
 rw[e9]
 clear e9
 generalize hw2:w1.drew=w2 at x0 x1 x2 x3 x4 y0 y1 y2 y3 y4⊢
 simp only[List.take_succ_cons,Ns,List.drop_succ_cons,List.drop_zero]
 repeat still_step
 still_call (c1 _)
 repeat still_step
 still_call (c2 _)
 repeat still_step
 still_call (c3 _)
 repeat still_step
 still_call (c4 _)
 repeat still_step
 still_call (c5 _)
 refine wpStill_nil ?_
 clear c1 c2 c3 c4 c5
 have hor:Calls Tryz.prog 221 #[.slice (some ⟨w2.heap.size,0,none⟩) 5 5] (w2.alloc (.cells #[.int .i64 r1,.int .i64 r2,.int .i64 r3,.int .i64 r4,.int .i64 r5] 3)) λe w'=>e=.returned (.int .i64 (Zc [r1,r2,r3,r4,r5]))/\w'=w2.alloc (.cells #[.int .i64 r1,.int .i64 r2,.int .i64 r3,.int .i64 r4,.int .i64 r5] 3):=
  Yr5 r1 r2 r3 r4 r5 w2.heap.size _ (by simp) (by simp) (by simp) (by simp) (by simp)
 generalize Zc [r1,r2,r3,r4,r5]=r at hor⊢
 clear x0 x1 x2 x3 x4 y0 y1 y2 y3 y4
 go_wp2_with (go_at_call 221;refine hor.mono ?_;rintro e w' ⟨rfl,rfl⟩)
 go_ret
 refine⟨by first|rfl|kernel_rfl|simp,1,#[.cells #[.int .i64 x.1,.int .i64 x.2.1,.int .i64 x.2.2.1,.int .i64 x.2.2.2.1,.int .i64 x.2.2.2.2] 162 (0,0),.cells #[.int .i64 y.1,.int .i64 y.2.1,.int .i64 y.2.2.1,.int .i64 y.2.2.2.1,.int .i64 y.2.2.2.2] 162 (0,0),.cells #[.int .i64 r1,.int .i64 r2,.int .i64 r3,.int .i64 r4,.int .i64 r5] 3 (0,0)],?_⟩
 rw[<-hw2,<-hw1,alloc_eq_grow]
 rfl
theorem Yu2(x y:Cel):cfC x y=cmpV (nums x) (nums y):=YkB (nums x) (nums y) rfl
theorem Yl4(x y:Cel):ltOf cfC x y=Xg x y:=by
 simp_all [ltOf,Yu2,YaG]
theorem swoC:SWO (ltOf cfC) where
 irrefl x:=by grind [Yl4,VS]
 trans x y z h1 h2:=by grind [Yl4,Ju]
 ntrans x y z h1 h2:=by
  grind [Yl4,Ju,Yb4]
theorem YgT(l:List Cel)(hl:l.length<=100000000){A:Option Addr}{cap B:Nat}{w0:World}{H:List HP}{w:World}(hw:St B w0 (cels A cap l::H) w):
 CX B w0 125 [.slice A l.length cap,.func (.func 126) #[] #[]] w λv K=>v=.tuple #[]/\∃l',l'.Perm l/\OrdW l'/\K=cels A cap l'::H:=by
 by_cases h0:l.length=0
 ·have hl0:l=[]:=RL h0
  rw[h0]
  refine(AnyF.slices_SortFunc_none Tryz.sortCels A cap (.func (.func 126) #[] #[]) w).mono ?_
  rintro e w' ⟨rfl,rfl⟩
  exact⟨_,_,rfl,hw,rfl,l,List.Perm.refl _,by rw[hl0];exact .nil,rfl⟩
 have ho:=hw.sl (TG)
 obtain⟨g,rfl⟩:∃g,A=some ⟨g,0,none⟩:=by
  rcases ho.2 with⟨h1,h2⟩|⟨g,c,cur,h1,h2,h3,h4,h5,h6,h7⟩
  ·omega
  ·injection h1 with e1 e2 e3
   exact⟨g,e1⟩
 obtain⟨hH,hg,hst⟩:=Yn3 (enc:=celF) (λ_=>rfl) (by decide) (Td _) hw
 have eg:∀args w,(callFunc 126 args).run Tryz.prog w=.ok (.enter 126 args) w:=Ypg
 rw[List.drop_zero,Nat.zero_mul]at hH
 have hsz:l.toArray.size=l.length:=by simp
 have hcon:=AnyQ.slices_SortFunc Tryz.sortCels 5 Tryz.isAgg162 Tryz.sizeOf162 celF (λ_=>rfl) (λx v hv=>by simp[celF]at hv;rcases hv with rfl|rfl|rfl|rfl|rfl<;>rfl) cfC swoC 126 #[] g 0 cap l.toArray w eg (λ_ _ _ _ x y=>Yu4 x y _) hH hg (by rw[hsz];omega)
 rw[hsz]at hcon
 refine hcon.mono ?_
 rintro e w' ⟨rfl,d',n,os,hp,hs,rfl⟩
 have hp:d'.toList.Perm l:=YkK (d:=l.toArray) (by rw[hsz];exact hp)
 have h5:=hst d'.toList n os (by rw[hp.length_eq];rfl)
 rw[Array.toArray_toList,Nat.zero_mul,Ns,TC]at h5
 refine⟨_,_,rfl,h5,rfl,d'.toList,hp,?_,?_⟩
 ·have hdl:d'.toList.length=l.length:=hp.length_eq
  rw[OrdW,Rn]
  intro i j hi hj hij
  have h6:=hs i j (Td _) hij (by omega)
  rw[Yl4,getElem!_pos d' j (by simpa using hj),getElem!_pos d' i (by simpa using hi)]at h6
  simpa using h6
 ·unfold cels
  rw[hp.length_eq]
theorem O8(n:NetM)(q:List RqM){A:Option Addr}{cap B:Nat}{w0:World}{H:List HP}{w:World}(hin:n.In B w0 H)(hq:QIn B w0 H A q)(hw:St B w0 H w):
 CX B w0 93 [n.val,.slice A q.length cap] w λv K=>v=.tuple #[.int .i64 (rqsE n.net (q.map RqM.rq)).1,.int .i64 (rqsE n.net (q.map RqM.rq)).2]/\K=H:=by
 refine Ya Tryz.func93 Tryz.ntmps93 rfl rfl hw ?_
 have hql:=hq.ln
 have hqr:=hq.rd
 have p1:=λ{H':List HP}{w:World}(hin:n.In B w0 H') (hw:St B w0 H' w)=>Vm n hin hw
 have p2:=λ{H':List HP}{w:World}(hq:QIn B w0 H' A q) (hw:St B w0 H' w)=>YbB q (cap:=cap) hql hq.rd hw
 have p3:=λ{A2:Option Addr}{cap2:Nat}{H':List HP}{w:World}(hr:Rd B w0 H' A2 ((RqM.fl q).flatMap flwF)) (hw:St B w0 H' w)=>JI n.nodes (RqM.fl q) Yms (cap:=cap2) hr hw
 have p5:=λ(x:RqM) (r:RowM) (hr:r∈x.rows) {H':List HP}{w:World}(hin:n.In B w0 H') (hx:x.In B w0 H') (hw:St B w0 H' w)=>Ybz n x.f.2.1 x.f.2.2.1 r.xs (cap:=r.cap) hin (hx.rw_ r hr) (hx.rl r hr).1 hw
 have p6:=λ(x:RqM) (r s:RowM) (hr:r∈x.rows) (hs:s∈x.rows) {H':List HP}{w:World}(hx:x.In B w0 H') (hw:St B w0 H' w)=>ZW r.xs s.xs (cap:=r.cap) (cap2:=s.cap) (hx.rl r hr).1 (hx.rl s hs).1 (hx.rw_ r hr) (hx.rw_ s hs) hw
 unfold rqsE
 rw[<-Yfi,To]
 rw[show n.net.nodes=n.nodes from rfl]
 obtain⟨c,hc⟩:∃c,Yl n.net=c:=⟨_,rfl⟩
 obtain⟨⟨fi,fe⟩,hf⟩:∃f,YB n.nodes (RqM.fl q)=f:=⟨_,rfl⟩
 obtain⟨F,hF⟩:∃F,(λi=>rtsE n.net (rqAt (q.map RqM.rq) i))=F:=⟨_,rfl⟩
 rw[hc]at p1⊢
 rw[hf]at p3⊢
 rw[hF]
 dsimp only at p3⊢
 have hFv:∀{k:Nat}{x:RqM},q[k]? =some x->F k=rtsE n.net x.rq:=λh=>by rw[<-hF];show rtsE _ _=_;rw[Yam h]
 unfold NetM.val
 unfold NetM.val at p1 p5
 by_cases h0:c=0
 rotate_left
 ·rw[Tn h0]
  repeat'(first|((apply Yb UR);exact za;exact rfl;exactλ_ hw=>(p1 hin.cons hw))|apply(zs2 ?_)|(apply zg3;refine zs8 ?_)|(apply zg8;(refine zs16 ?_ ?_<;>intro _<;>try exact zo))|(apply zg23;(refine zs52 ?_;intro _))|apply(zs65 ?_)|apply(zs68 ?_)|apply(zs69 ?_)|apply(zs70 ?_)|(apply zg27;refine zs71 ?_)|apply(zs74 ?_)|apply(zs77 ?_)|fail)
  apply Yf H
  ·exact zc0
  exact zc5
 subst h0
 rw[Tj (λe=>e rfl)]
 by_cases h1:fe=0
 rotate_left
 ·rw[Tn h1]
  refine YtL ?_<;>intros
  apply YA [0,1,2,3,4,5,6,7,8,9] [] [true]
  kernel_rfl
  kernel_rfl
  exact zy
  (simp only[Yc,nthO];rfl)
  exact rfl
  repeat'(first|apply(zs1 ?_)|(apply zg2;refine zs6 ?_)|(apply zg3;refine zs7 ?_)|apply(zs87 ?_)|fail)
  apply Yg _ en70
  exact za
  exact rfl
  exactλ_ hw=>(p2 (hq.mono zc0) (hw))
  rintro _ _ ⟨A2,cap2,rfl,rfl⟩
  repeat'(first|apply(zs65 ?_)|apply(zs87 ?_)|(apply Yh;try exact zl)|fail)
  apply Yb en72
  exact za
  exact rfl
  exactλ_ hw=>(p3 (Rd.sl (by(focus exact zc2))) hw)
  repeat'(first|apply(zs1 ?_)|apply(zs2 ?_)|apply(zs13 ?_)|(apply zg8;(refine zs16 ?_ ?_<;>intro _<;>try exact zo))|apply(zs65 ?_)|(apply XH;exact zp)|apply(zs68 ?_)|apply(zs69 ?_)|apply(zs70 ?_)|(apply zg27;refine zs71 ?_)|apply(zs74 ?_)|apply(zs77 ?_)|(apply Yh;try exact zl)|apply(zs93 ?_)|apply(zs94 ?_)|fail)
  apply Yf H
  ·exact zc0
  exact zc5
 subst h1
 rw[Tj (λe=>e rfl)]
 refine YtL ?_<;>intros
 first|(rename_i gn;guard_hyp gn:Nat)|(rename_i gn _;guard_hyp gn:Nat)|(rename_i gn _ _;guard_hyp gn:Nat)
 apply YA [0,1,2,3,4,5,6,7,8,9] [] [true]
 kernel_rfl
 kernel_rfl
 exact zy
 (simp only[Yc,nthO];rfl)
 exact rfl
 repeat'(first|apply(zs1 ?_)|(apply zg2;refine zs6 ?_)|(apply zg3;refine zs7 ?_)|apply(zs87 ?_)|fail)
 apply Yg _ en70
 exact za
 exact rfl
 exactλ_ hw=>(p2 (hq.mono zc0) (hw))
 rintro _ _ ⟨A2,cap2,rfl,rfl⟩
 repeat'(first|apply(zs65 ?_)|apply(zs87 ?_)|(apply Yh;try exact zl)|fail)
 apply Yb en72
 exact za
 exact rfl
 exactλ_ hw=>(p3 (Rd.sl (by(focus exact zc2))) hw)
 repeat'(first|apply(zs1 ?_)|apply(zs2 ?_)|apply(zs13 ?_)|(apply zg8;(refine zs16 ?_ ?_<;>intro _<;>try exact zo))|apply(zs65 ?_)|(apply XH;exact zp)|apply(zs68 ?_)|apply(zs69 ?_)|apply(zs70 ?_)|(apply zg27;refine zs72 ?_)|apply(zs73 ?_)|apply(zs76 ?_)|(apply Yh;try exact zl)|apply(zs93 ?_)|apply(zs94 ?_)|fail)
 refine Ye (λk:Nat=>[(8,.int .i64 (k:Nat)),(1,.slice A q.length cap),(2,.pointer (some ⟨gn,0,none⟩))]) (λ_=>netA gn n::H) (λk=>k<=q.length/\∀j,0<=j->j<k->F j=0) (λk=>q.length-k) 0 ⟨Td _,λj _ h=>absurd h (TZ _)⟩ ?_ ?_ ?_
 ·exact zc1
 ·exact zc0
 rintro k ⟨hk,hz⟩ K hK
 have hqr':Rd B w0 (netA gn n::H) A (q.flatMap rqF):=hqr.cons
 by_cases hlt:k<q.length
 rotate_left
 ·obtain rfl:k=q.length:=by omega
  have hfe:=Xy (f:=F) (r:=q.length) (i0:=0) λj h1 h2=>hz j h1 (by omega)
  rw[hfe]
  clear hK
  repeat'(first|apply(zs1 ?_)|apply(zs2 ?_)|(apply zg4;refine zs9 ?_)|(apply(zs17 ?_ ?_)<;>intro _<;>try exact zo)|apply(zs65 ?_)|apply(zs68 ?_)|apply(zs69 ?_)|apply(zs70 ?_)|(apply zg27;refine zs72 ?_)|apply(zs74 ?_)|apply(zs75 ?_)|apply(zs80 ?_)|apply(zs81 ?_)|fail)
  apply Yf H
  ·exact zc0
  exact zc5
 obtain⟨x,hx⟩:∃x,q[k]? =some x:=⟨_,Ta hlt⟩
 have hxm:=Tc hx
 have hFk:=hFv hx
 have hxi:=hq.x x hxm
 have hlx:=hxi.ln
 have hln:x.rq.2.length=x.rows.length:=by unfold RqM.rq;exact YfR
 have e1:x.rq.1=x.f:=rfl
 have hbad:F k≠0->YD F q.length 0=((k:Int),F k):=λh=>Xh (f:=F) (r:=q.length) (i0:=0) (i:=k) (λj h1 h2=>hz j h1 h2) (Td _) (by omega) h
 have hgo:F k=0->k+1<=q.length/\∀j,0<=j->j<k+1->F j=0:=λh=>⟨by omega,λj h1 h2=>by
  rcases Rk.1 h2 with h3|rfl
  ·exact hz j h1 h3
  ·exact h⟩
 unfold rtsE at hFk
 rw[hln,e1]at hFk
 by_cases h0:x.rows.length=0
 ·rw[Tn h0]at hFk
  rw[hbad (by rw[hFk];decide),hFk]
  clear hK
  repeat'(first|apply(zs1 ?_)|apply(zs2 ?_)|(apply zg2;refine zs58 ?_)|(apply zg3;refine zs59 ?_)|(apply zg4;refine zs9 ?_)|(apply zg5;refine zs57 ?_)|(apply zg7;(refine zs15 ?_ ?_<;>intro _<;>try exact zo))|(apply(zs17 ?_ ?_)<;>intro _<;>try exact zo)|apply(zs65 ?_)|apply(zs68 ?_)|apply(zs69 ?_)|apply(zs70 ?_)|(apply zg27;refine zs71 ?_)|apply(zs73 ?_)|apply(zs74 ?_)|apply(zs76 ?_)|apply(zs77 ?_)|apply(zs78 ?_)|fail)
  apply Yf H
  ·exact zc0
  exact zc5
 rw[Tj h0]at hFk
 by_cases h2:2<x.rows.length
 ·rw[Tn h2]at hFk
  rw[hbad (by rw[hFk];decide),hFk]
  clear hK
  repeat'(first|apply(zs1 ?_)|apply(zs2 ?_)|(apply zg2;refine zs58 ?_)|(apply zg3;refine zs59 ?_)|(apply zg4;refine zs9 ?_)|(apply zg5;refine zs57 ?_)|(apply zg7;(refine zs15 ?_ ?_<;>intro _<;>try exact zo))|(apply(zs17 ?_ ?_)<;>intro _<;>try exact zo)|(apply(zs19 ?_ ?_)<;>intro _<;>try exact zo)|apply(zs65 ?_)|apply(zs68 ?_)|apply(zs69 ?_)|apply(zs70 ?_)|(apply zg27;first|refine zs71 ?_|refine zs72 ?_)|apply(zs73 ?_)|apply(zs74 ?_)|apply(zs76 ?_)|apply(zs77 ?_)|apply(zs78 ?_)|fail)
  apply Yf H
  ·exact zc0
  exact zc5
 rw[Tj h2]at hFk
 obtain⟨G,hG⟩:∃F,(λk=>Xu n.net x.f.2.1 x.f.2.2.1 (rtAt x.rq.2 k))=F:=⟨_,rfl⟩
 rw[hG]at hFk
 have hGv:∀{k:Nat}{r:RowM},x.rows[k]? =some r->G k=Xu n.net x.f.2.1 x.f.2.2.1 r.xs:=λh=>by rw[<-hG];show Xu _ _ _ _=_;rw[U4 h]
 repeat'(first|apply(zs1 ?_)|apply(zs2 ?_)|(apply zg2;refine zs58 ?_)|(apply zg3;refine zs59 ?_)|(apply zg4;refine zs9 ?_)|(apply zg5;refine zs57 ?_)|(apply zg7;(refine zs15 ?_ ?_<;>intro _<;>try exact zo))|(apply(zs17 ?_ ?_)<;>intro _<;>try exact zo)|(apply(zs19 ?_ ?_)<;>intro _<;>try exact zo)|apply(zs65 ?_)|apply(zs68 ?_)|apply(zs69 ?_)|apply(zs70 ?_)|(apply zg27;first|refine zs71 ?_|refine zs72 ?_)|apply(zs73 ?_)|apply(zs76 ?_)|fail)
 refine Ye (λj:Nat=>[(10,.int .i64 (j:Nat)),(9,.slice x.A x.rows.length x.cap),(8,.int .i64 (k:Nat)),(1,.slice A q.length cap),(2,.pointer (some ⟨gn,0,none⟩))]) (λ_=>netA gn n::H) (λj=>j<=x.rows.length/\∀i,0<=i->i<j->G i=0) (λj=>x.rows.length-j) 0 ⟨Td _,λj _ h=>absurd h (TZ _)⟩ ?_ (λw hw=>hw) ?_
 ·exact zc1
 rintro j ⟨hj,hzz⟩ K2 hK2
 have hrt:Rd B w0 (netA gn n::H) x.A (x.rows.flatMap rowF):=hxi.rt.cons
 by_cases hjl:j<x.rows.length
 ·obtain⟨r,hr⟩:∃r,x.rows[j]? =some r:=⟨_,Ta hjl⟩
  have hrm:=Tc hr
  have hGj:=hGv hr
  have p7:=λ{H':List HP}{w:World}(hin:n.In B w0 H') (hx:x.In B w0 H') (hw:St B w0 H' w)=>p5 x r hrm hin hx hw
  rw[<-hGj]at p7
  clear hK
  by_cases hGz:G j=0
  ·rw[hGz]at p7
   refine YtM ?_<;>intros
   apply YV [0,1,2,3,4,5,6,7,8,9,10,11,12,13,14,15,16,17,18] []
   kernel_rfl
   kernel_rfl
   (simp only[Yc,nthO];rfl)
   exact rfl
   refine YtN ?_
   apply Yb Ypj
   exact za
   exact rfl
   exactλ_ hw=>(p7 (hin.mono zc0) (hxi.mono zc0) hw)
   repeat'(first|apply(zs1 ?_)|apply(zs2 ?_)|(apply zg8;(refine zs16 ?_ ?_<;>intro _<;>try exact zo))|(apply zg13;refine zs30 ?_)|apply(zs65 ?_)|(apply XH;exact zp)|apply(zs68 ?_)|apply(zs69 ?_)|apply(zs70 ?_)|(apply zg27;refine zs72 ?_)|apply(zs76 ?_)|apply(zs79 ?_)|(apply Yh;try exact zl)|apply(zs93 ?_)|apply(zs94 ?_)|fail)
   all_goals(try exact J1 _)
   refine zX8 ?_
   apply hK2 (j+1)
   ·exact⟨by omega,λi h1 h2=>by
     rcases Rk.1 h2 with h|rfl
     ·exact hzz i h1 h
     ·exact hGz⟩
   ·omega
   ·exact zc1
   ·exact zc0
  ·have hfe:=Xh (f:=G) (r:=x.rows.length) (i0:=0) (i:=j) (λi h1 h2=>hzz i h1 h2) (Td _) (by omega) hGz
   rw[hfe,Tn hGz]at hFk
   rw[hbad (by rw[hFk];exact hGz),hFk]
   clear hK2
   refine YtM ?_<;>intros
   apply YV [0,1,2,3,4,5,6,7,8,9,10,11,12,13,14,15,16,17,18] []
   kernel_rfl
   kernel_rfl
   (simp only[Yc,nthO];rfl)
   exact rfl
   refine YtN ?_
   apply Yb Ypj
   exact za
   exact rfl
   exactλ_ hw=>(p7 (hin.mono zc0) (hxi.mono zc0) hw)
   repeat'(first|apply(zs1 ?_)|apply(zs2 ?_)|(apply zg8;(refine zs16 ?_ ?_<;>intro _<;>try exact zo))|apply(zs65 ?_)|(apply XH;exact zp)|apply(zs68 ?_)|apply(zs69 ?_)|apply(zs70 ?_)|(apply zg27;refine zs71 ?_)|apply(zs74 ?_)|apply(zs77 ?_)|apply(zs78 ?_)|(apply Yh;try exact zl)|apply(zs93 ?_)|apply(zs94 ?_)|fail)
   all_goals(try exact J1 _)
   refine zX8 ?_
   apply Yf H
   ·exact zc0
   exact zc5
 obtain rfl:j=x.rows.length:=by omega
 have hfe:=Xy (f:=G) (r:=x.rows.length) (i0:=0) λi h1 h2=>hzz i h1 (by omega)
 rw[hfe,Tj (λe=>e rfl)]at hFk
 clear hK2
 by_cases h3:x.rows.length=2
 rotate_left
 ·rw[Tj (λe=>h3 e.1)]at hFk
  refine YqK ?_<;>intros
  apply YV [0,1,2,3,4,5,6,7,8,9,10,11] []
  kernel_rfl
  kernel_rfl
  (simp only[Yc,nthO];rfl)
  exact rfl
  repeat'(first|apply(zs1 ?_)|apply(zs2 ?_)|(apply zg1;refine zs3 ?_)|(apply zg4;refine zs9 ?_)|(apply zg6;refine zs12 ?_)|(apply zg7;(refine zs15 ?_ ?_<;>intro _<;>try exact zo))|(apply zg13;refine zs30 ?_)|apply(zs65 ?_)|(apply XH;exact zp)|apply(zs68 ?_)|apply(zs70 ?_)|(apply zg27;refine zs72 ?_)|apply(zs76 ?_)|apply(zs79 ?_)|apply(zs93 ?_)|apply(zs94 ?_)|fail)
  all_goals(try exact J1 _)
  refine zX8 ?_
  apply hK (k+1)
  ·exact hgo hFk
  ·omega
  ·exact zc1
  ·exact zc0
 obtain⟨r0,hr0⟩:∃r,x.rows[0]? =some r:=⟨_,Ta (by omega)⟩
 obtain⟨r1,hr1⟩:∃r,x.rows[1]? =some r:=⟨_,Ta (by omega)⟩
 rw[U4 hr0,U4 hr1]at hFk
 have p7:=λ{H':List HP}{w:World}(hx:x.In B w0 H') (hw:St B w0 H' w)=>p6 x r0 r1 (Tc hr0) (Tc hr1) hx hw
 by_cases heq:r0.xs=r1.xs
 ·rw[Tn ⟨h3,heq⟩]at hFk
  rw[Tf heq]at p7
  rw[hbad (by rw[hFk];decide),hFk]
  clear hK
  refine YqK ?_<;>intros
  apply YV [0,1,2,3,4,5,6,7,8,9,10,11] []
  kernel_rfl
  kernel_rfl
  (simp only[Yc,nthO];rfl)
  exact rfl
  refine YtO ?_<;>intros
  apply Yb WH
  exact za
  exact rfl
  exactλ_ hw=>(p7 (hxi.mono zc0) hw)
  repeat'(first|apply(zs1 ?_)|apply(zs2 ?_)|(apply zg6;refine zs11 ?_)|apply(zs65 ?_)|(apply XH;exact zp)|apply(zs68 ?_)|apply(zs69 ?_)|apply(zs70 ?_)|(apply zg27;refine zs71 ?_)|apply(zs74 ?_)|apply(zs77 ?_)|apply(zs78 ?_)|(apply Yh;try exact zl)|apply(zs93 ?_)|apply(zs94 ?_)|fail)
  all_goals(try exact J1 _)
  refine zX8 ?_
  apply Yf H
  ·exact zc0
  exact zc5
 ·rw[Tj (λe=>heq e.2)]at hFk
  rw[Ti heq]at p7
  refine YqK ?_<;>intros
  apply YV [0,1,2,3,4,5,6,7,8,9,10,11] []
  kernel_rfl
  kernel_rfl
  (simp only[Yc,nthO];rfl)
  exact rfl
  refine YtO ?_<;>intros
  apply Yb WH
  exact za
  exact rfl
  exactλ_ hw=>(p7 (hxi.mono zc0) hw)
  repeat'(first|apply(zs1 ?_)|apply(zs2 ?_)|(apply zg6;refine zs11 ?_)|(apply zg13;refine zs30 ?_)|apply(zs65 ?_)|(apply XH;exact zp)|apply(zs68 ?_)|apply(zs70 ?_)|(apply zg27;refine zs72 ?_)|apply(zs76 ?_)|apply(zs79 ?_)|(apply Yh;try exact zl)|apply(zs93 ?_)|apply(zs94 ?_)|fail)
  all_goals(try exact J1 _)
  refine zX8 ?_
  apply hK (k+1)
  ·exact hgo hFk
  ·omega
  ·exact zc1
  ·exact zc0
theorem YlC:∀(a:Cel) (l:List Cel),Xk (a::l)=a::(Xk (a::l)).drop 1
 |_,[]=>rfl
 |a,b::l=>by
  have ih:=YlC b l
  unfold Xk
  grind
variable {l:List Cel}{m:Nat}{a:Cel}
theorem OH(h:l[m]? =some a):l.drop m=a::l.drop (m+1):=by
 grind [Rm]
theorem Ye6(h:l[m]? =some a)(h2:l[m+1]? =some a):Xk (l.drop m)=Xk (l.drop (m+1)):=by
 simp_all [OH,Xk]
theorem Ye5{b:Cel}(h:l[m]? =some a)(h2:l[m+1]? =some b)(hne:a≠b):Xk (l.drop m)=a::Xk (l.drop (m+1)):=by
 simp_all [OH,Xk]
theorem YlB(h:l[m]? =some a):Xk (l.drop m)=a::(Xk (l.drop m)).drop 1:=by
 rw[OH h];exact YlC _ _
structure CpM where
 i:Nat
 j:Nat
 M:List Cel
theorem Yew(l:List Cel)(hlen:l.length<=100000){A:Option Addr}{cap B:Nat}{w0:World}{H:List HP}{w:World}(hw:St B w0 (cels A cap l::H) w):
 CX B w0 127 [.slice A l.length cap] w λv K=>v=.slice A (Xk l).length cap/\K=cels A cap (Xk l)::H:=by
 refine Ya Tryz.func127 Tryz.ntmps127 rfl rfl hw ?_
 refine OA (e:=162) (size:=5) (A:=A) (xs:=l.flatMap celF) (k:=l.length) (cap:=cap) TG λhcap=>?_
 by_cases hl2:l.length<2
 ·have e:Xk l=l:=by
   match l,hl2 with
   |[],_=>rfl
   |[_],_=>rfl
  rw[e]
  refine zX1 ?_<;>intros
  exact zc10
 refine zX1 ?_<;>intros
 refine Ye (λk:Nat=>[(3,.int .i64 k),(0,.slice A l.length cap)]) (λ_=>cels A cap l::H) (λk=>1<=k/\k<=l.length/\Xk l=l.take (k-1)++Xk (l.drop (k-1))) (λk=>l.length-k) 1 ⟨TK _,by omega,by simp⟩ ?_ (λw hw=>hw) ?_
 ·exact zc1
 rintro k ⟨hk1,hk,hce⟩ K hK
 by_cases hlt:k<l.length
 rotate_left
 ·obtain rfl:k=l.length:=by omega
  obtain⟨a,ha⟩:∃a,l[l.length-1]? =some a:=⟨_,Ta (by omega)⟩
  have e:Xk l=l:=by
   rw[hce,OH ha,Rb (by omega)]
   show l.take (l.length-1)++[a]=l
   conv=>rhs;rw[<-RV (l.length-1) l,OH ha,Rb (show l.length<=l.length-1+1 by omega)]
  rw[e]
  refine zX0 ?_<;>intros
  exact zc3
 obtain⟨m,rfl⟩:∃m,k=m+1:=⟨k-1,by omega⟩
 rw[SX]at hce
 obtain⟨a,ha⟩:∃a,l[m]? =some a:=⟨_,Ta (by omega)⟩
 obtain⟨b,hb⟩:∃b,l[m+1]? =some b:=⟨_,Ta hlt⟩
 have hm1:(((m+1:Nat):Int)-1).toNat=m:=by omega
 have ha2:l[(((m+1:Nat):Int)-1).toNat]? =some a:=by rw[hm1];exact ha
 have hr0:Rd B w0 (cels A cap l::H) A (l.flatMap celF):=.sl TG
 repeat'(first|(apply Yq8 b a;(iterate 3 exact rfl);all_goals intro hca)|refine zgd ?_|(refine zge ?_ ?_<;>intro _<;>try exact zo)|fail)
 rotate_left
 ·apply hK (m+1+1)
  ·refine⟨by omega,by omega,?_⟩
   rw[SX,TB,ha,hce,Ye5 ha hb (λe=>hca e.symm)]
   simp
  ·omega
  ·exact zc1
  exact zc21
 obtain rfl:=hca
 clear hK
 obtain⟨N,hN⟩:∃N,l.length=m+1+N:=⟨l.length-(m+1),by omega⟩
 apply ZP T (n':=(l.drop (m+1)).length);(iterate 4 exact rfl);omega;(rw[TY];omega)
 rw[Ry]
 refine zX7 ?_
 refine Ye (λz:CpM=>[(5,.int .i64 z.j),(3,.int .i64 z.i),(4,.slice (subA A (m+1) cap 5) (z.M.drop (m+1)).length (cap-(m+1))),(0,.slice A z.M.length cap)]) (λz=>cels A cap z.M::H)
  (λz=>z.M.length=l.length/\(1<=z.j/\z.j<=N)/\z.i<=m+z.j/\Xk l=z.M.take z.i++(Xk (l.drop (m+z.j))).drop 1/\∀i,m+z.j<=i->z.M[i]? =l[i]?) (λz=>N-z.j) ⟨m+1,1,l⟩ ⟨rfl,⟨TK _,by show 1<=N;omega⟩,TK _,?_,λ_ _=>rfl⟩ ?_ (λw hw=>hw) ?_
 ·show Xk l=l.take (m+1)++(Xk (l.drop (m+1))).drop 1
  rw[TB,ha,hce,Ye6 ha hb,YlB hb]
  simp
 ·exact zc1
 rintro⟨i,j,M⟩ ⟨hM,⟨hj1,hj⟩,hi,hco,hsame⟩ K hK
 dsimp only at hM hj1 hj hi hco hsame⊢
 have hdl:(M.drop (m+1)).length=N:=by rw[TY];omega
 by_cases hjl:j<N
 ·obtain⟨x,hx⟩:∃x,l[m+j]? =some x:=⟨_,Ta (by omega)⟩
  obtain⟨y,hy⟩:∃y,l[m+1+j]? =some y:=⟨_,Ta (by omega)⟩
  have hj3:((j:Int)-1).toNat=j-1:=by omega
  have hx2:(M.drop (m+1))[((j:Int)-1).toNat]? =some x:=by
   rw[hj3,RS,show m+1+(j-1)=m+j by omega,hsame _ (TK _)];exact hx
  have hy2:(M.drop (m+1))[j]? =some y:=by
   rw[RS,hsame _ (by omega)];exact hy
  have hy3:l[m+j+1]? =some y:=by rw[show m+j+1=m+1+j by omega];exact hy
  have hs2:Rd B w0 (cels A cap M::H) (subA A (m+1) cap 5) ((M.drop (m+1)).flatMap celF):=by
   have h1:=Rd.sub (B:=B) (w0:=w0) (H:=cels A cap M::H) (q:=5) (f:=celF) (l:=M) (o:=m+1) (k:=M.length) (cap:=cap) (A:=A) (λ_=>rfl) (.sl TG) (by omega)
   rwa [TM (by rw[TY];omega)]at h1
  unfold cels at hs2⊢
  have hMl:(M.set i y).length=M.length:=TE
  have hMd:((M.set i y).drop (m+1)).length=(M.drop (m+1)).length:=by rw[TY,TY,hMl]
  repeat'(first|(apply Yq9 y x;(iterate 3 exact rfl);all_goals intro hca)|(apply ZD T (f:=celF) (l:=M) (i:=i) (a:=y);(iterate 3 exact rfl);exact zd;exactλ_=>rfl;(iterate 3 exact rfl);omega)|refine zgd ?_|(refine zge ?_ ?_<;>intro _<;>try exact zo)|fail)
  ·apply hK ⟨i+1,j+1,M.set i y⟩
   ·refine⟨hMl.trans hM,⟨by show 1<=j+1;omega,hjl⟩,by show i+1<=m+(j+1);omega,?_,λt ht=>?_⟩
    ·show Xk l=(M.set i y).take (i+1)++(Xk (l.drop (m+(j+1)))).drop 1
     rw[hco,Ye5 hx hy3 (λe=>hca e.symm),List.drop_one,List.tail_cons,TB,SU (by omega),List.take_set_of_le (TK _),show m+(j+1)=m+j+1 by omega,YlB hy3]
     simp
    ·dsimp only at ht⊢
     rw[Nu (by omega)]
     exact hsame t (by omega)
   ·exact zc50
   ·dsimp only
    rw[hMl,hMd]
    exact zc1
   ·unfold cels
    dsimp only
    rw[hMl]
    exact YbM
  ·apply hK ⟨i,j+1,M⟩
   ·refine⟨hM,⟨by show 1<=j+1;omega,hjl⟩,by show i<=m+(j+1);omega,?_,λt ht=>hsame t (by dsimp only at ht;omega)⟩
    show Xk l=M.take i++(Xk (l.drop (m+(j+1)))).drop 1
    rw[hco,Ye6 hx (by rw[hy3,hca]),show m+(j+1)=m+j+1 by omega]
   ·exact zc50
   ·exact zc1
   exact zc21
 ·obtain rfl:j=N:=by omega
  clear hK
  have hce2:Xk l=M.take i:=by
   obtain⟨x,hx⟩:∃x,l[m+j]? =some x:=⟨_,Ta (by omega)⟩
   have hd:l.drop (m+j+1)=[]:=Rb (by omega)
   rw[hco,OH hx,hd]
   exact Rr _
  have hil:(Xk l).length=i:=by rw[hce2,TU];omega
  have hfl:(M.flatMap celF).take (i*5)=(Xk l).flatMap celF:=by rw[<-X0 (q:=5) (λ_=>rfl),hce2]
  unfold cels
  refine zX39 ?_<;>intros
  rw[Ry]
  apply Zh (sl 162 5 A i cap ((Xk l).flatMap celF)::H)
  ·exact zc87
  apply Yck T T2 (e:=162) (size:=5) (k:=i) (xs:=(Xk l).flatMap celF);exact rfl;exact TG;(iterate 3 exact rfl);omega
  repeat'(first|(apply ZO T (l:=M) (n':=i);(iterate 4 exact rfl);omega;omega;omega)|refine zgd ?_|fail)
  exact Yt2
structure BuM where
 n:NetM
 qA:Option Addr
 qcap:Nat
 q:List RqM
 s:SchM
 cA:Option Addr
 ccap:Nat
 c:List ClM
 fA:Option Addr
 fcap:Nat
 f:List Int
 e:Int
abbrev bldA(g:Nat)(b:BuM):HP:=blk g (.cells #[.int .i64 b.n.nodes,.slice b.n.pA b.n.rows.length b.n.pcap,.int .i64 b.n.noise,.int .i64 b.n.thr,.slice b.n.lA b.n.links.length b.n.lcap,.slice b.n.mA b.n.margin.length b.n.mcap,.slice b.qA b.q.length b.qcap,.int .i64 b.s.len,.int .i64 b.s.off,.slice b.s.A b.s.cells.length b.s.cap,.slice b.cA b.c.length b.ccap,.slice b.fA b.f.length b.fcap,.int .i64 b.e] 80 (0,0))
def BuM.fail(b:BuM)(e:Int):BuM:={b with e:=XN b.e e}
theorem Uk(b:BuM)(g:Nat)(e:Int){B:Nat}{w0:World}{H:List HP}{w:World}(hw:St B w0 (bldA g b::H) w):
 CX B w0 45 [.pointer (some ⟨g,0,none⟩),.int .i64 e] w λv K=>v=.tuple #[]/\K=bldA g (b.fail e)::H:=by
 refine Ya Tryz.func45 Tryz.ntmps45 rfl rfl hw ?_
 unfold BuM.fail XN
 by_cases h:b.e=0
 ·rw[Tn h]
  refine zX25 ?_<;>intros
  all_goals first|(exfalso;contradiction)|skip
  exact Yjx
 ·rw[Tj h]
  refine zX25 ?_<;>intros
  all_goals first|(exfalso;contradiction)|skip
  exact Yjx
variable {A:Option Addr}{cap B:Nat}{w0 w:World}{H:List HP}
theorem YcL(l:List RowM)(hlen:l.length<=1000)(hr:Rd B w0 H A (l.flatMap rowF))(hw:St B w0 H w):
 CX B w0 131 [.slice A l.length cap] w λv K=>∃A' cap',v=.slice A' l.length cap'/\K=sl 127 1 A' l.length cap' (l.flatMap rowF)::H:=by
 cases A with
 |none=>
  have hl:l=[]:=by
   cases l with
   |nil=>rfl
   |cons x l=>
    exact zc46
  subst hl
  refine Ya Tryz.func131 Tryz.ntmps131 rfl rfl hw ?_
  refine zX6 ?_
  apply ZQ 127 1;exact zc59
 |some a=>
  refine Ya Tryz.func131 Tryz.ntmps131 rfl rfl hw ?_
  repeat'(first|(apply Js;(iterate 3 exact rfl))|(apply YK T;exact rfl;exact rfl;intro g2)|refine zgb ?_|fail)
  apply Xt T (f:=rowF) (l2:=l) (e:=127) (size:=1) (xs:=[]);(iterate 3 exact rfl);exact hr.cons;exact(λ_=>rfl);exact(λ_=>rfl);exact rfl;(intro _ _;exact zd);omega;intro A' cap'
  exact zc41
theorem YcK(l:List Lk)(hlen:l.length<=1000)(hr:Rd B w0 H A (l.flatMap lkF))(hw:St B w0 H w):
 CX B w0 128 [.slice A l.length cap] w λv K=>∃A' cap',v=.slice A' l.length cap'/\K=sl 164 3 A' l.length cap' (l.flatMap lkF)::H:=by
 cases A with
 |none=>
  have hl:l=[]:=by
   cases l with
   |nil=>rfl
   |cons x l=>
    exact zc46
  subst hl
  refine Ya Tryz.func128 Tryz.ntmps128 rfl rfl hw ?_
  refine zX6 ?_
  apply ZQ 164 3;exact zc59
 |some a=>
  refine Ya Tryz.func128 Tryz.ntmps128 rfl rfl hw ?_
  repeat'(first|(apply Js;(iterate 3 exact rfl))|(apply YK T;exact rfl;exact rfl;intro g2)|refine zgb ?_|fail)
  apply Xt T (f:=lkF) (l2:=l) (e:=164) (size:=3) (xs:=[]);(iterate 3 exact rfl);exact hr.cons;exact(λ_=>rfl);exact(λ_=>rfl);exact rfl;(intro _ _;exact zd);omega;intro A' cap'
  exact zc41
structure PnM where
 n:NetM
 qA:Option Addr
 qcap:Nat
 q:List RqM
 s:SchM
 cA:Option Addr
 ccap:Nat
 c:List ClM
 fA:Option Addr
 fcap:Nat
 f:List Int
def PnM.val(p:PnM):Value:=.agg #[.int .i64 p.n.nodes,.slice p.n.pA p.n.rows.length p.n.pcap,.int .i64 p.n.noise,.int .i64 p.n.thr,.slice p.n.lA p.n.links.length p.n.lcap,.slice p.n.mA p.n.margin.length p.n.mcap,.slice p.qA p.q.length p.qcap,.int .i64 p.s.len,.int .i64 p.s.off,.slice p.s.A p.s.cells.length p.s.cap,.slice p.cA p.c.length p.ccap,.slice p.fA p.f.length p.fcap]
def PnM.pln(p:PnM):Pln:=⟨p.n.net,p.q.map RqM.rq,p.s.sch,p.c.map ClM.clm,p.f⟩
structure PnM.In(B:Nat)(w0:World)(H:List HP)(p:PnM):Prop where
 n:p.n.In B w0 H
 q:QIn B w0 H p.qA p.q
 s:Rd B w0 H p.s.A (p.s.cells.flatMap celF)
 sl:p.s.cells.length<=1000000000000
 c:CIn B w0 H p.cA p.c
 f:Rd B w0 H p.fA (p.f.flatMap numF)
 fl:p.f.length<=1000000000000
variable {p:PnM}
theorem PnM.In.mono{H':List HP}(h:p.In B w0 H)(hH:∀w,St B w0 H' w->St B w0 H w):p.In B w0 H':=⟨h.n.mono hH,h.q.mono hH,h.s.mono hH,h.sl,h.c.mono hH,h.f.mono hH,h.fl⟩
theorem PnM.In.cons{X:HP}(h:p.In B w0 H):p.In B w0 (X::H):=h.mono λ_ hw=>hw.tail
def zeroPnV:Value:=.agg #[.int .i64 0,.slice none 0 0,.int .i64 0,.int .i64 0,.slice none 0 0,.slice none 0 0,.slice none 0 0,.int .i64 0,.int .i64 0,.slice none 0 0,.slice none 0 0,.slice none 0 0]
def Yli(B:Nat)(w0:World)(H:List HP)(R:Option Pln×Int)(v:Value)(K:List HP):Prop:=
 (R.1=none/\v=.tuple #[zeroPnV,.int .i64 R.2]/\K=H)\/∃(p:PnM) (X:List HP),R.1=some p.pln/\v=.tuple #[p.val,.int .i64 R.2]/\p.In B w0 [many X]/\K=many X::H
def YvE(B:Nat)(w0:World)(H:List HP)(s:SchM)(R:Option Pln×Int)(v:Value)(K:List HP):Prop:=
 (R.1=none/\v=.tuple #[zeroPnV,.int .i64 R.2]/\K=H)\/∃(p:PnM) (X:List HP),R.1=some p.pln/\v=.tuple #[p.val,.int .i64 R.2]/\(∀H',Rd B w0 H' s.A (s.cells.flatMap celF)->p.In B w0 (many X::H'))/\K=many X::H
structure RwsM where
 i:Nat
 R:List RowM
structure RqsM where
 i:Nat
 Q:List RqM
variable {i:Nat}
theorem Ymd{l:List RowM}{r:RowM}{A:Option Addr}{cap:Nat}(h:l[i]? =some r):(l.set i ⟨A,cap,r.xs⟩).map (·.xs)=l.map (·.xs):=by
 apply Si
 grind
variable {α:Type}
theorem take_set{l:List α}{a:α}(h:i<l.length):(l.set i a).take (i+1)=l.take i++[a]:=by
 simp_all [List.take_add_one,List.take_set_of_le]
theorem YcX{l m:List α}{a:α}(h:l.drop i=m.drop i):(l.set i a).drop (i+1)=m.drop (i+1):=by
 rw[List.drop_set_of_lt (by omega),<-Nc,<-Nc,h]
theorem Yga{l m:List α}{a:α}(h:l.drop i=m.drop i)(hm:m[i]? =some a):l[i]? =some a:=by
 have e1:(l.drop i)[0]? =(m.drop i)[0]? :=by rw[h]
 grind
theorem Uw(b:BuM)(g:Nat){B:Nat}{w0:World}{H:List HP}{w:World}(ht:TabsB B w0)(hin:b.n.In B w0 H)(hq:QIn B w0 H b.qA b.q)(hrs:Rd B w0 H b.s.A (b.s.cells.flatMap celF))(hsl:b.s.cells.length<=1000000000000)(hw:St B w0 (bldA g b::H) w):
 CX B w0 47 [.pointer (some ⟨g,0,none⟩)] w (YvE B w0 H b.s (finE b.n.net (b.q.map RqM.rq) b.s.sch b.e)):=by
 refine Ya Tryz.func47 Tryz.ntmps47 rfl rfl hw ?_
 obtain⟨n,qA,qcap,q,s,cA,ccap,c,fA,fcap,f,e⟩:=b
 dsimp only at hin hq hrs hsl⊢
 have hop:∀w,St B w0 [many H] w->St B w0 H w:=λw hw=>hw.perm (.openT H)
 have hin0:=hin
 have hq0:=hq
 have hin:=hin.mono hop
 have hq:=hq.mono hop
 have hrs:=hrs.mono hop
 have p1:=λ{H':List HP}{w:World}(hin:n.In B w0 H') (hq:QIn B w0 H' qA q) (hrs:Rd B w0 H' s.A (s.cells.flatMap celF)) (hw:St B w0 H' w)=>UY n q s (cap:=qcap) ht hin hq hrs hsl hw
 have p2:=λ{H':List HP}{w:World}(hrs:Rd B w0 H' s.A (s.cells.flatMap celF)) (hw:St B w0 H' w)=>YeV s ht hrs hsl hw
 unfold OutC NetM.val SchM.val at p1
 unfold SchM.val at p2
 refine Y6 (bldA g ⟨n,qA,qcap,q,s,cA,ccap,c,fA,fcap,f,e⟩::[many H]) (λw hw=>hw.perm (.cons _ (.closeT H))) ?_
 dsimp only[bldA]
 unfold finE Ygl
 by_cases he:e=0
 rotate_left
 ·rw[Tn he,Tn he]
  refine YtR ?_<;>intros
  apply YA [0,1,2,3,4,5,6] [] [false,true,true]
  kernel_rfl
  kernel_rfl
  exact zy
  (simp only[Yc,nthO];rfl)
  exact rfl
  refine Yju ?_
  apply Yy T (H2:=H);(iterate 3 exact rfl);(focus exact zc2);exact rfl;exact rfl
  ·intro w hw
   have h5:St B w0 [many H] w:=by
    revert w
    exact zc0
   exact hop w h5
  exact .inl ⟨rfl,rfl,rfl⟩
 subst he
 rw[Tj (show¬(0:Int)≠0 fromλe=>e rfl)]
 obtain⟨⟨RC,ri,re⟩,hR⟩:∃R,YJ n.net (q.map RqM.rq) s.sch=R:=⟨_,rfl⟩
 obtain⟨⟨RF,fe⟩,hRF⟩:∃R,XP s.sch=R:=⟨_,rfl⟩
 rw[hR]at p1⊢
 rw[hRF]at p2⊢
 dsimp only at p1 p2⊢
 have p3:=λ(b:BuM) (e:Int) {H':List HP}{w:World}(hw:St B w0 (bldA g b::H') w)=>Uk b g e hw
 unfold BuM.fail at p3
 refine YtR ?_<;>intros
 rename_i g2 _
 apply UB [0,1,2,3,4,5,6,7,8,9,10,11,12,13,14,15,16,17,19,20,18,21,22,23] [0,19,20,24,25] [24,25] [true,true,true]
 kernel_rfl
 kernel_rfl
 exact zy
 (simp only[Yc,nthO];rfl)
 (simp only[Yc,nthO];rfl)
 refine Ue ?_
 apply Yg _ en90
 exact za
 exact rfl
 exactλ_ hw=>(p1 (hin.mono zc0) (hq.mono zc0) (hrs.mono zc0) (hw))
 rintro _ _ ⟨A2,c2,C,rfl,hC,hCl,rfl⟩
 refine Yju ?_
 apply XD [bldA g ⟨n,qA,qcap,q,s,A2,c2,C,fA,fcap,f,0⟩] _ en45
 exact za
 try exact zl
 exact zp
 exact rfl
 exactλ_ hw=>(p3 ⟨n,qA,qcap,q,s,A2,c2,C,fA,fcap,f,0⟩ re hw)
 rintro _ _ ⟨rfl,rfl⟩
 rw[show XN (BuM.e ⟨n,qA,qcap,q,s,A2,c2,C,fA,fcap,f,0⟩) re=re from Tn rfl]
 dsimp only[bldA]
 refine Ue ?_
 apply Yg _ en92
 exact za
 exact rfl
 exactλ_ hw=>(p2 (hrs.mono zc0) (hw))
 rintro _ _ ⟨A3,rfl,rfl⟩
 refine Ue ?_
 apply XD [bldA g ⟨n,qA,qcap,q,s,A2,c2,C,A3,RF.length,RF,re⟩] _ en45
 exact za
 try exact zl
 exact zp
 exact rfl
 exactλ_ hw=>(p3 ⟨n,qA,qcap,q,s,A2,c2,C,A3,RF.length,RF,re⟩ fe hw)
 rintro _ _ ⟨rfl,rfl⟩
 obtain⟨fin,hfin⟩:∃fin,XN re fe=fin:=⟨_,rfl⟩
 dsimp only[bldA]
 rw[hfin]
 by_cases hE:fin=0
 rotate_left
 ·rw[Tn hE]
  refine zX72 ?_<;>intros
  apply YA [0,1,2,3,4,5,6] [] [true]
  kernel_rfl
  kernel_rfl
  exact zy
  (simp only[Yc,nthO];rfl)
  exact rfl
  refine Yju ?_
  apply Yy T (H2:=H);(iterate 3 exact rfl);(focus exact zc2);exact rfl;exact rfl
  ·intro w hw
   have h5:St B w0 [many H] w:=by
    revert w
    exact zc0
   exact hop w h5
  exact .inl ⟨rfl,rfl,rfl⟩
 subst hE
 rw[Tj (show¬(0:Int)≠0 fromλe=>e rfl)]
 have hre:re=0/\fe=0:=by
  unfold XN at hfin
  split at hfin
  ·exact⟨by assumption,hfin⟩
  ·exact absurd hfin (by assumption)
 obtain⟨rfl,rfl⟩:=hre
 have hce:(YJ n.net (q.map RqM.rq) s.sch).2.2=0:=by rw[hR]
 have hrq:(rqsE n.net (q.map RqM.rq)).2=0:=Rw.1 λh1=>by
  unfold YJ at hce;rw[Tn h1]at hce;exact h1 hce
 obtain⟨hck,-,hrt⟩:=UA hrq
 have hql:q.length<=16:=(YkX hrq).1
 have hok:=YO hck
 have hrowl:n.rows.length<=32:=by
  have h1:=hok.p0;have h2:=hok.n1
  have h3:n.net.power.length=n.rows.length:=by simp[NetM.net]
  omega
 have hrow1:∀r∈n.rows,r.xs.length<=32:=λr hr=>by
  have h1:=hok.p1 r.xs (by show r.xs∈n.rows.map (·.xs);exact TD.2 ⟨r,hr,rfl⟩)
  have h2:=hok.n1
  omega
 have hlk:n.links.length<=128:=hok.k0
 have hmg:n.margin.length<=128:=by
  have h1:n.margin.length=n.links.length:=hok.k1
  omega
 have hqx:∀x∈q,x.rows.length<=2/\∀r∈x.rows,r.xs.length<=9:=λx hx=>by
  have h1:=hrt x.rq (TD.2 ⟨x,hx,rfl⟩)
  refine⟨?_,λr hr=>?_⟩
  ·have h2:=Yan h1
   have h4:x.rq.2.length=x.rows.length:=To _
   omega
  ·exact(JV (J2 h1 r.xs (TD.2 ⟨r,hr,rfl⟩))).2.1.2
 have hCn:C.length<=1000000000000:=by
  have h1:=TF List.length hC
  have h2:=TF (λz=>z.1.length) hR
  dsimp only at h1 h2
  rw[Ylz hce]at h2
  simp only[To]at h1 h2
  omega
 have hFn:RF.length<=1000000000000:=by
  have h2:=TF (λz=>z.1.length) hRF
  dsimp only at h2
  unfold XP at h2
  split at h2
  ·exact Yq1
  ·unfold JP at h2
   rw[Jx,TS]at h2
   have h3:=(Vb.1 (Jh.1 (Z7.1 hce).1)).frm.sized
   exact YuJ
 refine zX72 ?_<;>intros
 clear p1 p2 p3
 have hinM:∀{H':List HP},many H∈H'->n.In B w0 H':=λhm=>hin0.mono λw hw=>hw.inM hm
 have hqM:∀{H':List HP},many H∈H'->QIn B w0 H' qA q:=λhm=>hq0.mono λw hw=>hw.inM hm
 apply UB [1,0,2,3,4,5,6,7,9,10,11,12,13,14,8,15,16,17,18,19] [1,20,21,22,23,24,25] [20,21,22,23,24,25] [true,true,true,true,true,true]
 kernel_rfl
 kernel_rfl
 exact zy
 (simp only[Yc,nthO];rfl)
 (simp only[Yc,nthO];rfl)
 refine Ue ?_
 apply Yg _ YvQ
 exact za
 exact rfl
 exactλ_ hw=>(YcK n.links (by omega) (hinM (by(focus exact zc2))).lk (hw))
 rintro _ _ ⟨lA,lcap,rfl,rfl⟩
 refine Yju ?_
 apply Yg _ Ysz
 exact za
 exact rfl
 exactλ_ hw=>(WF n.margin (by omega) (hinM (by(focus exact zc2))).mg (hw))
 rintro _ _ ⟨mA,mcap,rfl,rfl⟩
 refine Yju ?_
 apply Yg _ YvR
 exact za
 exact rfl
 exactλ_ hw=>(YbR n.rows (by omega) (hinM (by(focus exact zc2))).pw (hw))
 rintro _ _ ⟨pA,pcap,rfl,rfl⟩
 refine Ue ?_
 refine Ye (λz:RwsM=>[(112,.int .i64 (z.i:Nat)),(111,.int .i64 n.rows.length),(110,.slice pA n.rows.length pcap),(0,.pointer (some ⟨g,0,none⟩)),(2,.pointer (some ⟨g2,0,none⟩)),(3,.int .i64 0)])
  (λz=>sl 24 1 pA n.rows.length pcap (z.R.flatMap rowF)::many ((z.R.take z.i).map rowQ)::blk g (.cells #[.int .i64 n.nodes,.slice pA n.rows.length pcap,.int .i64 n.noise,.int .i64 n.thr,.slice lA n.links.length lcap,.slice mA n.margin.length mcap,.slice qA q.length qcap,.int .i64 s.len,.int .i64 s.off,.slice s.A s.cells.length s.cap,.slice A2 C.length c2,.slice A3 RF.length RF.length,.int .i64 0] 80 (0,0))::sl 164 3 lA n.links.length lcap (n.links.flatMap lkF)::ints mA mcap n.margin::blk g2 (.cells zeroPnV.cells 38 (0,0))::nrs A3 RF.length RF::clsP A2 c2 C::many (C.map clQ)::[many H])
  (λz=>z.i<=n.rows.length/\z.R.length=n.rows.length/\z.R.map (·.xs)=n.rows.map (·.xs)/\z.R.drop z.i=n.rows.drop z.i) (λz=>n.rows.length-z.i) ⟨0,n.rows⟩ ⟨Td _,rfl,rfl,rfl⟩ ?_ ?_ ?_
 ·exact zc1
 ·intro w hw
  have h5:St B w0 (sl 24 1 pA n.rows.length pcap (n.rows.flatMap rowF)::blk g (.cells #[.int .i64 n.nodes,.slice pA n.rows.length pcap,.int .i64 n.noise,.int .i64 n.thr,.slice lA n.links.length lcap,.slice mA n.margin.length mcap,.slice qA q.length qcap,.int .i64 s.len,.int .i64 s.off,.slice s.A s.cells.length s.cap,.slice A2 C.length c2,.slice A3 RF.length RF.length,.int .i64 0] 80 (0,0))::sl 164 3 lA n.links.length lcap (n.links.flatMap lkF)::ints mA mcap n.margin::blk g2 (.cells zeroPnV.cells 38 (0,0))::nrs A3 RF.length RF::clsP A2 c2 C::many (C.map clQ)::[many H]) w:=by
   dsimp only[zeroPnV]
   revert w
   exact zc0
  exact YqX
 rintro⟨i,R⟩ ⟨hi,hRl,hRm,hRd⟩ K hK
 dsimp only at hi hRl hRm hRd⊢
 by_cases hlt:i<n.rows.length
 ·obtain⟨r,hr⟩:∃r,n.rows[i]? =some r:=⟨_,Ta hlt⟩
  have hrm:=Tc hr
  have hRi:=Yga hRd hr
  have hr32:=hrow1 r hrm
  refine zX72 ?_<;>intros
  apply YA [0,1,2,3,4,5,6,7,8,9] [10] [true,true,true]
  kernel_rfl
  kernel_rfl
  exact zy
  (simp only[Yc,nthO];rfl)
  (simp only[Yc,nthO];rfl)
  refine Ue ?_
  apply Yg _ Ysz
  exact za
  exact rfl
  exactλ_ hw=>(WF r.xs (by omega) ((hinM (by(focus exact zc2))).rw_ r hrm) (hw))
  rintro _ _ ⟨A',cap',rfl,rfl⟩
  repeat'(first|refine Yr T ?_|(apply XI T (f:=rowF) (l:=R) (i:=i) (a:=⟨A',cap',r.xs⟩) (e:=24) (k:=n.rows.length) (cap:=pcap);(iterate 3 exact rfl);exact zd;exact rfl;exact(λ_=>rfl);exact rfl;omega)|(apply Yh;try exact zl)|refine zgd ?_|fail)
  apply hK ⟨i+1,R.set i ⟨A',cap',r.xs⟩⟩
  ·exact⟨by exact Qf,by show(R.set i _).length=_;rw[TE,hRl],by show(R.set i _).map _=_;rw[Ymd hRi,hRm],YcX hRd⟩
  ·exact zc50
  ·exact zc1
  ·intro w hw
   dsimp only
   rw[take_set (by omega)]
   have h5:St B w0 (ints A' cap' r.xs::many ((R.take i).map rowQ)::sl 24 1 pA n.rows.length pcap ((R.set i ⟨A',cap',r.xs⟩).flatMap rowF)::blk g (.cells #[.int .i64 n.nodes,.slice pA n.rows.length pcap,.int .i64 n.noise,.int .i64 n.thr,.slice lA n.links.length lcap,.slice mA n.margin.length mcap,.slice qA q.length qcap,.int .i64 s.len,.int .i64 s.off,.slice s.A s.cells.length s.cap,.slice A2 C.length c2,.slice A3 RF.length RF.length,.int .i64 0] 80 (0,0))::sl 164 3 lA n.links.length lcap (n.links.flatMap lkF)::ints mA mcap n.margin::blk g2 (.cells zeroPnV.cells 38 (0,0))::nrs A3 RF.length RF::clsP A2 c2 C::many (C.map clQ)::[many H]) w:=by
    revert w
    exact zc0
   exact(h5.perm (VJ rowQ (R.take i) ⟨A',cap',r.xs⟩ _)).perm (.swap _ _ _)
 obtain rfl:i=n.rows.length:=by omega
 rw[<-hRl,TI,hRl]
 clear hK hRd hlt hi
 refine zX72 ?_<;>intros
 apply Yg _ en69
 exact za
 exact rfl
 exactλ_ hw=>(WX q (by omega) (hqM (by(focus exact zc2))).rd (hw))
 rintro _ _ ⟨q1A,q1c,rfl,rfl⟩
 refine Ue ?_
 refine Ye (λz:RqsM=>[(144,.int .i64 (z.i:Nat)),(143,.int .i64 q.length),(142,.slice q1A q.length q1c),(0,.pointer (some ⟨g,0,none⟩)),(2,.pointer (some ⟨g2,0,none⟩)),(3,.int .i64 0)])
  (λz=>sl 93 7 q1A q.length q1c (z.Q.flatMap rqF)::many ((z.Q.take z.i).map rqQ)::blk g (.cells #[.int .i64 n.nodes,.slice pA n.rows.length pcap,.int .i64 n.noise,.int .i64 n.thr,.slice lA n.links.length lcap,.slice mA n.margin.length mcap,.slice q1A q.length q1c,.int .i64 s.len,.int .i64 s.off,.slice s.A s.cells.length s.cap,.slice A2 C.length c2,.slice A3 RF.length RF.length,.int .i64 0] 80 (0,0))::sl 24 1 pA n.rows.length pcap (R.flatMap rowF)::many (R.map rowQ)::sl 164 3 lA n.links.length lcap (n.links.flatMap lkF)::ints mA mcap n.margin::blk g2 (.cells zeroPnV.cells 38 (0,0))::nrs A3 RF.length RF::clsP A2 c2 C::many (C.map clQ)::[many H])
  (λz=>z.i<=q.length/\z.Q.length=q.length/\z.Q.map RqM.rq=q.map RqM.rq/\z.Q.drop z.i=q.drop z.i/\∀x∈z.Q.take z.i,x.lens) (λz=>q.length-z.i) ⟨0,q⟩ ⟨Td _,rfl,rfl,rfl,(λx hx=>by cases hx)⟩ ?_ ?_ ?_
 ·exact zc1
 ·intro w hw
  have h5:St B w0 (sl 93 7 q1A q.length q1c (q.flatMap rqF)::blk g (.cells #[.int .i64 n.nodes,.slice pA n.rows.length pcap,.int .i64 n.noise,.int .i64 n.thr,.slice lA n.links.length lcap,.slice mA n.margin.length mcap,.slice q1A q.length q1c,.int .i64 s.len,.int .i64 s.off,.slice s.A s.cells.length s.cap,.slice A2 C.length c2,.slice A3 RF.length RF.length,.int .i64 0] 80 (0,0))::sl 24 1 pA n.rows.length pcap (R.flatMap rowF)::many (R.map rowQ)::sl 164 3 lA n.links.length lcap (n.links.flatMap lkF)::ints mA mcap n.margin::blk g2 (.cells zeroPnV.cells 38 (0,0))::nrs A3 RF.length RF::clsP A2 c2 C::many (C.map clQ)::[many H]) w:=by
   unfold rqs at hw
   revert w
   exact zc0
  exact YqX
 rintro⟨i,Q⟩ ⟨hi,hQl,hQm,hQd,hQs⟩ K hK
 dsimp only at hi hQl hQm hQd hQs⊢
 by_cases hlt:i<q.length
 ·obtain⟨x,hx⟩:∃x,q[i]? =some x:=⟨_,Ta hlt⟩
  have hxm:=Tc hx
  have hQi:=Yga hQd hx
  obtain⟨hx2,hx9⟩:=hqx x hxm
  refine Yjt ?_<;>intros
  rename_i g8
  apply Yg _ YvS
  exact za
  exact rfl
  exactλ_ hw=>(YcL x.rows (by omega) ((hqM (by(focus exact zc2))).x x hxm).rt (hw))
  rintro _ _ ⟨bA,bc,rfl,rfl⟩
  refine Ue ?_
  refine Ye (λz:RwsM=>[(156,.int .i64 (z.i:Nat)),(155,.int .i64 x.rows.length),(154,.slice bA x.rows.length bc),(7,.int .i64 (i:Nat)),(8,.pointer (some ⟨g8,0,none⟩)),(144,.int .i64 (i:Nat)),(143,.int .i64 q.length),(142,.slice q1A q.length q1c),(0,.pointer (some ⟨g,0,none⟩)),(2,.pointer (some ⟨g2,0,none⟩)),(3,.int .i64 0)])
   (λz=>sl 127 1 bA x.rows.length bc (z.R.flatMap rowF)::many ((z.R.take z.i).map rowQ)::blk g8 (.cells #[.int .i64 x.f.1,.int .i64 x.f.2.1,.int .i64 x.f.2.2.1,.int .i64 x.f.2.2.2.1,.int .i64 x.f.2.2.2.2.1,.int .i64 x.f.2.2.2.2.2,.slice bA x.rows.length bc] 93 (0,0))::sl 93 7 q1A q.length q1c (Q.flatMap rqF)::many ((Q.take i).map rqQ)::blk g (.cells #[.int .i64 n.nodes,.slice pA n.rows.length pcap,.int .i64 n.noise,.int .i64 n.thr,.slice lA n.links.length lcap,.slice mA n.margin.length mcap,.slice q1A q.length q1c,.int .i64 s.len,.int .i64 s.off,.slice s.A s.cells.length s.cap,.slice A2 C.length c2,.slice A3 RF.length RF.length,.int .i64 0] 80 (0,0))::sl 24 1 pA n.rows.length pcap (R.flatMap rowF)::many (R.map rowQ)::sl 164 3 lA n.links.length lcap (n.links.flatMap lkF)::ints mA mcap n.margin::blk g2 (.cells zeroPnV.cells 38 (0,0))::nrs A3 RF.length RF::clsP A2 c2 C::many (C.map clQ)::[many H])
   (λz=>z.i<=x.rows.length/\z.R.length=x.rows.length/\z.R.map (·.xs)=x.rows.map (·.xs)/\z.R.drop z.i=x.rows.drop z.i/\∀r∈z.R.take z.i,r.xs.length<=1000/\r.xs.length<=r.cap) (λz=>x.rows.length-z.i) ⟨0,x.rows⟩ ⟨Td _,rfl,rfl,rfl,(λx hx=>by cases hx)⟩ ?_ ?_ ?_
  ·exact zc1
  ·intro w hw
   have h5:St B w0 (sl 127 1 bA x.rows.length bc (x.rows.flatMap rowF)::blk g8 (.cells #[.int .i64 x.f.1,.int .i64 x.f.2.1,.int .i64 x.f.2.2.1,.int .i64 x.f.2.2.2.1,.int .i64 x.f.2.2.2.2.1,.int .i64 x.f.2.2.2.2.2,.slice bA x.rows.length bc] 93 (0,0))::sl 93 7 q1A q.length q1c (Q.flatMap rqF)::many ((Q.take i).map rqQ)::blk g (.cells #[.int .i64 n.nodes,.slice pA n.rows.length pcap,.int .i64 n.noise,.int .i64 n.thr,.slice lA n.links.length lcap,.slice mA n.margin.length mcap,.slice q1A q.length q1c,.int .i64 s.len,.int .i64 s.off,.slice s.A s.cells.length s.cap,.slice A2 C.length c2,.slice A3 RF.length RF.length,.int .i64 0] 80 (0,0))::sl 24 1 pA n.rows.length pcap (R.flatMap rowF)::many (R.map rowQ)::sl 164 3 lA n.links.length lcap (n.links.flatMap lkF)::ints mA mcap n.margin::blk g2 (.cells zeroPnV.cells 38 (0,0))::nrs A3 RF.length RF::clsP A2 c2 C::many (C.map clQ)::[many H]) w:=by
    revert w
    exact zc0
   exact YqX
  rintro⟨k,S⟩ ⟨hk,hSl,hSm,hSd,hSs⟩ K2 hK2
  dsimp only at hk hSl hSm hSd hSs⊢
  by_cases hlk2:k<x.rows.length
  ·obtain⟨r,hr⟩:∃r,x.rows[k]? =some r:=⟨_,Ta hlk2⟩
   have hrm:=Tc hr
   have hRi:=Yga hSd hr
   have hr9:=hx9 r hrm
   clear hK hQi
   refine zX72 ?_<;>intros
   apply YA [0,1,2,3,4,5] [6] [true,true,true]
   kernel_rfl
   kernel_rfl
   exact zy
   (simp only[Yc,nthO];rfl)
   (simp only[Yc,nthO];rfl)
   refine Ue ?_
   apply Yg _ YsA
   exact za
   exact rfl
   exactλ_ hw=>(WG r.xs (by omega) (((hqM (by(focus exact zc2))).x x hxm).rw_ r hrm) (hw))
   rintro _ _ ⟨A',cap',rfl,rfl⟩
   apply YbX (e:=3) (size:=1) (k:=r.xs.length) (cap:=cap') (A:=A') (xs:=r.xs.flatMap numF) (by(focus exact zc2))
   intro hcap
   repeat'(first|refine Yr T ?_|(apply XI T (f:=rowF) (l:=S) (i:=k) (a:=⟨A',cap',r.xs⟩) (e:=127) (k:=x.rows.length) (cap:=bc);(iterate 3 exact rfl);exact zd;exact rfl;exact(λ_=>rfl);exact rfl;omega)|(apply Yh;try exact zl)|refine zgd ?_|fail)
   apply hK2 ⟨k+1,S.set k ⟨A',cap',r.xs⟩⟩
   ·refine⟨by show k+1<=_;omega,by show(S.set k _).length=_;rw[TE,hSl],by show(S.set k _).map _=_;rw[Ymd hRi,hSm],YcX hSd,λy hy=>?_⟩
    dsimp only at hy
    rw[take_set (by omega)]at hy
    rcases Rl.1 hy with hy|hy
    ·exact hSs y hy
    ·rw[Ru.1 hy]
     exact⟨by show r.xs.length<=_;omega,hcap⟩
   ·exact zc50
   ·exact zc1
   ·intro w hw
    dsimp only
    rw[take_set (by omega)]
    have h5:St B w0 (ints A' cap' r.xs::many ((S.take k).map rowQ)::sl 127 1 bA x.rows.length bc ((S.set k ⟨A',cap',r.xs⟩).flatMap rowF)::blk g8 (.cells #[.int .i64 x.f.1,.int .i64 x.f.2.1,.int .i64 x.f.2.2.1,.int .i64 x.f.2.2.2.1,.int .i64 x.f.2.2.2.2.1,.int .i64 x.f.2.2.2.2.2,.slice bA x.rows.length bc] 93 (0,0))::sl 93 7 q1A q.length q1c (Q.flatMap rqF)::many ((Q.take i).map rqQ)::blk g (.cells #[.int .i64 n.nodes,.slice pA n.rows.length pcap,.int .i64 n.noise,.int .i64 n.thr,.slice lA n.links.length lcap,.slice mA n.margin.length mcap,.slice q1A q.length q1c,.int .i64 s.len,.int .i64 s.off,.slice s.A s.cells.length s.cap,.slice A2 C.length c2,.slice A3 RF.length RF.length,.int .i64 0] 80 (0,0))::sl 24 1 pA n.rows.length pcap (R.flatMap rowF)::many (R.map rowQ)::sl 164 3 lA n.links.length lcap (n.links.flatMap lkF)::ints mA mcap n.margin::blk g2 (.cells zeroPnV.cells 38 (0,0))::nrs A3 RF.length RF::clsP A2 c2 C::many (C.map clQ)::[many H]) w:=by
     revert w
     exact zc0
    exact(h5.perm (VJ rowQ (S.take k) ⟨A',cap',r.xs⟩ _)).perm (.swap _ _ _)
  obtain rfl:k=x.rows.length:=by omega
  have hSt:S.take x.rows.length=S:=by rw[<-hSl,TI]
  rw[hSt]at hSs⊢
  clear hK2 hSd hlk2 hk
  have hrqv:rqF ⟨x.f,bA,bc,S⟩=[.int .i64 x.f.1,.int .i64 x.f.2.1,.int .i64 x.f.2.2.1,.int .i64 x.f.2.2.2.1,.int .i64 x.f.2.2.2.2.1,.int .i64 x.f.2.2.2.2.2,.slice bA x.rows.length bc]:=by
   unfold rqF;rw[hSl]
  refine Yel ?_<;>intros
  apply YA [0,1,2,3,4,5,6,7] [8] [true,true,true,true,true,true]
  kernel_rfl
  kernel_rfl
  exact zy
  (simp only[Yc,nthO];rfl)
  (simp only[Yc,nthO];rfl)
  repeat'(first|refine Yr T ?_|(apply ZD T (f:=rqF) (l:=Q) (i:=i) (a:=⟨x.f,bA,bc,S⟩);exact rfl;exact rfl;exact hrqv;exact zd;exactλ_=>rfl;(iterate 3 exact rfl);omega)|refine zgd ?_|fail)
  apply hK ⟨i+1,Q.set i ⟨x.f,bA,bc,S⟩⟩
  ·refine⟨by exact Qf,by show(Q.set i _).length=_;rw[TE,hQl],?_,YcX hQd,λy hy=>?_⟩
   ·show(Q.set i _).map RqM.rq=_
    rw[<-hQm]
    apply Si
    intro j
    rw[TN,TN]
    by_cases hj:i=j
    ·subst hj
     rw[SU (by omega),hQi]
     show some (RqM.rq ⟨x.f,bA,bc,S⟩)=some x.rq
     unfold RqM.rq
     dsimp only
     rw[hSm]
    ·rw[Nu hj]
   ·dsimp only at hy
    rw[take_set (by omega)]at hy
    rcases Rl.1 hy with hy|hy
    ·exact hQs y hy
    ·rw[Ru.1 hy]
     exact⟨by show S.length<=_;omega,hSs⟩
  ·exact zc50
  ·exact zc1
  ·intro w hw
   dsimp only
   rw[take_set (by omega)]
   have h5:St B w0 (sl 127 1 bA x.rows.length bc (S.flatMap rowF)::many (S.map rowQ)::many ((Q.take i).map rqQ)::sl 93 7 q1A q.length q1c ((Q.set i ⟨x.f,bA,bc,S⟩).flatMap rqF)::blk g (.cells #[.int .i64 n.nodes,.slice pA n.rows.length pcap,.int .i64 n.noise,.int .i64 n.thr,.slice lA n.links.length lcap,.slice mA n.margin.length mcap,.slice q1A q.length q1c,.int .i64 s.len,.int .i64 s.off,.slice s.A s.cells.length s.cap,.slice A2 C.length c2,.slice A3 RF.length RF.length,.int .i64 0] 80 (0,0))::sl 24 1 pA n.rows.length pcap (R.flatMap rowF)::many (R.map rowQ)::sl 164 3 lA n.links.length lcap (n.links.flatMap lkF)::ints mA mcap n.margin::blk g2 (.cells zeroPnV.cells 38 (0,0))::nrs A3 RF.length RF::clsP A2 c2 C::many (C.map clQ)::[many H]) w:=by
    revert w
    exact zc0
   rw[<-hSl]at h5
   have h6:=h5.perm (.close [_,_] _)
   exact(h6.perm (YdB (Q.take i) ⟨x.f,bA,bc,S⟩ _)).perm (.swap _ _ _)
 obtain rfl:i=q.length:=by omega
 have hQt:Q.take q.length=Q:=by rw[<-hQl,TI]
 rw[hQt]at hQs⊢
 clear hK hQd hlt hi
 refine zX72 ?_<;>intros
 apply Yy T (H2:=many [sl 93 7 q1A Q.length q1c (Q.flatMap rqF),many (Q.map rqQ),sl 24 1 pA R.length pcap (R.flatMap rowF),many (R.map rowQ),sl 164 3 lA n.links.length lcap (n.links.flatMap lkF),ints mA mcap n.margin,nrs A3 RF.length RF,clsP A2 c2 C,many (C.map clQ)]::H);(iterate 3 exact rfl);(focus exact zc2);exact rfl;exact rfl
 ·intro w hw
  have h5:St B w0 (sl 93 7 q1A q.length q1c (Q.flatMap rqF)::many (Q.map rqQ)::sl 24 1 pA n.rows.length pcap (R.flatMap rowF)::many (R.map rowQ)::sl 164 3 lA n.links.length lcap (n.links.flatMap lkF)::ints mA mcap n.margin::nrs A3 RF.length RF::clsP A2 c2 C::many (C.map clQ)::[many H]) w:=by
   revert w
   exact zc0
  rw[<-hQl,<-hRl]at h5
  exact(h5.perm (.close [_,_,_,_,_,_,_,_,_] _)).perm (.cons _ (.openT H))
 have hC:C.map ClM.clm=RC:=hC
 refine .inr ⟨⟨⟨n.nodes,pA,pcap,R,n.noise,n.thr,lA,lcap,n.links,mA,mcap,n.margin⟩,q1A,q1c,Q,s,A2,c2,C,A3,RF.length,RF⟩,_,?_,?_,λH' hrs'=>?_,rfl⟩
 ·show some (Pln.mk n.net (q.map RqM.rq) s.sch RC RF)=some (Pln.mk ⟨n.nodes,R.map (·.xs),n.noise,n.thr,n.links,n.margin⟩ (Q.map RqM.rq) s.sch (C.map ClM.clm) RF)
  rw[hRm,hQm,hC];rfl
 ·unfold PnM.val
  dsimp only
  rw[hRl,hQl]
 ·have hb:∀{L:List HP}(w:World),St B w0 (many L::H') w->St B w0 L w:=λw hw=>hw.inM (.head _)
  refine⟨⟨Rd.mono (.sl (.tail _ (.tail _ (.head _)))) hb,λr hr=>Rd.mono (Rd.many (L:=R.map rowQ) (.tail _ (.tail _ (.tail _ (.head _)))) (RJ hr)) hb,Rd.mono (.sl (.tail _ (.tail _ (.tail _ (.tail _ (.head _)))))) hb,Rd.mono (.sl (.tail _ (.tail _ (.tail _ (.tail _ (.tail _ (.head _))))))) hb,by show R.length<=_;omega,λr hr=>?_,by show n.links.length<=_;omega,by show n.margin.length<=_;omega⟩,
   ⟨Rd.mono (.sl (.head _)) hb,λx hx=>RqM.In.mono (Yma (q:=Q) (.tail _ (.head _)) hx (hQs x hx)) hb,by show Q.length<=_;omega⟩,hrs'.cons,hsl,
   ⟨Rd.mono (.sl (.tail _ (.tail _ (.tail _ (.tail _ (.tail _ (.tail _ (.tail _ (.head _))))))))) hb,λx hx=>ClM.In.mono (YgE (C:=C) (.tail _ (.tail _ (.tail _ (.tail _ (.tail _ (.tail _ (.tail _ (.tail _ (.head _))))))))) hx (hCl x hx)) hb,hCn⟩,
   Rd.mono (.sl (.tail _ (.tail _ (.tail _ (.tail _ (.tail _ (.tail _ (.head _)))))))) hb,hFn⟩
  have h1:r.xs∈n.rows.map (·.xs):=by rw[<-hRm];exact TD.2 ⟨r,hr,rfl⟩
  obtain⟨r2,h2,h3⟩:=TD.1 h1
  have h4:=hrow1 r2 h2
  have h3:r2.xs=r.xs:=h3
  rw[h3]at h4
  omega
theorem YqE(es:Zm)(k k':KL)(v:Value)(b:Nat):vget (es++[(k,v,b)]) k'=match vget es k' with|some u=>some u|none=>if k=k' then some v else none:=by
 unfold vget
 grind
structure CSet(es:Zm)(p:Cel->Bool):Prop where
 len:∀e∈es,e.1.length=5
 val:∀e∈es,e.2.1=.bool true
 mem:∀c,vget es (nums c)=if p c=true then some (.bool true)else none
theorem CSet.nil:CSet [] λ_=>false:=⟨(λe h=>by cases h),(λe h=>by cases h),λc=>rfl⟩
section
variable {n:Shp}{B d:Nat}{w0:World}{ops:Array Oper}{Q:Exit->Act->World->Prop}{rest:List Oper}{env:Env}{H:List HP}{ty:TypeId}{pos:String}{after:Array Edge}
theorem Yra{es:Zm}{clock g:Nat}{p p':Cel->Bool}(c:Cel)(hS:CSet es p)(hp:∀x,p' x=(p x||decide (c=x))){x y u:Operand}{K:Zm->Nat->List HP}(hx:evo env x=some (.map (some g)))(hy:evo env y=some (kv (nums c)))(hv:evo env u=some (.bool true))
 (hu:∀es' cl',Upd (blk g (vobj es clock)) (blk g (vobj es' cl')) H (K es' cl')) (h:∀es' cl',CSet es' p'->VL Tryz.prog none n B w0 ops Q rest env (K es' cl')):
 VL Tryz.prog none n B w0 ops Q (⟨none,.mapUpdate 245 x y u,ty,pos,after,none⟩::rest) env H:=by
 by_cases hc:p c=true
 ·have hg:=hS.mem c
  rw[Tn hc]at hg
  obtain⟨l1,b,l2,e,hn⟩:=Yeg hg
  subst e
  refine YjN (kt:=162) (et:=4) (N:=5) (nums c) hx hy hv (by kernel_rfl) rfl (λe he=>hS.len e (List.mem_append_left _ he)) (hu _ clock) hn ?_
  refine h _ _ ⟨hS.len,hS.val,λx=>?_⟩
  rw[hS.mem x,hp]
  grind
 ·have hg:=hS.mem c
  rw[Tj hc]at hg
  refine YjM (kt:=162) (et:=4) (N:=5) (nums c) hx hy hv (by kernel_rfl) rfl hS.len (hu _ _) hg ?_
  refine h _ _ ⟨λe he=>?_,λe he=>?_,λx=>?_⟩
  ·rcases Rl.1 he with he|he
   ·exact hS.len e he
   ·rw[Ru.1 he];rfl
  ·rcases Rl.1 he with he|he
   ·exact hS.val e he
   simp_all
  ·rw[YqE,hS.mem x,hp]
   by_cases hx2:c=x
   all_goals grind [YiB]
end
def usR(n:Net)(s:Sch)(f:Flw)(r:List Int)(i:Nat)(c:Cel):Bool:=(List.range i).any λt=>decide (f.2.2.2.2.1+t*f.2.2.2.1<s.len)&&(runP s.len (XT s f.1) (f.2.2.2.2.1+t*f.2.2.2.1+f.2.2.2.1) (Yp n r) (f.2.2.2.2.1+t*f.2.2.2.1)).any λp=>decide (p.1=c)
variable {n:Net}{s:Sch}{f:Flw}{r:List Int}{i:Nat}
theorem Yso(h:f.2.2.2.2.1+i*f.2.2.2.1<s.len)(c:Cel):usR n s f r (i+1) c=(usR n s f r i c||(runP s.len (XT s f.1) (f.2.2.2.2.1+i*f.2.2.2.1+f.2.2.2.1) (Yp n r) (f.2.2.2.2.1+i*f.2.2.2.1)).any λp=>decide (p.1=c)):=by
 simp_all [usR,List.range_succ]
theorem Ysn(h:¬f.2.2.2.2.1+i*f.2.2.2.1<s.len)(hp:1<=f.2.2.2.1)(_h0:0<=f.2.2.2.2.1)(hi:i<=s.len.toNat)(c:Cel):Ow n s f r c=usR n s f r i c:=by
 have key:∀k,usR n s f r (i+k) c=usR n s f r i c:=by
  intro k
  induction k with
  |zero=>rfl
  |succ k ih=>
   rw[<-ih]
   unfold usR
   rw[show i+(k+1)=i+k+1 from rfl,Rq,S7]
   have h2:¬f.2.2.2.2.1+(i+k:Nat)*f.2.2.2.1<s.len:=by
    have:(i:Int)*f.2.2.2.1<=((i+k:Nat):Int)*f.2.2.2.1:=RZ (by omega) (by omega)
    omega
   simp_all [decide_eq_false]
 have:=key (s.len.toNat-i)
 rw[show i+(s.len.toNat-i)=s.len.toNat by omega]at this
 exact this
theorem Yky(c:Cel)(p:Cel->Bool)(gp gm:Nat)(es:Zm)(clock:Nat)(hS:CSet es p){B:Nat}{w0:World}{H:List HP}{w:World}(h1:blk gp (.cells #[.map (some gm)] 245 (0,0))∈H)(h2:blk gm (vobj es clock)∈H)(hw:St B w0 H w):
 CX B w0 218 [celV c,.pointer (some ⟨gp,0,none⟩)] w λv K=>v=.bool (!(p c))/\K=H:=by
 refine Ya Tryz.func218 Tryz.ntmps218 rfl rfl hw ?_
 have hz:∀w,(zeroValue 4).run Tryz.prog w=.ok (.bool false) w:=λw=>by kernel_rfl
 have hm:=hS.mem c
 have hl:=hS.len
 cases hpc:p c with
 |true=>
  rw[hpc,Tn rfl]at hm
  repeat'(first|(apply Ybe (kt:=162) (et:=4) (N:=5) (nums c) (v:=.bool true);exact rfl;exact rfl;exact(by simp only[RA];exact .inr h2);kernel_rfl;exact rfl;exact hl;exact rfl;exact .inl hm)|refine zgc ?_|(refine zgh ?_;intro _)|fail)
  apply Yf H
  ·exact zc0
  exact zc10
 |false=>
  rw[hpc,Tj (by decide)]at hm
  repeat'(first|(apply Ybe (kt:=162) (et:=4) (N:=5) (nums c) (v:=.bool false);exact rfl;exact rfl;exact(by simp only[RA];exact .inr h2);kernel_rfl;exact rfl;exact hl;exact rfl;exact .inr ⟨hm,hz⟩)|refine zgd ?_|(refine zgh ?_;intro _)|fail)
  apply Yf H
  ·exact zc0
  exact zc10
structure NdM where
 k:Nat
 i:Nat
 es:Zm
 cl:Nat
 Ds:List Nat
theorem Ykz(n:NetM)(s:SchM)(f:Flw)(l:List RowM)(h1:1<=l.length/\l.length<=1000)(hok:∀r∈l,(Y1 n.net s.sch f r.xs).2=0){A:Option Addr}{cap B:Nat}{w0:World}{H:List HP}{w:World}(ht:TabsB B w0)(hin:n.In B w0 H)(hrs:Rd B w0 H s.A (s.cells.flatMap celF))(hsl:s.cells.length<=1000000000000)(hrt:Rd B w0 H A (l.flatMap rowF))(hrw:∀r∈l,Rd B w0 H r.A (r.xs.flatMap numF))(hrl:∀r∈l,r.xs.length<=1000000000000/\r.xs.length<=r.cap)(hw:St B w0 H w):
 CX B w0 124 [n.val,s.val,flwV f,.slice A l.length cap] w λv K=>∃A' cap',v=.tuple #[.slice A' (s.cells.filter (Yav n.net s.sch (f,l.map (·.xs)))).length cap',.int .i64 0]/\K=cels A' cap' (s.cells.filter (Yav n.net s.sch (f,l.map (·.xs))))::H:=by
 refine Zr Tryz.func124 Tryz.ntmps124 rfl rfl hw ?_
 have hop:∀w,St B w0 [many H] w->St B w0 H w:=λw hw=>hw.perm (.openT H)
 have hwi:∀r∈l,(WayM.mk n s f r.A r.cap r.xs).In B w0 [many H]:=λr hr=>WayM.In.mono (H:=H) ⟨hin,hrs,hrw r hr,hsl,(hrl r hr).1,(hrl r hr).2⟩ hop
 have hrs:=hrs.mono hop
 have hrt:=hrt.mono hop
 have hWok:∀r∈l,Ve (WayM.mk n s f r.A r.cap r.xs):=λr hr=>Ycd (YdS (hok r hr)).1
 obtain⟨r0,hr0⟩:∃r0,l[0]? =some r0:=⟨_,Ta (by omega)⟩
 have hW0:=hWok r0 (Tc hr0)
 have hper:1<=f.2.2.2.1/\f.2.2.2.1<=512:=hW0.per
 have hph:0<=f.2.2.2.2.1/\f.2.2.2.2.1<f.2.2.2.1:=hW0.ph
 have hlen:1<=s.len/\s.len<=512:=hW0.slen
 have hfew:s.cells.length<=512:=hW0.few
 have p1:=λ(r:RowM) {H':List HP}{w:World}(hi:(WayM.mk n s f r.A r.cap r.xs).In B w0 H') (hw:St B w0 H' w)=>YdT ⟨n,s,f,r.A,r.cap,r.xs⟩ ht hi hw
 have p2:=λ(r:RowM) (a:Int) {H':List HP}{w:World}(hw:St B w0 H' w)=>Ybh ⟨n,s,f,r.A,r.cap,r.xs⟩ a (B:=B) (w0:=w0) (H:=H') (w:=w) hw
 unfold NetM.val SchM.val flwV at p1
 unfold WayM.val intB at p2
 dsimp only at p1 p2
 unfold NetM.val SchM.val flwV
 refine Y6 [many H] (λw hw=>hw.perm (.closeT H)) ?_
 repeat'(first|(apply Yhc;exact rfl;intro _)|refine zgd ?_|(refine zgf ?_ ?_<;>intro _<;>try exact zo)|(refine zgh ?_;intro _)|fail)
 rename_i g4 g5 g6 _ gm g10
 refine Yg3 (λz:NdM=>z.Ds.map mkD++[]) (λz:NdM=>[(26,.int .i64 (z.k:Nat)),(25,.int .i64 l.length),(24,.slice A l.length cap),(10,.pointer (some ⟨g10,0,none⟩)),(6,.pointer (some ⟨g6,0,none⟩)),(5,.pointer (some ⟨g5,0,none⟩)),(4,.pointer (some ⟨g4,0,none⟩))])
  (λz=>blk g10 (.cells #[.map (some gm)] 245 (0,0))::blk gm (vobj z.es z.cl)::flwB g6 f::schA g5 s::netA g4 n::many (z.Ds.map mkB)::[many H])
  (λz=>z.k<=l.length/\CSet z.es λc=>((l.map (·.xs)).take z.k).any λr=>Ow n.net s.sch f r c) (λz=>l.length-z.k) ⟨0,0,[],0,[]⟩ ⟨Td _,CSet.nil⟩ rfl ?_ ?_ ?_
 ·exact zc1
 ·intro w hw
  have h5:St B w0 (blk g10 (.cells #[.map (some gm)] 245 (0,0))::blk gm (vobj [] 0)::flwB g6 f::schA g5 s::netA g4 n::[many H]) w:=by
   revert w
   exact zc0
  have h6:=h5.perm (.noMany _)
  clear hw h5
  have h7:St B w0 (blk g10 (.cells #[.map (some gm)] 245 (0,0))::blk gm (vobj [] 0)::flwB g6 f::schA g5 s::netA g4 n::many []::[many H]) w:=by
   revert w
   exact zc0
  exact h7
 rintro⟨k,_,es,cl,Ds⟩ ⟨hk,hS⟩ K hK
 dsimp only at hk hS⊢
 by_cases hlt:k<l.length
 rotate_left
 ·obtain rfl:k=l.length:=by omega
  clear hK
  have hS:CSet es (Yav n.net s.sch (f,l.map (·.xs))):=by
   rw[TM Yq0]at hS
   exact hS
  generalize Yav n.net s.sch (f,l.map (·.xs))=p at hS⊢
  refine zX0 ?_<;>intros
  apply Yg _ Yfa
  exact za
  exact rfl
  exactλ_ hw=>(Jv s.cells (by omega) (hrs.mono zc0) (hw))
  rintro _ _ ⟨A1,c1,rfl,rfl⟩
  repeat'(first|(apply zg29;(apply Ys;exact za;exact rfl))|fail)
  apply Yg _ YlF
  exact za
  exact rfl
  exactλ_ hw=>(Ui (λc=>!(p c)) s.cells 218 [.pointer (some ⟨g10,0,none⟩)] Ywd (by omega) (λc _ X w hw=>Yky c p g10 gm es cl hS (SG _ (by(focus exact zc2))) (SG _ (by(focus exact zc2))) hw) (hw))
  rintro _ _ ⟨rfl,rfl⟩
  have e:s.cells.filter (λc=>!!(p c))=s.cells.filter p:=Nq λc _=>Bool.not_not _
  rw[e]
  refine zX2 ?_
  apply Yhp (H':=cels A1 c1 (s.cells.filter p)::H)
  ·intro w hw
   have h5:St B w0 (many (Ds.map mkB)::cels A1 c1 (s.cells.filter p)::[many H]) w:=by
    revert w
    exact zc0
   exact(h5.perm (.cons _ (.cons _ (.openT H)))).perm (.open_ (Ds.map mkB) _)
  apply VQ_m
  apply YH;(iterate 3 exact rfl)
  exact⟨A1,c1,rfl,rfl⟩
 obtain⟨r,hr⟩:∃r,l[k]? =some r:=⟨_,Ta hlt⟩
 have hrm:=Tc hr
 have hri:=hwi r hrm
 have hWr:=hWok r hrm
 have p3:=λ{H':List HP}{w:World}(hi:(WayM.mk n s f r.A r.cap r.xs).In B w0 H') (hw:St B w0 H' w)=>p1 r hi hw
 rw[hok r hrm]at p3
 have hiter:=λ(a:Int) (ha:0<=a/\a<=1000000) {ga gw:Nat}{H':List HP}(hi:(WayM.mk n s f r.A r.cap r.xs).In B w0 H')=>QU ⟨n,s,f,r.A,r.cap,r.xs⟩ a hWr ha ga gw hi
 unfold intB YhD runW at hiter
 dsimp only at hiter
 have hst:∀c,((l.map (·.xs)).take (k+1)).any (λr=>Ow n.net s.sch f r c)=(((l.map (·.xs)).take k).any (λr=>Ow n.net s.sch f r c)||Ow n.net s.sch f r.xs c):=λc=>by
  rw[TB,TN,hr,S7]
  simp
 generalize hbp:(λc=>((l.map (·.xs)).take k).any λr=>Ow n.net s.sch f r c)=bp at hS
 have hst:∀c,((l.map (·.xs)).take (k+1)).any (λr=>Ow n.net s.sch f r c)=(bp c||Ow n.net s.sch f r.xs c):=λc=>by rw[hst,<-hbp]
 refine zX50 ?_<;>intros
 apply Yg _ YsR
 exact za
 exact rfl
 exactλ_ hw=>(p3 (hri.mono zc0) (hw))
 rintro _ _ ⟨A2,c2,rfl,rfl⟩
 refine zX46 ?_<;>intros
 rename_i g17
 refine Yg3 (λz:NdM=>z.Ds.map mkD++[]) (λz:NdM=>[(18,.int .i64 (f.2.2.2.2.1+(z.i:Int)*f.2.2.2.1)),(17,.pointer (some ⟨g17,0,none⟩)),(26,.int .i64 (k:Nat)),(25,.int .i64 l.length),(24,.slice A l.length cap),(10,.pointer (some ⟨g10,0,none⟩)),(6,.pointer (some ⟨g6,0,none⟩)),(5,.pointer (some ⟨g5,0,none⟩)),(4,.pointer (some ⟨g4,0,none⟩))])
  (λz=>blk gm (vobj z.es z.cl)::wayB g17 ⟨n,s,f,r.A,r.cap,r.xs⟩::blk g10 (.cells #[.map (some gm)] 245 (0,0))::flwB g6 f::schA g5 s::netA g4 n::many (z.Ds.map mkB)::[many H])
  (λz=>z.i<=s.len.toNat/\CSet z.es λc=>(bp c||usR n.net s.sch f r.xs z.i c)) (λz=>s.len.toNat-z.i) ⟨k,0,es,cl,Ds⟩ ⟨Td _,?_⟩ rfl ?_ ?_ ?_
 ·have:(λc=>(bp c||usR n.net s.sch f r.xs 0 c))=bp:=by
   funext c
   unfold usR
   simp
  show CSet es λc=>(bp c||usR n.net s.sch f r.xs 0 c)
  rw[this];exact hS
 ·dsimp only
  rw[show f.2.2.2.2.1+((0:Nat):Int)*f.2.2.2.1=f.2.2.2.2.1 by simp]
  exact zc1
 ·exact zc0
 rintro⟨_,i,es2,cl2,Ds2⟩ ⟨hi,hS2⟩ K2 hK2
 dsimp only at hi hS2⊢
 obtain⟨y,hy⟩:∃y:Int,f.2.2.2.2.1+(i:Int)*f.2.2.2.1=y:=⟨_,rfl⟩
 have hiy:(i:Int)<=(i:Int)*f.2.2.2.1:=by
  have:=SN hper.1 (show(0:Int)<=i by omega)
  rw[Int.mul_one]at this
  exact this
 by_cases hyl:f.2.2.2.2.1+(i:Int)*f.2.2.2.1<s.len
 rotate_left
 ·have hud:=Ysn (n:=n.net) (s:=s.sch) (f:=f) (r:=r.xs) (i:=i) hyl hper.1 hph.1 hi
  clear hK2
  rw[hy]at hyl⊢
  refine zX0 ?_<;>intros
  apply hK ⟨k+1,0,es2,cl2,Ds2⟩
  ·refine⟨by show k+1<=_;omega,?_⟩
   have:(λc=>((l.map (·.xs)).take (k+1)).any λr=>Ow n.net s.sch f r c)=λc=>(bp c||usR n.net s.sch f r.xs i c):=by
    funext c
    rw[hst,hud]
   show CSet es2 λc=>((l.map (·.xs)).take (k+1)).any λr=>Ow n.net s.sch f r c
   rw[this];exact hS2
  ·exact zc50
  ·exact zc1
  ·exact zc0
 have hus:=Yso (n:=n.net) (s:=s.sch) (f:=f) (r:=r.xs) (i:=i) hyl
 have he18:f.2.2.2.2.1+((i+1:Nat):Int)*f.2.2.2.1=y+f.2.2.2.1:=by
  rw[<-hy,Int.natCast_add,Int.add_mul]
  omega
 rw[hy]at hyl hus⊢
 have hit:=λ{ga gw:Nat}{H':List HP}(hi:(WayM.mk n s f r.A r.cap r.xs).In B w0 H')=>hiter y ⟨by omega,by omega⟩ (ga:=ga) (gw:=gw) hi
 clear hiter hK
 have hsl2:s.sch.len=s.len:=rfl
 rw[hsl2]at hus
 generalize runP s.len (XT s.sch f.1) (y+f.2.2.2.1) (Yp n.net r.xs) y=W at hus hit
 have p5:=λ{H':List HP}{w:World}(hw:St B w0 H' w)=>p2 r y hw
 refine zX1 ?_<;>intros
 apply Yg _ YsS
 exact za
 exact rfl
 exactλ_ hw=>(p5 (hw))
 rintro _ _ ⟨ga,gw,rfl,rfl⟩
 refine zX7 ?_
 refine Zt (gf:=291) (lb:=[.pointer (some ⟨ga,0,none⟩),.pointer (some ⟨gw,0,none⟩)]) (xs:=W.map cntV)
  (blk ga (.cells #[.int .i64 y] 3 (0,0))::wayB gw ⟨n,s,f,r.A,r.cap,r.xs⟩::wayB g17 ⟨n,s,f,r.A,r.cap,r.xs⟩::blk g10 (.cells #[.map (some gm)] 245 (0,0))::flwB g6 f::schA g5 s::netA g4 n::many (Ds2.map mkB)::[many H])
  (λz:Zm×Nat=>[blk gm (vobj z.1 z.2)]) (λj z=>CSet z.1 λc=>((bp c||usR n.net s.sch f r.xs i c)||(W.take j).any λp=>decide (p.1=c))) (λ_ _=>False) (es2,cl2) rfl Ytb (hit (hri.mono zc0)) rfl ?_ (by kernel_rfl) (by kernel_rfl) ?_ ?_ ?_ ?_ (λ_ _ _ h=>h.elim)
 ·exact YuE
 ·simp only[TA,TC]
  exact zc0
 ·simpa using hS2
 ·rintro lb j args R ⟨es3,cl3⟩ hk hI
  rw[TN]at hk
  obtain⟨⟨d,sl⟩,hz,rfl⟩:∃z,W[j]? =some z/\args=cntV z:=by
   cases h:W[j]? with
   |none=>rw[h]at hk;cases hk
   |some z=>exact YuF
  dsimp only at hI
  dsimp only[Uz,cntV,List.cons_append,List.nil_append]
  unfold celV
  refine zX67 ?_<;>intros
  apply JS (Yw Yo)
  intro R'
  refine zX7 ?_
  apply Yra d hI (p':=λc=>((bp c||usR n.net s.sch f r.xs i c)||(W.take (j+1)).any λp=>decide (p.1=c))) (λc=>by rw[TB,hz,S7];simp[Bool.or_assoc]);(iterate 3 exact rfl);(intro _ _;exact zd);intro es4 cl4 hS4
  refine zX10 ?_
  apply Ug (es4,cl4)
  ·exact hS4
  ·dsimp only[List.cons_append,List.nil_append]
   exact zc0
 ·rintro D ⟨es3,cl3⟩ hI
  dsimp only at hI
  rw[To,TI]at hI
  dsimp only[List.cons_append,List.nil_append]
  refine zX10 ?_
  apply hK2 ⟨k,i+1,es3,cl3,D::Ds2⟩
  ·refine⟨by exact Qf,?_⟩
   have:(λc=>(bp c||usR n.net s.sch f r.xs (i+1) c))=λc=>((bp c||usR n.net s.sch f r.xs i c)||W.any λp=>decide (p.1=c)):=by
    funext c
    rw[hus,Bool.or_assoc]
   show CSet es3 λc=>(bp c||usR n.net s.sch f r.xs (i+1) c)
   rw[this];exact hI
  ·exact zc50
  ·dsimp only
   rw[he18]
   exact zc1
  ·intro w hw
   have h5:St B w0 (mkB D::many (Ds2.map mkB)::blk gm (vobj es3 cl3)::wayB g17 ⟨n,s,f,r.A,r.cap,r.xs⟩::blk g10 (.cells #[.map (some gm)] 245 (0,0))::flwB g6 f::schA g5 s::netA g4 n::[many H]) w:=by
    revert w
    exact zc0
   have h6:=h5.perm (((Perm.open_ (Ds2.map mkB) _).cons _).trans (.close (mkB D::Ds2.map mkB) _))
   clear hw h5
   have h7:St B w0 (blk gm (vobj es3 cl3)::wayB g17 ⟨n,s,f,r.A,r.cap,r.xs⟩::blk g10 (.cells #[.map (some gm)] 245 (0,0))::flwB g6 f::schA g5 s::netA g4 n::many (mkB D::Ds2.map mkB)::[many H]) w:=by
    revert w
    exact zc0
   exact h7
theorem YiO(n:NetM)(s:SchM)(x:RqM){B:Nat}{w0:World}{H:List HP}{w:World}(hin:n.In B w0 H)(hrs:Rd B w0 H s.A (s.cells.flatMap celF))(hsl:s.cells.length<=1000000000000)(hx:x.In B w0 H)(hr9:x.rows.length<=9)(hw:St B w0 H w):
 CX B w0 188 [n.val,rqV x,s.val] w λv K=>∃c:ClM,v=.tuple #[clV c,.bool (!(ZK n.net s.sch x.rq))]/\(ZK n.net s.sch x.rq=false->c.clm=clmE n.net s.sch x.rq/\c.lens)/\K=clQ c::H:=by
 refine Ya Tryz.func188 Tryz.ntmps188 rfl rfl hw ?_
 have e1:x.rq.1=x.f:=rfl
 have hop:∀w,St B w0 [many H] w->St B w0 H w:=λw hw=>hw.perm (.openT H)
 have hin:=hin.mono hop
 have hrs:=hrs.mono hop
 have hx:=hx.mono hop
 refine Y6 [many H] (λw hw=>hw.perm (.closeT H)) ?_
 have p1:=λ{H':List HP}{w:World}(r:RowM) (hr:r∈x.rows) (hin:n.In B w0 H') (hrs:Rd B w0 H' s.A (s.cells.flatMap celF)) (hx:x.In B w0 H') (hw:St B w0 H' w)=>YeM ⟨n,s,x.f,r.A,r.cap,r.xs⟩ ⟨hin,hrs,hx.rw_ r hr,hsl,(hx.rl r hr).1,(hx.rl r hr).2⟩ hw
 dsimp only at p1
 unfold NetM.val SchM.val rqV
 unfold NetM.val SchM.val at p1
 refine zX26 ?_<;>intros
 rename_i g3 g4 g5 g6 g8
 have hln:x.rq.2=x.rows.map (·.xs):=rfl
 obtain⟨P,hP⟩:∃P,badR n.net s.sch x.f=P:=⟨_,rfl⟩
 have hla:ZK n.net s.sch x.rq=(x.rows.map (·.xs)).any P:=by unfold ZK;rw[hln,e1,hP]
 rw[hla]
 refine Ye (λz:CkM=>[(9,.int .i64 (z.i:Nat)),(8,.pointer (some ⟨g8,0,none⟩)),(6,.pointer (some ⟨g6,0,none⟩)),(5,.pointer (some ⟨g5,0,none⟩)),(4,.pointer (some ⟨g4,0,none⟩)),(3,.pointer (some ⟨g3,0,none⟩))]) (λz=>clA g8 z.c::clQ z.c::clA g6 (nilC 0)::schA g5 s::rqA g4 x::netA g3 n::[many H])
  (λz=>z.i<=x.rows.length/\z.c.clm=YcJ n.net s.sch x.rq ((x.rows.take z.i).map (·.xs))/\z.c.lens/\((x.rows.take z.i).map (·.xs)).any P=false) (λz=>x.rows.length-z.i) ⟨0,nilC x.f.1⟩ ⟨Td _,rfl,⟨by unfold nilC;simp,by unfold nilC;simp,by unfold nilC;simp⟩,by simp⟩ ?_ ?_ ?_
 ·exact zc1
 ·intro w hw
  have h1:=Yab x.f.1 hw
  have h2:St B w0 (clQ (nilC x.f.1)::clA g8 (nilC x.f.1)::clA g6 (nilC 0)::schA g5 s::rqA g4 x::netA g3 n::[many H]) w:=h1
  clear hw h1
  revert w
  exact zc0
 rintro⟨i,c⟩ ⟨hi,hcm,hlen,hno⟩ K hK
 dsimp only at hi hcm hlen hno⊢
 have hrt:Rd B w0 (clA g8 c::clQ c::clA g6 (nilC 0)::schA g5 s::rqA g4 x::netA g3 n::[many H]) x.A (x.rows.flatMap rowF):=hx.rt.cons.cons.cons.cons.cons.cons
 by_cases hlt:i<x.rows.length
 rotate_left
 ·obtain rfl:i=x.rows.length:=by omega
  rw[TI]at hcm hno
  rw[hno]
  clear hK
  refine zX0 ?_<;>intros
  apply Yy T (H2:=clQ c::H);(iterate 3 exact rfl);(focus exact zc2);exact rfl;exact rfl
  ·intro w hw
   have h5:St B w0 (clQ c::[many H]) w:=by
    revert w
    exact zc0
   exact zc69
  exact⟨c,rfl,λ_=>⟨hcm,hlen⟩,rfl⟩
 obtain⟨r,hr⟩:∃r,x.rows[i]? =some r:=⟨_,Ta hlt⟩
 have hrm:=Tc hr
 have hri:=hx.rw_ r hrm
 have p2:=λ{H':List HP}{w:World}(hin:n.In B w0 H') (hrs:Rd B w0 H' s.A (s.cells.flatMap celF)) (hx:x.In B w0 H') (hw:St B w0 H' w)=>p1 r hrm hin hrs hx hw
 try dsimp only at p2
 obtain⟨⟨⟨m,wst,sx⟩,e⟩,hRt⟩:∃z,Y1 n.net s.sch x.f r.xs=z:=⟨_,rfl⟩
 rw[hRt]at p2
 try dsimp only at p2
 unfold flwV at p2
 refine zX1 ?_<;>intros
 apply YV [0,1,2,3,4,5,6,7,8,9,10,11,12,13,14,15,16,17,18] []
 kernel_rfl
 kernel_rfl
 (simp only[Yc,nthO];rfl)
 exact rfl
 refine Ue ?_
 apply Yg _ Ywg
 exact za
 exact rfl
 exactλ_ hw=>(p2 (hin.mono zc0) (hrs.mono zc0) (hx.mono zc0) (hw))
 rintro _ _ ⟨A2,cap2,rfl,rfl⟩
 have hPr:P r.xs=decide (e≠0\/x.f.2.2.2.2.2<m):=by rw[<-hP];unfold badR;rw[hRt]
 by_cases hbad:e≠0\/x.f.2.2.2.2.2<m
 ·rw[Tf hbad]at hPr
  have hany:(x.rows.map (·.xs)).any P=true:=Rj.2 ⟨r.xs,RJ hrm,hPr⟩
  rw[hany]
  clear hK
  by_cases he0:e=0
  all_goals(
   repeat'(first|(apply Yh;try exact zl)|refine zgd ?_|(refine zge ?_ ?_<;>intro _<;>try exact zo)|fail)
   all_goals(try exact J1 _)
   repeat'(first|fail)
   apply Yy T (H2:=clQ (nilC 0)::H);(iterate 3 exact rfl);exact zm;exact rfl;exact rfl
   ·intro w hw
    have h5:St B w0 [many H] w:=by
     revert w
     exact zk
    exact Yab 0 (h5.perm (.openT H))
   exact⟨nilC 0,rfl,(λh=>by cases h),rfl⟩)
 rw[Ti hbad]at hPr
 have he0:e=0:=S5 λh=>hbad (.inl h)
 have hml:m<=x.f.2.2.2.2.2:=by omega
 subst he0
 obtain⟨hri9,hsx9⟩:r.xs.length<=9/\sx.length<=72:=zc52
 have hinv:∀(A1:Option Addr) (c1:Nat) (r8:RowM) (_:r8.xs=r.xs) (A3:Option Addr) (c3:Nat) (A4:Option Addr) (c4:Nat) (A5:Option Addr) (c5:Nat),(i+1<=x.rows.length/\(ClM.mk c.flow A1 c1 (c.rs++[r8]) A3 c3 (c.bs++[m]) A4 c4 (c.ws++[wst]) A5 c5 (c.ss++[⟨A2,cap2,sx⟩])).clm=YcJ n.net s.sch x.rq ((x.rows.take (i+1)).map (·.xs))/\(ClM.mk c.flow A1 c1 (c.rs++[r8]) A3 c3 (c.bs++[m]) A4 c4 (c.ws++[wst]) A5 c5 (c.ss++[⟨A2,cap2,sx⟩])).lens/\((x.rows.take (i+1)).map (·.xs)).any P=false):=zc12
 refine zX95 ?_<;>intros
 all_goals(try exact J1 _)
 refine zX8 ?_
 refine Y6 (nrs A2 cap2 sx::clA g8 c::sl 127 1 c.rA c.rs.length c.rcap (c.rs.flatMap rowF)::many (c.rs.map rowQ)::nrs c.bA c.bcap c.bs::nrs c.wA c.wcap c.ws::sl 24 1 c.sA c.ss.length c.scap (c.ss.flatMap rowF)::many (c.ss.map rowQ)::clA g6 (nilC 0)::schA g5 s::rqA g4 x::netA g3 n::[many H]) (λw hw=>?_) ?_
 ·have h5:St B w0 (nrs A2 cap2 sx::clA g8 c::clQ c::clA g6 (nilC 0)::schA g5 s::rqA g4 x::netA g3 n::[many H]) w:=by
   revert w
   exact zc0
  exact h5.perm (.cons _ (.cons _ (.open_ (clP c) _)))
 have hl1:=hlen.1
 have hr4:Rd B w0 [rqA g4 x,many H] x.A (x.rows.flatMap rowF):=hx.rt.cons
 refine Zs (λz:M8 r.xs=>[(9,.int .i64 (i:Nat)),(8,.pointer (some ⟨g8,0,none⟩)),(6,.pointer (some ⟨g6,0,none⟩)),(5,.pointer (some ⟨g5,0,none⟩)),(4,.pointer (some ⟨g4,0,none⟩)),(3,.pointer (some ⟨g3,0,none⟩)),(12,.slice A2 sx.length cap2),(11,.int .i64 wst),(10,.int .i64 m)])
  (λz=>nrs A2 cap2 sx::blk g8 (.cells #[.int .i64 c.flow,.slice z.A1 (c.rs++[z.r]).length z.c1,.slice c.bA c.bs.length c.bcap,.slice c.wA c.ws.length c.wcap,.slice c.sA c.ss.length c.scap] 189 (0,0))::sl 127 1 z.A1 (c.rs++[z.r]).length z.c1 ((c.rs++[z.r]).flatMap rowF)::many ((c.rs++[z.r]).map rowQ)::nrs c.bA c.bcap c.bs::nrs c.wA c.wcap c.ws::sl 24 1 c.sA c.ss.length c.scap (c.ss.flatMap rowF)::many (c.ss.map rowQ)::clA g6 (nilC 0)::schA g5 s::rqA g4 x::netA g3 n::[many H]) ?_ ?_
 ·intro K8 hK8
  apply YA [0,1,3,4,5,6,7,2,8,9,10,11] [12] [false,true,false,false,false,false,false,false,false,false,true,false,true]
  kernel_rfl
  kernel_rfl
  exact zy
  (simp only[Yc,nthO];rfl)
  (simp only[Yc,nthO];rfl)
  have hr5:Rd B w0 [clA g8 c,rqA g4 x,many H] x.A (x.rows.flatMap rowF):=hr4.cons
  repeat'(first|(apply YK T;exact rfl;exact rfl;intro g9)|(apply Xt T (f:=numF) (l2:=r.xs) (e:=3) (size:=1) (xs:=[]);(iterate 3 exact rfl);exact hri.mono zk;exact(λ_=>rfl);exact(λ_=>rfl);exact rfl;(intro _ _;exact zd);omega;intro A8 cap8)|(apply Yh;try exact zl)|refine zgd ?_|(refine zgh ?_;intro _)|(refine zgi ?_;intro _ _)|fail)
  all_goals(
   rename_i A1 c1
   refine hK8 ⟨A1,c1,⟨A8,cap8,r.xs⟩,rfl,none,0⟩ _ _ (by(exact zc1)) ?_
   intro w hw
   rw[show 0+r.xs.length=r.xs.length from Ri _,TC]at hw
   have q1:sl 127 1 A1 (c.rs.length+1) c1 (c.rs.flatMap rowF++#[Value.slice A8 r.xs.length cap8].toList)=sl 127 1 A1 (c.rs++[(⟨A8,cap8,r.xs⟩:RowM)]).length c1 ((c.rs++[(⟨A8,cap8,r.xs⟩:RowM)]).flatMap rowF):=Yal _ _ _ _ ⟨A8,cap8,r.xs⟩
   rw[q1,show c.rs.length+1=(c.rs++[(⟨A8,cap8,r.xs⟩:RowM)]).length by simp]at hw
   have h5:St B w0 (nrs A2 cap2 sx::blk g8 (.cells #[.int .i64 c.flow,.slice A1 (c.rs++[(⟨A8,cap8,r.xs⟩:RowM)]).length c1,.slice c.bA c.bs.length c.bcap,.slice c.wA c.ws.length c.wcap,.slice c.sA c.ss.length c.scap] 189 (0,0))::sl 127 1 A1 (c.rs++[(⟨A8,cap8,r.xs⟩:RowM)]).length c1 ((c.rs++[(⟨A8,cap8,r.xs⟩:RowM)]).flatMap rowF)::sl 3 1 A8 r.xs.length cap8 (r.xs.flatMap numF)::many (c.rs.map rowQ)::nrs c.bA c.bcap c.bs::nrs c.wA c.wcap c.ws::sl 24 1 c.sA c.ss.length c.scap (c.ss.flatMap rowF)::many (c.ss.map rowQ)::clA g6 (nilC 0)::schA g5 s::rqA g4 x::netA g3 n::[many H]) w:=by
    clear q1
    revert w
    exact zc0
   exact h5.perm (.cons _ (.cons _ (.cons _ (VJ rowQ c.rs ⟨A8,cap8,r.xs⟩ _)))))
 rintro⟨A1,c1,r8,hr8,_,_⟩
 dsimp only
 refine zX8 ?_
 apply UC (.n1 0 (.n1 1 (.n1 2 (.n1 5 (.n1 6 (.n1 7 (.n1 10 (.n1 11 (.n1 12 (.n3 3 (.n3 4 (.n1 15 (.n2 8 (.n2 9 (.n1 13 (.n1 14 .done)) 13 (.n1 9 (.n1 14 .done))) 13 (.n1 8 (.n1 9 (.n1 14 .done))))) 8 (.n2 4 (.n1 15 (.n2 9 (.n1 13 (.n1 14 .done)) 13 (.n1 9 (.n1 14 .done)))) 13 (.n1 4 (.n1 15 (.n1 9 (.n1 14 .done))))) 13 (.n2 4 (.n1 15 (.n1 8 (.n1 9 (.n1 14 .done)))) 8 (.n1 4 (.n1 15 (.n1 9 (.n1 14 .done)))))) 8 (.n2 3 (.n2 4 (.n1 15 (.n2 9 (.n1 13 (.n1 14 .done)) 13 (.n1 9 (.n1 14 .done)))) 13 (.n1 4 (.n1 15 (.n1 9 (.n1 14 .done))))) 13 (.n1 3 (.n1 4 (.n1 15 (.n1 9 (.n1 14 .done)))))) 13 (.n2 3 (.n2 4 (.n1 15 (.n1 8 (.n1 9 (.n1 14 .done)))) 8 (.n1 4 (.n1 15 (.n1 9 (.n1 14 .done))))) 8 (.n1 3 (.n1 4 (.n1 15 (.n1 9 (.n1 14 .done)))))))))))))))) [16,17,18,19,20] [false,true]
 kernel_rfl
 kernel_rfl
 exact zy
 (simp only[Yc,nthO];rfl)
 repeat'(first|(apply YoT;(simp only[nthO];rfl);(simp only[nthO];rfl);(simp only[nthO];rfl))|(apply YeZ;(simp only[nthO];rfl);(simp only[nthO];rfl))|(apply YeY;(simp only[nthO];rfl))|(apply UE;try exact zl)|(apply Yh;try exact zl)|refine zgd ?_|(refine zgh ?_;intro _)|(refine zgi ?_;intro _ _)|fail)
 all_goals(
  first
   |(rename_i A3 c3 g A4 c4 g2 A5 c5;guard_hyp A3:Option Addr;guard_hyp g:Nat;guard_hyp A4:Option Addr;guard_hyp A5:Option Addr)
   |(rename_i A3 c3 g g2 A4 c4 A5 c5;guard_hyp A3:Option Addr;guard_hyp g:Nat;guard_hyp A4:Option Addr;guard_hyp A5:Option Addr)
   |(rename_i A3 c3 g A4 c4 A5 c5;guard_hyp A3:Option Addr;guard_hyp A4:Option Addr;guard_hyp A5:Option Addr)
   |(rename_i A3 c3 A4 c4 g A5 c5;guard_hyp A3:Option Addr;guard_hyp A4:Option Addr;guard_hyp A5:Option Addr)
   |(rename_i A3 c3 A4 c4 A5 c5;guard_hyp A3:Option Addr;guard_hyp A4:Option Addr;guard_hyp A5:Option Addr)
  refine hK ⟨i+1,⟨c.flow,A1,c1,c.rs++[r8],A3,c3,c.bs++[m],A4,c4,c.ws++[wst],A5,c5,c.ss++[⟨A2,cap2,sx⟩]⟩⟩ ?_ ?_ _ _ zu ?_
  ·exact hinv A1 c1 r8 hr8 A3 c3 A4 c4 A5 c5
  ·dsimp only;omega
  intro w hw
  have q1:sl 24 1 A5 (c.ss.length+1) c5 (c.ss.flatMap rowF++#[Value.slice A2 sx.length cap2].toList)=sl 24 1 A5 (c.ss++[(⟨A2,cap2,sx⟩:RowM)]).length c5 ((c.ss++[(⟨A2,cap2,sx⟩:RowM)]).flatMap rowF):=Yal _ _ _ _ ⟨A2,cap2,sx⟩
  rw[q1,Vl,Vl,show c.ss.length+1=(c.ss++[(⟨A2,cap2,sx⟩:RowM)]).length by simp,show c.ws.length+1=(c.ws++[wst]).length by simp,show c.bs.length+1=(c.bs++[m]).length by simp]at hw
  have h5:St B w0 (blk g8 (.cells #[.int .i64 c.flow,.slice A1 (c.rs++[r8]).length c1,.slice A3 (c.bs++[m]).length c3,.slice A4 (c.ws++[wst]).length c4,.slice A5 (c.ss++[(⟨A2,cap2,sx⟩:RowM)]).length c5] 189 (0,0))::sl 127 1 A1 (c.rs++[r8]).length c1 ((c.rs++[r8]).flatMap rowF)::many ((c.rs++[r8]).map rowQ)::nrs A3 c3 (c.bs++[m])::nrs A4 c4 (c.ws++[wst])::sl 24 1 A5 (c.ss++[(⟨A2,cap2,sx⟩:RowM)]).length c5 ((c.ss++[(⟨A2,cap2,sx⟩:RowM)]).flatMap rowF)::nrs A2 cap2 sx::many (c.ss.map rowQ)::clA g6 (nilC 0)::schA g5 s::rqA g4 x::netA g3 n::[many H]) w:=by
   clear q1
   revert w
   exact zk
  have h6:=h5.perm (.cons _ (.cons _ (.cons _ (.cons _ (.cons _ (.cons _ (VJ rowQ c.ss ⟨A2,cap2,sx⟩ _)))))))
  exact h6.perm (.cons _ (.close [_,_,_,_,_,_] _)))
end Go.Proofs.YtjommdkgfbhbdaaGreatDoor
