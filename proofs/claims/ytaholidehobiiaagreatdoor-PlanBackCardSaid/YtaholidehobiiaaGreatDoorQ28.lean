/- Lemmas for the claim, part 28. -/
import Derived.LoopN
import Derived.StillTailTactics
import Derived.Test.YtaholidehobiiaaGreatDoorQ14
import Derived.Test.YtaholidehobiiaaGreatDoorQ25
import Derived.Test.YtaholidehobiiaaGreatDoorQ26
set_option maxRecDepth 100000
set_option maxHeartbeats 8000000
set_option linter.all false
namespace Go.Proofs.YtaholidehobiiaaGreatDoor
open Go.RowKit Go.Eng Go.Nw Go.Rt
def Xr:List Cel->List Cel
 |[]=>[]
 |[a]=>[a]
 |a::b::l=>if a=b then Xr (b::l)else a::Xr (b::l)
theorem Ydr:∀{l:List Cel}{c:Cel},c∈Xr l↔c∈l
 |[],_=>Iff.rfl
 |[_],_=>Iff.rfl
 |a::b::l,c=>by
  have ih:=Ydr (l:=b::l) (c:=c)
  unfold Xr
  by_cases h:a=b
  ·rw[Tn h,ih,TL (b:=a)]
   constructor
   ·exact .inr
   ·rintro(rfl|h2)
    ·rw[h];exact Tz
    ·exact h2
  ·rw[Tf h,TL,TL,ih]
abbrev OrdW(l:List Cel):Prop:=l.Pairwise λa b=>Xi b a=false
theorem Yi3:∀{l:List Cel},OrdW l->Ord (Xr l)
 |[],_=>.nil
 |[_],_=>.cons (λ_ h=>by cases h) .nil
 |a::b::l,h=>by
  obtain⟨h1,h2⟩:=Ni.1 h
  have ih:=Yi3 h2
  unfold Xr
  by_cases he:a=b
  ·rw[Tn he];exact ih
  rw[Tf he]
  refine .cons (λc hc=>?_) ih
  have hc:=Ydr.1 hc
  have hca:=h1 c hc
  cases hac:Xi a c with
  |true=>rfl
  |false=>
   have e:=Yav hac hca
   subst e
   rcases TL.1 hc with e|hcl
   ·exact absurd e he
   ·have h3:=(Ni.1 h2).1 a hcl
    exact absurd (Yav h3 (h1 b Tz)) he
theorem YnI:∀{l m:List Cel},Ord l->Ord m->(∀c,c∈l↔c∈m)->l=m
 |[],[],_,_,_=>rfl
 |[],b::m,_,_,h=>by have:=(h b).2 Tz;cases this
 |a::l,[],_,_,h=>by have:=(h a).1 Tz;cases this
 |a::l,b::m,hl,hm,h=>by
  obtain⟨h1,h2⟩:=Ni.1 hl
  obtain⟨h3,h4⟩:=Ni.1 hm
  have e:a=b:=by
   rcases TL.1 ((h a).1 Tz)with e|ha
   ·exact e
   rcases TL.1 ((h b).2 Tz)with e|hb
   ·exact e.symm
   have:=JB (h1 b hb) (h3 a ha)
   rw[Va]at this;cases this
  subst e
  refine TE (a::·) (YnI h2 h4 λc=>?_)
  have hc:=h c
  constructor
  ·intro hcl
   rcases TL.1 (hc.1 (TA _ hcl))with rfl|h5
   ·have:=h1 _ hcl;rw[Va]at this;cases this
   ·exact h5
  ·intro hcm
   rcases TL.1 (hc.2 (TA _ hcm))with rfl|h5
   ·have:=h3 _ hcm;rw[Va]at this;cases this
   ·exact h5
def Yd2(n:Net)(s:Sch)(q:List Rqs):List Cel:=q.flatMap λx=>s.cells.filter (Oo n s x)
theorem Ypc{n:Net}{s:Sch}{q:List Rqs}{l:List Cel}(ho:Ord s.cells)(hp:l.Perm (Yd2 n s q))(hs:OrdW l):Xr l=s.cells.filter (YkJ n s q):=by
 refine YnI (Yi3 hs) (ho.sublist S8) λc=>?_
 rw[Ydr,hp.mem_iff,Re]
 unfold Yd2 YkJ
 rw[RJ,T8]
 constructor
 ·rintro⟨x,hx,hc⟩
  obtain⟨h1,h2⟩:=Re.1 hc
  exact⟨h1,x,hx,h2⟩
 ·rintro⟨h1,x,hx,h2⟩
  exact⟨x,hx,Re.2 ⟨h1,h2⟩⟩
theorem YjH(n:Net)(s:Sch):∀q:List Rqs,(Yd2 n s q).length<=q.length*s.cells.length
 |[]=>Tm _
 |x::q=>by
  have ih:=YjH n s q
  unfold Yd2 at ih⊢
  rw[TZ,To,TM,Sl,Nat.one_mul]
  have:=RX (Oo n s x) s.cells
  omega
structure Pln where
 n:Net
 q:List Rqs
 s:Sch
 c:List Clm
 f:List Int
noncomputable def Zo(n:Net)(f:Flw):Rqs×Int:=
 if(XS n f.2.1 f.2.2.1).2≠0 then(YkP,(XS n f.2.1 f.2.2.1).2)else((f,[(XS n f.2.1 f.2.2.1).1]),0)
noncomputable def Jr(n:Net)(f:Flw):Option (List Int×List Int)×Int:=(Vu 100000 n f.2.1 f.2.2.1).getD (none,0)
noncomputable def reqE(n:Net)(f:Flw):Rqs×Int:=
 match(Jr n f).1 with
 |some pq=>((f,[pq.1,pq.2]),0)
 |none=>Zo n f
noncomputable def Ycl(n:Net)(l:List Flw):Int×Int:=YZ (λi=>(reqE n (Xj l i)).2) l.length 0
noncomputable def Zd(n:Net)(l:List Flw):List Rqs×(Int×Int):=
 if Yo n≠0 then([],(-1,1))else if(Yu n.nodes l).2≠0 then([],Yu n.nodes l)
 else if(Ycl n l).2≠0 then([],Ycl n l)else(l.map λf=>(reqE n f).1,(-1,0))
def XM(a b:Int):Int:=if a=0 then b else a
def Ybn(n:Net)(q:List Rqs)(s:Sch)(e:Int):Int:=if e≠0 then e else XM (YN n q s).2.2 (ZQ s).2
def finE(n:Net)(q:List Rqs)(s:Sch)(e:Int):Option Pln×Int:=
 if Ybn n q s e≠0 then(none,Ybn n q s e)else(some ⟨n,q,s,(YN n q s).1,(ZQ s).1⟩,0)
noncomputable def lowQ(n:Net)(at_:List Int)(q:List Rqs)(i:Nat):Rqs:=if(i:Int)∈at_ then rqAt q i else(Zo n (rqAt q i).1).1
noncomputable def lowL(n:Net)(at_:List Int)(q:List Rqs):List Rqs:=(List.range q.length).map (lowQ n at_ q)
noncomputable def lowB(n:Net)(at_:List Int)(q:List Rqs):Bool:=(List.range q.length).all λi=>decide ((i:Int)∈at_)||decide ((Zo n (rqAt q i).1).2=0)
def fin2(n:Net)(q:List Rqs)(s:Sch)(e:Int):Option Pln×Int:=
 if e=0 then finE n q (YeT n q s).1 (YeT n q s).2 else(none,e)
noncomputable def fin3(n:Net)(q:List Rqs)(len off e:Int):Option Pln×Int:=
 if(XB n q len off).1.2.length=q.length then fin2 n q (XB n q len off).1.1 (XM e (XB n q len off).2)
 else(none,XM (XM e (XB n q len off).2) 18)
noncomputable def Yhk(n:Net)(q:List Rqs)(len off:Int):Option Pln×Int:=
 if(XB n q len off).1.2.length=q.length then fin2 n q (XB n q len off).1.1 (XB n q len off).2
 else if lowB n (XB n q len off).1.2 q=false then(none,XM (XB n q len off).2 18)
 else fin3 n (lowL n (XB n q len off).1.2 q) len off (XB n q len off).2
def perB(l:List Flw)(len:Int):Bool:=l.any λf=>decide (len.tmod f.2.2.2.1≠0)
noncomputable def YnE(n:Net)(l:List Flw)(len off:Int):Option Pln×Int:=
 if Yo n≠0\/(Yu n.nodes l).2≠0 then(none,1)else if len<1\/512<len\/off<1\/16<off then(none,2)
 else if perB l len=true then(none,11)else if(Zd n l).2.2≠0 then(none,(Zd n l).2.2)
 else Yhk n (Zd n l).1 len off
def chkP(p:Pln):Int:=
 if Yo p.n≠0 then 1 else if(YN p.n p.q p.s).2.2=15\/(YN p.n p.q p.s).2.2=1/\(YN p.n p.q p.s).2.1<0 then 18
 else if(YN p.n p.q p.s).2.2≠0 then 1 else if(chkE p.n p.q p.s p.c).2≠0 then 20
 else if(ZQ p.s).2≠0\/(ZQ p.s).1≠p.f then 11 else 0
def idQ(q:List Rqs)(id:Int):Int:=Ym (λx:Rqs=>decide (x.1.1=id)) q 0
def delQ(q:List Rqs)(i:Nat):List Rqs:=q.take i++q.drop (i+1)
def wdrP(p:Pln)(id:Int):Option Pln×Int:=
 if chkP p≠0 then(none,1)else if idQ p.q id<0 then(none,7)else finE p.n (delQ p.q (idQ p.q id).toNat) (QB p.s id).1 (QB p.s id).2
theorem Yj4(n:Net)(s t:Int):∃res,Vu 100000 n s t=some res:=by
 unfold Vu
 by_cases he:XW n s t=0
 ·rw[Tf (λh=>h he)]
  obtain⟨hck,hs,ht,hst⟩:=UJ he
  obtain⟨r,hr,h⟩:=Ygz (YC hck) hs ht hst
  rcases h with⟨_,_,mp,mq,h2,_⟩|⟨_,h2,_⟩
  ·rw[h2]
   dsimp only
   split<;>exact⟨_,rfl⟩
  ·rw[h2];exact⟨_,rfl⟩
 ·rw[Tn he];exact⟨_,rfl⟩
theorem Wy(n:Net)(f:Flw):Vu 100000 n f.2.1 f.2.2.1=some (Jr n f):=by
 obtain⟨res,h⟩:=Yj4 n f.2.1 f.2.2.1
 unfold Jr
 rw[h];rfl
theorem YgA{n:Net}{f:Flw}(h:Vu 100000 n f.2.1 f.2.2.1=some (Jr n f)):((Jr n f).1=none/\(Jr n f).2≠0)\/∃p q,Jr n f=(some (p,q),0):=by
 generalize Jr n f=R at h⊢
 unfold Vu at h
 by_cases he:XW n f.2.1 f.2.2.1=0
 rotate_left
 ·rw[Tn he]at h
  rw[<-Tv h]
  exact .inl ⟨rfl,he⟩
 rw[Tf (λe=>e he)]at h
 split at h
 ·cases h
 ·rw[<-Tv h];exact .inl ⟨rfl,by decide⟩
 ·rename_i pq _
  split at h
  ·rw[<-Tv h];exact .inl ⟨rfl,by decide⟩
  ·rw[<-Tv h];exact .inr ⟨pq.1,pq.2,rfl⟩
theorem Ysh(n:Net)(s t:Int):(XS n s t).1.length<=9:=by
 unfold XS
 repeat' split
 all_goals(first|(simp;done)|(simp only;omega))
open Go.RowKit Go.Eng Go.Nw Go.Rt Go.Sort Go.Shelf Go.Proofs
theorem Yt1(a b c d e:Int)(g:Nat)(W:World)(h0:W.cell? ⟨g,0,none⟩=some (.int .i64 a))(h1:W.cell? ⟨g,1,none⟩=some (.int .i64 b))(h2:W.cell? ⟨g,2,none⟩=some (.int .i64 c))(h3:W.cell? ⟨g,3,none⟩=some (.int .i64 d))(h4:W.cell? ⟨g,4,none⟩=some (.int .i64 e)):
 Calls Tryz.prog 139 #[.slice (some ⟨g,0,none⟩) 5 5] W λr w'=>r=.returned (.int .i64 (Xz [a,b,c,d,e]))/\w'=W:=by
 go_enter Tryz.func139,Tryz.ntmps139
 go_wp2
 refine wp_loop_rounds 6 ?_
 rw[rounds_succ]
 go_wp2
 ·rename_i hx
  have hx:a≠0:=by simpa using hx
  go_ret
  exact⟨by simp only[Xz];rw[Tn hx];rfl,rfl⟩
 rename_i ha
 have ha:a=0:=by simpa using ha
 rw[rounds_succ]
 go_wp2
 ·rename_i hx
  have hx:b≠0:=by simpa using hx
  go_ret
  exact⟨by simp only[Xz];rw[Tf (by omega)];rw[Tn hx];rfl,rfl⟩
 rename_i hb
 have hb:b=0:=by simpa using hb
 rw[rounds_succ]
 go_wp2
 ·rename_i hx
  have hx:c≠0:=by simpa using hx
  go_ret
  exact⟨by simp only[Xz];rw[Tf (by omega)];rw[Tf (by omega)];rw[Tn hx];rfl,rfl⟩
 rename_i hc
 have hc:c=0:=by simpa using hc
 rw[rounds_succ]
 go_wp2
 ·rename_i hx
  have hx:d≠0:=by simpa using hx
  go_ret
  exact⟨by simp only[Xz];rw[Tf (by omega)];rw[Tf (by omega)];rw[Tf (by omega)];rw[Tn hx];rfl,rfl⟩
 rename_i hd
 have hd:d=0:=by simpa using hd
 rw[rounds_succ]
 go_wp2
 ·rename_i hx
  have hx:e≠0:=by simpa using hx
  go_ret
  exact⟨by simp only[Xz];rw[Tf (by omega)];rw[Tf (by omega)];rw[Tf (by omega)];rw[Tf (by omega)];rw[Tn hx];rfl,rfl⟩
 rename_i he
 have he:e=0:=by simpa using he
 rw[rounds_succ]
 go_wp2
 go_ret
 exact⟨by simp only[Xz];rw[Tf (by omega),Tf (by omega),Tf (by omega),Tf (by omega),Tf (by omega)];rfl,rfl⟩
def cfC(x y:Cel):Int:=Xz [Lib.compareInt x.1 y.1,Lib.compareInt x.2.1 y.2.1,Lib.compareInt x.2.2.1 y.2.2.1,Lib.compareInt x.2.2.2.1 y.2.2.2.1,Lib.compareInt x.2.2.2.2 y.2.2.2.2]
theorem Yws(x y:Cel)(W:World):Calls Tryz.prog 161 #[.agg #[.int .i64 x.1,.int .i64 x.2.1,.int .i64 x.2.2.1,.int .i64 x.2.2.2.1,.int .i64 x.2.2.2.2],.agg #[.int .i64 y.1,.int .i64 y.2.1,.int .i64 y.2.2.1,.int .i64 y.2.2.2.1,.int .i64 y.2.2.2.2]] W λe w'=>e=.returned (.int .i64 (cfC x y))/\∃q os',w'=grow (W.drewN q) os':=by
 have c1:=λW'=>Tryz.cmp_Compare_int x.1 y.1 W'
 have c2:=λW'=>Tryz.cmp_Compare_int x.2.1 y.2.1 W'
 have c3:=λW'=>Tryz.cmp_Compare_int x.2.2.1 y.2.2.1 W'
 have c4:=λW'=>Tryz.cmp_Compare_int x.2.2.2.1 y.2.2.2.1 W'
 have c5:=λW'=>Tryz.cmp_Compare_int x.2.2.2.2 y.2.2.2.2 W'
 unfold cfC
 generalize Lib.compareInt x.1 y.1=r1 at c1⊢
 generalize Lib.compareInt x.2.1 y.2.1=r2 at c2⊢
 generalize Lib.compareInt x.2.2.1 y.2.2.1=r3 at c3⊢
 generalize Lib.compareInt x.2.2.2.1 y.2.2.2.1=r4 at c4⊢
 generalize Lib.compareInt x.2.2.2.2 y.2.2.2.2=r5 at c5⊢
 go_enter Tryz.func161,Tryz.ntmps161
 go_wp2
 generalize hw1:(W.alloc (.cells #[.int .i64 x.1,.int .i64 x.2.1,.int .i64 x.2.2.1,.int .i64 x.2.2.2.1,.int .i64 x.2.2.2.2] 64)).alloc (.cells #[.int .i64 y.1,.int .i64 y.2.1,.int .i64 y.2.2.1,.int .i64 y.2.2.2.1,.int .i64 y.2.2.2.2] 64)=w1
 have hg:grow W #[.cells #[.int .i64 x.1,.int .i64 x.2.1,.int .i64 x.2.2.1,.int .i64 x.2.2.2.1,.int .i64 x.2.2.2.2] 64 (0,0),.cells #[.int .i64 y.1,.int .i64 y.2.1,.int .i64 y.2.2.1,.int .i64 y.2.2.2.1,.int .i64 y.2.2.2.2] 64 (0,0)]=w1:=by
  rw[<-hw1,alloc_eq_grow,alloc_eq_grow,grow_grow];rfl
 have x0:w1.drew.cell? ⟨W.heap.size,0,none⟩=some (.int .i64 x.1):=by rw[<-hw1];simp
 have x1:w1.drew.cell? ⟨W.heap.size,1,none⟩=some (.int .i64 x.2.1):=by rw[<-hw1];simp
 have x2:w1.drew.cell? ⟨W.heap.size,2,none⟩=some (.int .i64 x.2.2.1):=by rw[<-hw1];simp
 have x3:w1.drew.cell? ⟨W.heap.size,3,none⟩=some (.int .i64 x.2.2.2.1):=by rw[<-hw1];simp
 have x4:w1.drew.cell? ⟨W.heap.size,4,none⟩=some (.int .i64 x.2.2.2.2):=by rw[<-hw1];simp
 have y0:w1.drew.cell? ⟨W.heap.size+1,0,none⟩=some (.int .i64 y.1):=by rw[<-hw1];simp
 have y1:w1.drew.cell? ⟨W.heap.size+1,1,none⟩=some (.int .i64 y.2.1):=by rw[<-hw1];simp
 have y2:w1.drew.cell? ⟨W.heap.size+1,2,none⟩=some (.int .i64 y.2.2.1):=by rw[<-hw1];simp
 have y3:w1.drew.cell? ⟨W.heap.size+1,3,none⟩=some (.int .i64 y.2.2.2.1):=by rw[<-hw1];simp
 have y4:w1.drew.cell? ⟨W.heap.size+1,4,none⟩=some (.int .i64 y.2.2.2.2):=by rw[<-hw1];simp
 refine wp_region_still_tail 25 (by kernel_rfl) (by kernel_rfl) ?_
 have e9:({w1 with drawn:=w1.drawn+1}:World)=w1.drew:=rfl
 rw[e9]
 clear e9
 generalize hw2:w1.drew=w2 at x0 x1 x2 x3 x4 y0 y1 y2 y3 y4⊢
 simp only[List.take_succ_cons,Nq,List.drop_succ_cons,List.drop_zero]
 repeat still_step
 still_call (c1 _)
 repeat still_step
 still_call (c2 _)
 repeat still_step
 still_call (c3 _)
 repeat still_step
 still_call (c4 _)
 repeat still_step
 still_call (c5 _)
 refine wpStill_nil ?_
 clear c1 c2 c3 c4 c5
 have hor:Calls Tryz.prog 139 #[.slice (some ⟨w2.heap.size,0,none⟩) 5 5] (w2.alloc (.cells #[.int .i64 r1,.int .i64 r2,.int .i64 r3,.int .i64 r4,.int .i64 r5] 3)) λe w'=>e=.returned (.int .i64 (Xz [r1,r2,r3,r4,r5]))/\w'=w2.alloc (.cells #[.int .i64 r1,.int .i64 r2,.int .i64 r3,.int .i64 r4,.int .i64 r5] 3):=
  Yt1 r1 r2 r3 r4 r5 w2.heap.size _ (by simp) (by simp) (by simp) (by simp) (by simp)
 generalize Xz [r1,r2,r3,r4,r5]=r at hor⊢
 clear x0 x1 x2 x3 x4 y0 y1 y2 y3 y4
 go_wp2_with (go_at_call 139;refine hor.mono ?_;rintro e w' ⟨rfl,rfl⟩)
 go_ret
 refine⟨by first|rfl|kernel_rfl|simp,1,#[.cells #[.int .i64 x.1,.int .i64 x.2.1,.int .i64 x.2.2.1,.int .i64 x.2.2.2.1,.int .i64 x.2.2.2.2] 64 (0,0),.cells #[.int .i64 y.1,.int .i64 y.2.1,.int .i64 y.2.2.1,.int .i64 y.2.2.2.1,.int .i64 y.2.2.2.2] 64 (0,0),.cells #[.int .i64 r1,.int .i64 r2,.int .i64 r3,.int .i64 r4,.int .i64 r5] 3 (0,0)],?_⟩
 rw[<-hw2,<-hw1,alloc_eq_grow]
 rfl
theorem Ywq(x y:Cel):cfC x y=cmpV (nums x) (nums y):=YlO (nums x) (nums y) rfl
theorem YnD(x y:Cel):ltOf cfC x y=Xi x y:=by
 rw[NE]
 unfold ltOf
 rw[Tt,Ywq,Ybi]
theorem swoC:SWO (ltOf cfC) where
 irrefl x:=by rw[YnD];exact Va x
 trans x y z h1 h2:=by rw[YnD]at*;exact JB h1 h2
 ntrans x y z h1 h2:=by
  rw[YnD]at*
  cases h:Xi x z with
  |false=>rfl
  |true=>
   cases h3:Xi z y with
   |true=>rw[JB h h3]at h1;cases h1
   |false=>rw[Yav h2 h3]at h1;rw[h]at h1;cases h1
theorem Yib(l:List Cel)(hl:l.length<=100000000){A:Option Addr}{cap B:Nat}{w0:World}{H:List HP}{w:World}(hw:St B w0 (cels A cap l::H) w):
 CX B w0 160 [.slice A l.length cap,.func (.func 161) #[] #[]] w λv K=>v=.tuple #[]/\∃l',l'.Perm l/\OrdW l'/\K=cels A cap l'::H:=by
 by_cases h0:l.length=0
 ·have hl0:l=[]:=Sj h0
  rw[h0]
  refine(AnyF.slices_SortFunc_none Tryz.sortCels A cap (.func (.func 161) #[] #[]) w).mono ?_
  rintro e w' ⟨rfl,rfl⟩
  exact⟨_,_,rfl,hw,rfl,l,List.Perm.refl _,by rw[hl0];exact .nil,rfl⟩
 have ho:=hw.sl (Tz)
 obtain⟨g,rfl⟩:∃g,A=some ⟨g,0,none⟩:=by
  rcases ho.2 with⟨h1,h2⟩|⟨g,c,cur,h1,h2,h3,h4,h5,h6,h7⟩
  ·omega
  ·injection h1 with e1 e2 e3
   exact⟨g,e1⟩
 obtain⟨hH,hg,hst⟩:=YpJ (enc:=celF) (λ_=>rfl) (by decide) (Tm _) hw
 have eg:∀args w,(callFunc 161 args).run Tryz.prog w=.ok (.enter 161 args) w:=Yq2
 rw[List.drop_zero,N9]at hH
 have hsz:l.toArray.size=l.length:=by simp
 have hcon:=AnyQ.slices_SortFunc Tryz.sortCels 5 Tryz.isAgg64 Tryz.sizeOf64 celF (λ_=>rfl) (λx v hv=>by simp[celF]at hv;rcases hv with rfl|rfl|rfl|rfl|rfl<;>rfl) cfC swoC 161 #[] g 0 cap l.toArray w eg (λ_ _ _ _ x y=>Yws x y _) hH hg (by rw[hsz];omega)
 rw[hsz]at hcon
 refine hcon.mono ?_
 rintro e w' ⟨rfl,d',n,os,hp,hs,rfl⟩
 have hp:d'.toList.Perm l:=YlZ (d:=l.toArray) (by rw[hsz];exact hp)
 have h5:=hst d'.toList n os (by rw[hp.length_eq];rfl)
 rw[Array.toArray_toList,N9,Nq,TK]at h5
 refine⟨_,_,rfl,h5,rfl,d'.toList,hp,?_,?_⟩
 ·have hdl:d'.toList.length=l.length:=hp.length_eq
  rw[OrdW,Rm]
  intro i j hi hj hij
  have h6:=hs i j (Tm _) hij (by omega)
  rw[YnD,getElem!_pos d' j (by simpa using hj),getElem!_pos d' i (by simpa using hi)]at h6
  simpa using h6
 ·unfold cels
  rw[hp.length_eq]
theorem YmT:∀(a:Cel) (l:List Cel),Xr (a::l)=a::(Xr (a::l)).drop 1
 |_,[]=>rfl
 |a,b::l=>by
  have ih:=YmT b l
  unfold Xr
  grind
variable {l:List Cel}{m:Nat}{a:Cel}
theorem Qf(h:l[m]? =some a):l.drop m=a::l.drop (m+1):=by
 grind [Rl]
theorem YfQ(h:l[m]? =some a)(h2:l[m+1]? =some a):Xr (l.drop m)=Xr (l.drop (m+1)):=by
 simp_all [Qf,Xr]
theorem YfP{b:Cel}(h:l[m]? =some a)(h2:l[m+1]? =some b)(hne:a≠b):Xr (l.drop m)=a::Xr (l.drop (m+1)):=by
 simp_all [Qf,Xr]
theorem YmS(h:l[m]? =some a):Xr (l.drop m)=a::(Xr (l.drop m)).drop 1:=by
 rw[Qf h];exact YmT _ _
structure CpM where
 i:Nat
 j:Nat
 M:List Cel
theorem Yfg(l:List Cel)(hlen:l.length<=100000){A:Option Addr}{cap B:Nat}{w0:World}{H:List HP}{w:World}(hw:St B w0 (cels A cap l::H) w):
 CX B w0 162 [.slice A l.length cap] w λv K=>v=.slice A (Xr l).length cap/\K=cels A cap (Xr l)::H:=by
 refine Yc Tryz.func162 Tryz.ntmps162 rfl rfl hw ?_
 refine Qb (e:=64) (size:=5) (A:=A) (xs:=l.flatMap celF) (k:=l.length) (cap:=cap) Tz λhcap=>?_
 by_cases hl2:l.length<2
 ·have e:Xr l=l:=by
   match l,hl2 with
   |[],_=>rfl
   |[_],_=>rfl
  rw[e]
  refine zX3 ?_<;>intros
  exact zc11
 refine zX3 ?_<;>intros
 refine Yg (λk:Nat=>[(3,.int .i64 k),(0,.slice A l.length cap)]) (λ_=>cels A cap l::H) (λk=>1<=k/\k<=l.length/\Xr l=l.take (k-1)++Xr (l.drop (k-1))) (λk=>l.length-k) 1 ⟨TJ _,by omega,by simp⟩ ?_ (λw hw=>hw) ?_
 ·exact zc1
 rintro k ⟨hk1,hk,hce⟩ K hK
 by_cases hlt:k<l.length
 rotate_left
 ·obtain rfl:k=l.length:=by omega
  obtain⟨a,ha⟩:∃a,l[l.length-1]? =some a:=⟨_,Ta (by omega)⟩
  have e:Xr l=l:=by
   rw[hce,Qf ha,Ru (by omega)]
   show l.take (l.length-1)++[a]=l
   conv=>rhs;rw[<-RP (l.length-1) l,Qf ha,Ru (show l.length<=l.length-1+1 by omega)]
  rw[e]
  refine zX1 ?_<;>intros
  exact zc4
 obtain⟨m,rfl⟩:∃m,k=m+1:=⟨k-1,by omega⟩
 rw[SK]at hce
 obtain⟨a,ha⟩:∃a,l[m]? =some a:=⟨_,Ta (by omega)⟩
 obtain⟨b,hb⟩:∃b,l[m+1]? =some b:=⟨_,Ta hlt⟩
 have hm1:(((m+1:Nat):Int)-1).toNat=m:=by omega
 have ha2:l[(((m+1:Nat):Int)-1).toNat]? =some a:=by rw[hm1];exact ha
 have hr0:Rd B w0 (cels A cap l::H) A (l.flatMap celF):=.sl Tz
 repeat'(first|(apply YmB b a;(iterate 3 exact rfl);all_goals intro hca)|refine zgd ?_|(refine zge ?_ ?_<;>intro _<;>try exact zo)|fail)
 rotate_left
 ·apply hK (m+1+1)
  ·refine⟨by omega,by omega,?_⟩
   rw[SK,TN,ha,hce,YfP ha hb (λe=>hca e.symm)]
   simp
  ·omega
  ·exact zc1
  exact zc17
 obtain rfl:=hca
 clear hK
 obtain⟨N,hN⟩:∃N,l.length=m+1+N:=⟨l.length-(m+1),by omega⟩
 apply ZZ T (n':=(l.drop (m+1)).length);(iterate 4 exact rfl);omega;(rw[Rq];omega)
 rw[RU]
 refine zX8 ?_
 refine Yg (λz:CpM=>[(5,.int .i64 z.j),(3,.int .i64 z.i),(4,.slice (subA A (m+1) cap 5) (z.M.drop (m+1)).length (cap-(m+1))),(0,.slice A z.M.length cap)]) (λz=>cels A cap z.M::H)
  (λz=>z.M.length=l.length/\(1<=z.j/\z.j<=N)/\z.i<=m+z.j/\Xr l=z.M.take z.i++(Xr (l.drop (m+z.j))).drop 1/\∀i,m+z.j<=i->z.M[i]? =l[i]?) (λz=>N-z.j) ⟨m+1,1,l⟩ ⟨rfl,⟨TJ _,by show 1<=N;omega⟩,TJ _,?_,λ_ _=>rfl⟩ ?_ (λw hw=>hw) ?_
 ·show Xr l=l.take (m+1)++(Xr (l.drop (m+1))).drop 1
  rw[TN,ha,hce,YfQ ha hb,YmS hb]
  simp
 ·exact zc1
 rintro⟨i,j,M⟩ ⟨hM,⟨hj1,hj⟩,hi,hco,hsame⟩ K hK
 dsimp only at hM hj1 hj hi hco hsame⊢
 have hdl:(M.drop (m+1)).length=N:=by rw[Rq];omega
 by_cases hjl:j<N
 ·obtain⟨x,hx⟩:∃x,l[m+j]? =some x:=⟨_,Ta (by omega)⟩
  obtain⟨y,hy⟩:∃y,l[m+1+j]? =some y:=⟨_,Ta (by omega)⟩
  have hj3:((j:Int)-1).toNat=j-1:=by omega
  have hx2:(M.drop (m+1))[((j:Int)-1).toNat]? =some x:=by
   rw[hj3,RI,show m+1+(j-1)=m+j by omega,hsame _ (TJ _)];exact hx
  have hy2:(M.drop (m+1))[j]? =some y:=by
   rw[RI,hsame _ (by omega)];exact hy
  have hy3:l[m+j+1]? =some y:=by rw[show m+j+1=m+1+j by omega];exact hy
  have hs2:Rd B w0 (cels A cap M::H) (subA A (m+1) cap 5) ((M.drop (m+1)).flatMap celF):=by
   have h1:=Rd.sub (B:=B) (w0:=w0) (H:=cels A cap M::H) (q:=5) (f:=celF) (l:=M) (o:=m+1) (k:=M.length) (cap:=cap) (A:=A) (λ_=>rfl) (.sl Tz) (by omega)
   rwa [T0 (by rw[Rq];omega)]at h1
  unfold cels at hs2⊢
  have hMl:(M.set i y).length=M.length:=Rf
  have hMd:((M.set i y).drop (m+1)).length=(M.drop (m+1)).length:=by rw[Rq,Rq,hMl]
  repeat'(first|(apply YmC y x;(iterate 3 exact rfl);all_goals intro hca)|(apply Zb T (f:=celF) (l:=M) (i:=i) (a:=y);(iterate 3 exact rfl);exact zd;exactλ_=>rfl;(iterate 3 exact rfl);omega)|refine zgd ?_|(refine zge ?_ ?_<;>intro _<;>try exact zo)|fail)
  ·apply hK ⟨i+1,j+1,M.set i y⟩
   ·refine⟨hMl.trans hM,⟨by show 1<=j+1;omega,hjl⟩,by show i+1<=m+(j+1);omega,?_,λt ht=>?_⟩
    ·show Xr l=(M.set i y).take (i+1)++(Xr (l.drop (m+(j+1)))).drop 1
     rw[hco,YfP hx hy3 (λe=>hca e.symm),List.drop_one,List.tail_cons,TN,S0 (by omega),List.take_set_of_le (TJ _),show m+(j+1)=m+j+1 by omega,YmS hy3]
     simp
    ·dsimp only at ht⊢
     rw[NW (by omega)]
     exact hsame t (by omega)
   ·exact zc39
   ·dsimp only
    rw[hMl,hMd]
    exact zc1
   ·unfold cels
    dsimp only
    rw[hMl]
    exact YgV
  ·apply hK ⟨i,j+1,M⟩
   ·refine⟨hM,⟨by show 1<=j+1;omega,hjl⟩,by show i<=m+(j+1);omega,?_,λt ht=>hsame t (by dsimp only at ht;omega)⟩
    show Xr l=M.take i++(Xr (l.drop (m+(j+1)))).drop 1
    rw[hco,YfQ hx (by rw[hy3,hca]),show m+(j+1)=m+j+1 by omega]
   ·exact zc39
   ·exact zc1
   exact zc17
 ·obtain rfl:j=N:=by omega
  clear hK
  have hce2:Xr l=M.take i:=by
   obtain⟨x,hx⟩:∃x,l[m+j]? =some x:=⟨_,Ta (by omega)⟩
   have hd:l.drop (m+j+1)=[]:=Ru (by omega)
   rw[hco,Qf hx,hd]
   exact Ro _
  have hil:(Xr l).length=i:=by rw[hce2,TT];omega
  have hfl:(M.flatMap celF).take (i*5)=(Xr l).flatMap celF:=by rw[<-XG (q:=5) (λ_=>rfl),hce2]
  unfold cels
  refine zX40 ?_<;>intros
  rw[RU]
  apply XU (sl 64 5 A i cap ((Xr l).flatMap celF)::H)
  ·exact zc67
  apply Yal T T2 (e:=64) (size:=5) (k:=i) (xs:=(Xr l).flatMap celF);exact rfl;exact Tz;(iterate 3 exact rfl);omega
  repeat'(first|(apply ZY T (l:=M) (n':=i);(iterate 4 exact rfl);omega;omega;omega)|refine zgd ?_|fail)
  exact Yvx
theorem Ysu(es:Zh)(k k':KL)(v:Value)(b:Nat):vget (es++[(k,v,b)]) k'=match vget es k' with|some u=>some u|none=>if k=k' then some v else none:=by
 unfold vget
 grind
structure CSet(es:Zh)(p:Cel->Bool):Prop where
 len:∀e∈es,e.1.length=5
 val:∀e∈es,e.2.1=.bool true
 mem:∀c,vget es (nums c)=if p c=true then some (.bool true)else none
theorem CSet.nil:CSet [] λ_=>false:=⟨(λe h=>by cases h),(λe h=>by cases h),λc=>rfl⟩
section
variable {n:Shp}{B d:Nat}{w0:World}{ops:Array Oper}{Q:Exit->Act->World->Prop}{rest:List Oper}{env:Env}{H:List HP}{ty:TypeId}{pos:String}{after:Array Edge}
theorem YsZ{es:Zh}{clock g:Nat}{p p':Cel->Bool}(c:Cel)(hS:CSet es p)(hp:∀x,p' x=(p x||decide (c=x))){x y u:Operand}{K:Zh->Nat->List HP}(hx:evo env x=some (.map (some g)))(hy:evo env y=some (kv (nums c)))(hv:evo env u=some (.bool true))
 (hu:∀es' cl',Upd (blk g (vobj es clock)) (blk g (vobj es' cl')) H (K es' cl')) (h:∀es' cl',CSet es' p'->VL Tryz.prog none n B w0 ops Q rest env (K es' cl')):
 VL Tryz.prog none n B w0 ops Q (⟨none,.mapUpdate 272 x y u,ty,pos,after,none⟩::rest) env H:=by
 by_cases hc:p c=true
 ·have hg:=hS.mem c
  rw[Tn hc]at hg
  obtain⟨l1,b,l2,e,hn⟩:=YeV hg
  subst e
  refine YkZ (kt:=64) (et:=4) (N:=5) (nums c) hx hy hv (by kernel_rfl) rfl (λe he=>hS.len e (RN _ he)) (hu _ clock) hn ?_
  refine h _ _ ⟨hS.len,hS.val,λx=>?_⟩
  rw[hS.mem x,hp]
  grind
 ·have hg:=hS.mem c
  rw[Tf hc]at hg
  refine YkY (kt:=64) (et:=4) (N:=5) (nums c) hx hy hv (by kernel_rfl) rfl hS.len (hu _ _) hg ?_
  refine h _ _ ⟨λe he=>?_,λe he=>?_,λx=>?_⟩
  ·rcases TI.1 he with he|he
   ·exact hS.len e he
   ·rw[TG.1 he];rfl
  ·rcases TI.1 he with he|he
   ·exact hS.val e he
   simp_all
  ·rw[Ysu,hS.mem x,hp]
   by_cases hx2:c=x
   all_goals grind [Yj0]
end
def usR(n:Net)(s:Sch)(f:Flw)(r:List Int)(i:Nat)(c:Cel):Bool:=(List.range i).any λt=>decide (f.2.2.2.2.1+t*f.2.2.2.1<s.len)&&(runP s.len (Xq s f.1) (f.2.2.2.2.1+t*f.2.2.2.1+f.2.2.2.1) (Yp n r) (f.2.2.2.2.1+t*f.2.2.2.1)).any λp=>decide (p.1=c)
variable {n:Net}{s:Sch}{f:Flw}{r:List Int}{i:Nat}
theorem Yuj(h:f.2.2.2.2.1+i*f.2.2.2.1<s.len)(c:Cel):usR n s f r (i+1) c=(usR n s f r i c||(runP s.len (Xq s f.1) (f.2.2.2.2.1+i*f.2.2.2.1+f.2.2.2.1) (Yp n r) (f.2.2.2.2.1+i*f.2.2.2.1)).any λp=>decide (p.1=c)):=by
 simp_all [usR,List.range_succ]
theorem Yui(h:¬f.2.2.2.2.1+i*f.2.2.2.1<s.len)(hp:1<=f.2.2.2.1)(_h0:0<=f.2.2.2.2.1)(hi:i<=s.len.toNat)(c:Cel):O4 n s f r c=usR n s f r i c:=by
 have key:∀k,usR n s f r (i+k) c=usR n s f r i c:=by
  intro k
  induction k with
  |zero=>rfl
  |succ k ih=>
   rw[<-ih]
   unfold usR
   rw[show i+(k+1)=i+k+1 from rfl,Rx,Nu]
   have h2:¬f.2.2.2.2.1+(i+k:Nat)*f.2.2.2.1<s.len:=by
    have:(i:Int)*f.2.2.2.1<=((i+k:Nat):Int)*f.2.2.2.1:=SR (by omega) (by omega)
    omega
   simp_all [decide_eq_false]
 have:=key (s.len.toNat-i)
 rw[show i+(s.len.toNat-i)=s.len.toNat by omega]at this
 exact this
theorem YlL(c:Cel)(p:Cel->Bool)(gp gm:Nat)(es:Zh)(clock:Nat)(hS:CSet es p){B:Nat}{w0:World}{H:List HP}{w:World}(h1:blk gp (.cells #[.map (some gm)] 272 (0,0))∈H)(h2:blk gm (vobj es clock)∈H)(hw:St B w0 H w):
 CX B w0 250 [celV c,.pointer (some ⟨gp,0,none⟩)] w λv K=>v=.bool (!(p c))/\K=H:=by
 refine Yc Tryz.func250 Tryz.ntmps250 rfl rfl hw ?_
 have hz:∀w,(zeroValue 4).run Tryz.prog w=.ok (.bool false) w:=λw=>by kernel_rfl
 have hm:=hS.mem c
 have hl:=hS.len
 cases hpc:p c with
 |true=>
  rw[hpc,Tn rfl]at hm
  repeat'(first|(apply YbR (kt:=64) (et:=4) (N:=5) (nums c) (v:=.bool true);exact rfl;exact rfl;exact(by simp only[TL];exact .inr h2);kernel_rfl;exact rfl;exact hl;exact rfl;exact .inl hm)|refine zgd ?_|(refine zgh ?_;intro _)|fail)
  apply Yi H
  ·exact zc0
  exact zc11
 |false=>
  rw[hpc,Tf (by decide)]at hm
  repeat'(first|(apply YbR (kt:=64) (et:=4) (N:=5) (nums c) (v:=.bool false);exact rfl;exact rfl;exact(by simp only[TL];exact .inr h2);kernel_rfl;exact rfl;exact hl;exact rfl;exact .inr ⟨hm,hz⟩)|refine zgd ?_|(refine zgh ?_;intro _)|fail)
  apply Yi H
  ·exact zc0
  exact zc11
structure NdM where
 k:Nat
 i:Nat
 es:Zh
 cl:Nat
 Ds:List Nat
theorem YlM(n:NetM)(s:SchM)(f:Flw)(l:List RowM)(h1:1<=l.length/\l.length<=1000)(hok:∀r∈l,(Xl n.net s.sch f r.xs).2=0){A:Option Addr}{cap B:Nat}{w0:World}{H:List HP}{w:World}(ht:TabsB B w0)(hin:n.In B w0 H)(hrs:Rd B w0 H s.A (s.cells.flatMap celF))(hsl:s.cells.length<=1000000000000)(hrt:Rd B w0 H A (l.flatMap rowF))(hrw:∀r∈l,Rd B w0 H r.A (r.xs.flatMap numF))(hrl:∀r∈l,r.xs.length<=1000000000000/\r.xs.length<=r.cap)(hw:St B w0 H w):
 CX B w0 159 [n.val,s.val,flwV f,.slice A l.length cap] w λv K=>∃A' cap',v=.tuple #[.slice A' (s.cells.filter (Oo n.net s.sch (f,l.map (·.xs)))).length cap',.int .i64 0]/\K=cels A' cap' (s.cells.filter (Oo n.net s.sch (f,l.map (·.xs))))::H:=by
 refine Zr Tryz.func159 Tryz.ntmps159 rfl rfl hw ?_
 have hop:∀w,St B w0 [many H] w->St B w0 H w:=λw hw=>hw.perm (.openT H)
 have hwi:∀r∈l,(WayM.mk n s f r.A r.cap r.xs).In B w0 [many H]:=λr hr=>WayM.In.mono (H:=H) ⟨hin,hrs,hrw r hr,hsl,(hrl r hr).1,(hrl r hr).2⟩ hop
 have hrs:=hrs.mono hop
 have hrt:=hrt.mono hop
 have hWok:∀r∈l,Oa (WayM.mk n s f r.A r.cap r.xs):=λr hr=>Yii (OY (hok r hr)).1
 obtain⟨r0,hr0⟩:∃r0,l[0]? =some r0:=⟨_,Ta (by omega)⟩
 have hW0:=hWok r0 (Tc hr0)
 have hper:1<=f.2.2.2.1/\f.2.2.2.1<=512:=hW0.per
 have hph:0<=f.2.2.2.2.1/\f.2.2.2.2.1<f.2.2.2.1:=hW0.ph
 have hlen:1<=s.len/\s.len<=512:=hW0.slen
 have hfew:s.cells.length<=512:=hW0.few
 have p1:=λ(r:RowM) {H':List HP}{w:World}(hi:(WayM.mk n s f r.A r.cap r.xs).In B w0 H') (hw:St B w0 H' w)=>Yes ⟨n,s,f,r.A,r.cap,r.xs⟩ ht hi hw
 have p2:=λ(r:RowM) (a:Int) {H':List HP}{w:World}(hw:St B w0 H' w)=>YbW ⟨n,s,f,r.A,r.cap,r.xs⟩ a (B:=B) (w0:=w0) (H:=H') (w:=w) hw
 unfold NetM.val SchM.val flwV at p1
 unfold WayM.val intB at p2
 dsimp only at p1 p2
 unfold NetM.val SchM.val flwV
 refine ZW [many H] (λw hw=>hw.perm (.closeT H)) ?_
 repeat'(first|(apply Yiy;exact rfl;intro _)|refine zgd ?_|(refine zge ?_ ?_<;>intro _<;>try exact zo)|(refine zgh ?_;intro _)|fail)
 rename_i g4 g5 g6 _ gm g10
 refine Yio (λz:NdM=>z.Ds.map mkD++[]) (λz:NdM=>[(26,.int .i64 (z.k:Nat)),(25,.int .i64 l.length),(24,.slice A l.length cap),(10,.pointer (some ⟨g10,0,none⟩)),(6,.pointer (some ⟨g6,0,none⟩)),(5,.pointer (some ⟨g5,0,none⟩)),(4,.pointer (some ⟨g4,0,none⟩))])
  (λz=>blk g10 (.cells #[.map (some gm)] 272 (0,0))::blk gm (vobj z.es z.cl)::flwB g6 f::schA g5 s::netA g4 n::many (z.Ds.map mkB)::[many H])
  (λz=>z.k<=l.length/\CSet z.es λc=>((l.map (·.xs)).take z.k).any λr=>O4 n.net s.sch f r c) (λz=>l.length-z.k) ⟨0,0,[],0,[]⟩ ⟨Tm _,CSet.nil⟩ rfl ?_ ?_ ?_
 ·exact zc1
 ·intro w hw
  have h5:St B w0 (blk g10 (.cells #[.map (some gm)] 272 (0,0))::blk gm (vobj [] 0)::flwB g6 f::schA g5 s::netA g4 n::[many H]) w:=by
   revert w
   exact zc0
  have h6:=h5.perm (.noMany _)
  clear hw h5
  have h7:St B w0 (blk g10 (.cells #[.map (some gm)] 272 (0,0))::blk gm (vobj [] 0)::flwB g6 f::schA g5 s::netA g4 n::many []::[many H]) w:=by
   revert w
   exact zc0
  exact h7
 rintro⟨k,_,es,cl,Ds⟩ ⟨hk,hS⟩ K hK
 dsimp only at hk hS⊢
 by_cases hlt:k<l.length
 rotate_left
 ·obtain rfl:k=l.length:=by omega
  clear hK
  have hS:CSet es (Oo n.net s.sch (f,l.map (·.xs))):=by
   rw[T0 YsN]at hS
   exact hS
  generalize Oo n.net s.sch (f,l.map (·.xs))=p at hS⊢
  refine zX1 ?_<;>intros
  apply Ye _ Yf2
  exact za
  exact rfl
  exactλ_ hw=>(JC s.cells (by omega) (hrs.mono zc0) (hw))
  rintro _ _ ⟨A1,c1,rfl,rfl⟩
  refine zX71 ?_
  apply Ye _ Yna
  exact za
  exact rfl
  exactλ_ hw=>(UG (λc=>!(p c)) s.cells 250 [.pointer (some ⟨g10,0,none⟩)] Yxr (by omega) (λc _ X w hw=>YlL c p g10 gm es cl hS (TU _ (by(focus exact zc2))) (TU _ (by(focus exact zc2))) hw) (hw))
  rintro _ _ ⟨rfl,rfl⟩
  have e:s.cells.filter (λc=>!!(p c))=s.cells.filter p:=SJ λc _=>Bool.not_not _
  rw[e]
  refine zX4 ?_
  apply YiI (H':=cels A1 c1 (s.cells.filter p)::H)
  ·intro w hw
   have h5:St B w0 (many (Ds.map mkB)::cels A1 c1 (s.cells.filter p)::[many H]) w:=by
    revert w
    exact zc0
   exact(h5.perm (.cons _ (.cons _ (.openT H)))).perm (.open_ (Ds.map mkB) _)
  apply VQ_m
  apply YM;(iterate 3 exact rfl)
  exact⟨A1,c1,rfl,rfl⟩
 obtain⟨r,hr⟩:∃r,l[k]? =some r:=⟨_,Ta hlt⟩
 have hrm:=Tc hr
 have hri:=hwi r hrm
 have hWr:=hWok r hrm
 have p3:=λ{H':List HP}{w:World}(hi:(WayM.mk n s f r.A r.cap r.xs).In B w0 H') (hw:St B w0 H' w)=>p1 r hi hw
 rw[hok r hrm]at p3
 have hiter:=λ(a:Int) (ha:0<=a/\a<=1000000) {ga gw:Nat}{H':List HP}(hi:(WayM.mk n s f r.A r.cap r.xs).In B w0 H')=>Yaz ⟨n,s,f,r.A,r.cap,r.xs⟩ a hWr ha ga gw hi
 unfold intB Yi2 runW at hiter
 dsimp only at hiter
 have hst:∀c,((l.map (·.xs)).take (k+1)).any (λr=>O4 n.net s.sch f r c)=(((l.map (·.xs)).take k).any (λr=>O4 n.net s.sch f r c)||O4 n.net s.sch f r.xs c):=λc=>by
  rw[TN,TR,hr,Nu]
  simp
 generalize hbp:(λc=>((l.map (·.xs)).take k).any λr=>O4 n.net s.sch f r c)=bp at hS
 have hst:∀c,((l.map (·.xs)).take (k+1)).any (λr=>O4 n.net s.sch f r c)=(bp c||O4 n.net s.sch f r.xs c):=λc=>by rw[hst,<-hbp]
 refine zX1 ?_<;>intros
 apply Ye _ YuL
 exact za
 exact rfl
 exactλ_ hw=>(p3 (hri.mono zc0) (hw))
 rintro _ _ ⟨A2,c2,rfl,rfl⟩
 refine zX48 ?_<;>intros
 rename_i g17
 refine Yio (λz:NdM=>z.Ds.map mkD++[]) (λz:NdM=>[(18,.int .i64 (f.2.2.2.2.1+(z.i:Int)*f.2.2.2.1)),(17,.pointer (some ⟨g17,0,none⟩)),(26,.int .i64 (k:Nat)),(25,.int .i64 l.length),(24,.slice A l.length cap),(10,.pointer (some ⟨g10,0,none⟩)),(6,.pointer (some ⟨g6,0,none⟩)),(5,.pointer (some ⟨g5,0,none⟩)),(4,.pointer (some ⟨g4,0,none⟩))])
  (λz=>blk gm (vobj z.es z.cl)::wayB g17 ⟨n,s,f,r.A,r.cap,r.xs⟩::blk g10 (.cells #[.map (some gm)] 272 (0,0))::flwB g6 f::schA g5 s::netA g4 n::many (z.Ds.map mkB)::[many H])
  (λz=>z.i<=s.len.toNat/\CSet z.es λc=>(bp c||usR n.net s.sch f r.xs z.i c)) (λz=>s.len.toNat-z.i) ⟨k,0,es,cl,Ds⟩ ⟨Tm _,?_⟩ rfl ?_ ?_ ?_
 ·have:(λc=>(bp c||usR n.net s.sch f r.xs 0 c))=bp:=by
   funext c
   unfold usR
   simp
  show CSet es λc=>(bp c||usR n.net s.sch f r.xs 0 c)
  rw[this];exact hS
 ·dsimp only
  rw[show f.2.2.2.2.1+((0:Nat):Int)*f.2.2.2.1=f.2.2.2.2.1 by simp]
  exact zc1
 ·exact zc0
 rintro⟨_,i,es2,cl2,Ds2⟩ ⟨hi,hS2⟩ K2 hK2
 dsimp only at hi hS2⊢
 obtain⟨y,hy⟩:∃y:Int,f.2.2.2.2.1+(i:Int)*f.2.2.2.1=y:=⟨_,rfl⟩
 have hiy:(i:Int)<=(i:Int)*f.2.2.2.1:=by
  have:=SA hper.1 (show(0:Int)<=i by omega)
  rw[Int.mul_one]at this
  exact this
 by_cases hyl:f.2.2.2.2.1+(i:Int)*f.2.2.2.1<s.len
 rotate_left
 ·have hud:=Yui (n:=n.net) (s:=s.sch) (f:=f) (r:=r.xs) (i:=i) hyl hper.1 hph.1 hi
  clear hK2
  rw[hy]at hyl⊢
  refine zX1 ?_<;>intros
  apply hK ⟨k+1,0,es2,cl2,Ds2⟩
  ·refine⟨by show k+1<=_;omega,?_⟩
   have:(λc=>((l.map (·.xs)).take (k+1)).any λr=>O4 n.net s.sch f r c)=λc=>(bp c||usR n.net s.sch f r.xs i c):=by
    funext c
    rw[hst,hud]
   show CSet es2 λc=>((l.map (·.xs)).take (k+1)).any λr=>O4 n.net s.sch f r c
   rw[this];exact hS2
  ·exact zc39
  ·exact zc1
  ·exact zc0
 have hus:=Yuj (n:=n.net) (s:=s.sch) (f:=f) (r:=r.xs) (i:=i) hyl
 have he18:f.2.2.2.2.1+((i+1:Nat):Int)*f.2.2.2.1=y+f.2.2.2.1:=by
  rw[<-hy,Int.natCast_add,Int.add_mul]
  omega
 rw[hy]at hyl hus⊢
 have hit:=λ{ga gw:Nat}{H':List HP}(hi:(WayM.mk n s f r.A r.cap r.xs).In B w0 H')=>hiter y ⟨by omega,by omega⟩ (ga:=ga) (gw:=gw) hi
 clear hiter hK
 have hsl2:s.sch.len=s.len:=rfl
 rw[hsl2]at hus
 generalize runP s.len (Xq s.sch f.1) (y+f.2.2.2.1) (Yp n.net r.xs) y=W at hus hit
 have p5:=λ{H':List HP}{w:World}(hw:St B w0 H' w)=>p2 r y hw
 refine zX3 ?_<;>intros
 apply Ye _ YuM
 exact za
 exact rfl
 exactλ_ hw=>(p5 (hw))
 rintro _ _ ⟨ga,gw,rfl,rfl⟩
 refine zX8 ?_
 refine Zs (gf:=325) (lb:=[.pointer (some ⟨ga,0,none⟩),.pointer (some ⟨gw,0,none⟩)]) (xs:=W.map cntV)
  (blk ga (.cells #[.int .i64 y] 3 (0,0))::wayB gw ⟨n,s,f,r.A,r.cap,r.xs⟩::wayB g17 ⟨n,s,f,r.A,r.cap,r.xs⟩::blk g10 (.cells #[.map (some gm)] 272 (0,0))::flwB g6 f::schA g5 s::netA g4 n::many (Ds2.map mkB)::[many H])
  (λz:Zh×Nat=>[blk gm (vobj z.1 z.2)]) (λj z=>CSet z.1 λc=>((bp c||usR n.net s.sch f r.xs i c)||(W.take j).any λp=>decide (p.1=c))) (λ_ _=>False) (es2,cl2) rfl YuZ (hit (hri.mono zc0)) rfl ?_ (by kernel_rfl) (by kernel_rfl) ?_ ?_ ?_ ?_ (λ_ _ _ h=>h.elim)
 ·exact YvX
 ·simp only[TD,TK]
  exact zc0
 ·simpa using hS2
 ·rintro lb j args R ⟨es3,cl3⟩ hk hI
  rw[TR]at hk
  obtain⟨⟨d,sl⟩,hz,rfl⟩:∃z,W[j]? =some z/\args=cntV z:=by
   cases h:W[j]? with
   |none=>rw[h]at hk;cases hk
   |some z=>exact YvY
  dsimp only at hI
  dsimp only[U5,cntV,List.cons_append,List.nil_append]
  unfold celV
  refine zX72 ?_<;>intros
  apply J6 (YA Ys)
  intro R'
  refine zX8 ?_
  apply YsZ d hI (p':=λc=>((bp c||usR n.net s.sch f r.xs i c)||(W.take (j+1)).any λp=>decide (p.1=c))) (λc=>by rw[TN,hz,Nu];simp[Bool.or_assoc]);(iterate 3 exact rfl);(intro _ _;exact zd);intro es4 cl4 hS4
  refine zX11 ?_
  apply UC (es4,cl4)
  ·exact hS4
  ·dsimp only[List.cons_append,List.nil_append]
   exact zc0
 ·rintro D ⟨es3,cl3⟩ hI
  dsimp only at hI
  rw[TB,TV]at hI
  dsimp only[List.cons_append,List.nil_append]
  refine zX11 ?_
  apply hK2 ⟨k,i+1,es3,cl3,D::Ds2⟩
  ·refine⟨by exact zc71,?_⟩
   have:(λc=>(bp c||usR n.net s.sch f r.xs (i+1) c))=λc=>((bp c||usR n.net s.sch f r.xs i c)||W.any λp=>decide (p.1=c)):=by
    funext c
    rw[hus,Bool.or_assoc]
   show CSet es3 λc=>(bp c||usR n.net s.sch f r.xs (i+1) c)
   rw[this];exact hI
  ·exact zc39
  ·dsimp only
   rw[he18]
   exact zc1
  ·intro w hw
   have h5:St B w0 (mkB D::many (Ds2.map mkB)::blk gm (vobj es3 cl3)::wayB g17 ⟨n,s,f,r.A,r.cap,r.xs⟩::blk g10 (.cells #[.map (some gm)] 272 (0,0))::flwB g6 f::schA g5 s::netA g4 n::[many H]) w:=by
    revert w
    exact zc0
   have h6:=h5.perm (((Perm.open_ (Ds2.map mkB) _).cons _).trans (.close (mkB D::Ds2.map mkB) _))
   clear hw h5
   have h7:St B w0 (blk gm (vobj es3 cl3)::wayB g17 ⟨n,s,f,r.A,r.cap,r.xs⟩::blk g10 (.cells #[.map (some gm)] 272 (0,0))::flwB g6 f::schA g5 s::netA g4 n::many (mkB D::Ds2.map mkB)::[many H]) w:=by
    revert w
    exact zc0
   exact h7
structure PlnOk(p:Pln):Prop where
 cert:(YN p.n p.q p.s).2.2=0
 c:p.c=(YN p.n p.q p.s).1
 free:(ZQ p.s).2=0
 f:p.f=(ZQ p.s).1
def Made(n:Net)(l:List Flw)(len off:Int)(R:Option Pln×Int):Prop:=(R.2≠0/\R.1=none)\/∃p,R=(some p,0)/\PlnOk p/\p.n=n/\Y0 p.q=l/\p.s.len=len/\p.s.off=off
theorem YbI{n:Net}{f:Flw}(h:(Zo n f).2=0):(Zo n f).1.1=f:=by
 unfold Zo at h⊢
 split
 ·rename_i h1;rw[Tn h1]at h;exact absurd h h1
 ·rfl
variable {n:Net}
theorem Yeo{f:Flw}(h:(reqE n f).2=0):(reqE n f).1.1=f:=by
 unfold reqE at h⊢
 split
 ·rfl
 ·rename_i h1
  rw[h1]at h
  exact YbI h
theorem Ynv{a b:Int}(h:b≠0):XM a b≠0:=by
 unfold XM
 split
 ·exact h
 ·assumption
theorem Yl8{l:List Flw}(h:(Zd n l).2.2=0):Y0 (Zd n l).1=l:=by
 unfold Zd at h⊢
 by_cases h1:Yo n=0
 rotate_left
 ·rw[Tn h1]at h;cases h
 rw[Tf (λe=>e h1)]at h⊢
 by_cases h2:(Yu n.nodes l).2=0
 rotate_left
 ·rw[Tn h2]at h;exact absurd h h2
 rw[Tf (λe=>e h2)]at h⊢
 by_cases h3:(Ycl n l).2=0
 rotate_left
 ·rw[Tn h3]at h;exact absurd h h3
 rw[Tf (λe=>e h3)]
 unfold Ycl at h3
 unfold Y0
 show(l.map λf=>(reqE n f).1).map Prod.fst=l
 rw[NX]
 apply List.ext_getElem (by simp)
 intro i hi hi2
 rw[List.getElem_map]
 have:=YK.1 h3 i (Tm _) (by omega)
 unfold Xj at this
 rw[Tu,Ta hi2]at this
 exact Yeo this
end Go.Proofs.YtaholidehobiiaaGreatDoor
