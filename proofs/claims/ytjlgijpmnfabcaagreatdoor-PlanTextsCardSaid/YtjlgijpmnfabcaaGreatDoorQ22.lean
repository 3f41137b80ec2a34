/- Lemmas. -/
import Derived.Test.YtjlgijpmnfabcaaGreatDoorQ20
import Derived.Test.YtjlgijpmnfabcaaGreatDoorQ21
set_option maxRecDepth 100000
set_option maxHeartbeats 8000000
set_option linter.all false
namespace Go.Rt
open Go.Nw
def Yjq(nodes:Nat)(l:List Lk)(to:Int)(far:List Int):Bool:=
 decide (far.length=nodes)&&decide (Yk far to=0)&&((List.range nodes).all λv:Nat=>decide (0<=Yk far v/\Yk far v<=Y5))&&
 ((List.range nodes).all λv:Nat=>decide ((v:Int)=to)||decide (¬Yk far v<Y5)||l.any λa=>decide (a.1=v/\Yk far a.2.1+a.2.2<=Yk far v))&&
 l.all λa=>decide (¬Yk far a.2.1<Y5)||decide (Yk far a.1<=Yk far a.2.1+a.2.2)
variable {l:List Lk}{to:Int}{far:List Int}
theorem YmJ{nodes:Nat}(h:Yjq nodes l to far=true):Dist nodes l to far:=by
 unfold Yjq at h
 simp only[Tm,TK,RG,To,Ri,T8]at h
 obtain⟨⟨⟨⟨h1,h2⟩,h3⟩,h4⟩,h5⟩:=h
 refine⟨h1,h2,λv h0 hn=>?_,λv h0 hn hne hlt=>?_,λa ha hlt=>?_⟩
 ·have:=h3 v.toNat (by omega)
  grind
 ·have:=h4 v.toNat (by omega)
  grind
 grind
def YoE(nodes:Nat)(l:List Lk):Bool:=l.all λa=>decide ((0<=a.1/\a.1<nodes)/\(0<=a.2.1/\a.2.1<nodes)/\(1<=a.2.2/\a.2.2<=1000000))
theorem Ymu{nodes:Nat}(h:YoE nodes l=true):ArcsOk nodes l:=λa ha=>by
 have:=TK.1 h a ha
 simp_all
theorem Yjr{nodes:Nat}(h1:YoE nodes l=true)(h:Yjq nodes l to far=true):J2 nodes l to=far:=Qy (Ymu h1) (YmJ h)
end Go.Rt
namespace Go.Proofs.YtjlgijpmnfabcaaGreatDoor
open Go.RowKit Go.Eng Go.Nw Go.Rt
def exN5:Net:=⟨2,[[0,9],[9,0]],1,1000,[(0,1,0),(1,0,0)],[9,9]⟩
def exF5:Flw:=(1,0,1,2,0,2)
def exS5:Sch:=⟨2,1,[(0,0,0,1,1)]⟩
def exP5:Pln:=⟨exN5,[(exF5,[[0,1]])],exS5,[⟨1,[[0,1]],[1],[0],[[0]]⟩],[0,1]⟩
def exA5:List Lk:=[(0,1,1),(1,0,1)]
theorem Yhr:JP exN5=exA5:=by decide
theorem Yhs:Z2 exN5 0 1=0:=by decide
theorem Yo8:∃x es,YaM 100000 2 exA5 0 0 1 (λ_=>false)=some (x,false,es):=by
 have h:(YaM 100000 2 exA5 0 0 1 (λ_=>false)).map (λr=>r.2.1)=some false:=by decide
 simp_all
theorem YeG:WA 100000 exN5 0 1=some (none,17):=by
 obtain⟨x,es,hb⟩:=Yo8
 have hp:Ye3 100000 2 exA5 0 1=some none:=by
  simp_all [Ye3]
 unfold WA
 rw[Tf (by grind [Yhs]),Yhr,show exN5.nodes.toNat=2 from rfl,hp]
theorem Ypa:VG exN5 exF5=(none,17):=by
 grind [VG,exF5,YeG]
theorem Yrh:WA 100000 exN5 exF5.2.1 exF5.2.2.1=some (VG exN5 exF5):=by
 exact YeG
theorem YmP:ZC exN5 0 1=([0,1],0):=by
 have hr:Qe exN5 0 1=[0,1]:=by
  unfold Qe
  rw[Yhr,show exN5.nodes.toNat=2 from rfl,Yjr (far:=[34,0]) (by decide) (by decide)]
  decide
 grind [ZC,Yhs]
theorem Ylr:reqE exN5 exF5=((exF5,[[0,1]]),0):=by
 grind [reqE,Ypa,VN,exF5,YmP]
theorem YmO:VK exN5 [exF5]=([(exF5,[[0,1]])],(-1,0)):=by
 have h1:Ydb exN5 [exF5]=(-1,0):=by
  grind [Ydb,YH,Xp,Ylr]
 unfold VK
 rw[h1,Tf (by decide),Tf (by decide),Tf (by decide),Ru,List.map_nil,Ylr]
theorem YmN:YfM exN5 [(exF5,[[0,1]])] 2 1=(some exP5,0):=by rfl
theorem Yo9:YlD exN5 [exF5] 2 1=(some exP5,0):=by
 unfold YlD
 rw[YmO,Tf (by decide),Tf (by decide),Tf (by decide),Tf (by decide)]
 exact YmN
theorem Ylq:chkP exP5=0:=by decide
def exR5:Pln:=⟨exN5,[],⟨2,1,[]⟩,[],[1,1]⟩
theorem Yri:∃p,wdrP exP5 1=(some p,0)/\p.q=[]/\p.s.cells=[]:=⟨exR5,by rfl,rfl,rfl⟩
theorem Yas{n:Int}(h:0<=n/\n<10):Lib.itoa n=[UInt8.ofNat (48+n.toNat)]:=by
 grind [UD,Go.Lib.decDigits_one]
def exT5:List UInt8:=[102,108,111,119,32,49,32,48,32,49,32,50,32,48,32,50,10,114,111,117,116,101,32,48,32,49,10,115,99,104,101,100,117,108,101,32,50,32,49,10,99,101,108,108,32,48,32,48,32,48,32,49,32,49,10,102,108,111,119,32,49,10,114,111,117,116,101,32,48,32,49,10,98,111,117,110,100,32,49,32,48,10,115,108,111,116,115,32,48,10]
theorem Ypb:Xg exP5=(exT5,0):=by
 have h0:Lib.itoa 0=[48]:=Yas (by omega)
 have h1:Lib.itoa 1=[49]:=Yas (by omega)
 have h2:Lib.itoa 2=[50]:=Yas (by omega)
 unfold Xg
 rw[Tf (by grind [Ylq])]
 unfold exP5 exS5 exF5 Y3 Zf
 rw[Tf (by decide),Tf (by decide)]
 unfold plnT Wy Ue Wz
 simp only[TN,List.flatMap_nil,T0,RB,List.take,show List.range (0+1)=[0] from rfl]
 unfold YlO rqT Xq YA V4 nums rtAt
 simp[h0,h1,h2,exT5,wordF,wordR,UP,UQ]
 rfl
theorem YmV{q:List Rqs}{f:Flw}:f∈YR q↔∃y∈q,y.1=f:=by unfold YR;exact TC
theorem YpG(n:Net):∃m:NetM,m.net=n:=⟨⟨n.nodes,none,0,n.power.map λr=>⟨none,0,r⟩,n.noise,n.thr,none,0,n.links,none,0,n.margin⟩,by
 unfold NetM.net
 simp only[Nq]
 congr 1
 exact(List.map_congr_left λr _=>rfl).trans (List.map_id _)⟩
theorem Yqd(s:Sch):∃m:SchM,m.sch=s:=⟨⟨s.len,s.off,none,0,s.cells⟩,rfl⟩
structure Ykx(len per:Int)(b:Int×Int×List Int):Prop where
 w:0<=b.2.1/\b.2.1<len
 l:1<=b.2.2.length/\b.2.2.length<=64
 x:∀z∈b.2.2,0<=z/\z<per
theorem Yej{S:Int->Option (List Int)}{len per:Int}(hper:1<=per)(hS:∀a l,S a=some l->1<=Jj l-a+1/\(1<=l.length/\l.length<=64)/\∀z∈l,a<=z/\z<a+per):
 ∀{k:Nat}{rel:Int}{b0 b:Int×Int×List Int},0<=rel->(Ykx len per b0\/rel<len/\k≠0/\b0.1=0)->J0 S len per k rel b0=some b->Ykx len per b
 |0,rel,b0,b,_,h0,h=>by
  unfold J0 at h
  rw[<-Tv h]
  rcases h0 with h0|⟨_,h0,_⟩
  ·exact h0
  ·exact absurd rfl h0
 |k+1,rel,b0,b,hr,h0,h=>by
  unfold J0 at h
  split at h
  ·rw[<-Tv h]
   rcases h0 with h0|⟨h0,_⟩
   ·exact h0
   ·omega
  rename_i hlt
  cases hs:S rel with
  |none=>rw[hs]at h;cases h
  |some l=>
   rw[hs]at h
   obtain⟨h1,h2,h3⟩:=hS _ _ hs
   refine Yej hper hS (by omega) (.inl ?_) h
   split
   ·refine⟨⟨hr,by show rel<len;omega⟩,by show 1<=(l.map _).length/\(l.map _).length<=64;rw[Tt];exact h2,λz hz=>?_⟩
    obtain⟨y,hy,rfl⟩:=TC.1 hz
    have:=h3 y hy
    omega
   ·rcases h0 with h0|h0
    ·exact h0
    ·omega
theorem Ykc{n:NetM}{s:SchM}{f:Flw}{r:List Int}(h:(YP n.net s.sch f r).2=0):Ykx s.len f.2.2.2.1 (YP n.net s.sch f r).1/\(2<=r.length/\r.length<=9):=by
 obtain⟨h1,b,h2,h3⟩:=W4 h
 have hok:=Q9 (x:=⟨n,s,f,none,0,r⟩) h1
 have hph:=hok.ph
 have hsl:=hok.slen
 have hp:1<=f.2.2.2.1:=hok.per.1
 refine⟨?_,hok.len⟩
 rw[h3]
 refine Yej (len:=s.sch.len) (per:=f.2.2.2.1) hp (λa l hs=>?_) (k:=s.sch.len.toNat) hph.1 (.inr ⟨Yqs h1,?_,rfl⟩) h2
 ·have h4:=Ydv (x:=⟨n,s,f,none,0,r⟩) hok hs
  refine⟨by omega,⟨h4.1,?_⟩,λz hz=>?_⟩
  ·have h5:=QP hok (Yp n.net r).length
   rw[show(⟨n,s,f,none,0,r⟩:WayM).n=n from rfl,show(⟨n,s,f,none,0,r⟩:WayM).r=r from rfl,TM,VE]at h5
   have h6:=UO ⟨n,s,f,none,0,r⟩ a
   rw[show JD (⟨n,s,f,none,0,r⟩:WayM).n.net (⟨n,s,f,none,0,r⟩:WayM).s.sch (⟨n,s,f,none,0,r⟩:WayM).f (⟨n,s,f,none,0,r⟩:WayM).r a=some l from hs]at h6
   split at h6
   ·cases h6
   have h7:(runW ⟨n,s,f,none,0,r⟩ a).length<=XY (Yp n.net r):=YbK _ _ _ _ _
   rw[Tv h6,Tt]
   have h8:r.length<=9:=hok.len.2
   omega
  ·have h6:=UO ⟨n,s,f,none,0,r⟩ a
   rw[show JD (⟨n,s,f,none,0,r⟩:WayM).n.net (⟨n,s,f,none,0,r⟩:WayM).s.sch (⟨n,s,f,none,0,r⟩:WayM).f (⟨n,s,f,none,0,r⟩:WayM).r a=some l from hs]at h6
   split at h6
   ·cases h6
   rw[Tv h6]at hz
   obtain⟨y,hy,rfl⟩:=TC.1 hz
   exact YbL (by show a<=a+f.2.2.2.1;omega) hy
 ·show s.len.toNat≠0
  have h4:1<=s.len:=hsl.1
  omega
theorem Yjj{n:Net}{q:List Rqs}{s:Sch}(h:(YO n q s).2.2=0):Jf (YO n q s).1=true:=by
 obtain⟨nm,rfl⟩:=YpG n
 obtain⟨sm,rfl⟩:=Yqd s
 have hrq:=Us h
 obtain⟨h16,hd⟩:=Ov hrq
 have hslen:sm.sch.len<=512:=(Rm (Xw.1 (Og h)).sized).2.1
 have hpw:=(YeK.1 (Ypj h)).2.2.2
 have hfo:=(YeK.1 (Ypj h)).2.2.1
 rw[YkQ h]
 have hform:∀x∈q,FormD (clmE nm.net sm.sch x):=λx hx=>by
  have hw:=(Za.1 h).2 x hx
  have hrts:=Yqb hw
  have hln:=Ow hrts
  unfold Oa at hw
  rw[Tm,To]at hw
  have hl:=hw.2
  simp only[RY]at hl
  obtain⟨hid,hper,-,-,hdl⟩:=X6 (hfo x.1 (YmV.2 ⟨x,hx,rfl⟩))
  have hr:∀r∈x.2,(1<=(YP nm.net sm.sch x.1 r).1.1/\(YP nm.net sm.sch x.1 r).1.1<=x.1.2.2.2.2.2)/\Ykx sm.len x.1.2.2.2.1 (YP nm.net sm.sch x.1 r).1/\(2<=r.length/\r.length<=9):=λr hr=>by
   obtain⟨h1,h2⟩:=Yf2 hl hr
   obtain⟨b,h3,h4,h5,-⟩:=Ynz h1
   rw[h4]at h2
   exact⟨by rw[h4];exact⟨h5,h2⟩,Ykc h1⟩
  have hnd:∀r∈x.2,∀z∈r,0<=z/\z<=31:=λr hr z hz=>by
   obtain⟨hck,-,hrt⟩:=VM hrq
   have h32:=(YK hck).n1
   have hc:=ZN (hrt x hx) r hr
   unfold X0 at hc
   split at hc
   ·exact absurd hc (by assumption)
   have ho:=(WQ hc).2.1
   rw[RJ]at ho
   have h8:=ho z hz
   unfold offE at h8
   simp only[To]at h8
   omega
  have hmem:∀i,i<x.2.length->rtAt x.2 i∈x.2:=λi hi=>Yis (by omega)
  have hsl:∀i,i<x.2.length->rtAt (x.2.map λr=>(YP nm.net sm.sch x.1 r).1.2.2) i=(YP nm.net sm.sch x.1 (rtAt x.2 i)).1.2.2:=λi hi=>by
   unfold rtAt
   rw[Tz,Tz,TJ,Ta hi];rfl
  refine⟨by show 0<=x.1.1/\x.1.1<=255;omega,by show 1<=x.2.length/\x.2.length<=2;omega,Tt _,Tt _,Tt _,λz hz=>?_,λz hz=>?_,λi hi=>?_,λi hi=>?_⟩
  ·obtain⟨r,hr',rfl⟩:=TC.1 hz
   have:=(hr r hr').1
   omega
  ·obtain⟨r,hr',rfl⟩:=TC.1 hz
   have h1:=(hr r hr').2.1.w
   have h2:sm.len<=512:=hslen
   omega
  ·have h1:=hmem i hi
   exact⟨(hr _ h1).2.2.1,(hr _ h1).2.2.2,hnd _ h1⟩
  ·have h1:=(hr _ (hmem i hi)).2.1
   have e:=hsl i hi
   rw[show rtAt (clmE nm.net sm.sch x).slots i=_ from e]
   refine⟨h1.l.1,h1.l.2,λz hz=>?_⟩
   have:=h1.x z hz
   omega
 unfold Jf
 rw[Tm,To,Tt]
 refine⟨h16,TK.2 λi hi=>?_⟩
 have hi:=T8.1 hi
 have hget:∀j,j<q.length->∃x,q[j]? =some x/\Jd (q.map (clmE nm.net sm.sch)) j=clmE nm.net sm.sch x:=λj hj=>by
  refine⟨_,Ta hj,?_⟩
  unfold Jd
  rw[Tz,TJ,Ta hj];rfl
 obtain⟨x,hx,ex⟩:=hget i hi
 unfold Yhi
 rw[ex,Tm]
 refine⟨YcE.2 (hform x (Tc hx)),?_⟩
 rw[RG,To,To]
 rcases Ss i with h0|h0
 ·exact .inl h0
 right
 obtain⟨y,hy,ey⟩:=hget (i-1) (by omega)
 rw[ey]
 show y.1.1<x.1.1
 unfold YR at hpw
 rw[NE,Rb]at hpw
 obtain⟨a1,a2⟩:=Tu.1 hy
 obtain⟨b1,b2⟩:=Tu.1 hx
 have:=hpw (i-1) i a1 b1 (by omega)
 rwa [a2,b2]at this
theorem Qa{p:Pln}(h:chkP p=0):Jf p.c=true:=by
 have h1:=Yjj (YoH h).cert
 rwa [<-(YoH h).c]at h1
variable {B:Nat}{w0 w:World}{H:List HP}
theorem Yjw(hw:St B w0 H w):
 CX B w0 29 [] w λv K=>∃(n:NetM) (A:Option Addr),v=.tuple #[n.val,.slice A 1 1]/\n.net=exN5/\n.In B w0 K/\Rd B w0 K A ([exF5].flatMap flwF)/\∀w,St B w0 K w->St B w0 H w:=by
 refine Ya Tryz.func29 Tryz.ntmps29 rfl rfl hw ?_
 repeat'(first|refine zgd ?_|(refine zgh ?_;intro _)|fail)
 rename_i g0 r1 r2 gp gl gm g2 gf
 apply Yv T;(iterate 3 exact rfl);exact zm;exact rfl;exact rfl;exactλw hw=>hw
 refine⟨⟨2,(some ⟨gp,0,none⟩),2,[⟨(some ⟨r1,0,none⟩),2,[0,9]⟩,⟨(some ⟨r2,0,none⟩),2,[9,0]⟩],1,1000,(some ⟨gl,0,none⟩),2,[(0,1,0),(1,0,0)],(some ⟨gm,0,none⟩),2,[9,9]⟩,(some ⟨gf,0,none⟩),rfl,rfl,?_,?_,?_⟩
 ·refine⟨Rd.blk (cs:=#[.slice (some ⟨r1,0,none⟩) 2 2,.slice (some ⟨r2,0,none⟩) 2 2]) (t:=24) (fr:=(0,0)) zm,λr hr=>?_,Rd.blk (cs:=#[.int .i64 0,.int .i64 1,.int .i64 0,.int .i64 1,.int .i64 0,.int .i64 0]) (t:=145) (fr:=(0,0)) zm,Rd.blk (cs:=#[.int .i64 9,.int .i64 9]) (t:=3) (fr:=(0,0)) zm,by show 2<=_;omega,λr hr=>?_,by show 2<=_;omega,by show 2<=_;omega⟩
  ·simp only[TV,Si,NH]at hr
   rcases hr with rfl|rfl
   ·exact Rd.blk (cs:=#[.int .i64 0,.int .i64 9]) (t:=3) (fr:=(0,0)) zm
   ·exact Rd.blk (cs:=#[.int .i64 9,.int .i64 0]) (t:=3) (fr:=(0,0)) zm
  ·simp only[TV,Si,NH]at hr
   rcases hr with rfl|rfl<;>(show 2<=_;omega)
 ·exact Rd.blk (cs:=#[.int .i64 1,.int .i64 0,.int .i64 1,.int .i64 2,.int .i64 0,.int .i64 2]) (t:=66) (fr:=(0,0)) zm
 ·exact zk
theorem YiM(ht:TabsB B w0)(hw:St B w0 H w):
 CX B w0 6 [] w λv K=>v=.bool true/\K=H:=by
 refine Ya Tryz.func6 Tryz.ntmps6 rfl rfl hw ?_
 repeat'(first|refine zga ?_|fail)
 apply Yf _ en29
 exact za
 exact rfl
 exactλ_ hw=>(Yjw (hw))
 rintro _ K0 ⟨n,A,rfl,hn,hin,hr,hback⟩
 have p1:∀{H':List HP}{w:World},n.In B w0 H'->Rd B w0 H' A ([exF5].flatMap flwF)->St B w0 H' w->CX B w0 30 [n.val,.slice A 1 1,.int .i64 2,.int .i64 1] w (YkA B w0 H' (some exP5,0)):=λhin hr hw=>by
  have h:=Yh1 n [exF5] 2 1 (by omega) (by decide) (λf hf=>by rw[TX.1 hf,hn];exact Yrh) (cap:=1) ht hin hr hw
  rw[hn,Yo9]at h
  exact h
 unfold NetM.val
 unfold NetM.val at p1
 repeat'(first|refine zgc ?_|(refine zgh ?_;intro _)|fail)
 apply Yf _ en30
 exact za
 exact rfl
 exactλ_ hw=>(p1 (hin.mono zk) (hr.mono zk) (hw))
 rintro _ K1 (⟨h,-⟩|⟨p,X,hp,rfl,hpin,rfl⟩)
 ·cases h
 have hp:exP5=p.pln:=Tv hp
 have p2:∀{H':List HP}{w:World},p.In B w0 H'->St B w0 H' w->CX B w0 8 [p.val] w λv K=>v=.tuple #[strV exT5,.int .i64 0]/\K=H':=λhpin hw=>by
  have h:=Uc p ht hpin hw
  rw[<-hp,Ypb]at h
  exact h
 have p3:∀{H':List HP}{w:World},p.In B w0 H'->St B w0 H' w->CX B w0 10 [p.val] w λv K=>v=.int .i64 0/\K=H':=λhpin hw=>by
  have h:=J9 p ht hpin hw
  rw[<-hp,Ylq]at h
  exact h
 obtain⟨pw,hwd,hq0,hc0⟩:=Yri
 have p4:∀{H':List HP}{w:World},p.In B w0 H'->St B w0 H' w->CX B w0 31 [p.val,.int .i64 1] w (YkA B w0 H' (some pw,0)):=λhpin hw=>by
  have h:=Ybx p 1 ht hpin hw
  rw[<-hp,hwd]at h
  exact h
 have hf:p.f=[0,1]:=by have:=TG Pln.f hp;exact this.symm
 have p5:∀{A2:Option Addr}{cap2:Nat}{H':List HP}{w:World},Rd B w0 H' p.fA (p.f.flatMap numF)->Rd B w0 H' A2 ([0,1].flatMap numF)->St B w0 H' w->CX B w0 32 [.slice p.fA p.f.length p.fcap,.slice A2 2 cap2] w λu K=>u=.bool true/\K=H':=λ{A2 cap2 H' w} h1 h2 hw=>by
  have h:=Ycr p.f [0,1] (by rw[hf];decide) (cap:=p.fcap) (cap2:=cap2) h1 h2 hw
  rw[hf,Td rfl]at h
  rw[hf]
  exact h
 unfold PnM.val
 unfold PnM.val at p2 p3 p4
 repeat'(first|refine zgc ?_|(refine zgh ?_;intro _)|fail)
 first|apply Yb en8|apply Yc en8
 exact za
 exact rfl
 exactλ_ hw=>(p2 (hpin.inX zm) hw)
 repeat'(first|refine zgc ?_|fail)
 apply Yf _ en31
 exact za
 exact rfl
 exactλ_ hw=>(p4 (hpin.inX zm) (hw))
 rintro _ K2 (⟨h,-⟩|⟨p',X',hp',rfl,hpin',rfl⟩)
 ·cases h
 have hp':pw=p'.pln:=Tv hp'
 have hq0':p'.q.length=0:=by
  have h1:(p'.q.map RqM.rq)=[]:=by rw[<-hq0,hp'];rfl
  rw[<-Tt (f:=RqM.rq),h1];rfl
 have hc0':p'.s.cells.length=0:=by
  have h1:p'.s.cells=[]:=by rw[<-hc0,hp'];rfl
  rw[h1];rfl
 unfold PnM.val
 rw[hq0',hc0']
 repeat'(first|((first|apply Yb en32|apply Yc en32);exact za;exact rfl;exactλ_ hw=>(p5 ((hpin.inX zm).f) (Rd.blk (cs:=#[.int .i64 0,.int .i64 1]) (t:=3) (fr:=(0,0)) zm) hw))|((first|apply Yb en10|apply Yc en10);exact za;exact rfl;exactλ_ hw=>(p3 (hpin.inX zm) hw))|(apply Yfz;(iterate 3 exact rfl);all_goals(intro hE;try(exact absurd rfl hE)))|refine zgc ?_|(refine zgf ?_ ?_<;>intro _<;>try exact zo)|(refine zgh ?_;intro _)|fail)
 apply Yh H
 ·intro w hw
  refine hback w ?_
  revert w
  exact zk
 apply Ye;exact rfl;exact rfl
 exact⟨rfl,rfl⟩
theorem YmX{a b:Flw}(h:flwF a=flwF b):a=b:=by
 obtain⟨a1,a2,a3,a4,a5,a6⟩:=a
 obtain⟨b1,b2,b3,b4,b5,b6⟩:=b
 simpa [flwF]using h
variable {B:Nat}{w0 w:World}{H:List HP}
theorem Yd4(q q2:List RqM){A A2:Option Addr}{cap cap2:Nat}(hq:QIn B w0 H A q)(hq2:QIn B w0 H A2 q2)(hw:St B w0 H w):
 CX B w0 14 [.slice A q.length cap,.slice A2 q2.length cap2] w λu K=>(∃b,u=.bool b/\(q.map RqM.rq=q2.map RqM.rq->b=true))/\K=H:=by
 refine Ya Tryz.func14 Tryz.ntmps14 rfl rfl hw ?_
 have hr:=hq.rd
 have hr2:=hq2.rd
 have hln:=hq.ln
 have hln2:=hq2.ln
 by_cases hll:q.length=q2.length
 rotate_left
 ·repeat'(first|refine zgb ?_|(refine zge ?_ ?_<;>intro _<;>try exact zo)|fail)
  apply Ye;exact rfl;exact rfl;exact⟨⟨false,rfl,λe=>absurd (by simpa using TG List.length e) hll⟩,rfl⟩
 repeat'(first|refine zgb ?_|(refine zge ?_ ?_<;>intro _<;>try exact zo)|fail)
 refine Yg (λ(k:Nat)=>[(5,.int .i64 k),(0,.slice A q.length cap),(1,.slice A2 q2.length cap2)]) (λ_=>H) (λk=>k<=q.length) (λk=>q.length-k) 0 (Ti _) ?_ (λw hw=>hw) ?_
 ·exact zu
 rintro k hk K hK
 by_cases hlt:k<q.length
 ·obtain⟨a,ha⟩:∃a,q[k]? =some a:=⟨_,Ta hlt⟩
  obtain⟨b,hb⟩:∃b,q2[k]? =some b:=⟨_,Ta (by omega)⟩
  have hne:a.rq≠b.rq->q.map RqM.rq≠q2.map RqM.rq:=λhn e=>hn (by
   have h1:(q.map RqM.rq)[k]? =some a.rq:=by simp[ha]
   have h2:(q2.map RqM.rq)[k]? =some b.rq:=by simp[hb]
   rw[e,h2]at h1
   exact(Tv h1).symm)
  have hai:=hq.x a (Tc ha)
  have hbi:=hq2.x b (Tc hb)
  have p1:=λ{H':List HP}{w:World}(hai:a.In B w0 H') (hbi:b.In B w0 H') (hw:St B w0 H' w)=>Ww a.rows b.rows hai.ln hbi.ln (λr hr=>(hai.rl r hr).1) (λr hr=>(hbi.rl r hr).1) (cap:=a.cap) (cap2:=b.cap) hai.rt hbi.rt hai.rw_ hbi.rw_ hw
  by_cases hf:a.f=b.f
  rotate_left
  ·skip
   repeat'(first|(apply XN T (vs:=flwF a.f);exact rfl;exact hr;exact ha;exactλ_=>rfl;(iterate 6 exact rfl))|(apply XN T (vs:=flwF b.f);exact rfl;exact hr2;exact hb;exactλ_=>rfl;(iterate 6 exact rfl))|(apply Yby (xs:=flwF a.f) (ys:=flwF b.f);(iterate 3 exact rfl);kernel_rfl;kernel_rfl;rotate_left;(intro heq;exact absurd (YmX heq) hf);intro _)|(apply zg28;refine zs84 ?_)|refine zgd ?_|(refine zge ?_ ?_<;>intro _<;>try exact zo)|fail)
   apply Ye;exact rfl;exact rfl
   exact⟨⟨false,rfl,λe=>absurd e (hne λe2=>hf (TG Prod.fst e2))⟩,rfl⟩
  by_cases hrs:a.rows.map (·.xs)=b.rows.map (·.xs)
  ·rw[Td hrs]at p1
   repeat'(first|(apply XN T (vs:=flwF a.f);exact rfl;exact hr;exact ha;exactλ_=>rfl;(iterate 6 exact rfl))|(apply XN T (vs:=flwF b.f);exact rfl;exact hr2;exact hb;exactλ_=>rfl;(iterate 6 exact rfl))|(apply Yby (xs:=flwF a.f) (ys:=flwF b.f);(iterate 3 exact rfl);kernel_rfl;kernel_rfl;(intro hne;exact absurd (by rw[hf]) hne);intro _)|((first|apply Yb en49|apply Yc en49);exact za;exact rfl;exactλ_ hw=>(p1 hai hbi hw))|(apply zg28;refine zs84 ?_)|refine zgd ?_|(refine zge ?_ ?_<;>intro _<;>try exact zo)|fail)
   apply hK (k+1)
   ·omega
   ·omega
   ·exact zu
   ·exactλw hw=>hw
  ·rw[Tj hrs]at p1
   repeat'(first|(apply XN T (vs:=flwF a.f);exact rfl;exact hr;exact ha;exactλ_=>rfl;(iterate 6 exact rfl))|(apply XN T (vs:=flwF b.f);exact rfl;exact hr2;exact hb;exactλ_=>rfl;(iterate 6 exact rfl))|(apply Yby (xs:=flwF a.f) (ys:=flwF b.f);(iterate 3 exact rfl);kernel_rfl;kernel_rfl;(intro hne;exact absurd (by rw[hf]) hne);intro _)|((first|apply Yb en49|apply Yc en49);exact za;exact rfl;exactλ_ hw=>(p1 hai hbi hw))|(apply zg28;refine zs84 ?_)|refine zgd ?_|(refine zge ?_ ?_<;>intro _<;>try exact zo)|fail)
   apply Ye;exact rfl;exact rfl
   exact⟨⟨false,rfl,λe=>absurd e (hne λe2=>hrs (TG Prod.snd e2))⟩,rfl⟩
 ·repeat'(first|refine zgc ?_|(refine zge ?_ ?_<;>intro _<;>try exact zo)|fail)
  apply Ye;exact rfl;exact rfl;exact⟨⟨true,rfl,λ_=>rfl⟩,rfl⟩
theorem enHS(xs:Array Value)(w:World):(callFunc 48 xs).run Tryz.prog w=.ok (.enter 48 xs) w:=by kernel_rfl
theorem YhH(s t:ByteArray)(n:Nat)(h1:s.size=n+t.size)(h2:s.extract n s.size=t)(hb:s.size<=1000000000)(hw:St B w0 H w):
 CX B w0 13 [.string s,.string t] w λv K=>v=.bool true/\K=H:=by
 refine Ya Tryz.func13 Tryz.ntmps13 rfl rfl hw ?_
 have p1:∀{H':List HP}{w:World},St B w0 H' w->CX B w0 48 [.string s,.string t] w λv K=>v=.bool true/\K=H':=λ{H'}{w} hw=>by
  refine Ya Tryz.func48 Tryz.ntmps48 rfl rfl hw ?_
  have h3:((s.size:Int)-t.size).toNat=n:=by omega
  rw[<-h3]at h2
  repeat'(first|(apply YfD T;(iterate 4 exact rfl);omega)|(apply Yfz;(iterate 3 exact rfl);rotate_left;(intro hE;exact absurd h2 hE);intro _)|refine zgd ?_|(refine zgf ?_ ?_<;>intro _<;>try exact zo)|fail)
  apply Ye;exact rfl;exact rfl;exact⟨rfl,rfl⟩
 repeat'(first|(apply Yb enHS;exact za;exact rfl;exactλ_ hw=>p1 hw)|refine zga ?_|fail)
 apply Ye;exact rfl;exact rfl;exact⟨rfl,rfl⟩
theorem Ypc(l:List UInt8)(n:Nat):(⟨l.toArray⟩:ByteArray).extract n (⟨l.toArray⟩:ByteArray).size=⟨(l.drop n).toArray⟩:=by
 apply ByteArray.ext
 rw[ByteArray.data_extract]
 show l.toArray.extract n l.toArray.size=_
 simp
 rw[TL (by rw[TZ];omega)]
theorem Yrj(x y:List UInt8):(⟨(x++y).toArray⟩:ByteArray).extract x.length (⟨(x++y).toArray⟩:ByteArray).size=⟨y.toArray⟩:=by
 rw[Ypc,List.drop_left]
theorem Yqf(x y:List UInt8):(⟨(x++y).toArray⟩:ByteArray).size=x.length+(⟨y.toArray⟩:ByteArray).size:=by
 show(x++y).toArray.size=x.length+y.toArray.size
 simp
theorem Yc9(p:Pln):(Xg p).1.length<=100000:=by
 unfold Xg
 by_cases h:chkP p=0
 ·rw[Tf (λe=>e h)]
  have h1:=Ov (Us (JQ h))
  have h2:=Yc8 h1.2 p.q.length (TI _)
  have h3:=Qc p.s
  have h4:=Qb p.c
  dsimp only
  rw[Tq,Tq]
  omega
 ·rw[Tn h]
  exact Ti _
theorem Ym4(p:PnM)(ht:TabsB B w0)(hp:p.In B w0 H)(hw:St B w0 H w):
 CX B w0 9 [p.val] w λv K=>(∃t:ByteArray,v=.tuple #[.string t,.int .i64 (Xg p.pln).2]/\((Xg p.pln).2=0->t.size=32)/\((Xg p.pln).2≠0->t=⟨#[]⟩))/\K=H:=by
 refine Ya Tryz.func9 Tryz.ntmps9 rfl rfl hw ?_
 have p1:=λ{H':List HP}{w:World}(hp:p.In B w0 H') (hw:St B w0 H' w)=>Uc p ht hp hw
 have hpM:∀{H':List HP},many H∈H'->p.In B w0 H':=λhm=>hp.mono λw hw=>hw.inM hm
 have hl:=Yc9 p.pln
 obtain⟨⟨tx,e⟩,hE⟩:∃R,Xg p.pln=R:=⟨_,rfl⟩
 rw[hE]at p1 hl⊢
 dsimp only at p1 hl⊢
 unfold PnM.val at p1⊢
 refine XD [many H] (λw hw=>hw.perm (.closeT H)) ?_
 have hsz:(⟨tx.toArray⟩:ByteArray).size<=1000000000:=by show tx.toArray.size<=_;simp;omega
 by_cases he:e=0
 rotate_left
 ·skip
  repeat'(first|((first|apply Yb en8|apply Yc en8);exact za;exact rfl;exactλ_ hw=>(p1 (hpM zm) hw))|refine zgc ?_|(refine zge ?_ ?_<;>intro _<;>try exact zo)|(refine zgh ?_;intro _)|fail)
  apply Yh H
  ·intro w hw
   have h5:St B w0 [many H] w:=by
    revert w
    exact zk
   exact h5.perm (.openT H)
  apply YN;(iterate 3 exact rfl);exact⟨⟨_,rfl,λh=>absurd h he,λ_=>rfl⟩,rfl⟩
 subst he
 repeat'(first|((first|apply Yb en8|apply Yc en8);exact za;exact rfl;exactλ_ hw=>(p1 (hpM zm) hw))|refine zgc ?_|(refine zge ?_ ?_<;>intro _<;>try exact zo)|(refine zgh ?_;intro _)|fail)
 apply Yf _ en38
 exact za
 exact rfl
 exactλ_ hw=>(Yhn _ hsz (hw))
 rintro _ _ ⟨⟨t,rfl,ht⟩,hK⟩
 rw[hK]
 repeat'(first|refine zga ?_|fail)
 apply Yh H
 ·intro w hw
  have h5:St B w0 [many H] w:=by
   revert w
   exact zk
  exact h5.perm (.openT H)
 apply YN;(iterate 3 exact rfl);exact⟨⟨_,rfl,λ_=>ht,λh=>absurd rfl h⟩,rfl⟩
theorem cmpI_zero{a b:Int}:cmpI a b=0↔a=b:=by
 unfold cmpI
 omega
theorem PnM.Bg.mono{B:Nat}{w0:World}{H H':List HP}{p:PnM}(h:p.Bg B w0 H)(hH:∀w,St B w0 H' w->St B w0 H w):p.Bg B w0 H':=⟨h.n.mono hH,h.q.mono hH,h.s.mono hH,h.sl,h.c.mono5 hH,h.f.mono hH,h.fl⟩
theorem YsW(p q:PnM){B:Nat}{w0:World}{H:List HP}{w:World}(ht:TabsB B w0)(hp:p.Bg B w0 H)(hq:q.Bg B w0 H)(hw:St B w0 H w):
 CX B w0 3 [p.val,q.val] w λv K=>v=.bool true/\K=H:=by
 refine Ya Tryz.func3 Tryz.ntmps3 rfl rfl hw ?_
 have p0:=λ{H':List HP}{w:World}(hp:p.Bg B w0 H') (hw:St B w0 H' w)=>Yct p hp hw
 have q0:=λ{H':List HP}{w:World}(hq:q.Bg B w0 H') (hw:St B w0 H' w)=>Yct q hq hw
 have hop:∀w,St B w0 [many H] w->St B w0 H w:=λw hw=>hw.perm (.openT H)
 have hbM:∀{H':List HP},many H∈H'->p.Bg B w0 H':=λhm=>hp.mono λw hw=>hw.inM hm
 have hcM:∀{H':List HP},many H∈H'->q.Bg B w0 H':=λhm=>hq.mono λw hw=>hw.inM hm
 unfold PnM.val at p0 q0⊢
 refine XD [many H] (λw hw=>hw.perm (.closeT H)) ?_
 repeat'(first|refine zga ?_|(refine zgh ?_;intro _)|fail)
 rename_i g2 g3
 first|apply Yb en6|apply Yc en6
 exact za
 exact rfl
 exactλ_ hw=>(YiM ht hw)
 repeat'(first|refine zgd ?_|fail)
 apply Yf _ en7
 exact za
 exact rfl
 exactλ_ hw=>(p0 (hbM zm) (hw))
 rintro _ _ ⟨⟨b,rfl,hfew⟩,hK0⟩
 rw[hK0]
 cases b with
 |false=>
  repeat'(first|refine zgd ?_|fail)
  apply Yh H
  ·intro w hw
   have h5:St B w0 [many H] w:=by
    revert w
    exact zk
   exact hop w h5
  apply Ye;exact rfl;exact rfl;exact⟨rfl,rfl⟩
 |true=>
 have hfew:=hfew rfl
 repeat'(first|refine zgd ?_|fail)
 apply Yf _ en7
 exact za
 exact rfl
 exactλ_ hw=>(q0 (hcM zm) (hw))
 rintro _ _ ⟨⟨b,rfl,hfew2⟩,hK0⟩
 rw[hK0]
 cases b with
 |false=>
  repeat'(first|refine zgd ?_|fail)
  apply Yh H
  ·intro w hw
   have h5:St B w0 [many H] w:=by
    revert w
    exact zk
   exact hop w h5
  apply Ye;exact rfl;exact rfl;exact⟨rfl,rfl⟩
 |true=>
 have hfew2:=hfew2 rfl
 have hpM:∀{H':List HP},many H∈H'->p.In B w0 H':=λhm=>(hbM hm).small hfew
 have hqM:∀{H':List HP},many H∈H'->q.In B w0 H':=λhm=>(hcM hm).small hfew2
 clear p0 q0 hK0
 have p1:=λ{H':List HP}{w:World}(hp:p.In B w0 H') (hw:St B w0 H' w)=>Uc p ht hp hw
 have p2:=λ{H':List HP}{w:World}(hq:q.In B w0 H') (hw:St B w0 H' w)=>Uc q ht hq hw
 have p3:=λ{H':List HP}{w:World}(hp:p.In B w0 H') (hw:St B w0 H' w)=>Ym4 p ht hp hw
 have p4:=λ{H':List HP}{w:World}(hp:p.In B w0 H') (hw:St B w0 H' w)=>J9 p ht hp hw
 have hinj:=λ(h1:chkP p.pln=0) (h2:chkP q.pln=0) (h3:(Xg p.pln).1=(Xg q.pln).1)=>YpW h1 h2 (Qa h1) (Qa h2) h3
 have hqe:(Xg q.pln).2=0->chkP q.pln=0:=λh=>Decidable.byContradiction λe=>by
  unfold Xg at h;rw[Tn e]at h;cases h
 obtain⟨⟨ty,f⟩,hQ⟩:∃R,Xg q.pln=R:=⟨_,rfl⟩
 rw[hQ]at p2 hinj hqe
 dsimp only at p2 hinj hqe
 unfold PnM.val at p1 p2 p3 p4
 by_cases hk:chkP p.pln=0
 rotate_left
 ·have hP:Xg p.pln=([],1):=by unfold Xg;rw[Tn hk]
  rw[hP]at p1 p3
  dsimp only at p1 p3
  repeat'(first|refine zgd ?_|fail)
  first|apply Yb en8|apply Yc en8
  exact za
  exact rfl
  exactλ_ hw=>(p1 (hpM zm) hw)
  repeat'(first|refine zgc ?_|fail)
  first|apply Yb en8|apply Yc en8
  exact za
  exact rfl
  exactλ_ hw=>(p2 (hqM zm) hw)
  repeat'(first|refine zgc ?_|fail)
  apply Yf _ en9
  exact za
  exact rfl
  exactλ_ hw=>(p3 (hpM zm) (hw))
  rintro _ _ ⟨⟨t,rfl,-,he⟩,hK0⟩
  rw[hK0]
  obtain rfl:=he (by decide)
  repeat'(first|(apply zg7;first|(refine zs15 ?_ ?_<;>intro _<;>try exact zo)|(refine zs21 ?_ ?_<;>intro _ _<;>try exact zo))|refine zgc ?_|(refine zge ?_ ?_<;>intro _<;>try exact zo)|fail)
  rotate_left
  ·rename_i h
   exact absurd h (by decide)
  first|apply Yb en10|apply Yc en10
  exact za
  exact rfl
  exactλ_ hw=>(p4 (hpM zm) hw)
  repeat'(first|refine zgc ?_|(refine zge ?_ ?_<;>intro _<;>try exact zo)|fail)
  apply Yh H
  ·intro w hw
   have h5:St B w0 [many H] w:=by
    revert w
    exact zk
   exact hop w h5
  apply Ye;exact rfl;exact rfl;exact⟨rfl,rfl⟩
 have hE:(Y3 p.s.sch).2=0:=by
  have h1:Y1 p.s.sch=true:=Og (JQ hk)
  unfold Y3
  rw[Tf (by rw[h1];decide)]
 have hC:(Zf (p.c.map ClM.clm)).2=0:=by
  have h1:Jf (p.c.map ClM.clm)=true:=Qa hk
  unfold Zf
  rw[Tf (by rw[h1];decide)]
 have hPt:Xg p.pln=(plnT p.pln.q p.pln.q.length++(Y3 p.s.sch).1++(Zf (p.c.map ClM.clm)).1,0):=by unfold Xg;rw[Tf (λe=>e hk)];rfl
 have hle:=Qc p.s.sch
 have hlc:=Qb (p.c.map ClM.clm)
 have hlp:=Yc9 p.pln
 have p5:=λ{H':List HP}{w:World}(hp:p.In B w0 H') (hw:St B w0 H' w)=>VH p.s ht hp.s hp.sl hw
 have p6:=λ{H':List HP}{w:World}(hp:p.In B w0 H') (hw:St B w0 H' w)=>YaP p.c ht (cap:=p.ccap) hp.c hw
 obtain⟨⟨ts,es⟩,hTs⟩:∃R,Y3 p.s.sch=R:=⟨_,rfl⟩
 obtain⟨⟨tc,ec⟩,hTc⟩:∃R,Zf (p.c.map ClM.clm)=R:=⟨_,rfl⟩
 rw[hTs]at p5 hE hPt hle
 rw[hTc]at p6 hC hPt hlc
 dsimp only at p5 p6 hE hC hPt hle hlc
 subst hE hC
 obtain⟨tq,htq⟩:∃l,plnT p.pln.q p.pln.q.length=l:=⟨_,rfl⟩
 rw[htq]at hPt
 rw[hPt]at p1 p3 hinj hlp
 dsimp only at p1 p3 hinj hlp
 unfold SchM.val at p5
 repeat'(first|refine zgd ?_|fail)
 first|apply Yb en8|apply Yc en8
 exact za
 exact rfl
 exactλ_ hw=>(p1 (hpM zm) hw)
 repeat'(first|refine zgc ?_|fail)
 first|apply Yb en8|apply Yc en8
 exact za
 exact rfl
 exactλ_ hw=>(p2 (hqM zm) hw)
 repeat'(first|refine zgc ?_|fail)
 apply Yf _ en9
 exact za
 exact rfl
 exactλ_ hw=>(p3 (hpM zm) (hw))
 rintro _ _ ⟨⟨t,rfl,h32,-⟩,hK0⟩
 rw[hK0]
 have h32:=h32 rfl
 repeat'(first|(apply Yi T;exact rfl;exact zm;exact rfl;exact zv;exact rfl;exact rfl)|refine zgc ?_|(refine zge ?_ ?_<;>intro _<;>try exact zo)|fail)
 first|apply Yb en11|apply Yc en11
 exact za
 exact rfl
 exactλ_ hw=>(p5 (hpM zm) hw)
 repeat'(first|(apply Yi T;exact rfl;exact zm;exact rfl;exact zv;exact rfl;exact rfl)|refine zgc ?_|fail)
 first|apply Yb en12|apply Yc en12
 exact za
 exact rfl
 exactλ_ hw=>(p6 (hpM zm) hw)
 repeat'(first|(apply Ug ts tc;(iterate 3 exact rfl);omega)|refine zgc ?_|(refine zge ?_ ?_<;>intro _<;>try exact zo)|fail)
 have hsz:(⟨(tq++(ts++tc)).toArray⟩:ByteArray).size<=1000000000:=by
  show(tq++(ts++tc)).toArray.size<=_
  rw[<-Re,List.size_toArray]
  omega
 have p7:=λ{H':List HP}{w:World}(hw:St B w0 H' w)=>YhH _ _ tq.length (Yqf tq (ts++tc)) (Yrj tq (ts++tc)) hsz hw
 rw[<-Re]at p7
 first|apply Yb en13|apply Yc en13
 exact za
 exact rfl
 exactλ_ hw=>(p7 hw)
 repeat'(first|(apply Yi T;exact rfl;exact zm;exact rfl;exact zv;exact rfl;exact rfl)|refine zgd ?_|(refine zge ?_ ?_<;>intro _<;>try exact zo)|fail)
 have p8:=λ{H':List HP}{w:World}(hp:p.In B w0 H') (hq:q.In B w0 H') (hw:St B w0 H' w)=>Yd4 p.q q.q (cap:=p.qcap) (cap2:=q.qcap) hp.q hq.q hw
 have p9:=λ{H':List HP}{w:World}(hp:p.In B w0 H') (hq:q.In B w0 H') (hw:St B w0 H' w)=>Yjv p.s.cells q.s.cells hp.sl hq.sl (cap:=p.s.cap) (cap2:=q.s.cap) hp.s hq.s hw
 have p10:=λ{H':List HP}{w:World}(hp:p.In B w0 H') (hq:q.In B w0 H') (hw:St B w0 H' w)=>Ydh p.c q.c (cap:=p.ccap) (cap2:=q.ccap) hp.c hq.c hw
 clear p1 p2 p3 p4 p5 p6 p7
 apply Yf _ en14
 exact za
 exact rfl
 exactλ_ hw=>(p8 (hpM zm) (hqM zm) (hw))
 rintro _ _ ⟨⟨b1,rfl,hb1⟩,hK0⟩
 rw[hK0]
 clear p8
 by_cases heq:f=0/\tq++ts++tc=ty
 ·obtain⟨rfl,rfl⟩:=heq
  obtain⟨e1,e2,e3⟩:=hinj hk (hqe rfl) rfl
  obtain rfl:=hb1 e1
  have e4:p.s.cells=q.s.cells:=TG Sch.cells e2
  have e5:p.c.map ClM.clm=q.c.map ClM.clm:=e3
  rw[Td e4]at p9
  rw[Td e5]at p10
  repeat'(first|(apply Yi T;exact rfl;exact zm;exact rfl;exact zv;exact rfl;exact rfl)|((first|apply Yb en15|apply Yc en15);exact za;exact rfl;exactλ_ hw=>(p9 (hpM zm) (hqM zm) hw))|((first|apply Yb en16|apply Yc en16);exact za;exact rfl;exactλ_ hw=>(p10 (hpM zm) (hqM zm) hw))|(apply YfB;(iterate 3 exact rfl);(intro hne;exact absurd rfl hne);intro _)|refine zgc ?_|(refine zge ?_ ?_<;>intro _<;>try exact zo)|fail)
  apply Yh H
  ·intro w hw
   have h5:St B w0 [many H] w:=by
    revert w
    exact zk
   exact hop w h5
  apply Ye;exact rfl;exact rfl;exact⟨rfl,rfl⟩
 have hne:f=0->(⟨(tq++ts++tc).toArray⟩:ByteArray)≠⟨ty.toArray⟩:=λh0 e=>heq ⟨h0,by
  have h1:(tq++ts++tc).toArray=ty.toArray:=TG ByteArray.data e
  exact TG Array.toList h1⟩
 clear hinj hqe heq hb1
 obtain⟨b2,hb2⟩:∃b,decide (p.s.cells=q.s.cells)=b:=⟨_,rfl⟩
 obtain⟨b3,hb3⟩:∃b,decide (p.c.map ClM.clm=q.c.map ClM.clm)=b:=⟨_,rfl⟩
 rw[hb2]at p9
 rw[hb3]at p10
 clear hb2 hb3
 by_cases hf:f=0<;>cases b1<;>cases b2<;>cases b3
 all_goals(
  repeat'(first|(apply Yi T;exact rfl;exact zm;exact rfl;exact zv;exact rfl;exact rfl)|((first|apply Yb en15|apply Yc en15);exact za;exact rfl;exactλ_ hw=>(p9 (hpM zm) (hqM zm) hw))|((first|apply Yb en16|apply Yc en16);exact za;exact rfl;exactλ_ hw=>(p10 (hpM zm) (hqM zm) hw))|(apply YfB;(iterate 3 exact rfl);rotate_left;(intro he;exact absurd he (hne hf));intro _)|refine zgc ?_|(refine zge ?_ ?_<;>intro _<;>try exact zo)|fail)
  apply Yh H
  ·intro w hw
   have h5:St B w0 [many H] w:=by
    revert w
    exact zk
   exact hop w h5
  apply Ye;exact rfl;exact rfl;exact⟨rfl,rfl⟩)
end Go.Proofs.YtjlgijpmnfabcaaGreatDoor
