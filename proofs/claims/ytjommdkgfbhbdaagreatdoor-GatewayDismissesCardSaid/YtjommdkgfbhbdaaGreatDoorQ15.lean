/- Lemmas. -/
import Derived.Test.YtjommdkgfbhbdaaGreatDoorQ13
set_option maxRecDepth 100000
set_option maxHeartbeats 8000000
set_option linter.all false
namespace Go.Proofs.YtjommdkgfbhbdaaGreatDoor
open Go.RowKit Go.Eng Go.Nw Go.Rt
def hasQ(q:List Rqs)(id:Int):Bool:=q.any λy=>decide (y.1.1=id)
def JB(n:Net)(q:List Rqs)(s:Sch)(x:Rqs):Sch×Int:=
 if(YD n q s).2.2≠0 then(Jz,1)else if hasQ q x.1.1=true then(Jz,6)else if(rqsE n (insQ q x)).2≠0 then(Jz,1)
 else if s.len.tmod x.1.2.2.2.1≠0 then(Jz,11)else match V1 n x.1 x.2 s with
  |none=>(Jz,18)
  |some t=>if 512<t.cells.length then(Jz,8)else(t,0)
def ZY(s:Sch)(id:Int):Sch:=⟨s.len,s.off,s.cells.filter λc=>decide (Y6 c≠id)⟩
def Ui(s:Sch)(id:Int):Sch×Int:=if Xh s=false then(Jz,1)else(ZY s id,0)
variable {n:Net}{q:List Rqs}
theorem YvE(h:(rqsE n q).2=0){i j:Nat}(hij:i<j)(hj:j<q.length):(rqAt q i).1.1<(rqAt q j).1.1:=by
 obtain⟨-,hfl,-⟩:=V4 h
 have:=Yaf hfl hij (by grind [YG])
 grind [Y4,YG,Vk]
variable {s:Sch}
theorem YnO{x:Rqs}{c:Cel}(h:YtE n s x c=true):Y6 c=x.1.1:=by
 obtain⟨r,-,h⟩:=TM.1 h
 obtain⟨i,-,h⟩:=TM.1 h
 have:∀{ls:List Lk}{endd a:Int}{p:Cel×Int},p∈runP s.len (X6 s x.1.1) endd ls a->Y6 p.1=x.1.1:=by
  intro ls
  induction ls with
  |nil=>intro endd a p h;cases h
  |cons l ls ih=>
   intro endd a p h
   have hop:∀{f k:Nat}{a:Int},p∈hopP s.len (X6 s x.1.1 l) f k a->Y6 p.1=x.1.1:=λh=>(TI (RB.1 (Oe h)).2).1
   grind [runP]
 grind
theorem Yhs{q':List Rqs}{id:Int}(h:(YD n q s).2.2=0)(hq:∀x,x∈q'↔x∈q/\x.1.1≠id)(hfl:(Yt n.nodes (YG q')).2=0):(YD n q' (ZY s id)).2.2=0:=by
 obtain⟨h1,-⟩:=ZD.1 h
 have hsem:=We.1 (Z5.1 h1)
 refine Yib h (λx hx=>((hq x).1 hx).1) hfl rfl rfl SK (λc hc=>?_) λx hx c hc hu=>RB.2 ⟨hc,?_⟩
 ·obtain⟨hc1,hc2⟩:=RB.1 hc
  obtain⟨f,hf,e⟩:=Uk.1 (hsem.good c hc1).2
  obtain⟨x,hx,rfl⟩:=TG.1 hf
  grind
 ·rw[Tm,YnO hu]
  simp_all
end Go.Proofs.YtjommdkgfbhbdaaGreatDoor
namespace Go.Eng
open Go.RowKit
section
variable {P:Program}{n:Shp}{B:Nat}{w0:World}{Q:Exit->Act->World->Prop}{env:Env}{H:List HP}{m:Mode}{ops:Array Oper}{rest:List Oper}{d:Nat}{ty:TypeId}{pos:String}{after:Array Edge}
variable {a b:Int}
theorem Ymk{x y:Operand}{k:IntKind}{xt yt:TypeId}(hx:evo env x=some (.int k a))(hy:evo env y=some (.int k b))(hn:Nat.ble (d+1) n.k=true)(h:VL P m n B w0 ops Q rest ((d,.int k (bits .andNot k a b))::env) H):
 VL P m n B w0 ops Q (⟨some d,.binOp .andNot xt x y yt,ty,pos,after,none⟩::rest) env H:=Xj hx hy hn (λ_=>rfl) (λ_=>by rw[show binOp .andNot xt (.int k a) (.int k b)=Op.intBits .andNot k a b by simp[binOp]];rfl) h
end
end Go.Eng
namespace Go.Proofs.YtjommdkgfbhbdaaGreatDoor
open Go.RowKit Go.Eng Go.Nw Go.Rt
def pow1(o:Int):Int:=IntKind.i64.wrap (1*2^o.toNat)
theorem YlJ{o:Int}(h:0<=o/\o<=16):1<=pow1 o/\pow1 o<=65536:=by
 have key:∀n:Nat,n<17->1<=IntKind.i64.wrap (1*2^n)/\IntKind.i64.wrap (1*2^n)<=65536:=by decide+kernel
 exact key o.toNat (by omega)
def Zj(m:List Int)(c:Cel):List Int:=m.set c.1.toNat (bits .andNot .i64 (m.getD c.1.toNat 0) (pow1 c.2.1))
def XT(s:Sch):List Int:=s.cells.foldl Zj (List.replicate s.len.toNat (pow1 s.off-1))
def Y9(s:Sch):List Int×Int:=if Xh s=false then([],1)else(XT s,0)
theorem Yii(m:List Int)(c:Cel):(Zj m c).length=m.length:=T8
theorem Zd:∀(cs:List Cel) (m:List Int),(cs.foldl Zj m).length=m.length
 |[],_=>rfl
 |c::cs,m=>by rw[SQ,Zd cs,Yii]
variable {a b:Int}
theorem Ysh{n i:Nat}(h:i<n):(List.replicate i a++List.replicate (n-i) b).set i a=List.replicate (i+1) a++List.replicate (n-(i+1)) b:=by
 obtain⟨k,rfl⟩:∃k,n=i+(k+1):=⟨n-i-1,by omega⟩
 rw[show i+(k+1)-i=k+1 by omega,show i+(k+1)-(i+1)=k by omega,Nj _ _ (by simp),TR,NK,S5,List.set_cons_zero,List.replicate_succ' (n:=i),Ro];rfl
theorem Yp2(n:Nat)(x:Int):(List.replicate 0 x++List.replicate (n-0) 0).flatMap numF=List.replicate n (Value.int .i64 0):=by
 rw[NC,TF,Nat.sub_zero]
 induction n with
 |zero=>rfl
 |succ n ih=>rw[S5,Rk,ih,S5];rfl
variable {B:Nat}{w0 w:World}{H:List HP}
theorem YhS(s:SchM)(ht:TabsB B w0)(hr:Rd B w0 H s.A (s.cells.flatMap celF))(hl:s.cells.length<=1000000000000)(hw:St B w0 H w):
 CX B w0 184 [s.val] w λv K=>v=.bool (Xh s.sch)/\K=H:=by
 refine Ya Tryz.func184 Tryz.ntmps184 rfl rfl hw ?_
 have p1:=λ{H':List HP}{w:World}(hr:Rd B w0 H' s.A (s.cells.flatMap celF)) (hw:St B w0 H' w)=>OY s ht hr hl hw
 unfold SchM.val at p1⊢
 refine zX72 ?_<;>intros
 apply Yb en82
 exact za
 exact rfl
 exactλ_ hw=>(p1 hr.cons hw)
 cases hf:Xh s.sch with
 |false=>
  rw[show(ZG s.sch).2=1 by simp_all [ZG]]
  refine zX1 ?_<;>intros
  apply Yf H
  ·exact zc0
  exact zc9
 |true=>
  rw[show(ZG s.sch).2=0 by simp_all [ZG]]
  refine zX1 ?_<;>intros
  apply Yf H
  ·exact zc0
  exact zc9
theorem Ykn(s:SchM)(hf:Frm s.sch)(hr:Rd B w0 H s.A (s.cells.flatMap celF))(hw:St B w0 H w):
 CX B w0 185 [s.val] w λv K=>∃g,v=.slice (some ⟨g,0,none⟩) (XT s.sch).length (XT s.sch).length/\K=nrs (some ⟨g,0,none⟩) (XT s.sch).length (XT s.sch)::H:=by
 refine Ya Tryz.func185 Tryz.ntmps185 rfl rfl hw ?_
 have hsz:1<=s.len/\s.len<=512/\1<=s.off/\s.off<=16:=TI hf.sized
 have hp:=YlJ (o:=s.off) ⟨by omega,hsz.2.2.2⟩
 have hcl:s.cells.length<=512:=hf.few
 obtain⟨n,hn⟩:∃n:Nat,s.len=n:=⟨s.len.toNat,by omega⟩
 have hp2:1<=IntKind.i64.wrap (1*2^s.off.toNat)/\IntKind.i64.wrap (1*2^s.off.toNat)<=65536:=hp
 have hm0:List.replicate s.sch.len.toNat (pow1 s.sch.off-1)=List.replicate n (IntKind.i64.wrap (1*2^s.off.toNat)-1):=by
  show List.replicate s.len.toNat _=_
  rw[hn,Rm];rfl
 have hml:(XT s.sch).length=n:=by
  unfold XT
  rw[Zd,hm0,TR]
 unfold SchM.val
 rw[hn]
 repeat'(first|(apply YgW T;(iterate 3 exact rfl);exact zi3;(iterate 3 exact rfl);omega;intro _)|refine zgb ?_|(refine zgh ?_;intro _)|fail)
 rename_i gs g
 simp only[Rm]
 refine Ye (λi:Nat=>[(12,.int .i64 (i:Nat)),(11,.int .i64 (n:Nat)),(3,.slice (some ⟨g,0,none⟩) n n),(1,.pointer (some ⟨gs,0,none⟩))])
  (λi=>sl 3 1 (some ⟨g,0,none⟩) n n ((List.replicate i (IntKind.i64.wrap (1*2^s.off.toNat)-1)++List.replicate (n-i) 0).flatMap numF)::blk gs (.cells #[.int .i64 (n:Nat),.int .i64 s.off,.slice s.A s.cells.length s.cap] 33 (0,0))::H) (λi=>i<=n) (λi=>n-i) 0 (Td _) ?_ ?_ ?_
 ·exact zc1
 ·have e0:=Yp2 n (IntKind.i64.wrap (1*2^s.off.toNat)-1)
  rw[e0]
  exact zc0
 rintro i hi K hK
 by_cases hlt:i<n
 ·have hL:(List.replicate i (IntKind.i64.wrap (1*2^s.off.toNat)-1)++List.replicate (n-i) 0).length=n:=by
   rw[Tt,TR,TR];omega
  repeat'(first|(apply XH T (f:=numF) (l:=List.replicate i (IntKind.i64.wrap (1*2^s.off.toNat)-1)++List.replicate (n-i) 0) (i:=(i:Int).toNat) (a:=IntKind.i64.wrap (1*2^s.off.toNat)-1);(iterate 3 exact rfl);exact zd;exact rfl;exactλ_=>rfl;exact rfl;omega)|refine zgd ?_|(refine zge ?_ ?_<;>intro _<;>try exact zo)|fail)
  rw[Rm,Ysh hlt]
  apply hK (i+1)
  ·show i+1<=n;omega
  ·omega
  ·exact zc1
  ·exact zc0
 obtain rfl:i=n:=by omega
 rw[NK,NC,Ru]
 clear hK
 refine zX1 ?_<;>intros
 refine Ye (λj:Nat=>[(26,.int .i64 (j:Nat)),(25,.int .i64 s.cells.length),(24,.slice s.A s.cells.length s.cap),(3,.slice (some ⟨g,0,none⟩) i i),(1,.pointer (some ⟨gs,0,none⟩))])
  (λj=>sl 3 1 (some ⟨g,0,none⟩) i i (((s.cells.take j).foldl Zj (List.replicate i (IntKind.i64.wrap (1*2^s.off.toNat)-1))).flatMap numF)::blk gs (.cells #[.int .i64 (i:Nat),.int .i64 s.off,.slice s.A s.cells.length s.cap] 33 (0,0))::H) (λj=>j<=s.cells.length) (λj=>s.cells.length-j) 0 (Td _) ?_ ?_ ?_
 ·exact zc1
 ·rw[Ns,List.foldl_nil]
  exact zc0
 rintro j hj K hK
 by_cases hlt2:j<s.cells.length
 rotate_left
 ·obtain rfl:j=s.cells.length:=by omega
  rw[TC]
  clear hK
  refine zX1 ?_<;>intros
  apply Yf (nrs (some ⟨g,0,none⟩) (XT s.sch).length (XT s.sch)::H)
  ·unfold nrs
   rw[hml]
   unfold XT
   rw[hm0,show s.sch.cells=s.cells from rfl]
   exact zc0
  apply Yc;exact rfl;exact rfl
  exact⟨g,by rw[hml],rfl⟩
 obtain⟨c,hc⟩:∃c,s.cells[j]? =some c:=⟨_,Ta hlt2⟩
 obtain⟨m,hm⟩:∃m,(s.cells.take j).foldl Zj (List.replicate i (IntKind.i64.wrap (1*2^s.off.toNat)-1))=m:=⟨_,rfl⟩
 have hmn:m.length=i:=by rw[<-hm,Zd,TR]
 have hnext:(s.cells.take (j+1)).foldl Zj (List.replicate i (IntKind.i64.wrap (1*2^s.off.toNat)-1))=Zj m c:=by
  rw[TD,hc,List.foldl_append,hm];rfl
 rw[hm]
 have hform:=hf.formed c (Tc hc)
 unfold XA XB insE at hform
 simp only[Tq,Tm]at hform
 have hc1:0<=c.1/\c.1<i:=by have:=hform.1.1.1.1;have e:s.sch.len=i:=hn;omega
 have hc2:0<=c.2.1/\c.2.1<16:=by have:=hform.1.1.1.2;have e:s.sch.off=s.off:=rfl;omega
 obtain⟨v,hv⟩:∃v,m[c.1.toNat]? =some v:=⟨_,Ta (by omega)⟩
 have hmc:Zj m c=m.set c.1.toNat (bits .andNot .i64 v (IntKind.i64.wrap (1*2^c.2.1.toNat))):=by
  unfold Zj;rw[TB,hv];rfl
 refine zX45 ?_<;>intros
 apply Y8 [0,1,2,3,4,5,6,7,8,9] [10]
 kernel_rfl
 kernel_rfl
 (simp only[Yd,nthO];rfl)
 (simp only[Yd,nthO];rfl)
 refine YtJ ?_
 rw[<-hmc,<-hnext]
 apply hK (j+1)
 ·exact Yjm
 ·omega
 ·exact zc1
 ·exact zc0
theorem Yet(s:SchM)(ht:TabsB B w0)(hr:Rd B w0 H s.A (s.cells.flatMap celF))(hl:s.cells.length<=1000000000000)(hw:St B w0 H w):
 CX B w0 92 [s.val] w λv K=>∃A,v=.tuple #[.slice A (Y9 s.sch).1.length (Y9 s.sch).1.length,.int .i64 (Y9 s.sch).2]/\K=nrs A (Y9 s.sch).1.length (Y9 s.sch).1::H:=by
 refine Ya Tryz.func92 Tryz.ntmps92 rfl rfl hw ?_
 have p1:=λ{H':List HP}{w:World}(hr:Rd B w0 H' s.A (s.cells.flatMap celF)) (hw:St B w0 H' w)=>YhS s ht hr hl hw
 have p2:=λ(hf:Frm s.sch) {H':List HP}{w:World}(hr:Rd B w0 H' s.A (s.cells.flatMap celF)) (hw:St B w0 H' w)=>Ykn s hf hr hw
 repeat'(first|(refine zs8 ?_)|((refine zs52 ?_;intro _))|refine zga ?_|fail)
 apply Yb Ywv
 exact za
 exact rfl
 exactλ_ hw=>(p1 hr.cons hw)
 cases hf:Xh s.sch with
 |false=>
  rw[show Y9 s.sch=([],1) by simp_all [Y9]]
  repeat'(first|(refine zs48 ?_)|(refine zs71 ?_)|refine zgb ?_|fail)
  apply Yf (nrs none 0 []::H)
  ·intro w hw
   have h5:St B w0 H w:=by
    revert w
    exact Yt9
   exact YdU
  exact zc28
 |true=>
  rw[show Y9 s.sch=(XT s.sch,0) by simp_all [Y9]]
  repeat'(first|(refine zs8 ?_)|(refine zs47 ?_)|(refine zs72 ?_)|refine zga ?_|fail)
  apply Yg _ Yww
  exact za
  exact rfl
  exactλ_ hw=>(p2 (Xm.1 hf) hr.cons (hw))
  rintro _ _ ⟨g,rfl,rfl⟩
  refine zX2 ?_
  apply Yf (nrs (some ⟨g,0,none⟩) (XT s.sch).length (XT s.sch)::H)
  ·exact zc0
  exact zc28
variable {B:Nat}{w0 w:World}{H:List HP}
theorem Yi5(c:Cel)(l:Lk)(hw:St B w0 H w):
 CX B w0 406 [celV c,lkV l] w λv K=>v=.bool (YE c (0,0,l.1,l.2.1,0))/\K=H:=by
 refine Ya Tryz.func406 Tryz.ntmps406 rfl rfl hw ?_
 have htc:YE c (0,0,l.1,l.2.1,0)=true↔(c.2.2.1=l.1\/c.2.2.1=l.2.1\/c.2.2.2.1=l.1\/c.2.2.2.1=l.2.1):=by unfold YE YM toC;simp_all
 obtain⟨z,hz⟩:∃z,YE c (0,0,l.1,l.2.1,0)=z:=⟨_,rfl⟩
 rw[hz]at htc⊢
 unfold lkV
 repeat'(first|refine zgc ?_|(refine zge ?_ ?_<;>intro _<;>try exact zo)|(refine zgh ?_;intro _)|fail)
 all_goals(
  apply Yf H
  ·exact zk
  apply Yc;exact rfl;exact rfl
  cases z<;>simp at htc<;>first|exact⟨rfl,rfl⟩|(exfalso;omega))
abbrev grdA(g:Nat)(n:NetM)(s:SchM):HP:=blk g (.cells #[.int .i64 n.nodes,.slice n.pA n.rows.length n.pcap,.int .i64 n.noise,.int .i64 n.thr,.slice n.lA n.links.length n.lcap,.slice n.mA n.margin.length n.mcap,.int .i64 s.len,.int .i64 s.off,.slice s.A s.cells.length s.cap] 262 (0,0))
def grdV(n:NetM)(s:SchM):Value:=.agg #[.int .i64 n.nodes,.slice n.pA n.rows.length n.pcap,.int .i64 n.noise,.int .i64 n.thr,.slice n.lA n.links.length n.lcap,.slice n.mA n.margin.length n.mcap,.int .i64 s.len,.int .i64 s.off,.slice s.A s.cells.length s.cap]
abbrev lnkA(g:Nat)(l:Lk):HP:=blk g (.cells #[.int .i64 l.1,.int .i64 l.2.1,.int .i64 l.2.2] 164 (0,0))
abbrev intA(g:Nat)(v:Int):HP:=blk g (.cells #[.int .i64 v] 3 (0,0))
theorem Ym4(c:Cel)(l:Lk)(slot id:Int)(g7 g5 g6:Nat)(h7:intA g7 slot∈H)(h5:lnkA g5 l∈H)(h6:intA g6 id∈H)(hw:St B w0 H w):
 CX B w0 404 [celV c,.pointer (some ⟨g7,0,none⟩),.pointer (some ⟨g5,0,none⟩),.pointer (some ⟨g6,0,none⟩)] w λv K=>v=.bool (decide (c.1=slot/\YM c=l.1/\toC c=l.2.1/\Y6 c=id))/\K=H:=by
 refine Ya Tryz.func404 Tryz.ntmps404 rfl rfl hw ?_
 have hb:decide (c.1=slot/\YM c=l.1/\toC c=l.2.1/\Y6 c=id)=true↔c.1=slot/\c.2.2.1=l.1/\c.2.2.2.1=l.2.1/\c.2.2.2.2=id:=by unfold Y6 YM toC;simp_all
 obtain⟨b,hbe⟩:∃b,decide (c.1=slot/\YM c=l.1/\toC c=l.2.1/\Y6 c=id)=b:=⟨_,rfl⟩
 rw[hbe]at hb⊢
 repeat'(first|refine zgc ?_|(refine zge ?_ ?_<;>intro _<;>try exact zo)|(refine zgh ?_;intro _)|fail)
 all_goals(
  apply Yf H
  ·exact zk
  apply Yc;exact rfl;exact rfl
  cases b<;>simp at hb<;>first|exact⟨rfl,rfl⟩|(exfalso;omega))
theorem Ym5(n:NetM)(s:SchM)(l:Lk)(id slot:Int)(hl:s.cells.length<=1000)(hr:Rd B w0 H s.A (s.cells.flatMap celF))(hw:St B w0 H w):
 CX B w0 367 [grdV n s,lkV l,.int .i64 id,.int .i64 slot] w λv K=>v=.bool (hasC s.cells slot l.1 l.2.1 id)/\K=H:=by
 refine Ya Tryz.func367 Tryz.ntmps367 rfl rfl hw ?_
 unfold grdV lkV
 repeat'(first|(apply zg23;first|(refine zs52 ?_;intro _)|(refine zs53 ?_;intro _))|(apply zg29;(apply Yu;exact za;exact rfl))|refine zgb ?_|fail)
 rename_i g4 g5 g6 g7
 apply Yb Ytr
 exact za
 exact rfl
 exactλ_ hw=>(WA (λc=>decide (c.1=slot/\YM c=l.1/\toC c=l.2.1/\Y6 c=id)) s.cells 404 [.pointer (some ⟨g7,0,none⟩),.pointer (some ⟨g5,0,none⟩),.pointer (some ⟨g6,0,none⟩)] YxJ hl hr.cons.cons.cons.cons (λc _ w hw=>Ym4 c l slot id g7 g5 g6 zm zm zm hw) hw)
 repeat'(first|refine zga ?_|fail)
 apply Yf H
 ·exact zk
 apply Yc;exact rfl;exact rfl;exact⟨rfl,rfl⟩
theorem Yku(c:Cel)(o:Int)(g:Nat)(hm:intA g o∈H)(hw:St B w0 H w):
 CX B w0 407 [celV c,.pointer (some ⟨g,0,none⟩)] w λv K=>v=.bool (!(decide (c.2.1=o)))/\K=H:=by
 refine Ya Tryz.func407 Tryz.ntmps407 rfl rfl hw ?_
 by_cases h:c.2.1=o
 ·rw[Ti h]
  refine zX22 ?_<;>intros
  apply Yf H
  ·exact zc0
  exact zc9
 ·rw[Tn h]
  refine zX22 ?_<;>intros
  apply Yf H
  ·exact zc0
  exact zc9
theorem YjQ(c:Cel)(id:Int)(g:Nat)(hm:intA g id∈H)(hw:St B w0 H w):
 CX B w0 163 [celV c,.pointer (some ⟨g,0,none⟩)] w λv K=>v=.bool (decide (Y6 c=id))/\K=H:=by
 refine Ya Tryz.func163 Tryz.ntmps163 rfl rfl hw ?_
 by_cases h:c.2.2.2.2=id
 ·rw[Ti (show Y6 c=id from h)]
  refine zX22 ?_<;>intros
  apply Yf H
  ·exact zc0
  exact zc9
 ·rw[Tn (show¬Y6 c=id from h)]
  refine zX22 ?_<;>intros
  apply Yf H
  ·exact zc0
  exact zc9
def tchB(l:List Cel)(slot a b:Int):Bool:=l.any λd=>decide (d.1=slot)&&YE d (0,0,a,b,0)
def offI(n:Net)(l:List Cel)(slot a b:Int)(k:Nat):List Nat:=(List.range k).filter λo:Nat=>Jn n (l.filter (atP slot o)++[(0,0,a,b,0)])
def Uv(n:Net)(s:Sch)(slot a b:Int):List (List Value):=if tchB s.cells slot a b=true then []else(offI n s.cells slot a b s.off.toNat).map λ(o:Nat)=>[Value.int .i64 (o:Int)]
variable {n:Net}{l:List Cel}{slot a b:Int}{k i:Nat}
theorem YpO(h:Jn n (l.filter (atP slot k)++[(0,0,a,b,0)])=true):offI n l slot a b (k+1)=offI n l slot a b k++[k]:=by
 grind [offI,RH]
theorem Yr0(h:Jn n (l.filter (atP slot k)++[(0,0,a,b,0)])=false):offI n l slot a b (k+1)=offI n l slot a b k:=by
 grind [offI,RH]
theorem YpN{m:Nat}(h:Jn n (l.filter (atP slot k)++[(0,0,a,b,0)])=true)(hk:k<m):(offI n l slot a b m)[(offI n l slot a b k).length]? =some k:=by
 obtain⟨j,rfl⟩:∃j,m=k+(j+1):=⟨m-k-1,by omega⟩
 have e:offI n l slot a b (k+(j+1))=offI n l slot a b k++((List.range (j+1)).map (k+·)).filter λo:Nat=>Jn n (l.filter (atP slot o)++[(0,0,a,b,0)]):=by
  grind [offI,List.range_add]
 simp_all [List.range_succ_eq_map]
structure AiM where
 i:Nat
 A:Option Addr
 cap:Nat
 l:List Cel
variable {c:Cel}
theorem Ypk(hc:l[i]? =some c)(h:c.1=slot):(l.take (i+1)).filter (λd=>decide (d.1=slot))=(l.take i).filter (λd=>decide (d.1=slot))++[c]:=zc78
theorem YrH(hc:l[i]? =some c)(h:c.1≠slot):(l.take (i+1)).filter (λd=>decide (d.1=slot))=(l.take i).filter (λd=>decide (d.1=slot)):=zc78
theorem Yqk(hc:l[i]? =some c):tchB (l.take (i+1)) slot a b=(tchB (l.take i) slot a b||(decide (c.1=slot)&&YE c (0,0,a,b,0))):=by
 grind [tchB,TD]
theorem YvR(hc:l[i]? =some c)(h:c.1=slot)(ht:YE c (0,0,a,b,0)=true):tchB l slot a b=true:=
 TM.2 ⟨c,Tc hc,by simp_all⟩
theorem Ynm(n:NetM)(s:SchM)(l:Lk)(slot:Int)(g3 g5 g4:Nat)(hck:Yo n.net=0)(hl:s.cells.length<=900)(hoff:0<=s.off/\s.off<=16){B:Nat}{w0:World}{R:List HP}(hin:n.In B w0 [many R])(hr:Rd B w0 [many R] s.A (s.cells.flatMap celF)):
 YbR Tryz.prog 405 [.pointer (some ⟨g3,0,none⟩),.pointer (some ⟨g5,0,none⟩),.pointer (some ⟨g4,0,none⟩)] (Uv n.net s.sch slot l.1 l.2.1) B w0 [intA g5 slot,lnkA g4 l,grdA g3 n s,many R]:=by
 refine YbS Tryz.func405 Tryz.ntmps405 rfl rfl ?_
 intro ly SS X hy L0 h0
 refine XI 162 5 ?_
 have hsc:s.sch.cells=s.cells:=rfl
 refine zX9 ?_
 refine Ye (λ(x:AiM)=>[(14,.int .i64 x.i),(13,.int .i64 s.cells.length),(12,.slice s.A s.cells.length s.cap),(5,.slice x.A x.l.length x.cap),(0,.func (.yield ly) #[] #[]),(1,.pointer (some ⟨g3,0,none⟩)),(2,.pointer (some ⟨g5,0,none⟩)),(3,.pointer (some ⟨g4,0,none⟩))])
  (λx=>sl 162 5 x.A x.l.length x.cap (x.l.flatMap celF)::many L0::intA g5 slot::lnkA g4 l::grdA g3 n s::[many R]) (λx=>x.i<=s.cells.length/\x.l=(s.cells.take x.i).filter (λd=>decide (d.1=slot))/\tchB (s.cells.take x.i) slot l.1 l.2.1=false) (λx=>s.cells.length-x.i) ⟨0,none,0,[]⟩ ⟨Td _,by simp,rfl⟩ ?_ ?_ ?_
 ·exact zc1
 ·dsimp only
  rw[show([]:List Cel).flatMap celF=[] from rfl,show([]:List Cel).length=0 from rfl]
  exact zc0
 rintro⟨i,A,cap,hs⟩ ⟨hi,hhs,htc⟩ K hK
 dsimp only at hi hhs htc⊢
 have hhl:hs.length<=900:=by
  have:=Sj (λd:Cel=>decide (d.1=slot)) (s.cells.take i)
  rw[<-hhs,TO]at this
  omega
 by_cases hlt:i<s.cells.length
 ·obtain⟨c,hc⟩:∃c,s.cells[i]? =some c:=⟨_,Ta hlt⟩
  have hts:=Yqk (slot:=slot) (a:=l.1) (b:=l.2.1) hc
  rw[htc,NF]at hts
  have p1:=λ{H':List HP}{w:World}(hw:St B w0 H' w)=>Yi5 c l hw
  unfold celV lkV at p1
  by_cases hsl:c.1=slot
  rotate_left
  ·rw[Tn hsl,NI]at hts
   refine zX45 ?_<;>intros
   apply hK ⟨i+1,A,cap,hs⟩
   ·exact⟨by exact Ybf,by rw[YrH hc hsl];exact hhs,hts⟩
   ·exact zc73
   ·exact zc1
   ·exact zc0
  cases ht:YE c (0,0,l.1,l.2.1,0)with
  |true=>
   rw[ht]at p1
   have hnil:Uv n.net s.sch slot l.1 l.2.1=[]:=by
    unfold Uv
    rw[To (by rw[hsc];exact YvR hc hsl ht)]
   clear hK
   repeat'(first|((apply Yb Ytv);exact za;exact rfl;exactλ_ hw=>(p1 hw))|refine zgd ?_|(refine zge ?_ ?_<;>intro _<;>try exact zo)|(refine zgh ?_;intro _)|fail)
   apply Yf (many L0::intA g5 slot::lnkA g4 l::grdA g3 n s::[many R])
   ·exact zc0
   apply W6;exact rfl
   exact .inl ⟨L0,by rw[hnil];exact h0,rfl⟩
  |false=>
   rw[Ti hsl,ht,RN]at hts
   rw[ht]at p1
   repeat'(first|((apply Yb Ytv);exact za;exact rfl;exactλ_ hw=>(p1 hw))|refine zgd ?_|(refine zge ?_ ?_<;>intro _<;>try exact zo)|(refine zgh ?_;intro _)|(refine zgi ?_;intro _ _)|fail)
   rename_i A' cap'
   have hl1:(hs++[c]).length=hs.length+1:=by rw[Tt];rfl
   apply hK ⟨i+1,A',cap',hs++[c]⟩
   ·exact⟨by exact Ybf,by rw[Ypk hc hsl,<-hhs],hts⟩
   ·exact zc73
   ·dsimp only
    rw[hl1]
    exact zc1
   ·dsimp only
    have e5:=Z7 A' cap' hs c
    unfold cels at e5
    rw[<-e5]
    exact zc0
 ·obtain rfl:i=s.cells.length:=by omega
  rw[TC]at hhs htc
  clear hK
  refine zX1 ?_<;>intros
  have hxs:Uv n.net s.sch slot l.1 l.2.1=(offI n.net s.cells slot l.1 l.2.1 s.off.toNat).map λ(o:Nat)=>[Value.int .i64 (o:Int)]:=by
   unfold Uv
   rw[Tf (by rw[hsc,htc];decide)];rfl
  refine Ye (λ(x:Nat×List HP)=>[(33,.int .i64 (x.1:Nat)),(32,.int .i64 s.off),(5,.slice A hs.length cap),(0,.func (.yield ly) #[] #[]),(1,.pointer (some ⟨g3,0,none⟩)),(2,.pointer (some ⟨g5,0,none⟩)),(3,.pointer (some ⟨g4,0,none⟩))])
   (λx=>sl 162 5 A hs.length cap (hs.flatMap celF)::many x.2::intA g5 slot::lnkA g4 l::grdA g3 n s::[many R]) (λx=>(x.1:Int)<=s.off/\SS (offI n.net s.cells slot l.1 l.2.1 x.1).length x.2) (λx=>(s.off-x.1).toNat) (0,L0) ⟨by show((0:Nat):Int)<=_;omega,h0⟩ ?_ ?_ ?_
  ·exact zc1
  ·exact zc0
  rintro⟨o,L⟩ ⟨ho,hS⟩ K hK
  dsimp only at ho hS⊢
  by_cases hlt2:(o:Int)<s.off
  rotate_left
  ·obtain rfl:o=s.off.toNat:=by omega
   clear hK
   refine zX1 ?_<;>intros
   apply Yf (many L::intA g5 slot::lnkA g4 l::grdA g3 n s::[many R])
   ·exact zc0
   apply J8;exact rfl
   exact .inl ⟨L,by rw[hxs,Tu];exact hS,rfl⟩
  obtain⟨own,hown⟩:∃own,s.cells.filter (atP slot o)=own:=⟨_,rfl⟩
  have hof:(hs.filter λc=>!!(decide (c.2.1=(o:Int))))=own:=by
   rw[<-hown,hhs,SH]
   refine SV λc _=>?_
   unfold atP
   rw[Bool.not_not,Bool.decide_and,Bool.and_comm]
  have hol:own.length<=900:=by
   have:=Sj (atP slot o) s.cells
   rw[hown]at this
   omega
  have pg:=λ{A2:Option Addr}{cap2:Nat}{H':List HP}{w:World}(hin:n.In B w0 H') (hr:Rd B w0 H' A2 (own.flatMap celF++#[Value.int .i64 0,.int .i64 0,.int .i64 l.1,.int .i64 l.2.1,.int .i64 0].toList)) (hw:St B w0 H' w)=>Yka n (own++[(0,0,l.1,l.2.1,0)]) hck (by rw[Tt];show own.length+1<=1000;omega) (A:=A2) (cap:=cap2) hin (by rw[Rj];exact hr) hw
  have hol1:(own++[((0,0,l.1,l.2.1,0):Cel)]).length=own.length+1:=by rw[Tt];rfl
  rw[hol1]at pg
  unfold NetM.val at pg
  refine zX45 ?_<;>intros
  rename_i g8
  apply Yg _ Yhu
  exact za
  exact rfl
  exactλ_ hw=>(JS hs (by omega) (.sl (by(focus exact zc2))) (hw))
  rintro _ _ ⟨A1,c1,rfl,rfl⟩
  repeat'(first|(apply zg29;(apply Yu;exact za;exact rfl))|fail)
  apply Yg _ YoW
  exact za
  exact rfl
  exactλ_ hw=>(WD (λc=>!(decide (c.2.1=(o:Int)))) hs 407 [.pointer (some ⟨g8,0,none⟩)] YxL (by omega) (λc _ X w hw=>Yku c o g8 (RX _ (by(focus exact zc2))) hw) (hw))
  rintro _ _ ⟨rfl,rfl⟩
  rw[hof]
  unfold cels
  refine zX2 ?_
  apply Ymi [0,1,2,3,4,5,6,7,8,9,10,11,12,13] [14,15,16] [false,true,false,false,true,true,true,true]
  kernel_rfl
  kernel_rfl
  exact zy
  (simp only[Yd,nthO];rfl)
  (simp only[Yd,nthO];rfl)
  repeat'(first|refine Yi T ?_|(apply Yh;try exact zl)|refine zgd ?_|(refine zgh ?_;intro _)|(refine zgi ?_;intro _ _)|fail)
  apply Yb YxM
  exact za
  exact rfl
  exactλ_ hw=>(pg (hin.mono zc0) (.sl (by(focus exact zc2))) hw)
  cases hg:Jn n.net (own++[(0,0,l.1,l.2.1,0)])with
  |true=>
   have hg2:Jn n.net (s.cells.filter (atP slot o)++[(0,0,l.1,l.2.1,0)])=true:=by rw[hown];exact hg
   have hx:(Uv n.net s.sch slot l.1 l.2.1)[(offI n.net s.cells slot l.1 l.2.1 o).length]? =some [.int .i64 (o:Int)]:=by
    rw[hxs,TU,YpN hg2 (by omega)];rfl
   have hY:=hy _ _ hx [sl 162 5 A hs.length cap (hs.flatMap celF)] L hS
   refine zX17 ?_
   apply Yf (sl 162 5 A hs.length cap (hs.flatMap celF)::many L::intA g5 slot::lnkA g4 l::grdA g3 n s::[many R])
   ·exact zc0
   apply Yoo
   apply Yb2 _ _ (hy:=hY)
   ·exact Ybc (j:=11) (s:=51) rfl rfl rfl
   ·exact rfl
   ·exact YqM
   ·exact rfl
   ·exact Yjj
   ·rintro _ ⟨L',hS',rfl⟩
    refine zX3 ?_
    apply hK (o+1,L')
    ·exact⟨by show((o+1:Nat):Int)<=_;omega,by rw[YpO hg2,Tt];exact hS'⟩
    ·exact zc73
    ·exact zc1
    exact zc18
   ·rintro _ ⟨L',hX',rfl⟩
    refine zX3 ?_
    apply Yf (many L'::intA g5 slot::lnkA g4 l::grdA g3 n s::[many R])
    ·exact QZ
    apply W6;exact rfl
    exact .inr ⟨L',hX',rfl⟩
  |false=>
   have hg2:Jn n.net (s.cells.filter (atP slot o)++[(0,0,l.1,l.2.1,0)])=false:=by rw[hown];exact hg
   refine zX17 ?_
   apply Yoo
   apply Yg6 Yjj
   refine zX11 ?_
   apply hK (o+1,L)
   ·exact⟨by show((o+1:Nat):Int)<=_;omega,by rw[Yr0 hg2];exact hS⟩
   ·exact zc73
   ·exact zc1
   ·exact zc0
theorem YpM:∀a b:List Int,a.length=b.length->Jl (List.zipWith cmpI a b)=cmpV a b
 |[],[],_=>rfl
 |[],_::_,h=>by cases h
 |_::_,[],h=>by cases h
 |x::a,y::b,h=>by
  have ih:=YpM a b (by simp_all)
  rw[List.zipWith_cons_cons,Jl]
  by_cases h1:x<y
  ·have e1:cmpI x y= -1:=To h1
   have e2:XW (x::a) (y::b)=true:=by rw[XW,To (show x≠y by omega)];simp_all
   simp_all [cmpV]
  ·by_cases h2:y<x
   ·have e1:cmpI x y=1:=by simp_all [cmpI]
    have e2:XW (x::a) (y::b)=false:=by rw[XW,To (show x≠y by omega)];simp_all
    have e3:XW (y::b) (x::a)=true:=by rw[XW,To (show y≠x by omega)];simp_all
    simp_all [cmpV]
   ·obtain rfl:x=y:=by omega
    simp_all [cmpI,XW,cmpV]
variable {B:Nat}{w0 w:World}{H:List HP}
theorem Ox(a b:Cel)(hw:St B w0 H w):
 CX B w0 126 [celV a,celV b] w λv K=>v=.int .i64 (cmpV (nums a) (nums b))/\K=H:=by
 refine Ya Tryz.func126 Tryz.ntmps126 rfl rfl hw ?_
 rw[<-YpM (nums a) (nums b) rfl]
 unfold celV
 refine zX15 ?_<;>intros
 apply YC [0,1,2,3,5,6,7,8,10,11,12,13,15,16,17,18,20,21,22,23,4,9,14,19,24,25,26,27] [] [true,true]
 kernel_rfl
 kernel_rfl
 exact zy
 (simp only[Yd,nthO];rfl)
 exact rfl
 refine zX16 ?_<;>intros
 rename_i g
 apply Yb Ys2
 exact za
 exact rfl
 exactλ_ hw=>(YlE (List.zipWith cmpI (nums a) (nums b)) (by simp[nums]) (Rd.blk (g:=g) (cs:=#[.int .i64 (cmpI a.1 b.1),.int .i64 (cmpI a.2.1 b.2.1),.int .i64 (cmpI a.2.2.1 b.2.2.1),.int .i64 (cmpI a.2.2.2.1 b.2.2.2.1),.int .i64 (cmpI a.2.2.2.2 b.2.2.2.2)]) (by(focus exact zc2))) hw)
 refine zX17 ?_
 apply Yf H
 ·exact zc0
 exact zc25
theorem Ygu(l:List Cel)(c:Cel)(ho:Ord l)(hlen:l.length<=1000000000){A:Option Addr}{cap:Nat}(hr:Rd B w0 H A (l.flatMap celF))(hw:St B w0 H w):
 CX B w0 369 [.slice A l.length cap,celV c,.func (.func 126) #[] #[]] w λv K=>
  v=.tuple #[.int .i64 (posE l c),.bool (decide (c∈l))]/\K=H:=by
 refine Ya Tryz.func369 Tryz.ntmps369 rfl rfl hw ?_
 (apply Y5;apply YL;apply Yx;exact rfl;exact rfl;intro g)
 refine zX9 ?_
 have hr:=hr.cons (X:=blk g (.cells (celF c).toArray 162 (0,0)))
 refine Wt (λ(lo hi:Nat)=>[(9,.int .i64 lo),(10,.int .i64 hi),(8,.int .i64 l.length),(0,.slice A l.length cap),(2,.func (.func 126) #[] #[]),(4,.pointer (some ⟨g,0,none⟩))]) (λ_ _=>blk g (.cells (celF c).toArray 162 (0,0))::H)
  (λlo hi=>lo<=hi/\hi<=l.length/\(∀i x,i<lo->l[i]? =some x->Xp x c=true)/\(∀i x,hi<=i->l[i]? =some x->Xp x c=false)) (λlo hi=>hi-lo) 0 l.length ⟨by omega,by omega,λj x hj=>by omega,λj x h1 h2=>by simp_all⟩ ?_ (λw hw=>hw) ?_
 ·exact zc1
 rintro lo hi ⟨h1,h2,h3,h4⟩ K hK
 by_cases hlt:lo<hi
 ·obtain⟨b,hb⟩:∃b,l[(((lo:Int)+hi)/2).toNat]? =some b:=⟨_,Ta (by omega)⟩
  have hm:(((lo:Int)+hi)/2).toNat=(lo+hi)/2:=by omega
  have hb2:l[(lo+hi)/2]? =some b:=by grind
  repeat'(first|((apply Zt (cs:=[]));exact rfl;exact YsH;exact za;exact rfl;exactλ_ hw=>(Ox b c hw))|(apply zg28;refine zs84 ?_)|refine zgd ?_|(refine zge ?_ ?_<;>intro _<;>try exact zo)|fail)
  ·rename_i hc
   rw[Yci]at hc
   apply hK ((lo+hi)/2+1) hi
   ·refine⟨by omega,by omega,λj x hj hx=>?_,h4⟩
    by_cases e:j=(lo+hi)/2
    ·grind
    ·exact Uc (Ygc ho hx hb2 (by omega)) hc
   ·omega
   ·exact zc1
   exact zc18
  ·rename_i hc
   have hc:Xp b c=false:=by
    cases h:Xp b c with
    |false=>rfl
    |true=>rw[<-Yci]at h;omega
   apply hK lo ((lo+hi)/2)
   ·refine⟨by omega,by omega,h3,λj x hj hx=>?_⟩
    by_cases e:j=(lo+hi)/2
    ·rw[e,hb2]at hx
     injection hx with hx;subst hx;exact hc
    ·cases h:Xp x c with
     |false=>rfl
     |true=>rw[Uc (Ygc ho hb2 hx (by omega)) h]at hc;cases hc
   ·omega
   ·exact zc1
   exact zc18
 ·obtain rfl:lo=hi:=by omega
  have hp:Pos l c lo:=⟨h2,h3,h4⟩
  have hpe:=hp.posE ho
  have hpm:=Ysg ho hp
  by_cases hl:lo<l.length
  ·obtain⟨b,hb⟩:∃b,l[lo]? =some b:=⟨_,Ta hl⟩
   rw[hb]at hpm
   repeat'(first|((apply Zt (cs:=[]));exact rfl;exact YsH;exact za;exact rfl;exactλ_ hw=>(Ox b c hw))|(apply zg28;refine zs84 ?_)|refine zgd ?_|(refine zge ?_ ?_<;>intro _<;>try exact zo)|fail)
   all_goals(apply Yj;apply YJ;(iterate 3 exact rfl);rw[<-hpe])
   ·rename_i hc
    rw[YoI]at hc
    exact⟨by rw[Ti (hpm.1 (by rw[hc]))],rfl⟩
   ·rename_i hc
    rw[ne_eq,YoI]at hc
    exact⟨by rw[Tn λh=>hc (Tz (hpm.2 h))],rfl⟩
  ·refine zX18 ?_<;>intros
   apply Yj;apply YJ;(iterate 3 exact rfl);rw[<-hpe]
   rw[List.getElem?_eq_none (by omega)]at hpm
   exact⟨by rw[Tn λh=>by cases hpm.2 h],rfl⟩
theorem Yf9(n:NetM)(s:SchM)(l:Lk)(slot:Int)(hw:St B w0 H w):
 CX B w0 368 [grdV n s,lkV l,.int .i64 slot] w λv K=>∃g3 g4 g5,v=.func (.func 405) #[] #[.pointer (some ⟨g3,0,none⟩),.pointer (some ⟨g5,0,none⟩),.pointer (some ⟨g4,0,none⟩)]/\K=intA g5 slot::lnkA g4 l::grdA g3 n s::H:=by
 refine Ya Tryz.func368 Tryz.ntmps368 rfl rfl hw ?_
 refine zX28 ?_<;>intros
 exact zc38
end Go.Proofs.YtjommdkgfbhbdaaGreatDoor
namespace Go.Eng
open Go.RowKit
section
variable {P:Program}{B:Nat}{w0:World}{env:Env}{H:List HP}
theorem YbZ{n:Nat}(T:Tab P){fn:Func}{Φ:Value->List HP->Prop}{p g k q g2 rt st:Nat}{v:Value}{cs:Array Value}{tt tt2:TypeId}{fr fr2:Nat×Nat}(hr:fn.results=#[.cell p rt,.cell q st])(hp:get env p=some (.pointer (some ⟨g,0,none⟩)))(hq:get env q=some (.pointer (some ⟨g2,0,none⟩)))
 (hm:blk g (.cells cs tt fr)∈H) (hm2:blk g2 (.cells #[v] tt2 fr2)∈H) (ht:look T.ag rt=some k) (hk:cs.size=k) (ht2:look T.sc st=some ()) {H2:List HP}(hH:∀w,St B w0 H w->St B w0 H2 w) (h:Φ (.tuple #[.agg cs,v]) H2):VQ ⟨n,[],none⟩ B w0 (bodyPost P fn (Post B w0 Φ)) .ret env H:=by
 refine⟨λa w ha hw=>bodyPost_ret (v:=.tuple #[.agg cs,v]) ?_ ha.defers ⟨_,H2,rfl,hH w hw,h⟩⟩
 have hp':=ha.slot p _ hp
 have hq':=ha.slot q _ hq
 have hc:=Xi (i:=0) (hw.blk hm2).1
 have h2:(loadVar st ⟨g2,0,none⟩).run P w=.ok v w:=by simp[loadVar,XE (T.scal ht2).1,hc]
 simp[results,hr,Array.getD_eq_getD_getElem?,hp',hq',asAddr,ZP T (hw.blk hm).1 ht hk,h2]
end
end Go.Eng
namespace Go.Proofs.YtjommdkgfbhbdaaGreatDoor
open Go.RowKit Go.Eng Go.Nw Go.Rt
theorem UR{α:Type}(p:α->Bool):∀l:List α,(l.filter p)[0]? =l.find? p
 |[]=>rfl
 |a::l=>by
  rw[S7,List.find?_cons]
  cases h:p a with
  |true=>rfl
  |false=>exact UR p l
variable {n:Net}{l:List Cel}{slot a b id:Int}
theorem Yly(h:tchB l slot a b=false):(λo:Nat=>fitE n l slot o a b)=λo:Nat=>Jn n (l.filter (atP slot o)++[(0,0,a,b,0)]):=by
 grind [fitE,tchB]
theorem Yvn(h:tchB l slot a b=true):(λo:Nat=>fitE n l slot o a b)=λ_=>false:=by
 grind [fitE,tchB]
variable {s:Sch}
theorem Yks(hh:hasC s.cells slot a b id=false)(h:(Uv n s slot a b).length=0):Js n s a b id slot=none:=by
 unfold Js
 have:((List.range s.off.toNat).find? λo:Nat=>fitE n s.cells slot o a b)=none:=by
  cases ht:tchB s.cells slot a b with
  |true=>simp_all [Yvn]
  |false=>
   rw[Yly ht,<-UR]
   unfold Uv at h
   grind [offI]
 simp_all
theorem Ykt(hh:hasC s.cells slot a b id=false){args:List Value}(h:(Uv n s slot a b)[0]? =some args):∃o:Nat,args=[.int .i64 (o:Int)]/\o<s.off.toNat/\fitE n s.cells slot o a b=true/\Js n s a b id slot=some ⟨s.len,s.off,insC s.cells (slot,(o:Int),a,b,id)⟩:=by
 unfold Uv at h
 cases ht:tchB s.cells slot a b with
 |true=>simp_all
 |false=>
  rw[ht,Tf (by decide),TU]at h
  unfold offI at h
  rw[UR]at h
  cases hf:(List.range s.off.toNat).find? λo:Nat=>Jn n (s.cells.filter (atP slot o)++[(0,0,a,b,0)])with
  |none=>simp_all
  |some o=>
   have hf2:(List.range s.off.toNat).find? (λo:Nat=>fitE n s.cells slot o a b)=some o:=by rw[Yly ht];exact hf
   unfold Js
   grind
theorem YkP(n:NetM)(s:SchM)(l:Lk)(id slot:Int)(hck:Yo n.net=0)(hl:s.cells.length<=900)(hoff:0<=s.off/\s.off<=16)(ho:Ord s.cells){B:Nat}{w0:World}{R:List HP}{w:World}(hin:n.In B w0 [many R])(hr:Rd B w0 [many R] s.A (s.cells.flatMap celF))(hw:St B w0 [many R] w):
 CX B w0 312 [grdV n s,lkV l,.int .i64 id,.int .i64 slot] w λv K=>
  (v=.tuple #[grdV n s,.bool true]/\Js n.net s.sch l.1 l.2.1 id slot=some s.sch/\K=[many R])\/
  (v=.tuple #[grdV n s,.bool false]/\Js n.net s.sch l.1 l.2.1 id slot=none/\K=[many R])\/
  ∃A cap c,v=.tuple #[grdV n ⟨s.len,s.off,A,cap,insC s.cells c⟩,.bool true]/\Js n.net s.sch l.1 l.2.1 id slot=some ⟨s.len,s.off,insC s.cells c⟩/\K=[cels A cap (insC s.cells c),many R]:=by
 refine ZK Tryz.func312 Tryz.ntmps312 rfl rfl hw ?_
 have p1:=λ{H':List HP}{w:World}(hr:Rd B w0 H' s.A (s.cells.flatMap celF)) (hw:St B w0 H' w)=>Ym5 n s l id slot (by omega) hr hw
 have p2:=λ{H':List HP}{w:World}(hw:St B w0 H' w)=>Yf9 n s l slot hw
 cases hh:hasC s.cells slot l.1 l.2.1 id with
 |true=>
  rw[hh]at p1
  unfold grdV lkV at p1⊢
  refine Yjg ?_<;>intros
  apply Yb Yto
  exact za
  exact rfl
  exactλ_ hw=>(p1 hr.cons.cons.cons.cons.cons.cons hw)
  refine zX3 ?_
  apply VQ_m
  apply YbZ T (H2:=[many R]);(iterate 3 exact rfl);(focus exact zc2);(focus exact zc2);(iterate 3 exact rfl);(intro w hw;refine hw.perm ?_;focus exact zc5)
  refine .inl ⟨rfl,?_,rfl⟩
  unfold Js
  rw[show s.sch.cells=s.cells from rfl,To hh]
 |false=>
 rw[hh]at p1
 unfold grdV lkV at p1 p2⊢
 refine Yjg ?_<;>intros
 rename_i g4 g5 g6 g7 g8 g9
 apply Yb Yto
 exact za
 exact rfl
 exactλ_ hw=>(p1 hr.cons.cons.cons.cons.cons.cons hw)
 refine zX9 ?_
 apply Yg _ Yxx
 exact za
 exact rfl
 exactλ_ hw=>(p2 (hw))
 rintro _ _ ⟨k3,k4,k5,rfl,rfl⟩
 refine zX9 ?_
 have hlen0:∀args∈Uv n.net s.sch slot l.1 l.2.1,args.length=[24].length:=by
  intro args h
  unfold Uv at h
  split at h
  ·cases h
  ·obtain⟨o,_,rfl⟩:=TG.1 h
   rfl
 refine ZL (gf:=405) (lb:=[.pointer (some ⟨k3,0,none⟩),.pointer (some ⟨k5,0,none⟩),.pointer (some ⟨k4,0,none⟩)]) (xs:=Uv n.net s.sch slot l.1 l.2.1) (intA k5 slot::lnkA k4 l::grdA k3 n s::[many R])
  (λ_:Unit=>[blk g9 (.cells #[.bool false] 4 (0,0)),blk g8 (.cells #[.int .i64 0,.slice none 0 0,.int .i64 0,.int .i64 0,.slice none 0 0,.slice none 0 0,.int .i64 0,.int .i64 0,.slice none 0 0] 262 (0,0)),intA g7 slot,intA g6 id,lnkA g5 l,grdA g4 n s])
  (λk _=>k=0) (λe K=>e=.ret/\∃A cap,∃o:Int,Js n.net s.sch l.1 l.2.1 id slot=some ⟨s.len,s.off,insC s.cells (slot,o,l.1,l.2.1,id)⟩/\K=[blk g9 (.cells #[.bool true] 4 (0,0)),grdA g8 n ⟨s.len,s.off,A,cap,insC s.cells (slot,o,l.1,l.2.1,id)⟩,cels A cap (insC s.cells (slot,o,l.1,l.2.1,id))]) () rfl YxK (Ynm n s l slot k3 k5 k4 hck hl hoff hin hr) rfl hlen0 (by kernel_rfl) (by kernel_rfl) ?_ rfl ?_ ?_ ?_
 ·intro w hw
  have h5:St B w0 (blk g9 (.cells (Value.bool false).cells 4 (0,0))::blk g8 (.cells (Value.agg #[.int .i64 0,.slice none 0 0,.int .i64 0,.int .i64 0,.slice none 0 0,.slice none 0 0,.int .i64 0,.int .i64 0,.slice none 0 0]).cells 262 (0,0))::intA g7 slot::intA g6 id::lnkA g5 l::grdA g4 n s::intA k5 slot::lnkA k4 l::grdA k3 n s::[many R]) w:=by
   revert w
   exact zc0
  exact h5
 ·rintro ly k args R1 ⟨⟩ hk rfl
  obtain⟨o,rfl,hol,hfit,hsl⟩:=Ykt (id:=id) hh hk
  dsimp only[U5,List.cons_append,List.nil_append]
  have hrx:∀{H':List HP},(∀w,St B w0 H' w->St B w0 [many R] w)->Rd B w0 H' s.A (s.cells.flatMap celF):=λh=>hr.mono h
  refine zX2 ?_
  apply Vh YB
  intro R2
  have hpl:posE s.cells (slot,(o:Int),l.1,l.2.1,id)<=s.cells.length:=(Ygi ho _).1
  refine zX26 ?_<;>intros
  rename_i g11
  apply Yb Yxy
  exact za
  exact rfl
  exactλ_ hw=>(Ygu s.cells (slot,(o:Int),l.1,l.2.1,id) ho (by omega) (hrx zc0) hw)
  refine zX11 ?_
  apply YbU (.p1 0 (.p1 1 (.p1 2 (.p1 4 (.p1 5 (.d2 3 (.d1 6 (.d1 7 (.d1 8 (.d1 9 .done)))) 6 (.d1 3 (.d1 7 (.d1 8 (.d1 9 .done)))))))))) [10] [true,false,false,false,false,false,false,true,false,false,false,true]
  kernel_rfl
  kernel_rfl
  exact zy
  (simp only[Yd,nthO];rfl)
  repeat'(first|((apply Yg _ Yhu);exact za;exact rfl;exactλ_ hw=>JS s.cells (by omega) (hrx zk) hw;rintro _ _ ⟨A1,cap1,rfl,rfl⟩)|(apply Vm T T2;(iterate 7 exact rfl);intro gv)|(apply XK [cels A1 cap1 s.cells,blk gv (.cells #[.int .i64 slot,.int .i64 (o:Int),.int .i64 l.1,.int .i64 l.2.1,.int .i64 id] 162 (0,0))] _ Yxz;exact za;try exact zl;exact zp;exact rfl;exactλ_ hw=>Yf3 s.cells _ (slot,(o:Int),l.1,l.2.1,id) hpl (by omega) hw;rintro _ _ ⟨A2,cap2,rfl,rfl⟩)|(apply Yos;(simp only[nthO];rfl))|(apply Yoq;(simp only[nthO];rfl);exact zp)|(apply Yor;(simp only[nthO];rfl);(simp only[nthO];rfl);exact zp)|(apply Yb1;try exact zl)|refine zgd ?_|fail)
  all_goals(
   refine O9 [blk g9 (.cells #[.bool true] 4 (0,0)),grdA g8 n ⟨s.len,s.off,A2,cap2,insC s.cells (slot,(o:Int),l.1,l.2.1,id)⟩,cels A2 cap2 (insC s.cells (slot,(o:Int),l.1,l.2.1,id))] ⟨rfl,A2,cap2,(o:Int),hsl,rfl⟩ ?_
   dsimp only[List.cons_append,List.nil_append]
   unfold insC
   exact zk)
 ·rintro D ⟨⟩ hI
  have hnone:=Yks (id:=id) hh hI
  dsimp only[List.cons_append,List.nil_append]
  refine zX3 ?_
  apply Z2 YB
  apply VQ_m
  apply YbZ T (H2:=[many R]);(iterate 3 exact rfl);(focus exact zc2);(focus exact zc2);(iterate 3 exact rfl);(intro w hw;refine hw.perm ?_;focus exact zc5)
  exact .inr (.inl ⟨rfl,hnone,rfl⟩)
 ·rintro D e K ⟨rfl,A,cap,o,hsl,rfl⟩ hjmp
  dsimp only[List.cons_append,List.nil_append]
  refine zX3 ?_
  apply Z2 YB
  apply VQ_m
  apply YbZ T (H2:=[cels A cap (insC s.cells (slot,o,l.1,l.2.1,id)),many R]);(iterate 3 exact rfl);(focus exact zc2);(focus exact zc2);(iterate 3 exact rfl);(intro w hw;refine hw.perm ?_;focus exact zc5)
  exact .inr (.inr ⟨A,cap,_,rfl,hsl,rfl⟩)
variable {n:Net}
theorem Sm.few{l:List Flw}{s:Sch}(h:Sm n l s)(hl:s.len<=24):s.cells.length<=768:=by
 have hok:=YP h.ck
 have hnd:(s.cells.map λc=>c.1*32+YM c).Nodup:=by
  refine Nq.2 (h.once.imp_of_mem λ{a b} ha hb hab e=>?_)
  have h1:=Xu hok (h.good a ha).1
  have h2:=Xu hok (h.good b hb).1
  have hn:=hok.n1
  grind [YE]
 have:=Go.Nw.nodup_len 768 _ hnd λx hx=>by
  obtain⟨c,hc,rfl⟩:=TG.1 hx
  have h1:=Xu hok (h.good c hc).1
  have hn:=hok.n1
  have hf:=h.formed c hc
  unfold XA XB insE at hf
  grind
 simp_all
variable {B:Nat}{w0 w:World}{H:List HP}
theorem Yqd(n:NetM)(s:SchM)(l:Lk)(id slot:Int)(hck:Yo n.net=0)(hl:s.cells.length<=900)(hoff:0<=s.off/\s.off<=16)(ho:Ord s.cells)(hin:n.In B w0 H)(hr:Rd B w0 H s.A (s.cells.flatMap celF))(hw:St B w0 H w):
 CX B w0 312 [grdV n s,lkV l,.int .i64 id,.int .i64 slot] w λv K=>
  (v=.tuple #[grdV n s,.bool true]/\Js n.net s.sch l.1 l.2.1 id slot=some s.sch/\K=H)\/
  (v=.tuple #[grdV n s,.bool false]/\Js n.net s.sch l.1 l.2.1 id slot=none/\K=H)\/
  ∃A cap c,v=.tuple #[grdV n ⟨s.len,s.off,A,cap,insC s.cells c⟩,.bool true]/\Js n.net s.sch l.1 l.2.1 id slot=some ⟨s.len,s.off,insC s.cells c⟩/\K=cels A cap (insC s.cells c)::H:=by
 have hop:∀w,St B w0 [many H] w->St B w0 H w:=λw hw=>hw.perm (.openT H)
 refine(YkP n s l id slot hck hl hoff ho (R:=H) (hin.mono hop) (hr.mono hop) (hw.perm (.closeT H))).mono ?_
 rintro e w' ⟨v,K,h1,hst,h⟩
 rcases h with⟨h2,h3,rfl⟩|⟨h2,h3,rfl⟩|⟨A,cap,c,h2,h3,rfl⟩
 ·exact⟨v,_,h1,hop _ hst,.inl ⟨h2,h3,rfl⟩⟩
 ·exact⟨v,_,h1,hop _ hst,.inr (.inl ⟨h2,h3,rfl⟩)⟩
 ·exact⟨v,_,h1,hst.perm (.cons _ (.openT H)),.inr (.inr ⟨A,cap,c,h2,h3,rfl⟩)⟩
structure ReM where
 i:Nat
 s:SchM
 z:Int
 L:List HP
theorem YkC(m k:Nat)(h:k<m):(List.range m).drop k=k::(List.range m).drop (k+1):=by
 grind [T0]
theorem Ykk{r:List Int}{k:Nat}(h:k+1<r.length):(Yr n r).drop k=XN n r k::(Yr n r).drop (k+1):=by
 unfold Yr
 rw[<-Ni,<-Ni,YkC _ _ (by omega),RI]
abbrev flwA(g:Nat)(f:Flw):HP:=blk g (.cells #[.int .i64 f.1,.int .i64 f.2.1,.int .i64 f.2.2.1,.int .i64 f.2.2.2.1,.int .i64 f.2.2.2.2.1,.int .i64 f.2.2.2.2.2] 45 (0,0))
theorem Ym6(n:Net)(a b id:Int)(f:Nat)(s:Sch)(z:Int):hopA n a b id f 0 s z=some (s,z):=by cases f<;>rfl
structure FilI(n:NetM)(L:List Flw)(len off:Int)(B:Nat)(w0:World)(H:List HP)(s:SchM)(P:List HP):Prop where
 sm:Sm n.net L s.sch
 len:s.len=len
 off:s.off=off
 rd:Rd B w0 (many P::[many H]) s.A (s.cells.flatMap celF)
theorem Yee(n:NetM)(L:List Flw)(s:SchM)(f:Flw)(r:RowM)(at_:Int)(hsm:Sm n.net L s.sch)(h24:s.len<=24)(hk:∀x∈Yr n.net r.xs,LkOk n.net L x.1 x.2.1 f.1)(hkey:∀i,i+1<r.xs.length->0<=Yv n.net (r.xs.getD i 0) (r.xs.getD (i+1) 0))
 (hrl:1<=r.xs.length/\r.xs.length<=9) (hat:0<=at_/\at_<=1000) (hd:0<=f.2.2.2.2.2/\f.2.2.2.2.2<=512) {R:List HP}(hin:n.In B w0 H) (hr:Rd B w0 H s.A (s.cells.flatMap celF)) (hrr:Rd B w0 H r.A (r.xs.flatMap numF)) (hw:St B w0 (many R::H) w):
 CX B w0 235 [grdV n s,flwV f,.slice r.A r.xs.length r.cap,.int .i64 at_] w λv K=>∃s' ok P,v=.tuple #[grdV n s',.bool ok]/\
  (ok=true->relA n.net f.1 (at_+f.2.2.2.2.2) (Yr n.net r.xs) s.sch at_=some s'.sch/\Rd B w0 (many P::H) s'.A (s'.cells.flatMap celF))/\(ok=false->relA n.net f.1 (at_+f.2.2.2.2.2) (Yr n.net r.xs) s.sch at_=none)/\K=many P::many R::H:=by
 refine Ya Tryz.func235 Tryz.ntmps235 rfl rfl hw ?_
 have hop:∀w,St B w0 [many H] w->St B w0 H w:=λw hw=>hw.perm (.openT H)
 have hin:=hin.mono hop
 have hr:=hr.mono hop
 have hrr:=hrr.mono hop
 have hok:=YP hsm.ck
 obtain⟨endd,hend⟩:∃e,at_+f.2.2.2.2.2=e:=⟨_,rfl⟩
 obtain⟨RR,hRR⟩:∃R,relA n.net f.1 endd (Yr n.net r.xs) s.sch at_=R:=⟨_,rfl⟩
 rw[hend,hRR]
 have hsz:1<=s.len/\s.len<=512/\1<=s.off/\s.off<=16:=TI hsm.sized
 refine YX (many R::[many H]) (λw hw=>hw.perm (.cons _ (.closeT H))) ?_
 refine YX (many []::many R::[many H]) (λw hw=>hw.perm (.noMany _)) ?_
 unfold grdV flwV
 repeat'(first|refine zgc ?_|(refine zgh ?_;intro _)|fail)
 rename_i g4 g5 g8
 rw[hend]
 refine Ye (λz:ReM=>[(11,.int .i64 (z.i:Nat)),(10,.int .i64 endd),(9,.bool false),(3,.int .i64 z.z),(2,.slice r.A r.xs.length r.cap),(4,.pointer (some ⟨g4,0,none⟩)),(5,.pointer (some ⟨g5,0,none⟩)),(8,.pointer (some ⟨g8,0,none⟩))])
  (λz=>grdA g4 n z.s::flwA g5 f::blk g8 (.cells #[.int .i64 0,.slice none 0 0,.int .i64 0,.int .i64 0,.slice none 0 0,.slice none 0 0,.int .i64 0,.int .i64 0,.slice none 0 0] 262 (0,0))::many z.L::many R::[many H])
  (λz=>(1<=z.i/\z.i<=r.xs.length)/\FilI n L s.len s.off B w0 H z.s z.L/\(0<=z.z/\z.z<=endd)/\relA n.net f.1 endd ((Yr n.net r.xs).drop (z.i-1)) z.s.sch z.z=RR) (λz=>r.xs.length-z.i) ⟨1,s,at_,[]⟩ ⟨⟨by show 1<=1;omega,hrl.1⟩,⟨hsm,rfl,rfl,hr.cons⟩,⟨hat.1,by show at_<=endd;omega⟩,hRR⟩ ?_ ?_ ?_
 ·exact zc1
 ·intro w hw
  have h5:St B w0 (grdA g4 n s::flwA g5 f::blk g8 (.cells (Value.agg #[.int .i64 0,.slice none 0 0,.int .i64 0,.int .i64 0,.slice none 0 0,.slice none 0 0,.int .i64 0,.int .i64 0,.slice none 0 0]).cells 262 (0,0))::many []::many R::[many H]) w:=by
   revert w
   exact zc0
  exact h5
 rintro⟨i,s1,z,P⟩ ⟨⟨hi1,hi2⟩,hF,hz,hrel⟩ K hK
 dsimp only at hi1 hi2 hF hz hrel⊢
 by_cases hlt:i<r.xs.length
 rotate_left
 ·obtain rfl:i=r.xs.length:=by omega
  clear hK
  rw[Rn (by unfold Yr;simp)]at hrel
  refine zX1 ?_<;>intros
  apply Yn T (H2:=many P::many R::H);(iterate 3 exact rfl);(focus exact zc2);exact rfl;exact rfl
  ·intro w hw
   have h5:St B w0 (many P::many R::[many H]) w:=by
    revert w
    exact zc0
   exact YqX
  exact Yud
 obtain⟨k,rfl⟩:∃k,i=k+1:=⟨i-1,by omega⟩
 rw[NH,Ykk hlt]at hrel
 obtain⟨a,ha⟩:∃a,r.xs[(((k+1:Nat):Int)-1).toNat]? =some a:=⟨_,Ta (by omega)⟩
 obtain⟨b,hb⟩:∃b,r.xs[((k+1:Nat):Int).toNat]? =some b:=⟨_,Ta (by omega)⟩
 have ha2:r.xs.getD k 0=a:=by rw[TB,<-show(((k+1:Nat):Int)-1).toNat=k by omega,ha];rfl
 have hb2:r.xs.getD (k+1) 0=b:=by rw[TB,<-show((k+1:Nat):Int).toNat=k+1 by omega,hb];rfl
 have hfi:=hkey k hlt
 rw[ha2,hb2]at hfi
 have hfl:=XP hfi
 have hlk:n.links[(Yv n.net a b).toNat]? =some (XN n.net r.xs k):=by
  unfold XN
  rw[ha2,hb2]
  obtain⟨x,hx⟩:∃x,n.links[(Yv n.net a b).toNat]? =some x:=⟨_,Ta hfl⟩
  rw[Jp (n:=n.net) hx];exact hx
 obtain⟨lk,hlkd⟩:∃lk,XN n.net r.xs k=lk:=⟨_,rfl⟩
 rw[hlkd]at hlk hrel
 have pi:=λ{H':List HP}{w:World}(hin:n.In B w0 H') (hw:St B w0 H' w)=>Zl n a b hin hw
 rw[show Zb n.net a b=Yv n.net a b by unfold Zb;rw[Tf (λe=>e hsm.ck)]]at pi
 unfold NetM.val at pi
 have hnl:n.links.length<=128:=hok.k0
 have hnlk:=hin.lk
 have hfl2:(Yv n.net a b).toNat<n.links.length:=hfl
 refine zX0 ?_<;>intros
 refine Z1 (λg12:Nat=>[(12,.pointer (some ⟨g12,0,none⟩)),(11,.int .i64 ((k+1:Nat):Int)),(10,.int .i64 endd),(9,.bool false),(3,.int .i64 z),(2,.slice r.A r.xs.length r.cap),(4,.pointer (some ⟨g4,0,none⟩)),(5,.pointer (some ⟨g5,0,none⟩)),(8,.pointer (some ⟨g8,0,none⟩))])
  (λg12=>lnkA g12 lk::grdA g4 n s1::flwA g5 f::blk g8 (.cells #[.int .i64 0,.slice none 0 0,.int .i64 0,.int .i64 0,.slice none 0 0,.slice none 0 0,.int .i64 0,.int .i64 0,.slice none 0 0] 262 (0,0))::many P::many R::[many H]) ?_ ?_
 ·intro K2 hK2
  apply J7 (.n1 0 (.n1 1 (.n1 2 (.n1 3 (.n1 4 (.n1 5 (.n1 6 (.n1 7 (.n1 8 (.n1 9 (.n1 10 (.n1 11 (.n1 12 (.n1 13 (.n2 14 (.n1 15 (.n1 16 (.n1 17 .done))) 17 (.n1 14 (.n1 15 (.n1 16 .done)))))))))))))))))) [18] [true,true,true,true,true,true]
  kernel_rfl
  kernel_rfl
  exact zy
  (simp only[Yd,nthO];rfl)
  repeat'(first|((apply Yb Jy);exact za;exact rfl;exactλ_ hw=>(pi (hin.mono zk) hw))|refine Yi T ?_|(apply Yh;try exact zl)|apply(zs91 ?_ ?_)|(apply Xo;try exact zl)|refine zgd ?_|(refine zgh ?_;intro _)|fail)
  all_goals(
   rename_i g12
   apply hK2 g12
   ·exact zu
   ·exact zk)
 rintro g12
 dsimp only
 have hlb:=YbE hok (r.xs.getD k 0) (r.xs.getD (k+1) 0)
 have hlb2:0<=lk.2.2/\lk.2.2<=7:=by rw[<-hlkd];exact hlb
 obtain⟨HR,hHR⟩:∃R,hopA n.net lk.1 lk.2.1 f.1 (endd-z).toNat (Y1 lk) s1.sch z=R:=⟨_,rfl⟩
 rw[relA,hHR]at hrel
 have hnd:lk.2.2+1=((Y1 lk:Nat):Int):=by unfold Y1;omega
 have hkl:LkOk n.net L lk.1 lk.2.1 f.1:=hk lk (by rw[<-hlkd];exact RD (Rq.2 (by omega)))
 refine zX11 ?_
 rw[hnd]
 refine Ye (λy:ReM=>[(13,.int .i64 (y.i:Nat)),(12,.pointer (some ⟨g12,0,none⟩)),(11,.int .i64 ((k+1:Nat):Int)),(10,.int .i64 endd),(9,.bool false),(3,.int .i64 y.z),(2,.slice r.A r.xs.length r.cap),(4,.pointer (some ⟨g4,0,none⟩)),(5,.pointer (some ⟨g5,0,none⟩)),(8,.pointer (some ⟨g8,0,none⟩))])
  (λy=>lnkA g12 lk::grdA g4 n y.s::flwA g5 f::blk g8 (.cells #[.int .i64 0,.slice none 0 0,.int .i64 0,.int .i64 0,.slice none 0 0,.slice none 0 0,.int .i64 0,.int .i64 0,.slice none 0 0] 262 (0,0))::many y.L::many R::[many H])
  (λy=>FilI n L s.len s.off B w0 H y.s y.L/\(0<=y.z/\y.z<=endd)/\y.i<=8/\hopA n.net lk.1 lk.2.1 f.1 (endd-y.z).toNat y.i y.s.sch y.z=HR) (λy=>(endd-y.z).toNat) ⟨Y1 lk,s1,z,P⟩ ⟨hF,hz,by show Y1 lk<=8;omega,hHR⟩ ?_ ?_ ?_
 ·exact zc1
 ·exact zc0
 clear hF hz hHR
 rintro⟨m,s2,y,P2⟩ ⟨hF,hz,hm8,hHR⟩ K2 hK2
 dsimp only at hF hz hm8 hHR⊢
 cases m with
 |zero=>
  rw[Ym6]at hHR
  subst hHR
  dsimp only at hrel
  clear hK2
  refine zX42 ?_<;>intros
  apply hK ⟨k+1+1,s2,y,P2⟩
  ·exact⟨⟨by show 1<=k+1+1;omega,by show k+1+1<=_;omega⟩,hF,hz,hrel⟩
  ·exact zc73
  ·exact zc1
  ·exact zc0
 |succ m=>
 by_cases hlt2:y<endd
 rotate_left
 ·rw[show(endd-y).toNat=0 by omega,hopA]at hHR
  subst hHR
  dsimp only at hrel
  clear hK2 hK
  refine zX25 ?_<;>intros
  apply Yn T (H2:=many P2::many R::H);(iterate 3 exact rfl);(focus exact zc2);exact rfl;exact rfl
  ·intro w hw
   have h5:St B w0 (many P2::many R::[many H]) w:=by
    revert w
    exact zc0
   exact YqX
  exact⟨s2,false,P2,rfl,λh=>(by cases h),λ_=>hrel.symm,rfl⟩
 have hfew:=hF.sm.few (by show s2.len<=24;rw[hF.len];exact h24)
 have h2l:=hF.len
 have h2o:=hF.off
 have ps:=λ{H':List HP}{w:World}(hin:n.In B w0 H') (hr:Rd B w0 H' s2.A (s2.cells.flatMap celF)) (hw:St B w0 H' w)=>Yqd n s2 lk f.1 (y%s2.len) hsm.ck (by have:s2.sch.cells.length=s2.cells.length:=rfl;omega) ⟨by omega,by omega⟩ hF.sm.ord hin hr hw
 unfold grdV lkV at ps
 rw[show(endd-y).toNat=(endd-(y+1)).toNat+1 by omega,hopA,Rb hz.1]at hHR
 refine zX42 ?_<;>intros
 apply V5 [0,1,2,3,4,5,6,7,8,9,10,12,11] [12,13,14] [13,14] [true,true,true,true,true,true,true]
 kernel_rfl
 kernel_rfl
 exact zy
 (simp only[Yd,nthO];rfl)
 (simp only[Yd,nthO];rfl)
 refine zX3 ?_
 apply Yg _ Yxg
 exact za
 exact rfl
 exactλ_ hw=>(ps (hin.mono zc0) (hF.rd.mono zc0) (hw))
 rintro _ _ (⟨rfl,hs,rfl⟩|⟨rfl,hs,rfl⟩|⟨A3,cap3,c3,rfl,hs,rfl⟩)
 ·rw[show Js n.net s2.sch lk.1 lk.2.1 f.1 (y%s2.sch.len)=some s2.sch from hs]at hHR
  dsimp only at hHR
  refine zX17 ?_
  rw[show((m+1:Nat):Int)-1=(m:Nat) by omega]
  apply hK2 ⟨m,s2,y+1,P2⟩
  ·exact⟨hF,⟨by show 0<=y+1;omega,by show y+1<=endd;omega⟩,by show m<=8;omega,hHR⟩
  ·exact zc73
  ·exact zc1
  ·exact zc0
 ·rw[show Js n.net s2.sch lk.1 lk.2.1 f.1 (y%s2.sch.len)=none from hs]at hHR
  dsimp only at hHR
  refine zX17 ?_
  apply hK2 ⟨m+1,s2,y+1,P2⟩
  ·exact⟨hF,⟨by show 0<=y+1;omega,by show y+1<=endd;omega⟩,hm8,hHR⟩
  ·exact zc73
  ·exact zc1
  ·exact zc0
 ·rw[show Js n.net s2.sch lk.1 lk.2.1 f.1 (y%s2.sch.len)=some ⟨s2.len,s2.off,insC s2.cells c3⟩ from hs]at hHR
  dsimp only at hHR
  have hmz:0<=y%s2.len/\y%s2.len<s2.len:=⟨Int.emod_nonneg _ (by omega),Int.emod_lt_of_pos _ (by omega)⟩
  obtain⟨hsm3,-,-⟩:=YiY hF.sm hkl hmz hs
  have hop3:∀w,St B w0 (many (cels A3 cap3 (insC s2.cells c3)::[many P2])::[many H]) w->St B w0 (cels A3 cap3 (insC s2.cells c3)::many P2::[many H]) w:=λw hw=>hw.perm (.open_ [_,_] [many H])
  refine zX17 ?_
  rw[show((m+1:Nat):Int)-1=(m:Nat) by omega]
  apply hK2 ⟨m,⟨s2.len,s2.off,A3,cap3,insC s2.cells c3⟩,y+1,cels A3 cap3 (insC s2.cells c3)::[many P2]⟩
  ·exact⟨⟨hsm3,h2l,h2o,(Rd.sl (.head _)).mono hop3⟩,⟨by show 0<=y+1;omega,by show y+1<=endd;omega⟩,by show m<=8;omega,hHR⟩
  ·exact zc73
  ·exact zc1
  ·intro w hw
   have h5:St B w0 (lnkA g12 lk::grdA g4 n ⟨s2.len,s2.off,A3,cap3,insC s2.cells c3⟩::flwA g5 f::blk g8 (.cells #[.int .i64 0,.slice none 0 0,.int .i64 0,.int .i64 0,.slice none 0 0,.slice none 0 0,.int .i64 0,.int .i64 0,.slice none 0 0] 262 (0,0))::cels A3 cap3 (insC s2.cells c3)::many P2::many R::[many H]) w:=by
    revert w
    exact zc0
   exact h5.perm (.cons _ (.cons _ (.cons _ (.cons _ (.close [_,_] (many R::[many H]))))))
structure YnY(n:NetM)(L:List Flw)(id:Int)(r:RowM):Prop where
 lk:∀x∈Yr n.net r.xs,LkOk n.net L x.1 x.2.1 id
 key:∀i,i+1<r.xs.length->0<=Yv n.net (r.xs.getD i 0) (r.xs.getD (i+1) 0)
 len:1<=r.xs.length/\r.xs.length<=9
structure PlM2 where
 i:Nat
 s:SchM
 P:List HP
theorem YiB(n:NetM)(L:List Flw)(s:SchM)(x:RqM)(hsm:Sm n.net L s.sch)(h24:s.len<=24)(hrow:∀r∈x.rows,YnY n L x.f.1 r)(hf:Xl n.net.nodes x.f=0){B:Nat}{w0:World}{H:List HP}{w:World}(hin:n.In B w0 H)(hr:Rd B w0 H s.A (s.cells.flatMap celF))(hx:x.In B w0 H)(hw:St B w0 H w):
 CX B w0 154 [n.val,s.val,rqV x] w λv K=>∃(s':SchM) (ok:Bool) (P:List HP),v=.tuple #[s'.val,.bool ok]/\
  (ok=true->V1 n.net x.f (x.rows.map (·.xs)) s.sch=some s'.sch/\Rd B w0 (many P::H) s'.A (s'.cells.flatMap celF))/\(ok=false->V1 n.net x.f (x.rows.map (·.xs)) s.sch=none)/\K=many P::H:=by
 refine Ya Tryz.func154 Tryz.ntmps154 rfl rfl hw ?_
 have hop:∀w,St B w0 [many H] w->St B w0 H w:=λw hw=>hw.perm (.openT H)
 have hin:=hin.mono hop
 have hr:=hr.mono hop
 have hx:=hx.mono hop
 obtain⟨-,hper,hph,-,hd⟩:=X4 hf
 have hxr:=hx.rt
 have hxl:=hx.ln
 obtain⟨RR,hRR⟩:∃R,V1 n.net x.f (x.rows.map (·.xs)) s.sch=R:=⟨_,rfl⟩
 rw[hRR]
 have hsz:1<=s.len/\s.len<=512/\1<=s.off/\s.off<=16:=TI hsm.sized
 refine YX [many H] (λw hw=>hw.perm (.closeT H)) ?_
 refine YX (many []::[many H]) (λw hw=>hw.perm (.noMany _)) ?_
 unfold NetM.val SchM.val rqV
 refine zX26 ?_<;>intros
 rename_i g3 g4 g5 g6 g8
 refine Ye (λz:PlM2=>[(19,.int .i64 (z.i:Nat)),(18,.int .i64 x.rows.length),(17,.slice x.A x.rows.length x.cap),(9,.bool true),(7,.bool false),(8,.pointer (some ⟨g8,0,none⟩)),(6,.pointer (some ⟨g6,0,none⟩)),(5,.pointer (some ⟨g5,0,none⟩)),(4,.pointer (some ⟨g4,0,none⟩)),(3,.pointer (some ⟨g3,0,none⟩))])
  (λz=>grdA g8 n z.s::blk g6 (.cells #[.int .i64 0,.int .i64 0,.slice none 0 0] 33 (0,0))::rqA g5 x::schA g4 s::many z.P::[many H])
  (λz=>z.i<=x.rows.length/\FilI n L s.len s.off B w0 H z.s z.P/\V1 n.net x.f ((x.rows.map (·.xs)).drop z.i) z.s.sch=RR) (λz=>x.rows.length-z.i) ⟨0,s,[]⟩ ⟨Td _,⟨hsm,rfl,rfl,hr.cons⟩,hRR⟩ ?_ ?_ ?_
 ·exact zc1
 ·intro w hw
  have h5:St B w0 (grdA g8 n s::blk g6 (.cells (Value.agg #[.int .i64 0,.int .i64 0,.slice none 0 0]).cells 33 (0,0))::rqA g5 x::schA g4 s::many []::[many H]) w:=by
   revert w
   exact zc0
  exact h5
 rintro⟨i,s1,P⟩ ⟨hi,hF,hrel⟩ K hK
 dsimp only at hi hF hrel⊢
 by_cases hlt:i<x.rows.length
 rotate_left
 ·obtain rfl:i=x.rows.length:=by omega
  clear hK
  rw[Rn (by rw[Tu];exact TS _)]at hrel
  refine QX ?_<;>intros
  apply Yn T (H2:=many P::H);(iterate 3 exact rfl);(focus exact zc2);exact rfl;exact rfl
  ·intro w hw
   have h5:St B w0 (many P::[many H]) w:=by
    revert w
    exact zc0
   exact zc43
  exact Yud
 obtain⟨r,hrx⟩:∃r,x.rows[i]? =some r:=⟨_,Ta hlt⟩
 have hrm:r∈x.rows:=Tc hrx
 have hro:=hrow r hrm
 have hdrop:(x.rows.map (·.xs)).drop i=r.xs::(x.rows.map (·.xs)).drop (i+1):=by
  have hl2:i<(x.rows.map (·.xs)).length:=by rw[Tu];exact hlt
  rw[T0 hl2]
  congr 1
  have h6:(x.rows.map (·.xs))[i]? =some r.xs:=by rw[TU,hrx];rfl
  rw[Ta hl2]at h6
  exact Tz h6
 rw[hdrop,V1]at hrel
 obtain⟨HR,hHR⟩:∃R,Yfc n.net x.f (Yr n.net r.xs) s1.sch.len.toNat s1.sch x.f.2.2.2.2.1=R:=⟨_,rfl⟩
 rw[hHR]at hrel
 have hl1:s1.sch.len=s.len:=hF.len
 rw[hl1]at hHR
 refine zX50 ?_<;>intros
 refine Ye (λz:PlM2=>[(12,.int .i64 (x.f.2.2.2.2.1+(z.i:Int)*x.f.2.2.2.1)),(11,.slice r.A r.xs.length r.cap),(19,.int .i64 (i:Nat)),(18,.int .i64 x.rows.length),(17,.slice x.A x.rows.length x.cap),(9,.bool true),(7,.bool false),(8,.pointer (some ⟨g8,0,none⟩)),(6,.pointer (some ⟨g6,0,none⟩)),(5,.pointer (some ⟨g5,0,none⟩)),(4,.pointer (some ⟨g4,0,none⟩)),(3,.pointer (some ⟨g3,0,none⟩))])
  (λz=>grdA g8 n z.s::blk g6 (.cells #[.int .i64 0,.int .i64 0,.slice none 0 0] 33 (0,0))::rqA g5 x::schA g4 s::many z.P::[many H])
  (λz=>z.i<=s.len.toNat/\FilI n L s.len s.off B w0 H z.s z.P/\Yfc n.net x.f (Yr n.net r.xs) (s.len.toNat-z.i) z.s.sch (x.f.2.2.2.2.1+(z.i:Int)*x.f.2.2.2.1)=HR) (λz=>s.len.toNat-z.i) ⟨0,s1,P⟩ ⟨Td _,hF,by simpa using hHR⟩ ?_ ?_ ?_
 ·dsimp only
  rw[show x.f.2.2.2.2.1+((0:Nat):Int)*x.f.2.2.2.1=x.f.2.2.2.2.1 by simp]
  exact zc1
 ·exact zc0
 clear hF hHR hl1
 rintro⟨j,s2,P2⟩ ⟨hj,hF,hHR⟩ K2 hK2
 dsimp only at hj hF hHR⊢
 have hl2:s2.sch.len=s.len:=hF.len
 obtain⟨y,hy⟩:∃y:Int,x.f.2.2.2.2.1+(j:Int)*x.f.2.2.2.1=y:=⟨_,rfl⟩
 have hjy:(j:Int)<=(j:Int)*x.f.2.2.2.1:=by
  have:=SI hper.1 (show(0:Int)<=j by omega)
  rw[Int.mul_one]at this
  exact this
 rw[hy]at hHR⊢
 by_cases hyl:y<s.len
 rotate_left
 ·have hHR2:HR=some s2.sch:=by
   rw[<-hHR]
   cases s.len.toNat-j with
   |zero=>rfl
   |succ k=>rw[Yfc,Tf (by rw[hl2];exact hyl)]
  rw[hHR2]at hrel
  dsimp only at hrel
  clear hK2
  refine zX1 ?_<;>intros
  apply hK ⟨i+1,s2,P2⟩
  ·exact⟨by exact Ybf,hF,hrel⟩
  ·exact zc73
  ·exact zc1
  ·exact zc0
 obtain⟨k,hk⟩:∃k,s.len.toNat-j=k+1:=⟨s.len.toNat-j-1,by omega⟩
 rw[hk,Yfc,To (by rw[hl2];exact hyl)]at hHR
 have hxw:=hx.rw_ r hrm
 have pr:=λ{R':List HP}{w:World}(hw:St B w0 (many R'::many P2::[many H]) w)=>Yee n L s2 x.f r y hF.sm (by have:=hF.len;omega) hro.lk hro.key hro.len ⟨by omega,by omega⟩ ⟨by omega,by omega⟩ (R:=R') (H:=many P2::[many H]) hin.cons hF.rd hxw.cons hw
 unfold grdV flwV at pr
 refine YlW ?_<;>intros
 apply ZV (many [grdA g8 n s2,blk g6 (.cells #[.int .i64 0,.int .i64 0,.slice none 0 0] 33 (0,0)),rqA g5 x,schA g4 s]::many P2::[many H])
 ·intro w hw
  have h5:St B w0 (grdA g8 n s2::blk g6 (.cells #[.int .i64 0,.int .i64 0,.slice none 0 0] 33 (0,0))::rqA g5 x::schA g4 s::many P2::[many H]) w:=by
   revert w
   exact zc0
  exact h5.perm (.close [_,_,_,_] (many P2::[many H]))
 apply Yg _ YwR
 exact za
 exact rfl
 exactλ_ hw=>(pr (hw))
 rintro _ _ ⟨s3,ok,P3,rfl,ho1,ho2,rfl⟩
 apply ZV (many P3::grdA g8 n s2::blk g6 (.cells #[.int .i64 0,.int .i64 0,.slice none 0 0] 33 (0,0))::rqA g5 x::schA g4 s::many P2::[many H])
 ·exactλw hw=>hw.perm (.cons _ (.open_ [_,_,_,_] (many P2::[many H])))
 cases ok with
 |false=>
  have hn:=ho2 rfl
  rw[hn]at hHR
  dsimp only at hHR
  rw[<-hHR]at hrel
  dsimp only at hrel
  clear hK hK2
  refine zX3 ?_
  apply Yn T (H2:=many P2::H);(iterate 3 exact rfl);(focus exact zc2);exact rfl;exact rfl
  ·intro w hw
   have h5:St B w0 (many P2::[many H]) w:=by
    revert w
    exact zc0
   exact zc43
  exact⟨s,false,P2,rfl,λh=>(by cases h),λ_=>hrel.symm,rfl⟩
 |true=>
  obtain⟨h1,hrd3⟩:=ho1 rfl
  rw[h1]at hHR
  dsimp only at hHR
  obtain⟨hsm3,hg3,-⟩:=YlK (Yr n.net r.xs) hro.lk hF.sm (by omega) (by omega) (by rw[hl2];omega) h1
  have h3l:s3.len=s.len:=hg3.len.trans hF.len
  have h3o:s3.off=s.off:=hg3.off.trans hF.off
  have hyn:x.f.2.2.2.2.1+((j+1:Nat):Int)*x.f.2.2.2.1=y+x.f.2.2.2.1:=by
   rw[<-hy,show((j+1:Nat):Int)=(j:Int)+1 by omega,Int.add_mul];omega
  refine zX3 ?_
  apply hK2 ⟨j+1,s3,[many P3,many P2]⟩
  ·refine⟨by exact Yjm,⟨hsm3,h3l,h3o,hrd3.mono λw hw=>hw.perm (.open_ [_,_] [many H])⟩,?_⟩
   dsimp only
   rw[hyn,show s.len.toNat-(j+1)=k by omega]
   exact hHR
  ·exact zc73
  ·dsimp only
   rw[hyn]
   exact zc1
  ·intro w hw
   have h5:St B w0 (grdA g8 n s3::blk g6 (.cells #[.int .i64 0,.int .i64 0,.slice none 0 0] 33 (0,0))::rqA g5 x::schA g4 s::many P3::many P2::[many H]) w:=by
    revert w
    exact zc0
   exact h5.perm (.cons _ (.cons _ (.cons _ (.cons _ (.close [_,_] [many H])))))
variable {B:Nat}{w0 w:World}{H:List HP}
theorem Ya4(n:NetM)(q:List RqM)(s:SchM){A:Option Addr}{cap:Nat}(ht:TabsB B w0)(hin:n.In B w0 H)(hq:QIn B w0 H A q)(hrs:Rd B w0 H s.A (s.cells.flatMap celF))(hsl:s.cells.length<=1000000000000)(hw:St B w0 H w):
 CX B w0 123 [n.val,.slice A q.length cap,s.val] w λv K=>v=.bool (decide ((YD n.net (q.map RqM.rq) s.sch).2.2=0))/\K=H:=by
 refine Ya Tryz.func123 Tryz.ntmps123 rfl rfl hw ?_
 have p1:=λ{H':List HP}{w:World}(hin:n.In B w0 H') (hq:QIn B w0 H' A q) (hrs:Rd B w0 H' s.A (s.cells.flatMap celF)) (hw:St B w0 H' w)=>Us n q s (cap:=cap) ht hin hq hrs hsl hw
 unfold OutC NetM.val SchM.val at p1
 obtain⟨⟨RC,ri,re⟩,hR⟩:∃R,YD n.net (q.map RqM.rq) s.sch=R:=⟨_,rfl⟩
 rw[hR]at p1⊢
 dsimp only at p1⊢
 unfold NetM.val SchM.val
 refine zX72 ?_<;>intros
 apply Yg _ en90
 exact za
 exact rfl
 exactλ_ hw=>(p1 hin.cons.cons hq.cons.cons hrs.cons.cons (hw))
 rintro _ _ ⟨A2,cap2,C,rfl,hC,hCl,rfl⟩
 by_cases h0:re=0
 ·rw[Ti h0]
  refine zX1 ?_<;>intros
  apply Yf H
  ·exact zc0
  apply Yc;exact rfl;exact rfl;grind
 ·rw[Tn h0]
  refine zX1 ?_<;>intros
  apply Yf H
  ·exact zc0
  exact zc9
theorem YrA(s:SchM)(id:Int)(hf:Xh s.sch=true):Ui s.sch id=(⟨s.len,s.off,s.cells.filter λc=>!(decide (Y6 c=id))⟩,0):=by
 unfold Ui
 rw[Tf (by simp_all)]
 unfold ZY
 have h2:(λc:Cel=>decide (Y6 c≠id))=λc=>!(decide (Y6 c=id)):=by
  simp_all
 rw[h2]
 exact rfl
theorem Ymg(s:SchM)(id:Int)(ht:TabsB B w0)(hr:Rd B w0 H s.A (s.cells.flatMap celF))(hl:s.cells.length<=1000000000000)(hw:St B w0 H w):
 CX B w0 78 [s.val,.int .i64 id] w (OutS H (Ui s.sch id)):=by
 refine Ya Tryz.func78 Tryz.ntmps78 rfl rfl hw ?_
 have p1:=λ{H':List HP}{w:World}(hr:Rd B w0 H' s.A (s.cells.flatMap celF)) (hw:St B w0 H' w)=>OY s ht hr hl hw
 unfold SchM.val at p1⊢
 repeat'(first|(apply zg23;first|(refine zs52 ?_;intro _)|(refine zs53 ?_;intro _))|refine zgb ?_|(refine zgh ?_;intro _)|fail)
 apply Yb en82
 exact za
 exact rfl
 exactλ_ hw=>(p1 hr.cons.cons.cons hw)
 cases hf:Xh s.sch with
 |false=>
  rw[show(ZG s.sch).2=1 by unfold ZG;rw[hf,To rfl]]
  repeat'(first|refine zgd ?_|(refine zge ?_ ?_<;>intro _<;>try exact zo)|fail)
  apply Yn T (H2:=cels none 0 []::H);(iterate 3 exact rfl);exact zm;exact rfl;exact rfl;(intro w hw;refine St.nilSlice (H:=H) ?_ _ _;revert w;exact zk)
  exact U3 1 (by rw[Ui,To hf]) rfl
 |true=>
  rw[show(ZG s.sch).2=0 by unfold ZG;rw[hf,Tf (by decide)]]
  have hle:s.cells.length<=512:=(Xm.1 hf).few
  repeat'(first|refine zgc ?_|(refine zge ?_ ?_<;>intro _<;>try exact zo)|fail)
  rename_i g2 g3 g4
  apply Yg _ Yhu
  exact za
  exact rfl
  exactλ_ hw=>(JS s.cells (by omega) hr.cons.cons.cons (hw))
  rintro _ _ ⟨A1,c1,rfl,rfl⟩
  repeat'(first|(apply zg29;(apply Yu;exact za;exact rfl))|fail)
  apply Yg _ YoW
  exact za
  exact rfl
  exactλ_ hw=>(WD (λc=>decide (Y6 c=id)) s.cells 163 [.pointer (some ⟨g2,0,none⟩)] Ywp (by omega) (λc _ X w hw=>YjQ c id g2 (RX _ zm) hw) (hw))
  rintro _ _ ⟨rfl,rfl⟩
  have hd:=YrA s id hf
  repeat'(first|refine zgd ?_|fail)
  apply Yn T (H2:=cels A1 c1 (s.cells.filter λc=>!(decide (Y6 c=id)))::H);(iterate 3 exact rfl);exact zm;exact rfl;exact rfl;exact zk
  rw[hd]
  exact⟨A1,c1,rfl,rfl⟩
def rqs(A:Option Addr)(cap:Nat)(l:List RqM):HP:=sl 93 7 A l.length cap (l.flatMap rqF)
theorem Yfd(A:Option Addr)(cap:Nat)(l:List RqM)(x:RqM):sl 93 7 A (l.length+1) cap (l.flatMap rqF++#[Value.int .i64 x.f.1,.int .i64 x.f.2.1,.int .i64 x.f.2.2.1,.int .i64 x.f.2.2.2.1,.int .i64 x.f.2.2.2.2.1,.int .i64 x.f.2.2.2.2.2,.slice x.A x.rows.length x.cap].toList)=rqs A cap (l++[x]):=by
 grind [rqs,rqF]
variable {A:Option Addr}{cap B k gv:Nat}{w0 w:World}{H:List HP}
theorem VG(l:List RqM)(hlen:l.length<=1000000)(hr:Rd B w0 H A (l.flatMap rqF))(hw:St B w0 H w):
 CX B w0 69 [.slice A l.length cap] w λv K=>∃A' cap',v=.slice A' l.length cap'/\K=rqs A' cap' l::H:=by
 cases A with
 |none=>
  have hl:l=[]:=by
   cases l with
   |nil=>rfl
   |cons x l=>
    exact zc53
  subst hl
  refine Ya Tryz.func69 Tryz.ntmps69 rfl rfl hw ?_
  refine zX8 ?_
  apply Xx 93 7;exact zc64
 |some a=>
  refine Ya Tryz.func69 Tryz.ntmps69 rfl rfl hw ?_
  repeat'(first|(apply ZN;(iterate 3 exact rfl))|(apply Yw T;exact rfl;exact rfl;intro g2)|refine zga ?_|fail)
  apply YI T (f:=rqF) (l2:=l) (e:=93) (size:=7) (xs:=[]);(iterate 3 exact rfl);exact hr.cons;exact(λ_=>rfl);exact(λ_=>rfl);exact rfl;(intro _ _;exact zd);omega;intro A' cap'
  exact zc82
section
variable {m:Eng.Mode}{n:Shp}{B d:Nat}{w0:World}{ops:Array Oper}{Q:Exit->Act->World->Prop}{rest:List Oper}{env:Env}{H:List HP}{ty:TypeId}{pos:String}{after:Array Edge}{x y lo:Operand}
variable {gv k cap:Nat}
theorem YfH{g o la ca lb cb:Nat}{tt:TypeId}{cs:Array Value}{xs:List Value}{tys:Array TypeId}(hx:evo env x=some (.slice (some ⟨gv,0,none⟩) la ca))(hy:evo env y=some (.slice (subA (some ⟨g,0,none⟩) o cap 7) lb cb))(hm1:Eng.blk gv (.cells cs tt (0,0))∈H)(hm2:sl 93 7 (some ⟨g,0,none⟩) k cap xs∈H)
 (hne:∀w,St B w0 H w->gv≠g) (hc:0<cap/\cap≠o) (hn:Nat.ble (d+1) n.k=true) (h:VL Tryz.prog none n B w0 ops Q rest ((d,.bool false)::env) H):
 VL Tryz.prog none n B w0 ops Q (⟨some d,.call ⟨.value (.func 157),#[x,y],tys⟩,ty,pos,after,none⟩::rest) env H:=by
 have hsub:subA (some ⟨g,0,none⟩) o cap 7=some ⟨g,o*7,none⟩:=by
  simp_all [subA,Go.Addr.add_lit]
 rw[hsub]at hy
 refine XG (λu K'=>u=.bool false/\K'=H) rfl rfl hn (λa w ha hw=>⟨.bool false,H,w,?_,hw,rfl,rfl⟩) zc69
 have hb:=(hw.blk hm1).1
 rcases ZQ (hw.sl hm2)with⟨h0,_⟩|⟨g',cur,e0,g1,_,_,g4,_⟩
 ·cases h0
 injection e0 with e0
 injection e0 with e0
 subst e0
 obtain⟨bb,htl⟩:∃bb,Eng.look T.sl 30=some (93,7,bb):=⟨_,rfl⟩
 obtain⟨_,inf,_,hi,_,_,hsi,_⟩:=YN (T.slic htl)
 have hr:=run_callFunc_extern (P:=Tryz.prog) Tryz.func157 (by kernel_rfl) (by kernel_rfl) (by kernel_rfl) (e:=Extern.SlicesOverlaps.overlaps #[30,30] #[4]) (by kernel_rfl) #[.slice (some ⟨gv,0,none⟩) la ca,.slice (some ⟨g,o*7,none⟩) lb cb] w
 have hov:=Lib.run_overlaps_apart (P:=Tryz.prog) w 30 4 93 Tryz.underlying30 7 (λw=>by simp[sizeOf,typeInfo,hi,hsi]) ⟨gv,0,none⟩ ⟨g,o*7,none⟩ la ca lb cb (hne w hw) tt 93 cs.size cur.size (by simp[World.shape?,hb]) (by simp[World.shape?,g1]) (by rw[g4];omega) Yjl Yjl
 have he:a.eval (.func 157)=.func (.func 157) #[] #[]:=rfl
 simp[execOp,resolve,invoke,ha.eval hx,ha.eval hy,he,Deferred.ofValue,hr,hov,Result.andThen]
end
theorem YrL(l:List RqM)(c:RqM)(i:Nat)(hk:k=1):(l.take i).take i++[c].take k++(l.take i).drop (i+k)=l.take i++[c]:=by
 grind [Rn]
theorem YrN(l:List RqM)(c:RqM)(i:Nat)(hi:i<=l.length)(hk:k=l.length-i):(l.take i++[c]).take (i+1)++(l.drop i).take k++(l.take i++[c]).drop (i+1+k)=l.take i++c::l.drop i:=Yq0
theorem YrP(l:List RqM)(i:Nat)(hi:i<=l.length)(hk:k=l.length-i):l.take (i+1)++(l.drop i).take k++l.drop (i+1+k)=l.take (i+1)++l.drop i:=YqR
theorem YrR(l:List RqM)(c:RqM)(i:Nat)(hi:i<l.length)(hk:k=1):(l.take (i+1)++l.drop i).take i++[c].take k++(l.take (i+1)++l.drop i).drop (i+k)=l.take i++c::l.drop i:=by
 grind
theorem Oh(l:List RqM)(c:RqM)(i:Nat)(hi:i<=l.length):(l.take i++c::l.drop i).length=l.length+1:=by
 grind
theorem Qz(l:List RqM)(i:Nat)(c:RqM)(hi:i<=l.length)(hlen:l.length<=1000)(hw:St B w0 (rqs A cap l::blk gv (.cells #[.int .i64 c.f.1,.int .i64 c.f.2.1,.int .i64 c.f.2.2.1,.int .i64 c.f.2.2.2.1,.int .i64 c.f.2.2.2.2.1,.int .i64 c.f.2.2.2.2.2,.slice c.A c.rows.length c.cap] 93 (0,0))::H) w):
 CX B w0 68 [.slice A l.length cap,.int .i64 i,.slice (some ⟨gv,0,none⟩) 1 1] w λv K=>∃A' cap',v=.slice A' (l.take i++c::l.drop i).length cap'/\K=rqs A' cap' (l.take i++c::l.drop i)::H:=by
 refine Ya Tryz.func68 Tryz.ntmps68 rfl rfl hw ?_
 unfold rqs
 refine UF (k:=l.length) (cap:=cap) (by(focus exact zc2)) λhcap=>?_
 have hli:=Oh l c i hi
 have hrv:∀{L:List HP},blk gv (.cells #[.int .i64 c.f.1,.int .i64 c.f.2.1,.int .i64 c.f.2.2.1,.int .i64 c.f.2.2.2.1,.int .i64 c.f.2.2.2.2.1,.int .i64 c.f.2.2.2.2.2,.slice c.A c.rows.length c.cap] 93 (0,0))∈L->Rd B w0 L (some ⟨gv,0,none⟩) (([c]:List RqM).flatMap rqF):=λh=>by
  have h1:=Rd.blk (B:=B) (w0:=w0) (cs:=(rqF c).toArray) h
  rw[show([c]:List RqM).flatMap rqF=(rqF c).toArray.toList by simp]
  exact h1
 have hq7:∀c:RqM,(rqF c).length=7:=λ_=>rfl
 have ho7:∀c:RqM,Z6 (rqF c)=true:=λ_=>rfl
 refine zX2 ?_
 apply Yq T i (l.length-i);(iterate 5 exact rfl);exact hi;exact rfl
 by_cases hin:i=l.length
 ·have e1:l.take i++c::l.drop i=l++[c]:=YqW
  rw[e1]
  refine Yqy ?_<;>intros
  rename_i A' cap'
  apply Yf (rqs A' cap' (l++[c])::H)
  ·intro w hw
   rw[<-Yfd]
   revert w
   exact zc0
  exact zc89
 have hlt:i<l.length:=by omega
 have hrs:∀{L:List HP}{g:Nat},sl 93 7 (some ⟨g,0,none⟩) l.length cap (l.flatMap rqF)∈L->Rd B w0 L (subA (some ⟨g,0,none⟩) i cap 7) ((l.drop i).flatMap rqF):=λh=>by
  have h1:=Rd.sub (B:=B) (w0:=w0) (q:=7) (o:=i) (k:=l.length-i) (cap:=cap) hq7 (Rd.sl h) hcap
  exact YqF
 apply Ybs (k:=l.length) (by(focus exact zc2)) (by omega)
 rintro g rfl
 have hA:∃g',(some ⟨g,0,none⟩:Option Addr)=some ⟨g',0,none⟩:=⟨g,rfl⟩
 repeat'(first|(apply Ybr T;(iterate 3 exact rfl))|refine zgc ?_|(refine zgf ?_ ?_<;>intro _<;>try exact zo)|fail)
 ·apply ZO T (n':=i);(iterate 4 exact rfl);omega;omega;exact hA
  refine zX3 ?_
  rw[show(l.length:Int)+((1:Nat):Int)-(i:Int)=((l.length+1-i:Nat):Int) by omega]
  apply Wu T (e:=93) (size:=7) (k:=l.length) (xs:=l.flatMap rqF);exact rfl;exact rfl;(focus exact zc2);exact rfl;kernel_rfl;exact rfl;kernel_rfl;omega;intro g2 c2 hc2
  rw[show i+(l.length+1-i)=l.length+1 by omega]at hc2⊢
  have e2:sl 93 7 (some ⟨g2,0,none⟩) i c2 ((l.flatMap rqF).take (i*7))=sl 93 7 (some ⟨g2,0,none⟩) (l.take i).length c2 ((l.take i).flatMap rqF):=by
   rw[Za hq7,TO,SA hi]
  rw[e2]
  have hA2:∃g',(some ⟨g2,0,none⟩:Option Addr)=some ⟨g',0,none⟩:=⟨g2,rfl⟩
  have htl:(l.take i).length=i:=YdT
  refine zX2 ?_
  apply Yq T i (l.length+1-i);(iterate 5 exact rfl);omega;exact rfl
  refine zX2 ?_
  apply Zp T (l.take i) [c] (l.take i++[c]) (f:=rqF) (o:=i) (cap:=c2);exact rfl;exact rfl;exact hrv (by(focus exact zc2));exact hq7;exact ho7;exact rfl;exact rfl;exact hA2;(simp only[TP];omega);exact YrL l c i (by omega);exact zd
  refine zX2 ?_
  apply YC [0,1,2,3,4,5,6,7] [8] [true,true,true]
  kernel_rfl
  kernel_rfl
  exact zy
  (simp only[Yd,nthO];rfl)
  (simp only[Yd,nthO];rfl)
  refine zX11 ?_
  apply Yq T (i+1) (l.length+1-(i+1));(iterate 4 exact rfl);omega;omega;exact rfl
  refine zX2 ?_
  apply Yq T i (l.length-i);(iterate 5 exact rfl);omega;exact rfl
  refine zX3 ?_
  apply Zp T (l.take i++[c]) (l.drop i) (l.take i++c::l.drop i) (f:=rqF) (o:=i+1) (cap:=c2);exact rfl;exact rfl;exact hrs (by(focus exact zc2));exact hq7;exact ho7;exact rfl;exact rfl;exact hA2;(simp only[Tt,TO,TP,TZ];omega);exact YrN l c i hi (by omega);exact zd
  refine zX3 ?_
  apply Yf (rqs (some ⟨g2,0,none⟩) c2 (l.take i++c::l.drop i)::H)
  ·unfold rqs
   exact zc0
  exact YqK
 ·apply ZO T (n':=l.length+1);(iterate 4 exact rfl);omega;omega;exact hA
  refine zX11 ?_
  apply Yq T (i+1) (l.length+1-(i+1));(iterate 4 exact rfl);omega;omega;exact rfl
  apply YfH (gv:=gv) (g:=g) (o:=i+1) (cap:=cap) (k:=l.length) (xs:=l.flatMap rqF);exact rfl;exact rfl;(focus exact zc2);(focus exact zc2);exactλw hw=>Q7 (hw.perm (.swap _ _ _));omega;exact rfl
  refine zX3 ?_
  apply YC [0,1,2,3,4,5,6,7] [8] [true,true]
  kernel_rfl
  kernel_rfl
  exact zy
  (simp only[Yd,nthO];rfl)
  (simp only[Yd,nthO];rfl)
  refine zX11 ?_
  apply Yq T (i+1) (l.length+1-(i+1));(iterate 4 exact rfl);omega;omega;exact rfl
  refine zX2 ?_
  apply Yq T i (l.length+1-i);(iterate 5 exact rfl);omega;exact rfl
  refine zX3 ?_
  apply Zp T l (l.drop i) (l.take (i+1)++l.drop i) (f:=rqF) (o:=i+1) (cap:=cap);exact rfl;exact rfl;exact hrs (by(focus exact zc2));exact hq7;exact ho7;exact rfl;exact rfl;exact hA;(simp only[TZ];omega);exact YrP l i hi (by omega);exact zd
  refine zX3 ?_
  apply Yq T i (l.length+1-i);(iterate 5 exact rfl);omega;exact rfl
  refine zX2 ?_
  apply Zp T (l.take (i+1)++l.drop i) [c] (l.take i++c::l.drop i) (f:=rqF) (o:=i) (cap:=cap);exact rfl;exact rfl;exact hrv (by(focus exact zc2));exact hq7;exact ho7;exact rfl;exact rfl;exact hA;(simp only[Tt,TO,TP,TZ];omega);exact YrR l c i hlt (by omega);exact zd
  refine zX9 ?_
  apply Yf (rqs (some ⟨g,0,none⟩) cap (l.take i++c::l.drop i)::H)
  ·unfold rqs
   exact zc0
  exact YqI
theorem YdH{id:Int}:∀{q:List Rqs}{k:Nat},k<=q.length->(∀i (x:Rqs),i<k->q[i]? =some x->x.1.1<id)->(∀x:Rqs,q[k]? =some x->¬x.1.1<id)->posQ q id=k
 |[],k,hk,_,_=>by
  have:k=0:=by simp_all
  subst this;rfl
 |y::q,0,_,_,h2=>by
  simp_all [posQ]
 |y::q,k+1,hk,h1,h2=>by
  have ih:=YdH (id:=id) (q:=q) (k:=k) (by grind) (λi x hi hx=>h1 (i+1) x (by omega) hx) λx hx=>h2 x hx
  unfold posQ at ih⊢
  rw[List.takeWhile_cons,To (Ti (h1 0 y (by omega) rfl)),Rf,ih]
theorem YeU(a b:RqM)(hw:St B w0 H w):
 CX B w0 234 [rqV a,rqV b] w λv K=>v=.int .i64 (cmpI a.f.1 b.f.1)/\K=H:=by
 refine Ya Tryz.func234 Tryz.ntmps234 rfl rfl hw ?_
 unfold rqV
 repeat'(first|((apply Yb Yht);exact za;exact rfl;exactλ_ hw=>(JT _ _ hw))|refine zgb ?_|(refine zgh ?_;intro _)|fail)
 apply Yf H
 ·exact zk
 apply Yc;exact rfl;exact rfl
 exact⟨rfl,rfl⟩
theorem Ob{a b:Int}:cmpI a b<0↔a<b:=by
 unfold cmpI
 omega
def Yk7(l:List RqM):Prop:=∀(i j:Nat) (x y:RqM),i<j->l[i]? =some x->l[j]? =some y->x.f.1<y.f.1
theorem Ygx(l:List RqM)(c:RqM)(ho:Yk7 l)(hlen:l.length<=1000000000)(hr:Rd B w0 H A (l.flatMap rqF))(hw:St B w0 H w):
 CX B w0 233 [.slice A l.length cap,rqV c,.func (.func 234) #[] #[]] w λv K=>
  ∃b,v=.tuple #[.int .i64 (posQ (l.map RqM.rq) c.f.1:Nat),.bool b]/\K=H:=by
 refine Ya Tryz.func233 Tryz.ntmps233 rfl rfl hw ?_
 (apply Y5;apply YL;apply Yx;exact rfl;exact rfl;intro g)
 refine zX9 ?_
 have hr:=hr.cons (X:=blk g (.cells (rqF c).toArray 93 (0,0)))
 refine Wt (λ(lo hi:Nat)=>[(9,.int .i64 lo),(10,.int .i64 hi),(8,.int .i64 l.length),(0,.slice A l.length cap),(2,.func (.func 234) #[] #[]),(4,.pointer (some ⟨g,0,none⟩))]) (λ_ _=>blk g (.cells (rqF c).toArray 93 (0,0))::H)
  (λlo hi=>lo<=hi/\hi<=l.length/\(∀i x,i<lo->l[i]? =some x->x.f.1<c.f.1)/\(∀i x,hi<=i->l[i]? =some x->¬x.f.1<c.f.1)) (λlo hi=>hi-lo) 0 l.length ⟨by omega,by omega,λj x hj=>by omega,λj x h1 h2=>by simp_all⟩ ?_ (λw hw=>hw) ?_
 ·exact zc1
 rintro lo hi ⟨h1,h2,h3,h4⟩ K hK
 by_cases hlt:lo<hi
 ·obtain⟨b,hb⟩:∃b,l[(((lo:Int)+hi)/2).toNat]? =some b:=⟨_,Ta (by omega)⟩
  have hm:(((lo:Int)+hi)/2).toNat=(lo+hi)/2:=by omega
  have hb2:l[(lo+hi)/2]? =some b:=by grind
  repeat'(first|((apply Zt (cs:=[]));exact rfl;exact Ys4;exact za;exact rfl;exactλ_ hw=>(YeU b c hw))|(apply zg28;refine zs84 ?_)|refine zgd ?_|(refine zge ?_ ?_<;>intro _<;>try exact zo)|fail)
  ·rename_i hc
   rw[Ob]at hc
   apply hK ((lo+hi)/2+1) hi
   ·exact zc79
   ·omega
   ·exact zc1
   exact zc18
  ·rename_i hc
   have hc:¬b.f.1<c.f.1:=λh=>by have:=Ob.2 h;omega
   apply hK lo ((lo+hi)/2)
   ·exact zc35
   ·omega
   ·exact zc1
   exact zc18
 ·obtain rfl:lo=hi:=by omega
  have hpe:posQ (l.map RqM.rq) c.f.1=lo:=YdH (by rw[Tu];exact h2) (λi x hi hx=>by
   rw[TU]at hx
   cases hl:l[i]? with
   |none=>rw[hl]at hx;cases hx
   |some y=>rw[hl]at hx;cases hx;exact h3 i y hi hl) λx hx=>by
   rw[TU]at hx
   cases hl:l[lo]? with
   |none=>rw[hl]at hx;cases hx
   |some y=>exact YuW
  rw[hpe]
  by_cases hl:lo<l.length
  ·obtain⟨b,hb⟩:∃b,l[lo]? =some b:=⟨_,Ta hl⟩
   repeat'(first|((apply Zt (cs:=[]));exact rfl;exact Ys4;exact za;exact rfl;exactλ_ hw=>(YeU b c hw))|(apply zg28;refine zs84 ?_)|refine zgd ?_|(refine zge ?_ ?_<;>intro _<;>try exact zo)|fail)
   all_goals(apply Yj;apply YJ;(iterate 3 exact rfl);exact⟨_,rfl,rfl⟩)
  ·refine zX18 ?_<;>intros
   apply Yj;exact YqJ
theorem Yd8(q:List RqM)(x:RqM)(ho:Yk7 q)(hlen:q.length<=1000)(hr:Rd B w0 H A (q.flatMap rqF))(hw:St B w0 H w):
 CX B w0 153 [.slice A q.length cap,rqV x] w λv K=>∃A' cap',v=.slice A' (q.length+1) cap'/\
  K=rqs A' cap' (q.take (posQ (q.map RqM.rq) x.f.1)++x::q.drop (posQ (q.map RqM.rq) x.f.1))::H:=by
 refine Ya Tryz.func153 Tryz.ntmps153 rfl rfl hw ?_
 have hp:posQ (q.map RqM.rq) x.f.1<=q.length:=Yub
 generalize hP:posQ (q.map RqM.rq) x.f.1=k at hp
 have p1:=λ{H':List HP}{w:World}(hr:Rd B w0 H' A (q.flatMap rqF)) (hw:St B w0 H' w)=>Ygx q x ho (by omega) (cap:=cap) hr hw
 rw[hP]at p1
 have p2:=λ{A':Option Addr}{cap' gv:Nat}{H':List HP}{w:World}(hw:St B w0 (rqs A' cap' q::rqA gv x::H') w)=>Qz q k x hp hlen hw
 rw[Oh q x k hp]at p2
 have hr:Rd B w0 [many H] A (q.flatMap rqF):=hr.mono λw hw=>hw.perm (.openT H)
 have hrx:∀{L:List HP},(∀w,St B w0 L w->St B w0 [many H] w)->Rd B w0 L A (q.flatMap rqF):=λh=>hr.mono h
 refine YX [many H] (λw hw=>hw.perm (.closeT H)) ?_
 unfold rqV at p1⊢
 (apply Y5;apply YL;apply Yx;exact rfl;exact rfl;intro g)
 refine zX9 ?_
 apply Yg _ YwQ
 exact za
 exact rfl
 exactλ_ hw=>(p1 hr.cons (hw))
 rintro _ _ ⟨b,rfl,rfl⟩
 refine zX11 ?_
 apply YbU (.p1 0 (.p1 2 (.p1 3 (.d2 1 (.d1 4 (.d1 5 (.d1 6 .done))) 4 (.d1 1 (.d1 5 (.d1 6 .done))))))) [] [true,true]
 kernel_rfl
 kernel_rfl
 exact zy
 exact rfl
 repeat'(first|((apply Yg _ en69);exact za;exact rfl;exactλ_ hw=>VG q (by omega) (hrx zk) hw;rintro _ _ ⟨A1,cap1,rfl,rfl⟩)|(apply Vm T T2;(iterate 7 exact rfl);intro gv)|(apply XK [rqs A1 cap1 q,rqA gv x] _ en68;exact za;try exact zl;exact zp;exact rfl;exactλ_ hw=>p2 hw;rintro _ _ ⟨A2,cap2,rfl,rfl⟩)|(apply Yos;(simp only[nthO];rfl))|(apply Yoq;(simp only[nthO];rfl);exact zp)|(apply Yor;(simp only[nthO];rfl);(simp only[nthO];rfl);exact zp)|(apply Yb1;try exact zl)|refine zgd ?_|fail)
 all_goals(
  apply Yf (rqs A2 cap2 (q.take k++x::q.drop k)::H)
  ·intro w hw
   have h5:St B w0 (rqs A2 cap2 (q.take k++x::q.drop k)::[many H]) w:=by
    revert w
    exact zk
   exact h5.perm (.cons _ (.openT H))
  apply Yc;exact rfl;exact rfl
  exact⟨A2,cap2,rfl,rfl⟩)
variable {A:Option Addr}{cap B:Nat}{w0 w:World}{H:List HP}
theorem YcY(p:RqM->Bool)(l:List RqM)(f:Nat)(cs:List Value)(hen:∀xs w,(callFunc f xs).run Tryz.prog w=.ok (.enter f xs) w)(hlen:l.length<=100000000)(hr:Rd B w0 H A (l.flatMap rqF))
 (hp:∀a∈l,∀w,St B w0 H w->Calls Tryz.prog f ([rqV a]++cs).toArray w (Post B w0 λv K=>v=.bool (p a)/\K=H)) (hw:St B w0 H w):
 CX B w0 75 [.slice A l.length cap,.func (.func f) #[] cs.toArray] w λv K=>v=.int .i64 (Yp p l 0)/\K=H:=by
 refine Ya Tryz.func75 Tryz.ntmps75 rfl rfl hw ?_
 refine zX9 ?_
 refine Ye (λ(k:Nat)=>[(8,.int .i64 k),(7,.int .i64 l.length),(0,.slice A l.length cap),(1,.func (.func f) #[] cs.toArray)]) (λ_=>H) (λk=>k<=l.length/\Yp p l 0=Yp p (l.drop k) k) (λk=>l.length-k) 0 ⟨Td _,by simp⟩ ?_ (λw hw=>hw) ?_
 ·exact zc1
 rintro k ⟨hk,hi⟩ K hK
 by_cases hlt:k<l.length
 ·obtain⟨a,ha⟩:∃a,l[k]? =some a:=⟨_,Ta hlt⟩
  have hpa:=hp a (Tc ha)
  rw[Jo p l ha]at hi
  refine zX10 ?_<;>intros
  cases hpv:p a
  ·rw[hpv]at hi
   refine zX11 ?_
   apply hK (k+1)
   ·grind
   ·omega
   ·exact zc1
   exact zc18
  exact zc11
 exact zc7
theorem WC(p:RqM->Bool)(l:List RqM)(f:Nat)(cs:List Value)(hen:∀xs w,(callFunc f xs).run Tryz.prog w=.ok (.enter f xs) w)(hlen:l.length<=100000000)(hr:Rd B w0 H A (l.flatMap rqF))
 (hp:∀a∈l,∀w,St B w0 H w->Calls Tryz.prog f ([rqV a]++cs).toArray w (Post B w0 λv K=>v=.bool (p a)/\K=H)) (hw:St B w0 H w):
 CX B w0 150 [.slice A l.length cap,.func (.func f) #[] cs.toArray] w λv K=>v=.bool (l.any p)/\K=H:=by
 refine Ya Tryz.func150 Tryz.ntmps150 rfl rfl hw ?_
 rw[<-YcV]
 refine zX2 ?_
 apply Yb en75
 exact za
 exact rfl
 exactλ_ hw=>(YcY p l f cs hen hlen hr hp hw)
 by_cases h0:0<=Yp p l 0
 ·exact zc16
 ·exact zc16
theorem Yqc(n:Net)(l:List Flw):(schE n l Jz).2≠0:=by
 have h:Xv n l Jz≠0:=by
  unfold Xv
  split
  ·decide
  split
  ·decide
  rw[To (by decide)];decide
 simp_all [schE]
def YfX(n:Net)(q:List Rqs):Bool:=decide (¬(YD n q Jz).2.2=1\/0<=(YD n q Jz).2.1)
variable {n:Net}{q:List Rqs}
theorem YeN(h:Yo n=0):YfX n q=decide ((rqsE n q).2≠0):=by
 unfold YfX YD
 by_cases h1:(rqsE n q).2=0
 ·rw[Tf (λe=>e h1),To (Yqc n _)]
  simp_all
 ·have h3:decide ((rqsE n q).2≠0)=true:=Ti h1
  rw[To h1,h3]
  refine Ti ?_
  have hff:∀{f:Nat->Int}{r:Nat},(Yz f r 0).2≠0->0<=(Yz f r 0).1:=λ{f r} hne=>by
   have aux:∀{r i:Nat},(Yz f r i).2≠0->0<=(Yz f r i).1:=by
    intro r
    induction r with
    |zero=>intro i h;exact absurd rfl h
    |succ r ih=>
     intro i h
     unfold Yz at h⊢
     split
     ·split at h
      ·exact ih h
      ·contradiction
     ·omega
   exact aux hne
  unfold rqsE at h1⊢
  rw[Tf (λe=>e h)]at h1⊢
  by_cases h2:(Yt n.nodes (YG q)).2=0
  ·rw[Tf (λe=>e h2)]at h1⊢
   exact .inr (hff h1)
  ·rw[To h2]at h1⊢
   unfold Yt at h2⊢
   split at h2
   ·rw[To (by assumption)];decide
   rw[Tf (by assumption)]
   split at h2
   ·rw[To (by assumption)];decide
   rw[Tf (by assumption)]
   exact .inr (hff h2)
theorem YaJ(n:NetM)(q:List RqM)(ht:TabsB B w0)(hin:n.In B w0 H)(hq:QIn B w0 H A q)(hw:St B w0 H w):
 CX B w0 152 [n.val,.slice A q.length cap] w λv K=>v=.bool (YfX n.net (q.map RqM.rq))/\K=H:=by
 refine Ya Tryz.func152 Tryz.ntmps152 rfl rfl hw ?_
 have p1:=λ{H':List HP}{w:World}(hin:n.In B w0 H') (hq:QIn B w0 H' A q) (hw:St B w0 H' w)=>Us n q ⟨0,0,none,0,[]⟩ (cap:=cap) ht hin hq (.nil) (by decide) hw
 unfold OutC NetM.val SchM.val at p1
 have hz:(⟨0,0,none,0,[]⟩:SchM).sch=Jz:=rfl
 rw[hz]at p1
 unfold YfX
 obtain⟨⟨RC,ri,re⟩,hR⟩:∃R,YD n.net (q.map RqM.rq) Jz=R:=⟨_,rfl⟩
 rw[hR]at p1⊢
 dsimp only at p1⊢
 unfold NetM.val
 refine zX26 ?_<;>intros
 apply Yg _ en90
 exact za
 exact rfl
 exactλ_ hw=>(p1 hin.cons hq.cons (hw))
 rintro _ _ ⟨A2,cap2,C,rfl,hC,hCl,rfl⟩
 by_cases h0:re=1
 ·by_cases h1:0<=ri
  ·rw[Ti (.inr h1)]
   refine zX42 ?_<;>intros
   all_goals(apply Yf H;((intro w hw;refine hw.perm ?_;focus exact zc5));exact YqH)
  ·rw[Tn (by rintro(h|h);exact h h0;exact h1 h)]
   refine zX42 ?_<;>intros
   all_goals(apply Yf H;((intro w hw;refine hw.perm ?_;focus exact zc5));exact YqH)
 ·rw[Ti (.inl h0)]
  refine zX1 ?_<;>intros
  all_goals(apply Yf H;((intro w hw;refine hw.perm ?_;focus exact zc5));exact YqH)
theorem Ymv(y x:RqM)(g:Nat)(hm:rqA g x∈H)(hw:St B w0 H w):
 CX B w0 151 [rqV y,.pointer (some ⟨g,0,none⟩)] w λv K=>v=.bool (decide (y.f.1=x.f.1))/\K=H:=by
 refine Ya Tryz.func151 Tryz.ntmps151 rfl rfl hw ?_
 unfold rqV
 by_cases h:y.f.1=x.f.1
 ·rw[Ti h]
  refine zX22 ?_<;>intros
  all_goals(apply Yf H;((intro w hw;refine hw.perm ?_;focus exact zc5));exact zc9)
 ·rw[Tn h]
  refine zX22 ?_<;>intros
  all_goals(apply Yf H;((intro w hw;refine hw.perm ?_;focus exact zc5));exact zc9)
theorem Ymw{s:Sch}{x:Rqs}(hc:(YD n q s).2.2=0)(hx:(rqsE n (insQ q x)).2=0)(hm:s.len.tmod x.1.2.2.2.1=0):
 Sm n (YG (insQ q x)) s/\Xl n.nodes x.1=0/\(∀r∈x.2,(∀y∈Yr n r,LkOk n (YG (insQ q x)) y.1 y.2.1 x.1.1)/\(∀i,i+1<r.length->0<=Yv n (r.getD i 0) (r.getD (i+1) 0))/\1<=r.length/\r.length<=9):=by
 obtain⟨h1,h2⟩:=ZD.1 hc
 have hsem:=We.1 (Z5.1 h1)
 obtain⟨-,hfl,hrt⟩:=V4 hx
 have hxm:x∈insQ q x:=by simp[Qy]
 have hrx:=hrt x hxm
 have hfx:Xl n.nodes x.1=0:=Ul hfl (TG.2 ⟨x,hxm,rfl⟩)
 obtain⟨hib,-⟩:=X4 hfx
 have hsm:Sm n (YG (insQ q x)) s:=by
  have h0:=hsem.sm
  refine⟨h0.ck,hfl,λf hf=>?_,h0.sized,h0.formed,h0.ord,λc hcm=>⟨(h0.good c hcm).1,?_⟩,h0.once,h0.clear⟩
  ·obtain⟨y,hy,rfl⟩:=TG.1 hf
   rcases Qy.1 hy with rfl|hy
   ·exact hm
   ·exact h0.per _ (TG.2 ⟨y,hy,rfl⟩)
  ·obtain⟨f,hf,e⟩:=Uk.1 (h0.good c hcm).2
   obtain⟨y,hy,rfl⟩:=TG.1 hf
   exact Uk.2 ⟨y.1,TG.2 ⟨y,Qy.2 (.inr hy),rfl⟩,e⟩
 have hfi:0<=Zr (YG (insQ q x)) x.1.1:=Uk.2 ⟨x.1,TG.2 ⟨x,hxm,rfl⟩,rfl⟩
 refine⟨hsm,hfx,λr hr=>?_⟩
 have hck:=U9 hrx r hr
 obtain⟨-,hlen,hg⟩:=JC hck
 refine⟨λy hy=>⟨Ykl hck y hy,hfi,hib⟩,λi hi=>?_,by omega,hlen.2⟩
 have:=hg i hi
 unfold YZ at this
 rw[Tq]at this
 exact TI this.1
theorem QIn.insert{A':Option Addr}{cap':Nat}{q:List RqM}{x:RqM}(h:QIn B w0 H A q)(hx:x.In B w0 H)(hl:q.length<=1000)(k:Nat)(hk:k<=q.length):QIn B w0 (rqs A' cap' (q.take k++x::q.drop k)::H) A' (q.take k++x::q.drop k):=
 ⟨.sl TN,λy hy=>by
  rcases T9.1 hy with hy|hy
  ·exact(h.x y (SJ hy)).cons
  ·rcases Rr.1 hy with rfl|hy
   ·exact hx.cons
   ·exact(h.x y (List.mem_of_mem_drop hy)).cons,by grind⟩
theorem YrS(q:List RqM)(x:RqM):(q.take (posQ (q.map RqM.rq) x.f.1)++x::q.drop (posQ (q.map RqM.rq) x.f.1)).map RqM.rq=insQ (q.map RqM.rq) x.rq:=by
 rw[TY,RI,NP,Ni];rfl
theorem Ypp{q:List RqM}(h:(rqsE n (q.map RqM.rq)).2=0):Yk7 q:=λi j x y hij hi hj=>by
 have hl:=(Tj.1 hj).1
 have:=YvE h hij (by simp_all)
 unfold rqAt at this
 rw[TB,TB,TU,TU,hi,hj]at this
 exact this
end Go.Proofs.YtjommdkgfbhbdaaGreatDoor
