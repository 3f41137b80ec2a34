/- Lemmas for the claim, part 25. -/
import Derived.Test.YtaholidehobiiaaGreatDoorQ10
import Derived.Test.YtaholidehobiiaaGreatDoorQ18
import Derived.Test.YtaholidehobiiaaGreatDoorQ22
import Derived.Test.YtaholidehobiiaaGreatDoorQ23
set_option maxRecDepth 100000
set_option maxHeartbeats 8000000
set_option linter.all false
namespace Go.Proofs.YtaholidehobiiaaGreatDoor
open Go.RowKit Go.Eng Go.Nw Go.Rt
def hasQ(q:List Rqs)(id:Int):Bool:=q.any λy=>decide (y.1.1=id)
def XQ(n:Net)(q:List Rqs)(s:Sch)(x:Rqs):Sch×Int:=
 if(YN n q s).2.2≠0 then(ZD,1)else if hasQ q x.1.1=true then(ZD,6)else if(rqsE n (insQ q x)).2≠0 then(ZD,1)
 else if s.len.tmod x.1.2.2.2.1≠0 then(ZD,11)else match JY n x.1 x.2 s with
  |none=>(ZD,18)
  |some t=>if 512<t.cells.length then(ZD,8)else(t,0)
structure AllS where
 s:Sch
 q:List Rqs
 at_:List Int
def YcG(n:Net)(r:AllS)(k:Nat)(x:Rqs):AllS:=
 if(XQ n r.q r.s x).2=0 then⟨(XQ n r.q r.s x).1,r.q++[x],r.at_++[(k:Int)]⟩else r
def Ob(n:Net)(q:List Rqs)(len off:Int):Nat->AllS
 |0=>⟨⟨len,off,[]⟩,[],[]⟩
 |k+1=>YcG n (Ob n q len off k) k (rqAt q k)
def XB(n:Net)(q:List Rqs)(len off:Int):(Sch×List Int)×Int:=
 if Yo n≠0\/(rqsE n q).2≠0 then((ZD,[]),1)else if len<1\/512<len\/off<1\/16<off then((ZD,[]),2)
 else if(q.any λx=>decide (len.tmod x.1.2.2.2.1≠0))=true then((ZD,[]),11)else(((Ob n q len off q.length).s,(Ob n q len off q.length).at_),0)
def YeT(n:Net)(q:List Rqs)(s:Sch):Sch×Int:=if(YN n q s).2.2≠0 then(ZD,1)else(Yx3 n q s,0)
def OE(s:Sch)(id:Int):Sch:=⟨s.len,s.off,s.cells.filter λc=>decide (Xf c≠id)⟩
def QB(s:Sch)(id:Int):Sch×Int:=if XH s=false then(ZD,1)else(OE s id,0)
variable {q:List Rqs}
theorem Ynz{id:Int}(h:hasQ q id=false):∀y∈q,y.1.1≠id:=λy hy e=>by
 unfold hasQ at h
 rw[RD]at h
 exact h y hy (Td e)
variable {n:Net}{x:Rqs}
theorem YfE{s:Sch}(h:(XQ n q s x).2=0):(YN n (insQ q x) (XQ n q s x).1).2.2=0/\Grow x.1.1 s (XQ n q s x).1/\(∀y∈q,y.1.1≠x.1.1)/\(rqsE n (insQ q x)).2=0:=by
 unfold XQ at h⊢
 by_cases h1:(YN n q s).2.2=0
 rotate_left
 ·rw[Tn h1]at h;cases h
 rw[Tf (λe=>e h1)]at h⊢
 cases h2:hasQ q x.1.1 with
 |true=>rw[h2,Tn rfl]at h;cases h
 |false=>
 rw[h2,Tf (by decide)]at h
 rw[Tf (by decide)]
 by_cases h3:(rqsE n (insQ q x)).2=0
 rotate_left
 ·rw[Tn h3]at h;cases h
 rw[Tf (λe=>e h3)]at h⊢
 by_cases h4:s.len.tmod x.1.2.2.2.1=0
 rotate_left
 ·rw[Tn h4]at h;cases h
 rw[Tf (λe=>e h4)]at h⊢
 cases h5:JY n x.1 x.2 s with
 |none=>rw[h5]at h;cases h
 |some t=>
  rw[h5]at h
  dsimp only at h⊢
  by_cases h6:512<t.cells.length
  ·rw[Tn h6]at h;cases h
  rw[Tf h6]
  obtain⟨k1,k2⟩:=Yhg h1 h3 (Ynz h2) h4 h5 (by omega)
  exact⟨k1,k2,Ynz h2,h3⟩
theorem Ykc{id:Int}:∀{q:List Rqs},(∀y∈q,y.1.1<id)->posQ q id=q.length
 |[],_=>rfl
 |y::q,h=>by
  unfold posQ
  rw[NL,Tn (Td (h y Tz)),TM,TM]
  exact TE (·+1) (Ykc λz hz=>h z (TA _ hz))
theorem Yo8(h:∀y∈q,y.1.1<x.1.1):insQ q x=q++[x]:=by
 unfold insQ
 rw[Ykc h,TV,SG]
theorem Ysb(h:(rqsE n q).2=0){i j:Nat}(hij:i<j)(hj:j<q.length):(rqAt q i).1.1<(rqAt q j).1.1:=by
 obtain⟨-,hfl,-⟩:=Ut h
 have:=Ygf hfl hij (by unfold Y0;rw[TB];exact hj)
 have hat:∀{i:Nat},i<q.length->Xj (Y0 q) i=(rqAt q i).1:=λ{i} hi=>by
  unfold Xj Y0
  rw[Tu,TR,V6 hi];rfl
 rw[hat (by omega),hat hj]at this
 exact this
theorem Yhs{len off:Int}(hck:Yo n=0)(hl:1<=len/\len<=512)(ho:1<=off/\off<=16):(YN n [] ⟨len,off,[]⟩).2.2=0:=by
 have hn:=YC hck
 refine XC.2 ⟨XT.2 (ZV.2 ⟨hck,?_,(λf hf=>by cases hf),⟨?_,Tm _,(λc hc=>by cases hc),.nil⟩,(λc hc=>by cases hc),.nil,(λc hc=>by cases hc)⟩),(λx hx=>by cases hx)⟩
 ·have h1:=hn.n0;have h2:=hn.n1
  unfold Yu Y0
  rw[Tf (by omega)]
  rfl
 ·exact Td ⟨hl.1,hl.2,ho.1,ho.2⟩
structure AllI(n:Net)(q:List Rqs)(len off:Int)(k:Nat)(r:AllS):Prop where
 ok:(YN n r.q r.s).2.2=0
 mem:∀y∈r.q,∃i,i<k/\y=rqAt q i
 len:r.s.len=len
 off:r.s.off=off
 cnt:r.at_.length=r.q.length
 few:r.q.length<=k
 all:r.q.length=k->r.q=q.take k
 idx:∀i∈r.at_,0<=i/\i<k
theorem YcH{n:Net}{q:List Rqs}{len off:Int}(hq:(rqsE n q).2=0)(hl:1<=len/\len<=512)(ho:1<=off/\off<=16):∀k,k<=q.length->AllI n q len off k (Ob n q len off k)
 |0,_=>⟨Yhs (Ut hq).1 hl ho,(λy hy=>by cases hy),rfl,rfl,rfl,TJ _,(λ_=>by rw[Nq];rfl),(λi hi=>by cases hi)⟩
 |k+1,hk=>by
  have ih:=YcH hq hl ho k (by omega)
  unfold Ob YcG
  generalize Ob n q len off k=r at ih
  by_cases h:(XQ n r.q r.s (rqAt q k)).2=0
  ·rw[Tn h]
   obtain⟨h1,h2,-,-⟩:=YfE h
   have hlt:∀y∈r.q,y.1.1<(rqAt q k).1.1:=λy hy=>by
    obtain⟨i,hi,rfl⟩:=ih.mem y hy
    exact Ysb hq hi (by omega)
   rw[Yo8 hlt]at h1
   refine⟨h1,λy hy=>?_,h2.len.trans ih.len,h2.off.trans ih.off,?_,?_,λe=>?_,λi hi=>?_⟩
   ·rcases TI.1 hy with hy|hy
    ·obtain⟨i,hi,e⟩:=ih.mem y hy
     exact⟨i,by omega,e⟩
    ·exact⟨k,by omega,TG.1 hy⟩
   ·show(r.at_++[(k:Int)]).length=(r.q++[rqAt q k]).length
    rw[To,To,ih.cnt];rfl
   ·show(r.q++[rqAt q k]).length<=k+1
    have:=ih.few
    rw[To,TO];omega
   ·have e:(r.q++[rqAt q k]).length=k+1:=e
    rw[To,TO]at e
    show r.q++[rqAt q k]=_
    rw[ih.all (by omega),TN,V6 (by omega)];rfl
   ·rcases TI.1 hi with hi|hi
    ·have:=ih.idx i hi;omega
    ·have:=TG.1 hi;omega
  ·rw[Tf h]
   refine⟨ih.ok,λy hy=>?_,ih.len,ih.off,ih.cnt,by have:=ih.few;omega,λe=>by have:=ih.few;omega,λi hi=>by have:=ih.idx i hi;omega⟩
   obtain⟨i,hi,e⟩:=ih.mem y hy
   exact⟨i,by omega,e⟩
end Go.Proofs.YtaholidehobiiaaGreatDoor
namespace Go.Eng
open Go.RowKit
section
variable {P:Program}{n:Shp}{B:Nat}{w0:World}{Q:Exit->Act->World->Prop}{env:Env}{H:List HP}{m:Mode}{ops:Array Oper}{rest:List Oper}{d:Nat}{ty:TypeId}{pos:String}{after:Array Edge}
variable {a b:Int}
theorem Yod{x y:Operand}{k:IntKind}{xt yt:TypeId}(hx:evo env x=some (.int k a))(hy:evo env y=some (.int k b))(hn:Nat.ble (d+1) n.k=true)(h:VL P m n B w0 ops Q rest ((d,.int k (bits .andNot k a b))::env) H):
 VL P m n B w0 ops Q (⟨some d,.binOp .andNot xt x y yt,ty,pos,after,none⟩::rest) env H:=Xc hx hy hn (λ_=>rfl) (λ_=>by rw[show binOp .andNot xt (.int k a) (.int k b)=Op.intBits .andNot k a b by simp[binOp]];rfl) h
end
end Go.Eng
namespace Go.Proofs.YtaholidehobiiaaGreatDoor
open Go.RowKit Go.Eng Go.Nw Go.Rt
def pow1(o:Int):Int:=IntKind.i64.wrap (1*2^o.toNat)
theorem Yt6{o:Int}(h:0<=o/\o<=16):1<=pow1 o/\pow1 o<=65536:=by
 have key:∀n:Nat,n<17->1<=IntKind.i64.wrap (1*2^n)/\IntKind.i64.wrap (1*2^n)<=65536:=by decide+kernel
 exact key o.toNat (by omega)
def YaM(m:List Int)(c:Cel):List Int:=m.set c.1.toNat (bits .andNot .i64 (m.getD c.1.toNat 0) (pow1 c.2.1))
def Up(s:Sch):List Int:=s.cells.foldl YaM (List.replicate s.len.toNat (pow1 s.off-1))
def ZQ(s:Sch):List Int×Int:=if XH s=false then([],1)else(Up s,0)
theorem Yrz(m:List Int)(c:Cel):(YaM m c).length=m.length:=Rf
theorem Wu:∀(cs:List Cel) (m:List Int),(cs.foldl YaM m).length=m.length
 |[],_=>rfl
 |c::cs,m=>by rw[N6,Wu cs,Yrz]
variable {a b:Int}
theorem Yt7{n i:Nat}(h:i<n):(List.replicate i a++List.replicate (n-i) b).set i a=List.replicate (i+1) a++List.replicate (n-(i+1)) b:=by
 obtain⟨k,rfl⟩:∃k,n=i+(k+1):=⟨n-i-1,by omega⟩
 rw[show i+(k+1)-i=k+1 by omega,show i+(k+1)-(i+1)=k by omega,NS _ _ (by simp),Rr,NH,NM,NB,List.replicate_succ' (n:=i),TY];rfl
theorem Yr2(n:Nat)(x:Int):(List.replicate 0 x++List.replicate (n-0) 0).flatMap numF=List.replicate n (Value.int .i64 0):=by
 rw[N1,TK,Nat.sub_zero]
 induction n with
 |zero=>rfl
 |succ n ih=>rw[NM,TZ,ih,NM];rfl
variable {B:Nat}{w0 w:World}{H:List HP}
theorem Yjv(s:SchM)(ht:TabsB B w0)(hr:Rd B w0 H s.A (s.cells.flatMap celF))(hl:s.cells.length<=1000000000000)(hw:St B w0 H w):
 CX B w0 192 [s.val] w λv K=>v=.bool (XH s.sch)/\K=H:=by
 refine Yc Tryz.func192 Tryz.ntmps192 rfl rfl hw ?_
 have p1:=λ{H':List HP}{w:World}(hr:Rd B w0 H' s.A (s.cells.flatMap celF)) (hw:St B w0 H' w)=>WY s ht hr hl hw
 unfold SchM.val at p1⊢
 refine zX70 ?_<;>intros
 first|apply Ya en40|apply Yb en40
 exact za
 exact rfl
 exactλ_ hw=>(p1 hr.cons hw)
 cases hf:XH s.sch with
 |false=>
  rw[show(X5 s.sch).2=1 by simp_all [X5]]
  refine zX1 ?_<;>intros
  apply Yi H
  ·exact zc0
  exact zc11
 |true=>
  rw[show(X5 s.sch).2=0 by simp_all [X5]]
  refine zX1 ?_<;>intros
  apply Yi H
  ·exact zc0
  exact zc11
theorem YlJ(s:SchM)(hf:Frm s.sch)(hr:Rd B w0 H s.A (s.cells.flatMap celF))(hw:St B w0 H w):
 CX B w0 193 [s.val] w λv K=>∃g,v=.slice (some ⟨g,0,none⟩) (Up s.sch).length (Up s.sch).length/\K=nrs (some ⟨g,0,none⟩) (Up s.sch).length (Up s.sch)::H:=by
 refine Yc Tryz.func193 Tryz.ntmps193 rfl rfl hw ?_
 have hsz:1<=s.len/\s.len<=512/\1<=s.off/\s.off<=16:=Rj hf.sized
 have hp:=Yt6 (o:=s.off) ⟨by omega,hsz.2.2.2⟩
 have hcl:s.cells.length<=512:=hf.few
 obtain⟨n,hn⟩:∃n:Nat,s.len=n:=⟨s.len.toNat,by omega⟩
 have hp2:1<=IntKind.i64.wrap (1*2^s.off.toNat)/\IntKind.i64.wrap (1*2^s.off.toNat)<=65536:=hp
 have hm0:List.replicate s.sch.len.toNat (pow1 s.sch.off-1)=List.replicate n (IntKind.i64.wrap (1*2^s.off.toNat)-1):=by
  show List.replicate s.len.toNat _=_
  rw[hn,RU];rfl
 have hml:(Up s.sch).length=n:=by
  unfold Up
  rw[Wu,hm0,Rr]
 unfold SchM.val
 rw[hn]
 repeat'(first|(apply Yix T;(iterate 3 exact rfl);exact zi3;(iterate 3 exact rfl);omega;intro _)|refine zgb ?_|(refine zgh ?_;intro _)|fail)
 rename_i gs g
 simp only[RU]
 refine Yg (λi:Nat=>[(12,.int .i64 (i:Nat)),(11,.int .i64 (n:Nat)),(3,.slice (some ⟨g,0,none⟩) n n),(1,.pointer (some ⟨gs,0,none⟩))])
  (λi=>sl 3 1 (some ⟨g,0,none⟩) n n ((List.replicate i (IntKind.i64.wrap (1*2^s.off.toNat)-1)++List.replicate (n-i) 0).flatMap numF)::blk gs (.cells #[.int .i64 (n:Nat),.int .i64 s.off,.slice s.A s.cells.length s.cap] 37 (0,0))::H) (λi=>i<=n) (λi=>n-i) 0 (Tm _) ?_ ?_ ?_
 ·exact zc1
 ·have e0:=Yr2 n (IntKind.i64.wrap (1*2^s.off.toNat)-1)
  rw[e0]
  exact zc0
 rintro i hi K hK
 by_cases hlt:i<n
 ·have hL:(List.replicate i (IntKind.i64.wrap (1*2^s.off.toNat)-1)++List.replicate (n-i) 0).length=n:=by
   rw[To,Rr,Rr];omega
  repeat'(first|(apply XP T (f:=numF) (l:=List.replicate i (IntKind.i64.wrap (1*2^s.off.toNat)-1)++List.replicate (n-i) 0) (i:=(i:Int).toNat) (a:=IntKind.i64.wrap (1*2^s.off.toNat)-1);(iterate 3 exact rfl);exact zd;exact rfl;exactλ_=>rfl;exact rfl;omega)|refine zgd ?_|(refine zge ?_ ?_<;>intro _<;>try exact zo)|fail)
  rw[RU,Yt7 hlt]
  apply hK (i+1)
  ·show i+1<=n;omega
  ·omega
  ·exact zc1
  ·exact zc0
 obtain rfl:i=n:=by omega
 rw[NH,N1,Ro]
 clear hK
 refine zX1 ?_<;>intros
 refine Yg (λj:Nat=>[(26,.int .i64 (j:Nat)),(25,.int .i64 s.cells.length),(24,.slice s.A s.cells.length s.cap),(3,.slice (some ⟨g,0,none⟩) i i),(1,.pointer (some ⟨gs,0,none⟩))])
  (λj=>sl 3 1 (some ⟨g,0,none⟩) i i (((s.cells.take j).foldl YaM (List.replicate i (IntKind.i64.wrap (1*2^s.off.toNat)-1))).flatMap numF)::blk gs (.cells #[.int .i64 (i:Nat),.int .i64 s.off,.slice s.A s.cells.length s.cap] 37 (0,0))::H) (λj=>j<=s.cells.length) (λj=>s.cells.length-j) 0 (Tm _) ?_ ?_ ?_
 ·exact zc1
 ·rw[Nq,List.foldl_nil]
  exact zc0
 rintro j hj K hK
 by_cases hlt2:j<s.cells.length
 rotate_left
 ·obtain rfl:j=s.cells.length:=by omega
  rw[TV]
  clear hK
  refine zX1 ?_<;>intros
  apply Yi (nrs (some ⟨g,0,none⟩) (Up s.sch).length (Up s.sch)::H)
  ·unfold nrs
   rw[hml]
   unfold Up
   rw[hm0,show s.sch.cells=s.cells from rfl]
   exact zc0
  apply Yd;exact rfl;exact rfl
  exact⟨g,by rw[hml],rfl⟩
 obtain⟨c,hc⟩:∃c,s.cells[j]? =some c:=⟨_,Ta hlt2⟩
 obtain⟨m,hm⟩:∃m,(s.cells.take j).foldl YaM (List.replicate i (IntKind.i64.wrap (1*2^s.off.toNat)-1))=m:=⟨_,rfl⟩
 have hmn:m.length=i:=by rw[<-hm,Wu,Rr]
 have hnext:(s.cells.take (j+1)).foldl YaM (List.replicate i (IntKind.i64.wrap (1*2^s.off.toNat)-1))=YaM m c:=by
  rw[TN,hc,List.foldl_append,hm];rfl
 rw[hm]
 have hform:=hf.formed c (Tc hc)
 unfold Jf ZT insE at hform
 simp only[Tq,Tt]at hform
 have hc1:0<=c.1/\c.1<i:=by have:=hform.1.1.1.1;have e:s.sch.len=i:=hn;omega
 have hc2:0<=c.2.1/\c.2.1<16:=by have:=hform.1.1.1.2;have e:s.sch.off=s.off:=rfl;omega
 obtain⟨v,hv⟩:∃v,m[c.1.toNat]? =some v:=⟨_,Ta (by omega)⟩
 have hmc:YaM m c=m.set c.1.toNat (bits .andNot .i64 v (IntKind.i64.wrap (1*2^c.2.1.toNat))):=by
  unfold YaM;rw[Tu,hv];rfl
 refine zX48 ?_<;>intros
 apply XA [0,1,2,3,4,5,6,7,8,9] [10]
 kernel_rfl
 kernel_rfl
 (simp only[Yh,nthO];rfl)
 (simp only[Yh,nthO];rfl)
 repeat'(first|(apply XP T (f:=numF) (l:=m) (i:=c.1.toNat) (a:=bits .andNot .i64 v (IntKind.i64.wrap (1*2^c.2.1.toNat)));(iterate 3 exact rfl);exact zd;exact rfl;exactλ_=>rfl;exact rfl;omega)|(apply Yod;(iterate 3 exact rfl))|refine zgd ?_|fail)
 rw[<-hmc,<-hnext]
 apply hK (j+1)
 ·show j+1<=_;omega
 ·omega
 ·exact zc1
 ·exact zc0
theorem YfB(s:SchM)(ht:TabsB B w0)(hr:Rd B w0 H s.A (s.cells.flatMap celF))(hl:s.cells.length<=1000000000000)(hw:St B w0 H w):
 CX B w0 88 [s.val] w λv K=>∃A,v=.tuple #[.slice A (ZQ s.sch).1.length (ZQ s.sch).1.length,.int .i64 (ZQ s.sch).2]/\K=nrs A (ZQ s.sch).1.length (ZQ s.sch).1::H:=by
 refine Yc Tryz.func88 Tryz.ntmps88 rfl rfl hw ?_
 have p1:=λ{H':List HP}{w:World}(hr:Rd B w0 H' s.A (s.cells.flatMap celF)) (hw:St B w0 H' w)=>Yjv s ht hr hl hw
 have p2:=λ(hf:Frm s.sch) {H':List HP}{w:World}(hr:Rd B w0 H' s.A (s.cells.flatMap celF)) (hw:St B w0 H' w)=>YlJ s hf hr hw
 repeat'(first|(refine zs8 ?_)|((refine zs52 ?_;intro _))|refine zga ?_|fail)
 first|apply Ya YuF|apply Yb YuF
 exact za
 exact rfl
 exactλ_ hw=>(p1 hr.cons hw)
 cases hf:XH s.sch with
 |false=>
  rw[show ZQ s.sch=([],1) by simp_all [ZQ]]
  repeat'(first|(refine zs48 ?_)|(refine zs71 ?_)|refine zgb ?_|fail)
  apply Yi (nrs none 0 []::H)
  ·intro w hw
   have h5:St B w0 H w:=by
    revert w
    exact zc20
   exact h5.nilSlice _ _
  exact zc40
 |true=>
  rw[show ZQ s.sch=(Up s.sch,0) by simp_all [ZQ]]
  repeat'(first|(refine zs8 ?_)|(refine zs47 ?_)|(refine zs72 ?_)|refine zga ?_|fail)
  apply Ye _ Yxh
  exact za
  exact rfl
  exactλ_ hw=>(p2 (ZA.1 hf) hr.cons (hw))
  rintro _ _ ⟨g,rfl,rfl⟩
  refine zX4 ?_
  apply Yi (nrs (some ⟨g,0,none⟩) (Up s.sch).length (Up s.sch)::H)
  ·exact zc0
  exact zc40
variable {B:Nat}{w0 w:World}{H:List HP}
theorem YkG(c:Cel)(l:Lk)(hw:St B w0 H w):
 CX B w0 420 [celV c,lkV l] w λv K=>v=.bool (YH c (0,0,l.1,l.2.1,0))/\K=H:=by
 refine Yc Tryz.func420 Tryz.ntmps420 rfl rfl hw ?_
 have htc:YH c (0,0,l.1,l.2.1,0)=true↔(c.2.2.1=l.1\/c.2.2.1=l.2.1\/c.2.2.2.1=l.1\/c.2.2.2.1=l.2.1):=by unfold YH YE toC;simp_all
 obtain⟨z,hz⟩:∃z,YH c (0,0,l.1,l.2.1,0)=z:=⟨_,rfl⟩
 rw[hz]at htc⊢
 unfold lkV
 repeat'(first|refine zgd ?_|(refine zge ?_ ?_<;>intro _<;>try exact zo)|(refine zgh ?_;intro _)|fail)
 all_goals(
  apply Yi H
  ·exact zk
  apply Yd;exact rfl;exact rfl
  cases z<;>simp at htc<;>first|exact⟨rfl,rfl⟩|(exfalso;omega))
abbrev grdA(g:Nat)(n:NetM)(s:SchM):HP:=blk g (.cells #[.int .i64 n.nodes,.slice n.pA n.rows.length n.pcap,.int .i64 n.noise,.int .i64 n.thr,.slice n.lA n.links.length n.lcap,.slice n.mA n.margin.length n.mcap,.int .i64 s.len,.int .i64 s.off,.slice s.A s.cells.length s.cap] 292 (0,0))
def grdV(n:NetM)(s:SchM):Value:=.agg #[.int .i64 n.nodes,.slice n.pA n.rows.length n.pcap,.int .i64 n.noise,.int .i64 n.thr,.slice n.lA n.links.length n.lcap,.slice n.mA n.margin.length n.mcap,.int .i64 s.len,.int .i64 s.off,.slice s.A s.cells.length s.cap]
abbrev lnkA(g:Nat)(l:Lk):HP:=blk g (.cells #[.int .i64 l.1,.int .i64 l.2.1,.int .i64 l.2.2] 140 (0,0))
abbrev intA(g:Nat)(v:Int):HP:=blk g (.cells #[.int .i64 v] 3 (0,0))
theorem Yo4(c:Cel)(l:Lk)(slot id:Int)(g7 g5 g6:Nat)(h7:intA g7 slot∈H)(h5:lnkA g5 l∈H)(h6:intA g6 id∈H)(hw:St B w0 H w):
 CX B w0 418 [celV c,.pointer (some ⟨g7,0,none⟩),.pointer (some ⟨g5,0,none⟩),.pointer (some ⟨g6,0,none⟩)] w λv K=>v=.bool (decide (c.1=slot/\YE c=l.1/\toC c=l.2.1/\Xf c=id))/\K=H:=by
 refine Yc Tryz.func418 Tryz.ntmps418 rfl rfl hw ?_
 have hb:decide (c.1=slot/\YE c=l.1/\toC c=l.2.1/\Xf c=id)=true↔c.1=slot/\c.2.2.1=l.1/\c.2.2.2.1=l.2.1/\c.2.2.2.2=id:=by unfold Xf YE toC;simp_all
 obtain⟨b,hbe⟩:∃b,decide (c.1=slot/\YE c=l.1/\toC c=l.2.1/\Xf c=id)=b:=⟨_,rfl⟩
 rw[hbe]at hb⊢
 repeat'(first|refine zgd ?_|(refine zge ?_ ?_<;>intro _<;>try exact zo)|(refine zgh ?_;intro _)|fail)
 all_goals(
  apply Yi H
  ·exact zk
  apply Yd;exact rfl;exact rfl
  cases b<;>simp at hb<;>first|exact⟨rfl,rfl⟩|(exfalso;omega))
theorem Yo5(n:NetM)(s:SchM)(l:Lk)(id slot:Int)(hl:s.cells.length<=1000)(hr:Rd B w0 H s.A (s.cells.flatMap celF))(hw:St B w0 H w):
 CX B w0 393 [grdV n s,lkV l,.int .i64 id,.int .i64 slot] w λv K=>v=.bool (hasC s.cells slot l.1 l.2.1 id)/\K=H:=by
 refine Yc Tryz.func393 Tryz.ntmps393 rfl rfl hw ?_
 repeat'(first|(refine zs6 ?_)|(refine zs7 ?_)|(first|(refine zs52 ?_;intro _)|(refine zs53 ?_;intro _))|((apply Yw;exact za;exact rfl))|refine zga ?_|fail)
 rename_i g4 g5 g6 g7
 first|apply Ya en32|apply Yb en32
 exact za
 exact rfl
 exactλ_ hw=>(Uj (λc=>decide (c.1=slot/\YE c=l.1/\toC c=l.2.1/\Xf c=id)) s.cells 418 [.pointer (some ⟨g7,0,none⟩),.pointer (some ⟨g5,0,none⟩),.pointer (some ⟨g6,0,none⟩)] YxN hl hr.cons.cons.cons.cons (λc _ w hw=>Yo4 c l slot id g7 g5 g6 (by simp_all) (by simp_all) (by simp_all) hw) hw)
 refine zX4 ?_
 apply Yi H
 ·exact zc20
 exact zc4
theorem YlR(c:Cel)(o:Int)(g:Nat)(hm:intA g o∈H)(hw:St B w0 H w):
 CX B w0 421 [celV c,.pointer (some ⟨g,0,none⟩)] w λv K=>v=.bool (!(decide (c.2.1=o)))/\K=H:=by
 refine Yc Tryz.func421 Tryz.ntmps421 rfl rfl hw ?_
 by_cases h:c.2.1=o
 ·rw[Td h]
  refine zX46 ?_<;>intros
  apply Yi H
  ·exact zc0
  exact zc11
 ·rw[Ti h]
  refine zX46 ?_<;>intros
  apply Yi H
  ·exact zc0
  exact zc11
theorem Ylh(c:Cel)(id:Int)(g:Nat)(hm:intA g id∈H)(hw:St B w0 H w):
 CX B w0 208 [celV c,.pointer (some ⟨g,0,none⟩)] w λv K=>v=.bool (decide (Xf c=id))/\K=H:=by
 refine Yc Tryz.func208 Tryz.ntmps208 rfl rfl hw ?_
 by_cases h:c.2.2.2.2=id
 ·rw[Td (show Xf c=id from h)]
  refine zX46 ?_<;>intros
  apply Yi H
  ·exact zc0
  exact zc11
 ·rw[Ti (show¬Xf c=id from h)]
  refine zX46 ?_<;>intros
  apply Yi H
  ·exact zc0
  exact zc11
def tchB(l:List Cel)(slot a b:Int):Bool:=l.any λd=>decide (d.1=slot)&&YH d (0,0,a,b,0)
def offI(n:Net)(l:List Cel)(slot a b:Int)(k:Nat):List Nat:=(List.range k).filter λo:Nat=>JS n (l.filter (atP slot o)++[(0,0,a,b,0)])
def Wx(n:Net)(s:Sch)(slot a b:Int):List (List Value):=if tchB s.cells slot a b=true then []else(offI n s.cells slot a b s.off.toNat).map λ(o:Nat)=>[Value.int .i64 (o:Int)]
variable {n:Net}{l:List Cel}{slot a b:Int}{k i:Nat}
theorem YrJ(h:JS n (l.filter (atP slot k)++[(0,0,a,b,0)])=true):offI n l slot a b (k+1)=offI n l slot a b k++[k]:=by
 grind [offI,Rx]
theorem YtT(h:JS n (l.filter (atP slot k)++[(0,0,a,b,0)])=false):offI n l slot a b (k+1)=offI n l slot a b k:=by
 grind [offI,Rx]
theorem YrI{m:Nat}(h:JS n (l.filter (atP slot k)++[(0,0,a,b,0)])=true)(hk:k<m):(offI n l slot a b m)[(offI n l slot a b k).length]? =some k:=by
 obtain⟨j,rfl⟩:∃j,m=k+(j+1):=⟨m-k-1,by omega⟩
 have e:offI n l slot a b (k+(j+1))=offI n l slot a b k++((List.range (j+1)).map (k+·)).filter λo:Nat=>JS n (l.filter (atP slot o)++[(0,0,a,b,0)]):=by
  grind [offI,List.range_add]
 simp_all [List.range_succ_eq_map]
structure AiM where
 i:Nat
 A:Option Addr
 cap:Nat
 l:List Cel
variable {c:Cel}
theorem Yrj(hc:l[i]? =some c)(h:c.1=slot):(l.take (i+1)).filter (λd=>decide (d.1=slot))=(l.take i).filter (λd=>decide (d.1=slot))++[c]:=zc90
theorem Ytv(hc:l[i]? =some c)(h:c.1≠slot):(l.take (i+1)).filter (λd=>decide (d.1=slot))=(l.take i).filter (λd=>decide (d.1=slot)):=zc90
theorem Ysr(hc:l[i]? =some c):tchB (l.take (i+1)) slot a b=(tchB (l.take i) slot a b||(decide (c.1=slot)&&YH c (0,0,a,b,0))):=by
 grind [tchB,TN]
theorem YwW(hc:l[i]? =some c)(h:c.1=slot)(ht:YH c (0,0,a,b,0)=true):tchB l slot a b=true:=
 T8.2 ⟨c,Tc hc,by simp_all⟩
theorem Ypq(n:NetM)(s:SchM)(l:Lk)(slot:Int)(g3 g5 g4:Nat)(hck:Yo n.net=0)(hl:s.cells.length<=900)(hoff:0<=s.off/\s.off<=16){B:Nat}{w0:World}{R:List HP}(hin:n.In B w0 [many R])(hr:Rd B w0 [many R] s.A (s.cells.flatMap celF)):
 YcZ Tryz.prog 419 [.pointer (some ⟨g3,0,none⟩),.pointer (some ⟨g5,0,none⟩),.pointer (some ⟨g4,0,none⟩)] (Wx n.net s.sch slot l.1 l.2.1) B w0 [intA g5 slot,lnkA g4 l,grdA g3 n s,many R]:=by
 refine Yc0 Tryz.func419 Tryz.ntmps419 rfl rfl ?_
 intro ly SS X hy L0 h0
 refine Jy 64 5 ?_
 have hsc:s.sch.cells=s.cells:=rfl
 refine zX8 ?_
 refine Yg (λ(x:AiM)=>[(14,.int .i64 x.i),(13,.int .i64 s.cells.length),(12,.slice s.A s.cells.length s.cap),(5,.slice x.A x.l.length x.cap),(0,.func (.yield ly) #[] #[]),(1,.pointer (some ⟨g3,0,none⟩)),(2,.pointer (some ⟨g5,0,none⟩)),(3,.pointer (some ⟨g4,0,none⟩))])
  (λx=>sl 64 5 x.A x.l.length x.cap (x.l.flatMap celF)::many L0::intA g5 slot::lnkA g4 l::grdA g3 n s::[many R]) (λx=>x.i<=s.cells.length/\x.l=(s.cells.take x.i).filter (λd=>decide (d.1=slot))/\tchB (s.cells.take x.i) slot l.1 l.2.1=false) (λx=>s.cells.length-x.i) ⟨0,none,0,[]⟩ ⟨Tm _,by simp,rfl⟩ ?_ ?_ ?_
 ·exact zc1
 ·dsimp only
  rw[show([]:List Cel).flatMap celF=[] from rfl,show([]:List Cel).length=0 from rfl]
  exact zc0
 rintro⟨i,A,cap,hs⟩ ⟨hi,hhs,htc⟩ K hK
 dsimp only at hi hhs htc⊢
 have hhl:hs.length<=900:=by
  have:=RX (λd:Cel=>decide (d.1=slot)) (s.cells.take i)
  rw[<-hhs,TT]at this
  omega
 by_cases hlt:i<s.cells.length
 ·obtain⟨c,hc⟩:∃c,s.cells[i]? =some c:=⟨_,Ta hlt⟩
  have hts:=Ysr (slot:=slot) (a:=l.1) (b:=l.2.1) hc
  rw[htc,Ny]at hts
  have p1:=λ{H':List HP}{w:World}(hw:St B w0 H' w)=>YkG c l hw
  unfold celV lkV at p1
  by_cases hsl:c.1=slot
  rotate_left
  ·rw[Ti hsl,SX]at hts
   refine zX48 ?_<;>intros
   apply hK ⟨i+1,A,cap,hs⟩
   ·exact⟨by exact zc71,by rw[Ytv hc hsl];exact hhs,hts⟩
   ·exact zc39
   ·exact zc1
   ·exact zc0
  cases ht:YH c (0,0,l.1,l.2.1,0)with
  |true=>
   rw[ht]at p1
   have hnil:Wx n.net s.sch slot l.1 l.2.1=[]:=by
    unfold Wx
    rw[Tn (by rw[hsc];exact YwW hc hsl ht)]
   clear hK
   repeat'(first|((first|apply Ya Ynp|apply Yb Ynp);exact za;exact rfl;exactλ_ hw=>(p1 hw))|refine zgd ?_|(refine zge ?_ ?_<;>intro _<;>try exact zo)|(refine zgh ?_;intro _)|fail)
   apply Yi (many L0::intA g5 slot::lnkA g4 l::grdA g3 n s::[many R])
   ·exact zc0
   apply WH;exact rfl
   exact .inl ⟨L0,by rw[hnil];exact h0,rfl⟩
  |false=>
   rw[Td hsl,ht,RO]at hts
   rw[ht]at p1
   repeat'(first|((first|apply Ya Ynp|apply Yb Ynp);exact za;exact rfl;exactλ_ hw=>(p1 hw))|refine zgd ?_|(refine zge ?_ ?_<;>intro _<;>try exact zo)|(refine zgh ?_;intro _)|(refine zgi ?_;intro _ _)|fail)
   rename_i A' cap'
   have hl1:(hs++[c]).length=hs.length+1:=by rw[To];rfl
   apply hK ⟨i+1,A',cap',hs++[c]⟩
   ·exact⟨by exact zc71,by rw[Yrj hc hsl,<-hhs],hts⟩
   ·exact zc39
   ·dsimp only
    rw[hl1]
    exact zc1
   ·dsimp only
    have e5:=WK A' cap' hs c
    unfold cels at e5
    rw[<-e5]
    exact zc0
 ·obtain rfl:i=s.cells.length:=by omega
  rw[TV]at hhs htc
  clear hK
  refine zX1 ?_<;>intros
  have hxs:Wx n.net s.sch slot l.1 l.2.1=(offI n.net s.cells slot l.1 l.2.1 s.off.toNat).map λ(o:Nat)=>[Value.int .i64 (o:Int)]:=by
   unfold Wx
   rw[Tf (by rw[hsc,htc];decide)];rfl
  refine Yg (λ(x:Nat×List HP)=>[(33,.int .i64 (x.1:Nat)),(32,.int .i64 s.off),(5,.slice A hs.length cap),(0,.func (.yield ly) #[] #[]),(1,.pointer (some ⟨g3,0,none⟩)),(2,.pointer (some ⟨g5,0,none⟩)),(3,.pointer (some ⟨g4,0,none⟩))])
   (λx=>sl 64 5 A hs.length cap (hs.flatMap celF)::many x.2::intA g5 slot::lnkA g4 l::grdA g3 n s::[many R]) (λx=>(x.1:Int)<=s.off/\SS (offI n.net s.cells slot l.1 l.2.1 x.1).length x.2) (λx=>(s.off-x.1).toNat) (0,L0) ⟨by show((0:Nat):Int)<=_;omega,h0⟩ ?_ ?_ ?_
  ·exact zc1
  ·exact zc0
  rintro⟨o,L⟩ ⟨ho,hS⟩ K hK
  dsimp only at ho hS⊢
  by_cases hlt2:(o:Int)<s.off
  rotate_left
  ·obtain rfl:o=s.off.toNat:=by omega
   clear hK
   refine zX1 ?_<;>intros
   apply Yi (many L::intA g5 slot::lnkA g4 l::grdA g3 n s::[many R])
   ·exact zc0
   apply Vq;exact rfl
   exact .inl ⟨L,by rw[hxs,TB];exact hS,rfl⟩
  obtain⟨own,hown⟩:∃own,s.cells.filter (atP slot o)=own:=⟨_,rfl⟩
  have hof:(hs.filter λc=>!!(decide (c.2.1=(o:Int))))=own:=by
   rw[<-hown,hhs,SN]
   refine SJ λc _=>?_
   unfold atP
   rw[Bool.not_not,Bool.decide_and,Bool.and_comm]
  have hol:own.length<=900:=by
   have:=RX (atP slot o) s.cells
   rw[hown]at this
   omega
  have pg:=λ{A2:Option Addr}{cap2:Nat}{H':List HP}{w:World}(hin:n.In B w0 H') (hr:Rd B w0 H' A2 (own.flatMap celF++#[Value.int .i64 0,.int .i64 0,.int .i64 l.1,.int .i64 l.2.1,.int .i64 0].toList)) (hw:St B w0 H' w)=>Ylu n (own++[(0,0,l.1,l.2.1,0)]) hck (by rw[To];show own.length+1<=1000;omega) (A:=A2) (cap:=cap2) hin (by rw[RB];exact hr) hw
  have hol1:(own++[((0,0,l.1,l.2.1,0):Cel)]).length=own.length+1:=by rw[To];rfl
  rw[hol1]at pg
  unfold NetM.val at pg
  refine zX48 ?_<;>intros
  rename_i g8
  apply Ye _ Yf2
  exact za
  exact rfl
  exactλ_ hw=>(JC hs (by omega) (.sl (by(focus exact zc2))) (hw))
  rintro _ _ ⟨A1,c1,rfl,rfl⟩
  refine zX71 ?_
  apply Ye _ Yna
  exact za
  exact rfl
  exactλ_ hw=>(UG (λc=>!(decide (c.2.1=(o:Int)))) hs 421 [.pointer (some ⟨g8,0,none⟩)] YxP (by omega) (λc _ X w hw=>YlR c o g8 (TU _ (by(focus exact zc2))) hw) (hw))
  rintro _ _ ⟨rfl,rfl⟩
  rw[hof]
  unfold cels
  refine zX4 ?_
  apply Yob [0,1,2,3,4,5,6,7,8,9,10,11,12,13] [14,15,16] [false,true,false,false,true,true,true,true]
  kernel_rfl
  kernel_rfl
  exact zy
  (simp only[Yh,nthO];rfl)
  (simp only[Yh,nthO];rfl)
  repeat'(first|(apply Yk T;exact rfl;exact zm;exact rfl;exact zv;exact rfl;exact rfl)|(apply Yl;try exact zl)|refine zgd ?_|(refine zgh ?_;intro _)|(refine zgi ?_;intro _ _)|fail)
  first|apply Ya Yvd|apply Yb Yvd
  exact za
  exact rfl
  exactλ_ hw=>(pg (hin.mono zc0) (.sl (by(focus exact zc2))) hw)
  cases hg:JS n.net (own++[(0,0,l.1,l.2.1,0)])with
  |true=>
   have hg2:JS n.net (s.cells.filter (atP slot o)++[(0,0,l.1,l.2.1,0)])=true:=by rw[hown];exact hg
   have hx:(Wx n.net s.sch slot l.1 l.2.1)[(offI n.net s.cells slot l.1 l.2.1 o).length]? =some [.int .i64 (o:Int)]:=by
    rw[hxs,TR,YrI hg2 (by omega)];rfl
   have hY:=hy _ _ hx [sl 64 5 A hs.length cap (hs.flatMap celF)] L hS
   refine zX18 ?_
   apply Yi (sl 64 5 A hs.length cap (hs.flatMap celF)::many L::intA g5 slot::lnkA g4 l::grdA g3 n s::[many R])
   ·exact zc0
   apply YqC
   apply Yc8 _ _ (hy:=hY)
   ·exact Ycv (j:=11) (s:=51) rfl rfl rfl
   ·exact rfl
   ·exact YsE
   ·exact rfl
   ·exact zc96
   ·rintro _ ⟨L',hS',rfl⟩
    refine zX2 ?_
    apply hK (o+1,L')
    ·exact⟨by show((o+1:Nat):Int)<=_;omega,by rw[YrJ hg2,To];exact hS'⟩
    ·exact zc39
    ·exact zc1
    exact zc17
   ·rintro _ ⟨L',hX',rfl⟩
    refine zX2 ?_
    apply Yi (many L'::intA g5 slot::lnkA g4 l::grdA g3 n s::[many R])
    ·exact zc51
    apply WH;exact rfl
    exact .inr ⟨L',hX',rfl⟩
  |false=>
   have hg2:JS n.net (s.cells.filter (atP slot o)++[(0,0,l.1,l.2.1,0)])=false:=by rw[hown];exact hg
   refine zX18 ?_
   apply YqC
   apply YiL zc96
   refine zX2 ?_
   apply hK (o+1,L)
   ·exact⟨by show((o+1:Nat):Int)<=_;omega,by rw[YtT hg2];exact hS⟩
   ·exact zc39
   ·exact zc1
   ·exact zc0
theorem YlO:∀a b:List Int,a.length=b.length->Xz (List.zipWith cmpI a b)=cmpV a b
 |[],[],_=>rfl
 |[],_::_,h=>by cases h
 |_::_,[],h=>by cases h
 |x::a,y::b,h=>by
  have ih:=YlO a b (by simp_all)
  rw[List.zipWith_cons_cons,Xz]
  by_cases h1:x<y
  ·have e1:cmpI x y= -1:=Tn h1
   have e2:Y2 (x::a) (y::b)=true:=by rw[Y2,Tn (show x≠y by omega)];simp_all
   simp_all [cmpV]
  ·by_cases h2:y<x
   ·have e1:cmpI x y=1:=by simp_all [cmpI]
    have e2:Y2 (x::a) (y::b)=false:=by rw[Y2,Tn (show x≠y by omega)];simp_all
    have e3:Y2 (y::b) (x::a)=true:=by rw[Y2,Tn (show y≠x by omega)];simp_all
    simp_all [cmpV]
   ·obtain rfl:x=y:=by omega
    simp_all [cmpI,Y2,cmpV]
variable {B:Nat}{w0 w:World}{H:List HP}
theorem Qy(a b:Cel)(hw:St B w0 H w):
 CX B w0 161 [celV a,celV b] w λv K=>v=.int .i64 (cmpV (nums a) (nums b))/\K=H:=by
 refine Yc Tryz.func161 Tryz.ntmps161 rfl rfl hw ?_
 rw[<-YlO (nums a) (nums b) rfl]
 unfold celV
 refine zX16 ?_<;>intros
 apply YX [0,1,2,3,5,6,7,8,10,11,12,13,15,16,17,18,20,21,22,23,4,9,14,19,24,25,26,27] [] [true,true]
 kernel_rfl
 kernel_rfl
 exact zy
 (simp only[Yh,nthO];rfl)
 exact rfl
 refine zX17 ?_<;>intros
 rename_i g
 first|apply Ya Ym1|apply Yb Ym1
 exact za
 exact rfl
 exactλ_ hw=>(YnH (List.zipWith cmpI (nums a) (nums b)) (by simp[nums]) (Rd.blk (g:=g) (cs:=#[.int .i64 (cmpI a.1 b.1),.int .i64 (cmpI a.2.1 b.2.1),.int .i64 (cmpI a.2.2.1 b.2.2.1),.int .i64 (cmpI a.2.2.2.1 b.2.2.2.1),.int .i64 (cmpI a.2.2.2.2 b.2.2.2.2)]) (by(focus exact zc2))) hw)
 refine zX18 ?_
 apply Yi H
 ·exact zc0
 exact zc24
theorem Yh4(l:List Cel)(c:Cel)(ho:Ord l)(hlen:l.length<=1000000000){A:Option Addr}{cap:Nat}(hr:Rd B w0 H A (l.flatMap celF))(hw:St B w0 H w):
 CX B w0 395 [.slice A l.length cap,celV c,.func (.func 161) #[] #[]] w λv K=>
  v=.tuple #[.int .i64 (posE l c),.bool (decide (c∈l))]/\K=H:=by
 refine Yc Tryz.func395 Tryz.ntmps395 rfl rfl hw ?_
 (apply YY;apply Yx;apply Yr;exact rfl;exact rfl;intro g)
 refine zX8 ?_
 have hr:=hr.cons (X:=blk g (.cells (celF c).toArray 64 (0,0)))
 refine Yaj (λ(lo hi:Nat)=>[(9,.int .i64 lo),(10,.int .i64 hi),(8,.int .i64 l.length),(0,.slice A l.length cap),(2,.func (.func 161) #[] #[]),(4,.pointer (some ⟨g,0,none⟩))]) (λ_ _=>blk g (.cells (celF c).toArray 64 (0,0))::H)
  (λlo hi=>lo<=hi/\hi<=l.length/\(∀i x,i<lo->l[i]? =some x->Xi x c=true)/\(∀i x,hi<=i->l[i]? =some x->Xi x c=false)) (λlo hi=>hi-lo) 0 l.length ⟨by omega,by omega,λj x hj=>by omega,λj x h1 h2=>by simp_all⟩ ?_ (λw hw=>hw) ?_
 ·exact zc1
 rintro lo hi ⟨h1,h2,h3,h4⟩ K hK
 by_cases hlt:lo<hi
 ·obtain⟨b,hb⟩:∃b,l[(((lo:Int)+hi)/2).toNat]? =some b:=⟨_,Ta (by omega)⟩
  have hm:(((lo:Int)+hi)/2).toNat=(lo+hi)/2:=by omega
  have hb2:l[(lo+hi)/2]? =some b:=by grind
  repeat'(first|((first|apply Y3 (cs:=[])|apply Xo (cs:=[]));exact rfl;exact Yq2;exact za;exact rfl;exactλ_ hw=>(Qy b c hw))|(apply zg28;refine zs84 ?_)|refine zgd ?_|(refine zge ?_ ?_<;>intro _<;>try exact zo)|fail)
  ·rename_i hc
   rw[Ybi]at hc
   apply hK ((lo+hi)/2+1) hi
   ·refine⟨by omega,by omega,λj x hj hx=>?_,h4⟩
    by_cases e:j=(lo+hi)/2
    ·grind
    ·exact JB (YhL ho hx hb2 (by omega)) hc
   ·omega
   ·exact zc1
   exact zc17
  ·rename_i hc
   have hc:Xi b c=false:=by
    cases h:Xi b c with
    |false=>rfl
    |true=>rw[<-Ybi]at h;omega
   apply hK lo ((lo+hi)/2)
   ·refine⟨by omega,by omega,h3,λj x hj hx=>?_⟩
    by_cases e:j=(lo+hi)/2
    ·rw[e,hb2]at hx
     injection hx with hx;subst hx;exact hc
    ·cases h:Xi x c with
     |false=>rfl
     |true=>rw[JB (YhL ho hb2 hx (by omega)) h]at hc;cases hc
   ·omega
   ·exact zc1
   exact zc17
 ·obtain rfl:lo=hi:=by omega
  have hp:Pos l c lo:=⟨h2,h3,h4⟩
  have hpe:=hp.posE ho
  have hpm:=Yt5 ho hp
  by_cases hl:lo<l.length
  ·obtain⟨b,hb⟩:∃b,l[lo]? =some b:=⟨_,Ta hl⟩
   rw[hb]at hpm
   repeat'(first|((first|apply Y3 (cs:=[])|apply Xo (cs:=[]));exact rfl;exact Yq2;exact za;exact rfl;exactλ_ hw=>(Qy b c hw))|(apply zg28;refine zs84 ?_)|refine zgd ?_|(refine zge ?_ ?_<;>intro _<;>try exact zo)|fail)
   all_goals(apply Yj;apply YM;(iterate 3 exact rfl);rw[<-hpe])
   ·rename_i hc
    rw[YqP]at hc
    exact⟨by rw[Td (hpm.1 (by rw[hc]))],rfl⟩
   ·rename_i hc
    rw[ne_eq,YqP]at hc
    exact⟨by rw[Ti λh=>hc (Tv (hpm.2 h))],rfl⟩
  ·refine zX19 ?_<;>intros
   apply Yj;apply YM;(iterate 3 exact rfl);rw[<-hpe]
   rw[SU (by omega)]at hpm
   exact⟨by rw[Ti λh=>by cases hpm.2 h],rfl⟩
theorem YhH(n:NetM)(s:SchM)(l:Lk)(slot:Int)(hw:St B w0 H w):
 CX B w0 394 [grdV n s,lkV l,.int .i64 slot] w λv K=>∃g3 g4 g5,v=.func (.func 419) #[] #[.pointer (some ⟨g3,0,none⟩),.pointer (some ⟨g5,0,none⟩),.pointer (some ⟨g4,0,none⟩)]/\K=intA g5 slot::lnkA g4 l::grdA g3 n s::H:=by
 refine Yc Tryz.func394 Tryz.ntmps394 rfl rfl hw ?_
 refine zX29 ?_<;>intros
 exact YnZ
end Go.Proofs.YtaholidehobiiaaGreatDoor
namespace Go.Eng
open Go.RowKit
section
variable {P:Program}{B:Nat}{w0:World}{env:Env}{H:List HP}
theorem Yc6{n:Nat}(T:Tab P){fn:Func}{Φ:Value->List HP->Prop}{p g k q g2 rt st:Nat}{v:Value}{cs:Array Value}{tt tt2:TypeId}{fr fr2:Nat×Nat}(hr:fn.results=#[.cell p rt,.cell q st])(hp:get env p=some (.pointer (some ⟨g,0,none⟩)))(hq:get env q=some (.pointer (some ⟨g2,0,none⟩)))
 (hm:blk g (.cells cs tt fr)∈H) (hm2:blk g2 (.cells #[v] tt2 fr2)∈H) (ht:look T.ag rt=some k) (hk:cs.size=k) (ht2:look T.sc st=some ()) {H2:List HP}(hH:∀w,St B w0 H w->St B w0 H2 w) (h:Φ (.tuple #[.agg cs,v]) H2):VQ ⟨n,[],none⟩ B w0 (bodyPost P fn (Post B w0 Φ)) .ret env H:=by
 refine⟨λa w ha hw=>bodyPost_ret (v:=.tuple #[.agg cs,v]) ?_ ha.defers ⟨_,H2,rfl,hH w hw,h⟩⟩
 have hp':=ha.slot p _ hp
 have hq':=ha.slot q _ hq
 have hc:=Xp (i:=0) (hw.blk hm2).1
 have h2:(loadVar st ⟨g2,0,none⟩).run P w=.ok v w:=by simp[loadVar,ZC (T.scal ht2).1,hc]
 simp[results,hr,Array.getD_eq_getD_getElem?,hp',hq',asAddr,V2 T (hw.blk hm).1 ht hk,h2]
end
end Go.Eng
namespace Go.Proofs.YtaholidehobiiaaGreatDoor
open Go.RowKit Go.Eng Go.Nw Go.Rt
theorem WN{α:Type}(p:α->Bool):∀l:List α,(l.filter p)[0]? =l.find? p
 |[]=>rfl
 |a::l=>by
  rw[SH,N5]
  cases h:p a with
  |true=>rfl
  |false=>exact WN p l
variable {n:Net}{l:List Cel}{slot a b id:Int}
theorem Ynx(h:tchB l slot a b=false):(λo:Nat=>fitE n l slot o a b)=λo:Nat=>JS n (l.filter (atP slot o)++[(0,0,a,b,0)]):=by
 grind [fitE,tchB]
theorem Ywv(h:tchB l slot a b=true):(λo:Nat=>fitE n l slot o a b)=λ_=>false:=by
 grind [fitE,tchB]
variable {s:Sch}
theorem YlP(hh:hasC s.cells slot a b id=false)(h:(Wx n s slot a b).length=0):J1 n s a b id slot=none:=by
 unfold J1
 have:((List.range s.off.toNat).find? λo:Nat=>fitE n s.cells slot o a b)=none:=by
  cases ht:tchB s.cells slot a b with
  |true=>simp_all [Ywv]
  |false=>
   rw[Ynx ht,<-WN]
   unfold Wx at h
   grind [offI]
 simp_all
theorem YlQ(hh:hasC s.cells slot a b id=false){args:List Value}(h:(Wx n s slot a b)[0]? =some args):∃o:Nat,args=[.int .i64 (o:Int)]/\o<s.off.toNat/\fitE n s.cells slot o a b=true/\J1 n s a b id slot=some ⟨s.len,s.off,insC s.cells (slot,(o:Int),a,b,id)⟩:=by
 unfold Wx at h
 cases ht:tchB s.cells slot a b with
 |true=>simp_all
 |false=>
  rw[ht,Tf (by decide),TR]at h
  unfold offI at h
  rw[WN]at h
  cases hf:(List.range s.off.toNat).find? λo:Nat=>JS n (s.cells.filter (atP slot o)++[(0,0,a,b,0)])with
  |none=>simp_all
  |some o=>
   have hf2:(List.range s.off.toNat).find? (λo:Nat=>fitE n s.cells slot o a b)=some o:=by rw[Ynx ht];exact hf
   unfold J1
   grind
theorem Ymi(n:NetM)(s:SchM)(l:Lk)(id slot:Int)(hck:Yo n.net=0)(hl:s.cells.length<=900)(hoff:0<=s.off/\s.off<=16)(ho:Ord s.cells){B:Nat}{w0:World}{R:List HP}{w:World}(hin:n.In B w0 [many R])(hr:Rd B w0 [many R] s.A (s.cells.flatMap celF))(hw:St B w0 [many R] w):
 CX B w0 344 [grdV n s,lkV l,.int .i64 id,.int .i64 slot] w λv K=>
  (v=.tuple #[grdV n s,.bool true]/\J1 n.net s.sch l.1 l.2.1 id slot=some s.sch/\K=[many R])\/
  (v=.tuple #[grdV n s,.bool false]/\J1 n.net s.sch l.1 l.2.1 id slot=none/\K=[many R])\/
  ∃A cap c,v=.tuple #[grdV n ⟨s.len,s.off,A,cap,insC s.cells c⟩,.bool true]/\J1 n.net s.sch l.1 l.2.1 id slot=some ⟨s.len,s.off,insC s.cells c⟩/\K=[cels A cap (insC s.cells c),many R]:=by
 refine Zr Tryz.func344 Tryz.ntmps344 rfl rfl hw ?_
 have p1:=λ{H':List HP}{w:World}(hr:Rd B w0 H' s.A (s.cells.flatMap celF)) (hw:St B w0 H' w)=>Yo5 n s l id slot (by omega) hr hw
 have p2:=λ{H':List HP}{w:World}(hw:St B w0 H' w)=>YhH n s l slot hw
 cases hh:hasC s.cells slot l.1 l.2.1 id with
 |true=>
  rw[hh]at p1
  unfold grdV lkV at p1⊢
  refine O9 ?_<;>intros
  first|apply Ya Ynn|apply Yb Ynn
  exact za
  exact rfl
  exactλ_ hw=>(p1 hr.cons.cons.cons.cons.cons.cons hw)
  refine zX2 ?_
  apply VQ_m
  apply Yc6 T (H2:=[many R]);(iterate 3 exact rfl);(focus exact zc2);(focus exact zc2);(iterate 3 exact rfl);(intro w hw;refine hw.perm ?_;focus exact zc3)
  refine .inl ⟨rfl,?_,rfl⟩
  unfold J1
  rw[show s.sch.cells=s.cells from rfl,Tn hh]
 |false=>
 rw[hh]at p1
 unfold grdV lkV at p1 p2⊢
 refine O9 ?_<;>intros
 rename_i g4 g5 g6 g7 g8 g9
 first|apply Ya Ynn|apply Yb Ynn
 exact za
 exact rfl
 exactλ_ hw=>(p1 hr.cons.cons.cons.cons.cons.cons hw)
 refine zX8 ?_
 apply Ye _ YxI
 exact za
 exact rfl
 exactλ_ hw=>(p2 (hw))
 rintro _ _ ⟨k3,k4,k5,rfl,rfl⟩
 refine zX8 ?_
 have hlen0:∀args∈Wx n.net s.sch slot l.1 l.2.1,args.length=[24].length:=by
  intro args h
  unfold Wx at h
  split at h
  ·cases h
  ·obtain⟨o,_,rfl⟩:=TC.1 h
   rfl
 refine Zs (gf:=419) (lb:=[.pointer (some ⟨k3,0,none⟩),.pointer (some ⟨k5,0,none⟩),.pointer (some ⟨k4,0,none⟩)]) (xs:=Wx n.net s.sch slot l.1 l.2.1) (intA k5 slot::lnkA k4 l::grdA k3 n s::[many R])
  (λ_:Unit=>[blk g9 (.cells #[.bool false] 4 (0,0)),blk g8 (.cells #[.int .i64 0,.slice none 0 0,.int .i64 0,.int .i64 0,.slice none 0 0,.slice none 0 0,.int .i64 0,.int .i64 0,.slice none 0 0] 292 (0,0)),intA g7 slot,intA g6 id,lnkA g5 l,grdA g4 n s])
  (λk _=>k=0) (λe K=>e=.ret/\∃A cap,∃o:Int,J1 n.net s.sch l.1 l.2.1 id slot=some ⟨s.len,s.off,insC s.cells (slot,o,l.1,l.2.1,id)⟩/\K=[blk g9 (.cells #[.bool true] 4 (0,0)),grdA g8 n ⟨s.len,s.off,A,cap,insC s.cells (slot,o,l.1,l.2.1,id)⟩,cels A cap (insC s.cells (slot,o,l.1,l.2.1,id))]) () rfl YxO (Ypq n s l slot k3 k5 k4 hck hl hoff hin hr) rfl hlen0 (by kernel_rfl) (by kernel_rfl) ?_ rfl ?_ ?_ ?_
 ·intro w hw
  have h5:St B w0 (blk g9 (.cells (Value.bool false).cells 4 (0,0))::blk g8 (.cells (Value.agg #[.int .i64 0,.slice none 0 0,.int .i64 0,.int .i64 0,.slice none 0 0,.slice none 0 0,.int .i64 0,.int .i64 0,.slice none 0 0]).cells 292 (0,0))::intA g7 slot::intA g6 id::lnkA g5 l::grdA g4 n s::intA k5 slot::lnkA k4 l::grdA k3 n s::[many R]) w:=by
   revert w
   exact zc0
  exact h5
 ·rintro ly k args R1 ⟨⟩ hk rfl
  obtain⟨o,rfl,hol,hfit,hsl⟩:=YlQ (id:=id) hh hk
  dsimp only[U5,List.cons_append,List.nil_append]
  have hrx:∀{H':List HP},(∀w,St B w0 H' w->St B w0 [many R] w)->Rd B w0 H' s.A (s.cells.flatMap celF):=λh=>hr.mono h
  refine zX4 ?_
  apply J6 Ys
  intro R2
  have hpl:posE s.cells (slot,(o:Int),l.1,l.2.1,id)<=s.cells.length:=(YhQ ho _).1
  refine zX26 ?_<;>intros
  rename_i g11
  first|apply Ya Yva|apply Yb Yva
  exact za
  exact rfl
  exactλ_ hw=>(Yh4 s.cells (slot,(o:Int),l.1,l.2.1,id) ho (by omega) (hrx zc0) hw)
  refine zX11 ?_
  apply Yir (.p1 0 (.p1 1 (.p1 2 (.p1 4 (.p1 5 (.d2 3 (.d1 6 (.d1 7 (.d1 8 (.d1 9 .done)))) 6 (.d1 3 (.d1 7 (.d1 8 (.d1 9 .done)))))))))) [10] [true,false,false,false,false,false,false,true,false,false,false,true]
  kernel_rfl
  kernel_rfl
  exact zy
  (simp only[Yh,nthO];rfl)
  repeat'(first|((apply Ye _ Yf2);exact za;exact rfl;exactλ_ hw=>JC s.cells (by omega) (hrx zk) hw;rintro _ _ ⟨A1,cap1,rfl,rfl⟩)|(apply Ua T T2;(iterate 7 exact rfl);intro gv)|(apply Xd [cels A1 cap1 s.cells,blk gv (.cells #[.int .i64 slot,.int .i64 (o:Int),.int .i64 l.1,.int .i64 l.2.1,.int .i64 id] 64 (0,0))] _ YxJ;exact za;try exact zl;exact zp;exact rfl;exactλ_ hw=>Yhy s.cells _ (slot,(o:Int),l.1,l.2.1,id) hpl (by omega) hw;rintro _ _ ⟨A2,cap2,rfl,rfl⟩)|(apply Yus;(simp only[nthO];rfl))|(apply Yuq;(simp only[nthO];rfl);exact zp)|(apply Yur;(simp only[nthO];rfl);(simp only[nthO];rfl);exact zp)|(apply YiK;try exact zl)|refine zgd ?_|fail)
  all_goals(
   refine Yao [blk g9 (.cells #[.bool true] 4 (0,0)),grdA g8 n ⟨s.len,s.off,A2,cap2,insC s.cells (slot,(o:Int),l.1,l.2.1,id)⟩,cels A2 cap2 (insC s.cells (slot,(o:Int),l.1,l.2.1,id))] ⟨rfl,A2,cap2,(o:Int),hsl,rfl⟩ ?_
   dsimp only[List.cons_append,List.nil_append]
   unfold insC
   exact zk)
 ·rintro D ⟨⟩ hI
  have hnone:=YlP (id:=id) hh hI
  dsimp only[List.cons_append,List.nil_append]
  refine zX2 ?_
  apply Jc Ys
  apply VQ_m
  apply Yc6 T (H2:=[many R]);(iterate 3 exact rfl);(focus exact zc2);(focus exact zc2);(iterate 3 exact rfl);(intro w hw;refine hw.perm ?_;focus exact zc3)
  exact .inr (.inl ⟨rfl,hnone,rfl⟩)
 ·rintro D e K ⟨rfl,A,cap,o,hsl,rfl⟩ hjmp
  dsimp only[List.cons_append,List.nil_append]
  refine zX2 ?_
  apply Jc Ys
  apply VQ_m
  apply Yc6 T (H2:=[cels A cap (insC s.cells (slot,o,l.1,l.2.1,id)),many R]);(iterate 3 exact rfl);(focus exact zc2);(focus exact zc2);(iterate 3 exact rfl);(intro w hw;refine hw.perm ?_;focus exact zc3)
  exact .inr (.inr ⟨A,cap,_,rfl,hsl,rfl⟩)
variable {n:Net}
theorem Sm.few{l:List Flw}{s:Sch}(h:Sm n l s)(hl:s.len<=24):s.cells.length<=768:=by
 have hok:=YC h.ck
 have hnd:(s.cells.map λc=>c.1*32+YE c).Nodup:=by
  refine NV.2 (h.once.imp_of_mem λ{a b} ha hb hab e=>?_)
  have h1:=XL hok (h.good a ha).1
  have h2:=XL hok (h.good b hb).1
  have hn:=hok.n1
  grind [YH]
 have:=Go.Nw.nodup_len 768 _ hnd λx hx=>by
  obtain⟨c,hc,rfl⟩:=TC.1 hx
  have h1:=XL hok (h.good c hc).1
  have hn:=hok.n1
  have hf:=h.formed c hc
  unfold Jf ZT insE at hf
  grind
 simp_all
variable {B:Nat}{w0 w:World}{H:List HP}
theorem Ysi(n:NetM)(s:SchM)(l:Lk)(id slot:Int)(hck:Yo n.net=0)(hl:s.cells.length<=900)(hoff:0<=s.off/\s.off<=16)(ho:Ord s.cells)(hin:n.In B w0 H)(hr:Rd B w0 H s.A (s.cells.flatMap celF))(hw:St B w0 H w):
 CX B w0 344 [grdV n s,lkV l,.int .i64 id,.int .i64 slot] w λv K=>
  (v=.tuple #[grdV n s,.bool true]/\J1 n.net s.sch l.1 l.2.1 id slot=some s.sch/\K=H)\/
  (v=.tuple #[grdV n s,.bool false]/\J1 n.net s.sch l.1 l.2.1 id slot=none/\K=H)\/
  ∃A cap c,v=.tuple #[grdV n ⟨s.len,s.off,A,cap,insC s.cells c⟩,.bool true]/\J1 n.net s.sch l.1 l.2.1 id slot=some ⟨s.len,s.off,insC s.cells c⟩/\K=cels A cap (insC s.cells c)::H:=by
 have hop:∀w,St B w0 [many H] w->St B w0 H w:=λw hw=>hw.perm (.openT H)
 refine(Ymi n s l id slot hck hl hoff ho (R:=H) (hin.mono hop) (hr.mono hop) (hw.perm (.closeT H))).mono ?_
 rintro e w' ⟨v,K,h1,hst,h⟩
 rcases h with⟨h2,h3,rfl⟩|⟨h2,h3,rfl⟩|⟨A,cap,c,h2,h3,rfl⟩
 ·exact⟨v,_,h1,hop _ hst,.inl ⟨h2,h3,rfl⟩⟩
 ·exact⟨v,_,h1,hop _ hst,.inr (.inl ⟨h2,h3,rfl⟩)⟩
 ·exact⟨v,_,h1,hst.perm (.cons _ (.openT H)),.inr (.inr ⟨A,cap,c,h2,h3,rfl⟩)⟩
structure ReM where
 i:Nat
 s:SchM
 z:Int
 L:List HP
theorem Yl3(m k:Nat)(h:k<m):(List.range m).drop k=k::(List.range m).drop (k+1):=by
 grind [Rl]
theorem YlH{r:List Int}{k:Nat}(h:k+1<r.length):(Yp n r).drop k=Z4 n r k::(Yp n r).drop (k+1):=by
 unfold Yp
 rw[<-N4,<-N4,Yl3 _ _ (by omega),Rh]
abbrev flwA(g:Nat)(f:Flw):HP:=blk g (.cells #[.int .i64 f.1,.int .i64 f.2.1,.int .i64 f.2.2.1,.int .i64 f.2.2.2.1,.int .i64 f.2.2.2.2.1,.int .i64 f.2.2.2.2.2] 53 (0,0))
theorem Yo6(n:Net)(a b id:Int)(f:Nat)(s:Sch)(z:Int):hopA n a b id f 0 s z=some (s,z):=by cases f<;>rfl
structure FilI(n:NetM)(L:List Flw)(len off:Int)(B:Nat)(w0:World)(H:List HP)(s:SchM)(P:List HP):Prop where
 sm:Sm n.net L s.sch
 len:s.len=len
 off:s.off=off
 rd:Rd B w0 (many P::[many H]) s.A (s.cells.flatMap celF)
theorem Yfr(n:NetM)(L:List Flw)(s:SchM)(f:Flw)(r:RowM)(at_:Int)(hsm:Sm n.net L s.sch)(h24:s.len<=24)(hk:∀x∈Yp n.net r.xs,LkOk n.net L x.1 x.2.1 f.1)(hkey:∀i,i+1<r.xs.length->0<=Yt n.net (r.xs.getD i 0) (r.xs.getD (i+1) 0))
 (hrl:1<=r.xs.length/\r.xs.length<=9) (hat:0<=at_/\at_<=1000) (hd:0<=f.2.2.2.2.2/\f.2.2.2.2.2<=512) {R:List HP}(hin:n.In B w0 H) (hr:Rd B w0 H s.A (s.cells.flatMap celF)) (hrr:Rd B w0 H r.A (r.xs.flatMap numF)) (hw:St B w0 (many R::H) w):
 CX B w0 273 [grdV n s,flwV f,.slice r.A r.xs.length r.cap,.int .i64 at_] w λv K=>∃s' ok P,v=.tuple #[grdV n s',.bool ok]/\
  (ok=true->relA n.net f.1 (at_+f.2.2.2.2.2) (Yp n.net r.xs) s.sch at_=some s'.sch/\Rd B w0 (many P::H) s'.A (s'.cells.flatMap celF))/\(ok=false->relA n.net f.1 (at_+f.2.2.2.2.2) (Yp n.net r.xs) s.sch at_=none)/\K=many P::many R::H:=by
 refine Yc Tryz.func273 Tryz.ntmps273 rfl rfl hw ?_
 have hop:∀w,St B w0 [many H] w->St B w0 H w:=λw hw=>hw.perm (.openT H)
 have hin:=hin.mono hop
 have hr:=hr.mono hop
 have hrr:=hrr.mono hop
 have hok:=YC hsm.ck
 obtain⟨endd,hend⟩:∃e,at_+f.2.2.2.2.2=e:=⟨_,rfl⟩
 obtain⟨RR,hRR⟩:∃R,relA n.net f.1 endd (Yp n.net r.xs) s.sch at_=R:=⟨_,rfl⟩
 rw[hend,hRR]
 have hsz:1<=s.len/\s.len<=512/\1<=s.off/\s.off<=16:=Rj hsm.sized
 refine ZW (many R::[many H]) (λw hw=>hw.perm (.cons _ (.closeT H))) ?_
 refine ZW (many []::many R::[many H]) (λw hw=>hw.perm (.noMany _)) ?_
 unfold grdV flwV
 refine zX72 ?_<;>intros
 rename_i g4 g5 g8
 rw[hend]
 refine Yg (λz:ReM=>[(11,.int .i64 (z.i:Nat)),(10,.int .i64 endd),(9,.bool false),(3,.int .i64 z.z),(2,.slice r.A r.xs.length r.cap),(4,.pointer (some ⟨g4,0,none⟩)),(5,.pointer (some ⟨g5,0,none⟩)),(8,.pointer (some ⟨g8,0,none⟩))])
  (λz=>grdA g4 n z.s::flwA g5 f::blk g8 (.cells #[.int .i64 0,.slice none 0 0,.int .i64 0,.int .i64 0,.slice none 0 0,.slice none 0 0,.int .i64 0,.int .i64 0,.slice none 0 0] 292 (0,0))::many z.L::many R::[many H])
  (λz=>(1<=z.i/\z.i<=r.xs.length)/\FilI n L s.len s.off B w0 H z.s z.L/\(0<=z.z/\z.z<=endd)/\relA n.net f.1 endd ((Yp n.net r.xs).drop (z.i-1)) z.s.sch z.z=RR) (λz=>r.xs.length-z.i) ⟨1,s,at_,[]⟩ ⟨⟨by show 1<=1;omega,hrl.1⟩,⟨hsm,rfl,rfl,hr.cons⟩,⟨hat.1,by show at_<=endd;omega⟩,hRR⟩ ?_ ?_ ?_
 ·exact zc1
 ·intro w hw
  have h5:St B w0 (grdA g4 n s::flwA g5 f::blk g8 (.cells (Value.agg #[.int .i64 0,.slice none 0 0,.int .i64 0,.int .i64 0,.slice none 0 0,.slice none 0 0,.int .i64 0,.int .i64 0,.slice none 0 0]).cells 292 (0,0))::many []::many R::[many H]) w:=by
   revert w
   exact zc0
  exact h5
 rintro⟨i,s1,z,P⟩ ⟨⟨hi1,hi2⟩,hF,hz,hrel⟩ K hK
 dsimp only at hi1 hi2 hF hz hrel⊢
 by_cases hlt:i<r.xs.length
 rotate_left
 ·obtain rfl:i=r.xs.length:=by omega
  clear hK
  rw[Ru (by unfold Yp;simp)]at hrel
  refine zX1 ?_<;>intros
  apply Yq T (H2:=many P::many R::H);(iterate 3 exact rfl);(focus exact zc2);exact rfl;exact rfl
  ·intro w hw
   have h5:St B w0 (many P::many R::[many H]) w:=by
    revert w
    exact zc0
   exact zc76
  exact zc83
 obtain⟨k,rfl⟩:∃k,i=k+1:=⟨i-1,by omega⟩
 rw[SK,YlH hlt]at hrel
 obtain⟨a,ha⟩:∃a,r.xs[(((k+1:Nat):Int)-1).toNat]? =some a:=⟨_,Ta (by omega)⟩
 obtain⟨b,hb⟩:∃b,r.xs[((k+1:Nat):Int).toNat]? =some b:=⟨_,Ta (by omega)⟩
 have ha2:r.xs.getD k 0=a:=by rw[Tu,<-show(((k+1:Nat):Int)-1).toNat=k by omega,ha];rfl
 have hb2:r.xs.getD (k+1) 0=b:=by rw[Tu,<-show((k+1:Nat):Int).toNat=k+1 by omega,hb];rfl
 have hfi:=hkey k hlt
 rw[ha2,hb2]at hfi
 have hfl:=XR hfi
 have hlk:n.links[(Yt n.net a b).toNat]? =some (Z4 n.net r.xs k):=by
  unfold Z4
  rw[ha2,hb2]
  obtain⟨x,hx⟩:∃x,n.links[(Yt n.net a b).toNat]? =some x:=⟨_,Ta hfl⟩
  rw[JU (n:=n.net) hx];exact hx
 obtain⟨lk,hlkd⟩:∃lk,Z4 n.net r.xs k=lk:=⟨_,rfl⟩
 rw[hlkd]at hlk hrel
 have pi:=λ{H':List HP}{w:World}(hin:n.In B w0 H') (hw:St B w0 H' w)=>Zv n a b hin hw
 rw[show Zn n.net a b=Yt n.net a b by unfold Zn;rw[Tf (λe=>e hsm.ck)]]at pi
 unfold NetM.val at pi
 have hnl:n.links.length<=128:=hok.k0
 have hnlk:=hin.lk
 have hfl2:(Yt n.net a b).toNat<n.links.length:=hfl
 refine zX3 ?_<;>intros
 refine Zf (λg12:Nat=>[(12,.pointer (some ⟨g12,0,none⟩)),(11,.int .i64 ((k+1:Nat):Int)),(10,.int .i64 endd),(9,.bool false),(3,.int .i64 z),(2,.slice r.A r.xs.length r.cap),(4,.pointer (some ⟨g4,0,none⟩)),(5,.pointer (some ⟨g5,0,none⟩)),(8,.pointer (some ⟨g8,0,none⟩))])
  (λg12=>lnkA g12 lk::grdA g4 n s1::flwA g5 f::blk g8 (.cells #[.int .i64 0,.slice none 0 0,.int .i64 0,.int .i64 0,.slice none 0 0,.slice none 0 0,.int .i64 0,.int .i64 0,.slice none 0 0] 292 (0,0))::many P::many R::[many H]) ?_ ?_
 ·intro K2 hK2
  apply ZN (.n1 0 (.n1 1 (.n1 2 (.n1 3 (.n1 4 (.n1 5 (.n1 6 (.n1 7 (.n1 8 (.n1 9 (.n1 10 (.n1 11 (.n1 12 (.n1 13 (.n2 14 (.n1 15 (.n1 16 (.n1 17 .done))) 17 (.n1 14 (.n1 15 (.n1 16 .done)))))))))))))))))) [18] [true,true,true,true,true,true]
  kernel_rfl
  kernel_rfl
  exact zy
  (simp only[Yh,nthO];rfl)
  repeat'(first|((first|apply Ya Xw|apply Yb Xw);exact za;exact rfl;exactλ_ hw=>(pi (hin.mono zk) hw))|(apply Yk T;exact rfl;exact zm;exact rfl;exact zv;exact rfl;exact rfl)|(apply Yl;try exact zl)|apply(zs91 ?_ ?_)|(apply YG;try exact zl)|refine zgd ?_|(refine zgh ?_;intro _)|fail)
  all_goals(
   rename_i g12
   apply hK2 g12
   ·exact zu
   ·exact zk)
 rintro g12
 dsimp only
 have hlb:=US hok (r.xs.getD k 0) (r.xs.getD (k+1) 0)
 have hlb2:0<=lk.2.2/\lk.2.2<=7:=by rw[<-hlkd];exact hlb
 obtain⟨HR,hHR⟩:∃R,hopA n.net lk.1 lk.2.1 f.1 (endd-z).toNat (Y7 lk) s1.sch z=R:=⟨_,rfl⟩
 rw[relA,hHR]at hrel
 have hnd:lk.2.2+1=((Y7 lk:Nat):Int):=by unfold Y7;omega
 have hkl:LkOk n.net L lk.1 lk.2.1 f.1:=hk lk (by rw[<-hlkd];exact Sr (TQ.2 (by omega)))
 refine zX11 ?_
 rw[hnd]
 refine Yg (λy:ReM=>[(13,.int .i64 (y.i:Nat)),(12,.pointer (some ⟨g12,0,none⟩)),(11,.int .i64 ((k+1:Nat):Int)),(10,.int .i64 endd),(9,.bool false),(3,.int .i64 y.z),(2,.slice r.A r.xs.length r.cap),(4,.pointer (some ⟨g4,0,none⟩)),(5,.pointer (some ⟨g5,0,none⟩)),(8,.pointer (some ⟨g8,0,none⟩))])
  (λy=>lnkA g12 lk::grdA g4 n y.s::flwA g5 f::blk g8 (.cells #[.int .i64 0,.slice none 0 0,.int .i64 0,.int .i64 0,.slice none 0 0,.slice none 0 0,.int .i64 0,.int .i64 0,.slice none 0 0] 292 (0,0))::many y.L::many R::[many H])
  (λy=>FilI n L s.len s.off B w0 H y.s y.L/\(0<=y.z/\y.z<=endd)/\y.i<=8/\hopA n.net lk.1 lk.2.1 f.1 (endd-y.z).toNat y.i y.s.sch y.z=HR) (λy=>(endd-y.z).toNat) ⟨Y7 lk,s1,z,P⟩ ⟨hF,hz,by show Y7 lk<=8;omega,hHR⟩ ?_ ?_ ?_
 ·exact zc1
 ·exact zc0
 clear hF hz hHR
 rintro⟨m,s2,y,P2⟩ ⟨hF,hz,hm8,hHR⟩ K2 hK2
 dsimp only at hF hz hm8 hHR⊢
 cases m with
 |zero=>
  rw[Yo6]at hHR
  subst hHR
  dsimp only at hrel
  clear hK2
  refine zX25 ?_<;>intros
  apply hK ⟨k+1+1,s2,y,P2⟩
  ·exact⟨⟨by show 1<=k+1+1;omega,by show k+1+1<=_;omega⟩,hF,hz,hrel⟩
  ·exact zc39
  ·exact zc1
  ·exact zc0
 |succ m=>
 by_cases hlt2:y<endd
 rotate_left
 ·rw[show(endd-y).toNat=0 by omega,hopA]at hHR
  subst hHR
  dsimp only at hrel
  clear hK2 hK
  refine zX25 ?_<;>intros
  apply Yq T (H2:=many P2::many R::H);(iterate 3 exact rfl);(focus exact zc2);exact rfl;exact rfl
  ·intro w hw
   have h5:St B w0 (many P2::many R::[many H]) w:=by
    revert w
    exact zc0
   exact zc76
  exact⟨s2,false,P2,rfl,λh=>(by cases h),λ_=>hrel.symm,rfl⟩
 have hfew:=hF.sm.few (by show s2.len<=24;rw[hF.len];exact h24)
 have h2l:=hF.len
 have h2o:=hF.off
 have ps:=λ{H':List HP}{w:World}(hin:n.In B w0 H') (hr:Rd B w0 H' s2.A (s2.cells.flatMap celF)) (hw:St B w0 H' w)=>Ysi n s2 lk f.1 (y%s2.len) hsm.ck (by have:s2.sch.cells.length=s2.cells.length:=rfl;omega) ⟨by omega,by omega⟩ hF.sm.ord hin hr hw
 unfold grdV lkV at ps
 rw[show(endd-y).toNat=(endd-(y+1)).toNat+1 by omega,hopA,RE hz.1]at hHR
 refine zX43 ?_<;>intros
 apply U9 [0,1,2,3,4,5,6,7,8,9,10,12,11] [12,13,14] [13,14] [true,true,true,true,true,true,true]
 kernel_rfl
 kernel_rfl
 exact zy
 (simp only[Yh,nthO];rfl)
 (simp only[Yh,nthO];rfl)
 refine zX2 ?_
 apply Ye _ YxC
 exact za
 exact rfl
 exactλ_ hw=>(ps (hin.mono zc0) (hF.rd.mono zc0) (hw))
 rintro _ _ (⟨rfl,hs,rfl⟩|⟨rfl,hs,rfl⟩|⟨A3,cap3,c3,rfl,hs,rfl⟩)
 ·rw[show J1 n.net s2.sch lk.1 lk.2.1 f.1 (y%s2.sch.len)=some s2.sch from hs]at hHR
  dsimp only at hHR
  refine zX18 ?_
  rw[show((m+1:Nat):Int)-1=(m:Nat) by omega]
  apply hK2 ⟨m,s2,y+1,P2⟩
  ·exact⟨hF,⟨by show 0<=y+1;omega,by show y+1<=endd;omega⟩,by show m<=8;omega,hHR⟩
  ·exact zc39
  ·exact zc1
  ·exact zc0
 ·rw[show J1 n.net s2.sch lk.1 lk.2.1 f.1 (y%s2.sch.len)=none from hs]at hHR
  dsimp only at hHR
  refine zX18 ?_
  apply hK2 ⟨m+1,s2,y+1,P2⟩
  ·exact⟨hF,⟨by show 0<=y+1;omega,by show y+1<=endd;omega⟩,hm8,hHR⟩
  ·exact zc39
  ·exact zc1
  ·exact zc0
 ·rw[show J1 n.net s2.sch lk.1 lk.2.1 f.1 (y%s2.sch.len)=some ⟨s2.len,s2.off,insC s2.cells c3⟩ from hs]at hHR
  dsimp only at hHR
  have hmz:0<=y%s2.len/\y%s2.len<s2.len:=⟨Int.emod_nonneg _ (by omega),Int.emod_lt_of_pos _ (by omega)⟩
  obtain⟨hsm3,-,-⟩:=Yky hF.sm hkl hmz hs
  have hop3:∀w,St B w0 (many (cels A3 cap3 (insC s2.cells c3)::[many P2])::[many H]) w->St B w0 (cels A3 cap3 (insC s2.cells c3)::many P2::[many H]) w:=λw hw=>hw.perm (.open_ [_,_] [many H])
  refine zX18 ?_
  rw[show((m+1:Nat):Int)-1=(m:Nat) by omega]
  apply hK2 ⟨m,⟨s2.len,s2.off,A3,cap3,insC s2.cells c3⟩,y+1,cels A3 cap3 (insC s2.cells c3)::[many P2]⟩
  ·exact⟨⟨hsm3,h2l,h2o,(Rd.sl (.head _)).mono hop3⟩,⟨by show 0<=y+1;omega,by show y+1<=endd;omega⟩,by show m<=8;omega,hHR⟩
  ·exact zc39
  ·exact zc1
  ·intro w hw
   have h5:St B w0 (lnkA g12 lk::grdA g4 n ⟨s2.len,s2.off,A3,cap3,insC s2.cells c3⟩::flwA g5 f::blk g8 (.cells #[.int .i64 0,.slice none 0 0,.int .i64 0,.int .i64 0,.slice none 0 0,.slice none 0 0,.int .i64 0,.int .i64 0,.slice none 0 0] 292 (0,0))::cels A3 cap3 (insC s2.cells c3)::many P2::many R::[many H]) w:=by
    revert w
    exact zc0
   exact h5.perm (.cons _ (.cons _ (.cons _ (.cons _ (.close [_,_] (many R::[many H]))))))
end Go.Proofs.YtaholidehobiiaaGreatDoor
