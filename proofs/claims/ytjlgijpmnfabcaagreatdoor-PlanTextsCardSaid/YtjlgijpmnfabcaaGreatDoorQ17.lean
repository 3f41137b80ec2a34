/- Lemmas. -/
import Derived.Test.YtjlgijpmnfabcaaGreatDoorQ14
import Derived.Test.YtjlgijpmnfabcaaGreatDoorQ15
set_option maxRecDepth 100000
set_option maxHeartbeats 8000000
set_option linter.all false
namespace Go.Proofs.YtjlgijpmnfabcaaGreatDoor
open Go.RowKit Go.Eng Go.Nw Go.Rt
def hasQ(q:List Rqs)(id:Int):Bool:=q.any λy=>decide (y.1.1=id)
def Jw(n:Net)(q:List Rqs)(s:Sch)(x:Rqs):Sch×Int:=
 if(YO n q s).2.2≠0 then(XI,1)else if hasQ q x.1.1=true then(XI,6)else if(rqsE n (insQ q x)).2≠0 then(XI,1)
 else if s.len.tmod x.1.2.2.2.1≠0 then(XI,11)else match Jm n x.1 x.2 s with
  |none=>(XI,18)
  |some t=>if 512<t.cells.length then(XI,8)else(t,0)
structure AllS where
 s:Sch
 q:List Rqs
 at_:List Int
def Ybz(n:Net)(r:AllS)(k:Nat)(x:Rqs):AllS:=
 if(Jw n r.q r.s x).2=0 then⟨(Jw n r.q r.s x).1,r.q++[x],r.at_++[(k:Int)]⟩else r
def Wq(n:Net)(q:List Rqs)(len off:Int):Nat->AllS
 |0=>⟨⟨len,off,[]⟩,[],[]⟩
 |k+1=>Ybz n (Wq n q len off k) k (rqAt q k)
def Xd(n:Net)(q:List Rqs)(len off:Int):(Sch×List Int)×Int:=
 if Yo n≠0\/(rqsE n q).2≠0 then((XI,[]),1)else if len<1\/512<len\/off<1\/16<off then((XI,[]),2)
 else if(q.any λx=>decide (len.tmod x.1.2.2.2.1≠0))=true then((XI,[]),11)else(((Wq n q len off q.length).s,(Wq n q len off q.length).at_),0)
def YdC(n:Net)(q:List Rqs)(s:Sch):Sch×Int:=if(YO n q s).2.2≠0 then(XI,1)else(YvY n q s,0)
def Yse(s:Sch)(id:Int):Sch:=⟨s.len,s.off,s.cells.filter λc=>decide (Xo c≠id)⟩
def QA(s:Sch)(id:Int):Sch×Int:=if Y1 s=false then(XI,1)else(Yse s id,0)
variable {q:List Rqs}
theorem Ylx{id:Int}(h:hasQ q id=false):∀y∈q,y.1.1≠id:=λy hy e=>by
 unfold hasQ at h
 rw[RJ]at h
 exact h y hy (Td e)
variable {n:Net}{x:Rqs}
theorem Ymn{s:Sch}(h:(Jw n q s x).2=0):(YO n (insQ q x) (Jw n q s x).1).2.2=0/\Grow x.1.1 s (Jw n q s x).1/\(∀y∈q,y.1.1≠x.1.1)/\(rqsE n (insQ q x)).2=0:=by
 unfold Jw at h⊢
 by_cases h1:(YO n q s).2.2=0
 rotate_left
 ·rw[Tn h1]at h;cases h
 rw[Tf (λe=>e h1)]at h⊢
 cases h2:hasQ q x.1.1 with
 |true=>rw[h2,Tn rfl]at h;cases h
 |false=>
 rw[h2,Tf (by decide)]at h
 rw[Tf (by decide)]
 by_cases h3:(rqsE n (insQ q x)).2=0
 rotate_left
 ·rw[Tn h3]at h;cases h
 rw[Tf (λe=>e h3)]at h⊢
 by_cases h4:s.len.tmod x.1.2.2.2.1=0
 rotate_left
 ·rw[Tn h4]at h;cases h
 rw[Tf (λe=>e h4)]at h⊢
 cases h5:Jm n x.1 x.2 s with
 |none=>rw[h5]at h;cases h
 |some t=>
  rw[h5]at h
  dsimp only at h⊢
  by_cases h6:512<t.cells.length
  ·rw[Tn h6]at h;cases h
  rw[Tf h6]
  obtain⟨k1,k2⟩:=YfI h1 h3 (Ylx h2) h4 h5 (by omega)
  exact⟨k1,k2,Ylx h2,h3⟩
theorem Yik{id:Int}:∀{q:List Rqs},(∀y∈q,y.1.1<id)->posQ q id=q.length
 |[],_=>rfl
 |y::q,h=>by
  unfold posQ
  rw[List.takeWhile_cons,Tn (Td (h y TB)),T0,T0]
  exact TG (·+1) (Yik λz hz=>h z (TD _ hz))
theorem Ym6(h:∀y∈q,y.1.1<x.1.1):insQ q x=q++[x]:=by
 unfold insQ
 rw[Yik h,TM,R9]
theorem Yqa(h:(rqsE n q).2=0){i j:Nat}(hij:i<j)(hj:j<q.length):(rqAt q i).1.1<(rqAt q j).1.1:=by
 obtain⟨-,hfl,-⟩:=VM h
 have:=YeL hfl hij (by unfold YR;rw[Tt];exact hj)
 have hat:∀{i:Nat},i<q.length->Xp (YR q) i=(rqAt q i).1:=λ{i} hi=>by
  unfold Xp YR
  rw[Tz,TJ,Vl hi];rfl
 rw[hat (by omega),hat hj]at this
 exact this
theorem YfT{len off:Int}(hck:Yo n=0)(hl:1<=len/\len<=512)(ho:1<=off/\off<=16):(YO n [] ⟨len,off,[]⟩).2.2=0:=by
 have hn:=YK hck
 refine Za.2 ⟨Zw.2 (JM.2 ⟨hck,?_,(λf hf=>by cases hf),⟨?_,Ti _,(λc hc=>by cases hc),.nil⟩,(λc hc=>by cases hc),.nil,(λc hc=>by cases hc)⟩),(λx hx=>by cases hx)⟩
 ·have h1:=hn.n0;have h2:=hn.n1
  unfold YE YR
  rw[Tf (by omega)]
  rfl
 ·exact Td ⟨hl.1,hl.2,ho.1,ho.2⟩
structure AllI(n:Net)(q:List Rqs)(len off:Int)(k:Nat)(r:AllS):Prop where
 ok:(YO n r.q r.s).2.2=0
 mem:∀y∈r.q,∃i,i<k/\y=rqAt q i
 len:r.s.len=len
 off:r.s.off=off
 cnt:r.at_.length=r.q.length
 few:r.q.length<=k
 all:r.q.length=k->r.q=q.take k
 idx:∀i∈r.at_,0<=i/\i<k
theorem YbA{n:Net}{q:List Rqs}{len off:Int}(hq:(rqsE n q).2=0)(hl:1<=len/\len<=512)(ho:1<=off/\off<=16):∀k,k<=q.length->AllI n q len off k (Wq n q len off k)
 |0,_=>⟨YfT (VM hq).1 hl ho,(λy hy=>by cases hy),rfl,rfl,rfl,TI _,(λ_=>by rw[S7];rfl),(λi hi=>by cases hi)⟩
 |k+1,hk=>by
  have ih:=YbA hq hl ho k (by omega)
  unfold Wq Ybz
  generalize Wq n q len off k=r at ih
  by_cases h:(Jw n r.q r.s (rqAt q k)).2=0
  ·rw[Tn h]
   obtain⟨h1,h2,-,-⟩:=Ymn h
   have hlt:∀y∈r.q,y.1.1<(rqAt q k).1.1:=λy hy=>by
    obtain⟨i,hi,rfl⟩:=ih.mem y hy
    exact Yqa hq hi (by omega)
   rw[Ym6 hlt]at h1
   refine⟨h1,λy hy=>?_,h2.len.trans ih.len,h2.off.trans ih.off,?_,?_,λe=>?_,λi hi=>?_⟩
   ·rcases TU.1 hy with hy|hy
    ·obtain⟨i,hi,e⟩:=ih.mem y hy
     exact⟨i,by omega,e⟩
    ·exact⟨k,by omega,TX.1 hy⟩
   ·show(r.at_++[(k:Int)]).length=(r.q++[rqAt q k]).length
    rw[Tq,Tq,ih.cnt];rfl
   ·show(r.q++[rqAt q k]).length<=k+1
    have:=ih.few
    rw[Tq,TO];omega
   ·have e:(r.q++[rqAt q k]).length=k+1:=e
    rw[Tq,TO]at e
    show r.q++[rqAt q k]=_
    rw[ih.all (by omega),TF,Vl (by omega)];rfl
   ·rcases TU.1 hi with hi|hi
    ·have:=ih.idx i hi;omega
    ·have:=TX.1 hi;omega
  ·rw[Tf h]
   refine⟨ih.ok,λy hy=>?_,ih.len,ih.off,ih.cnt,by have:=ih.few;omega,λe=>by have:=ih.few;omega,λi hi=>by have:=ih.idx i hi;omega⟩
   obtain⟨i,hi,e⟩:=ih.mem y hy
   exact⟨i,by omega,e⟩
end Go.Proofs.YtjlgijpmnfabcaaGreatDoor
namespace Go.Eng
open Go.RowKit
section
variable {P:Program}{n:Shp}{B:Nat}{w0:World}{Q:Exit->Act->World->Prop}{env:Env}{H:List HP}{m:Mode}{ops:Array Oper}{rest:List Oper}{d:Nat}{ty:TypeId}{pos:String}{after:Array Edge}
variable {a b:Int}
theorem Yl9{x y:Operand}{k:IntKind}{xt yt:TypeId}(hx:evo env x=some (.int k a))(hy:evo env y=some (.int k b))(hn:Nat.ble (d+1) n.k=true)(h:VL P m n B w0 ops Q rest ((d,.int k (bits .andNot k a b))::env) H):
 VL P m n B w0 ops Q (⟨some d,.binOp .andNot xt x y yt,ty,pos,after,none⟩::rest) env H:=YS hx hy hn (λ_=>rfl) (λ_=>by rw[show binOp .andNot xt (.int k a) (.int k b)=Op.intBits .andNot k a b by simp[binOp]];rfl) h
end
end Go.Eng
namespace Go.Proofs.YtjlgijpmnfabcaaGreatDoor
open Go.RowKit Go.Eng Go.Nw Go.Rt
def pow1(o:Int):Int:=IntKind.i64.wrap (1*2^o.toNat)
theorem YrQ{o:Int}(h:0<=o/\o<=16):1<=pow1 o/\pow1 o<=65536:=by
 have key:∀n:Nat,n<17->1<=IntKind.i64.wrap (1*2^n)/\IntKind.i64.wrap (1*2^n)<=65536:=by decide+kernel
 exact key o.toNat (by omega)
def QO(m:List Int)(c:Cel):List Int:=m.set c.1.toNat (bits .andNot .i64 (m.getD c.1.toNat 0) (pow1 c.2.1))
def VF(s:Sch):List Int:=s.cells.foldl QO (List.replicate s.len.toNat (pow1 s.off-1))
def Jg(s:Sch):List Int×Int:=if Y1 s=false then([],1)else(VF s,0)
theorem Ypy(m:List Int)(c:Cel):(QO m c).length=m.length:=TQ
theorem UH:∀(cs:List Cel) (m:List Int),(cs.foldl QO m).length=m.length
 |[],_=>rfl
 |c::cs,m=>by rw[List.foldl_cons,UH cs,Ypy]
variable {a b:Int}
theorem YrR{n i:Nat}(h:i<n):(List.replicate i a++List.replicate (n-i) b).set i a=List.replicate (i+1) a++List.replicate (n-(i+1)) b:=by
 obtain⟨k,rfl⟩:∃k,n=i+(k+1):=⟨n-i-1,by omega⟩
 rw[show i+(k+1)-i=k+1 by omega,show i+(k+1)-(i+1)=k by omega,Nh _ _ (by simp),Rj,NC,S0,Ny,List.replicate_succ' (n:=i),Re];rfl
theorem Yp3(n:Nat)(x:Int):(List.replicate 0 x++List.replicate (n-0) 0).flatMap numF=List.replicate n (Value.int .i64 0):=by
 rw[Ns,TE,Nat.sub_zero]
 induction n with
 |zero=>rfl
 |succ n ih=>rw[S0,TN,ih,S0];rfl
variable {B:Nat}{w0 w:World}{H:List HP}
theorem YhF(s:SchM)(ht:TabsB B w0)(hr:Rd B w0 H s.A (s.cells.flatMap celF))(hl:s.cells.length<=1000000000000)(hw:St B w0 H w):
 CX B w0 104 [s.val] w λv K=>v=.bool (Y1 s.sch)/\K=H:=by
 refine Ya Tryz.func104 Tryz.ntmps104 rfl rfl hw ?_
 have p1:=λ{H':List HP}{w:World}(hr:Rd B w0 H' s.A (s.cells.flatMap celF)) (hw:St B w0 H' w)=>VH s ht hr hl hw
 unfold SchM.val at p1⊢
 refine zX70 ?_<;>intros
 first|apply Yb en11|apply Yc en11
 exact za
 exact rfl
 exactλ_ hw=>(p1 hr.cons hw)
 cases hf:Y1 s.sch with
 |false=>
  rw[show(Y3 s.sch).2=1 by simp_all [Y3]]
  refine Yab ?_<;>intros
  apply Yh H
  ·exact zc0
  exact zc13
 |true=>
  rw[show(Y3 s.sch).2=0 by simp_all [Y3]]
  refine Yab ?_<;>intros
  apply Yh H
  ·exact zc0
  exact zc13
theorem YjQ(s:SchM)(hf:Frm s.sch)(hr:Rd B w0 H s.A (s.cells.flatMap celF))(hw:St B w0 H w):
 CX B w0 105 [s.val] w λv K=>∃g,v=.slice (some ⟨g,0,none⟩) (VF s.sch).length (VF s.sch).length/\K=nrs (some ⟨g,0,none⟩) (VF s.sch).length (VF s.sch)::H:=by
 refine Ya Tryz.func105 Tryz.ntmps105 rfl rfl hw ?_
 have hsz:1<=s.len/\s.len<=512/\1<=s.off/\s.off<=16:=Rm hf.sized
 have hp:=YrQ (o:=s.off) ⟨by omega,hsz.2.2.2⟩
 have hcl:s.cells.length<=512:=hf.few
 obtain⟨n,hn⟩:∃n:Nat,s.len=n:=⟨s.len.toNat,by omega⟩
 have hp2:1<=IntKind.i64.wrap (1*2^s.off.toNat)/\IntKind.i64.wrap (1*2^s.off.toNat)<=65536:=hp
 have hm0:List.replicate s.sch.len.toNat (pow1 s.sch.off-1)=List.replicate n (IntKind.i64.wrap (1*2^s.off.toNat)-1):=by
  show List.replicate s.len.toNat _=_
  rw[hn,Rx];rfl
 have hml:(VF s.sch).length=n:=by
  unfold VF
  rw[UH,hm0,Rj]
 unfold SchM.val
 rw[hn]
 repeat'(first|(apply YgN T;(iterate 3 exact rfl);exact zi3;(iterate 3 exact rfl);omega;intro _)|refine zgb ?_|(refine zgh ?_;intro _)|fail)
 rename_i gs g
 simp only[Rx]
 refine Yg (λi:Nat=>[(12,.int .i64 (i:Nat)),(11,.int .i64 (n:Nat)),(3,.slice (some ⟨g,0,none⟩) n n),(1,.pointer (some ⟨gs,0,none⟩))])
  (λi=>sl 3 1 (some ⟨g,0,none⟩) n n ((List.replicate i (IntKind.i64.wrap (1*2^s.off.toNat)-1)++List.replicate (n-i) 0).flatMap numF)::blk gs (.cells #[.int .i64 (n:Nat),.int .i64 s.off,.slice s.A s.cells.length s.cap] 30 (0,0))::H) (λi=>i<=n) (λi=>n-i) 0 (Ti _) ?_ ?_ ?_
 ·exact zc1
 ·have e0:=Yp3 n (IntKind.i64.wrap (1*2^s.off.toNat)-1)
  rw[e0]
  exact zc0
 rintro i hi K hK
 by_cases hlt:i<n
 ·have hL:(List.replicate i (IntKind.i64.wrap (1*2^s.off.toNat)-1)++List.replicate (n-i) 0).length=n:=by
   rw[Tq,Rj,Rj];omega
  repeat'(first|(apply Xm T (f:=numF) (l:=List.replicate i (IntKind.i64.wrap (1*2^s.off.toNat)-1)++List.replicate (n-i) 0) (i:=(i:Int).toNat) (a:=IntKind.i64.wrap (1*2^s.off.toNat)-1);(iterate 3 exact rfl);exact zd;exact rfl;exactλ_=>rfl;exact rfl;omega)|refine zgd ?_|(refine zge ?_ ?_<;>intro _<;>try exact zo)|fail)
  rw[Rx,YrR hlt]
  apply hK (i+1)
  ·show i+1<=n;omega
  ·omega
  ·exact zc1
  ·exact zc0
 obtain rfl:i=n:=by omega
 rw[NC,Ns,Rr]
 clear hK
 refine zX1 ?_<;>intros
 refine Yg (λj:Nat=>[(26,.int .i64 (j:Nat)),(25,.int .i64 s.cells.length),(24,.slice s.A s.cells.length s.cap),(3,.slice (some ⟨g,0,none⟩) i i),(1,.pointer (some ⟨gs,0,none⟩))])
  (λj=>sl 3 1 (some ⟨g,0,none⟩) i i (((s.cells.take j).foldl QO (List.replicate i (IntKind.i64.wrap (1*2^s.off.toNat)-1))).flatMap numF)::blk gs (.cells #[.int .i64 (i:Nat),.int .i64 s.off,.slice s.A s.cells.length s.cap] 30 (0,0))::H) (λj=>j<=s.cells.length) (λj=>s.cells.length-j) 0 (Ti _) ?_ ?_ ?_
 ·exact zc1
 ·rw[S7,List.foldl_nil]
  exact zc0
 rintro j hj K hK
 by_cases hlt2:j<s.cells.length
 rotate_left
 ·obtain rfl:j=s.cells.length:=by omega
  rw[TM]
  clear hK
  refine zX1 ?_<;>intros
  apply Yh (nrs (some ⟨g,0,none⟩) (VF s.sch).length (VF s.sch)::H)
  ·unfold nrs
   rw[hml]
   unfold VF
   rw[hm0,show s.sch.cells=s.cells from rfl]
   exact zc0
  apply Ye;exact rfl;exact rfl
  exact⟨g,by rw[hml],rfl⟩
 obtain⟨c,hc⟩:∃c,s.cells[j]? =some c:=⟨_,Ta hlt2⟩
 obtain⟨m,hm⟩:∃m,(s.cells.take j).foldl QO (List.replicate i (IntKind.i64.wrap (1*2^s.off.toNat)-1))=m:=⟨_,rfl⟩
 have hmn:m.length=i:=by rw[<-hm,UH,Rj]
 have hnext:(s.cells.take (j+1)).foldl QO (List.replicate i (IntKind.i64.wrap (1*2^s.off.toNat)-1))=QO m c:=by
  rw[TF,hc,List.foldl_append,hm];rfl
 rw[hm]
 have hform:=hf.formed c (Tc hc)
 unfold Zu Zv insE at hform
 simp only[Tm,To]at hform
 have hc1:0<=c.1/\c.1<i:=by have:=hform.1.1.1.1;have e:s.sch.len=i:=hn;omega
 have hc2:0<=c.2.1/\c.2.1<16:=by have:=hform.1.1.1.2;have e:s.sch.off=s.off:=rfl;omega
 obtain⟨v,hv⟩:∃v,m[c.1.toNat]? =some v:=⟨_,Ta (by omega)⟩
 have hmc:QO m c=m.set c.1.toNat (bits .andNot .i64 v (IntKind.i64.wrap (1*2^c.2.1.toNat))):=by
  unfold QO;rw[Tz,hv];rfl
 refine zX44 ?_<;>intros
 apply Xc [0,1,2,3,4,5,6,7,8,9] [10]
 kernel_rfl
 kernel_rfl
 (simp only[Yd,nthO];rfl)
 (simp only[Yd,nthO];rfl)
 repeat'(first|(apply Xm T (f:=numF) (l:=m) (i:=c.1.toNat) (a:=bits .andNot .i64 v (IntKind.i64.wrap (1*2^c.2.1.toNat)));(iterate 3 exact rfl);exact zd;exact rfl;exactλ_=>rfl;exact rfl;omega)|(apply Yl9;(iterate 3 exact rfl))|refine zgd ?_|fail)
 rw[<-hmc,<-hnext]
 apply hK (j+1)
 ·show j+1<=_;omega
 ·omega
 ·exact zc1
 ·exact zc0
theorem Yec(s:SchM)(ht:TabsB B w0)(hr:Rd B w0 H s.A (s.cells.flatMap celF))(hl:s.cells.length<=1000000000000)(hw:St B w0 H w):
 CX B w0 42 [s.val] w λv K=>∃A,v=.tuple #[.slice A (Jg s.sch).1.length (Jg s.sch).1.length,.int .i64 (Jg s.sch).2]/\K=nrs A (Jg s.sch).1.length (Jg s.sch).1::H:=by
 refine Ya Tryz.func42 Tryz.ntmps42 rfl rfl hw ?_
 have p1:=λ{H':List HP}{w:World}(hr:Rd B w0 H' s.A (s.cells.flatMap celF)) (hw:St B w0 H' w)=>YhF s ht hr hl hw
 have p2:=λ(hf:Frm s.sch) {H':List HP}{w:World}(hr:Rd B w0 H' s.A (s.cells.flatMap celF)) (hw:St B w0 H' w)=>YjQ s hf hr hw
 repeat'(first|(refine zs8 ?_)|((refine zs52 ?_;intro _))|refine zga ?_|fail)
 first|apply Yb Ysg|apply Yc Ysg
 exact za
 exact rfl
 exactλ_ hw=>(p1 hr.cons hw)
 cases hf:Y1 s.sch with
 |false=>
  rw[show Jg s.sch=([],1) by simp_all [Jg]]
  repeat'(first|(refine zs48 ?_)|(refine zs71 ?_)|refine zgb ?_|fail)
  apply Yh (nrs none 0 []::H)
  ·intro w hw
   have h5:St B w0 H w:=by
    revert w
    exact zc76
   exact h5.nilSlice _ _
  exact zc81
 |true=>
  rw[show Jg s.sch=(VF s.sch,0) by simp_all [Jg]]
  repeat'(first|(refine zs8 ?_)|(refine zs47 ?_)|(refine zs72 ?_)|refine zgb ?_|fail)
  apply Yf _ YuZ
  exact za
  exact rfl
  exactλ_ hw=>(p2 (Xw.1 hf) hr.cons (hw))
  rintro _ _ ⟨g,rfl,rfl⟩
  refine zX4 ?_
  apply Yh (nrs (some ⟨g,0,none⟩) (VF s.sch).length (VF s.sch)::H)
  ·exact zc0
  exact zc81
variable {B:Nat}{w0 w:World}{H:List HP}
theorem YiI(c:Cel)(l:Lk)(hw:St B w0 H w):
 CX B w0 447 [celV c,lkV l] w λv K=>v=.bool (YC c (0,0,l.1,l.2.1,0))/\K=H:=by
 refine Ya Tryz.func447 Tryz.ntmps447 rfl rfl hw ?_
 have htc:YC c (0,0,l.1,l.2.1,0)=true↔(c.2.2.1=l.1\/c.2.2.1=l.2.1\/c.2.2.2.1=l.1\/c.2.2.2.1=l.2.1):=by unfold YC YB toC;simp_all
 obtain⟨z,hz⟩:∃z,YC c (0,0,l.1,l.2.1,0)=z:=⟨_,rfl⟩
 rw[hz]at htc⊢
 unfold lkV
 repeat'(first|refine zgc ?_|(refine zgf ?_ ?_<;>intro _<;>try exact zo)|(refine zgh ?_;intro _)|fail)
 all_goals(
  apply Yh H
  ·exact zk
  apply Ye;exact rfl;exact rfl
  cases z<;>simp at htc<;>first|exact⟨rfl,rfl⟩|(exfalso;omega))
abbrev grdA(g:Nat)(n:NetM)(s:SchM):HP:=blk g (.cells #[.int .i64 n.nodes,.slice n.pA n.rows.length n.pcap,.int .i64 n.noise,.int .i64 n.thr,.slice n.lA n.links.length n.lcap,.slice n.mA n.margin.length n.mcap,.int .i64 s.len,.int .i64 s.off,.slice s.A s.cells.length s.cap] 410 (0,0))
def grdV(n:NetM)(s:SchM):Value:=.agg #[.int .i64 n.nodes,.slice n.pA n.rows.length n.pcap,.int .i64 n.noise,.int .i64 n.thr,.slice n.lA n.links.length n.lcap,.slice n.mA n.margin.length n.mcap,.int .i64 s.len,.int .i64 s.off,.slice s.A s.cells.length s.cap]
abbrev lnkA(g:Nat)(l:Lk):HP:=blk g (.cells #[.int .i64 l.1,.int .i64 l.2.1,.int .i64 l.2.2] 145 (0,0))
abbrev intA(g:Nat)(v:Int):HP:=blk g (.cells #[.int .i64 v] 3 (0,0))
theorem Ym1(c:Cel)(l:Lk)(slot id:Int)(g7 g5 g6:Nat)(h7:intA g7 slot∈H)(h5:lnkA g5 l∈H)(h6:intA g6 id∈H)(hw:St B w0 H w):
 CX B w0 445 [celV c,.pointer (some ⟨g7,0,none⟩),.pointer (some ⟨g5,0,none⟩),.pointer (some ⟨g6,0,none⟩)] w λv K=>v=.bool (decide (c.1=slot/\YB c=l.1/\toC c=l.2.1/\Xo c=id))/\K=H:=by
 refine Ya Tryz.func445 Tryz.ntmps445 rfl rfl hw ?_
 have hb:decide (c.1=slot/\YB c=l.1/\toC c=l.2.1/\Xo c=id)=true↔c.1=slot/\c.2.2.1=l.1/\c.2.2.2.1=l.2.1/\c.2.2.2.2=id:=by unfold Xo YB toC;simp_all
 obtain⟨b,hbe⟩:∃b,decide (c.1=slot/\YB c=l.1/\toC c=l.2.1/\Xo c=id)=b:=⟨_,rfl⟩
 rw[hbe]at hb⊢
 repeat'(first|refine zgc ?_|(refine zgf ?_ ?_<;>intro _<;>try exact zo)|(refine zgh ?_;intro _)|fail)
 all_goals(
  apply Yh H
  ·exact zk
  apply Ye;exact rfl;exact rfl
  cases b<;>simp at hb<;>first|exact⟨rfl,rfl⟩|(exfalso;omega))
theorem Ym2(n:NetM)(s:SchM)(l:Lk)(id slot:Int)(hl:s.cells.length<=1000)(hr:Rd B w0 H s.A (s.cells.flatMap celF))(hw:St B w0 H w):
 CX B w0 433 [grdV n s,lkV l,.int .i64 id,.int .i64 slot] w λv K=>v=.bool (hasC s.cells slot l.1 l.2.1 id)/\K=H:=by
 refine Ya Tryz.func433 Tryz.ntmps433 rfl rfl hw ?_
 unfold grdV lkV
 repeat'(first|(apply zg23;first|(refine zs52 ?_;intro _)|(refine zs53 ?_;intro _))|(apply zg29;(apply Yr;exact za;exact rfl))|refine zgb ?_|fail)
 rename_i g4 g5 g6 g7
 first|apply Yb Ylh|apply Yc Ylh
 exact za
 exact rfl
 exactλ_ hw=>(WL (λc=>decide (c.1=slot/\YB c=l.1/\toC c=l.2.1/\Xo c=id)) s.cells 445 [.pointer (some ⟨g7,0,none⟩),.pointer (some ⟨g5,0,none⟩),.pointer (some ⟨g6,0,none⟩)] YvN hl hr.cons.cons.cons.cons (λc _ w hw=>Ym1 c l slot id g7 g5 g6 zm zm zm hw) hw)
 repeat'(first|refine zga ?_|fail)
 apply Yh H
 ·exact zk
 apply Ye;exact rfl;exact rfl;exact⟨rfl,rfl⟩
theorem YjZ(c:Cel)(o:Int)(g:Nat)(hm:intA g o∈H)(hw:St B w0 H w):
 CX B w0 448 [celV c,.pointer (some ⟨g,0,none⟩)] w λv K=>v=.bool (!(decide (c.2.1=o)))/\K=H:=by
 refine Ya Tryz.func448 Tryz.ntmps448 rfl rfl hw ?_
 by_cases h:c.2.1=o
 ·rw[Td h]
  refine Yqz ?_<;>intros
  apply Yh H
  ·exact zc0
  exact zc13
 ·rw[Tj h]
  refine Yqz ?_<;>intros
  apply Yh H
  ·exact zc0
  exact zc13
theorem Yjs(c:Cel)(id:Int)(g:Nat)(hm:intA g id∈H)(hw:St B w0 H w):
 CX B w0 178 [celV c,.pointer (some ⟨g,0,none⟩)] w λv K=>v=.bool (decide (Xo c=id))/\K=H:=by
 refine Ya Tryz.func178 Tryz.ntmps178 rfl rfl hw ?_
 by_cases h:c.2.2.2.2=id
 ·rw[Td (show Xo c=id from h)]
  refine zX43 ?_<;>intros
  apply Yh H
  ·exact zc0
  exact zc13
 ·rw[Tj (show¬Xo c=id from h)]
  refine zX43 ?_<;>intros
  apply Yh H
  ·exact zc0
  exact zc13
def tchB(l:List Cel)(slot a b:Int):Bool:=l.any λd=>decide (d.1=slot)&&YC d (0,0,a,b,0)
def offI(n:Net)(l:List Cel)(slot a b:Int)(k:Nat):List Nat:=(List.range k).filter λo:Nat=>Jh n (l.filter (atP slot o)++[(0,0,a,b,0)])
def UJ(n:Net)(s:Sch)(slot a b:Int):List (List Value):=if tchB s.cells slot a b=true then []else(offI n s.cells slot a b s.off.toNat).map λ(o:Nat)=>[Value.int .i64 (o:Int)]
variable {n:Net}{l:List Cel}{slot a b:Int}{k i:Nat}
theorem YpK(h:Jh n (l.filter (atP slot k)++[(0,0,a,b,0)])=true):offI n l slot a b (k+1)=offI n l slot a b k++[k]:=by
 grind [offI,Rq]
theorem YrC(h:Jh n (l.filter (atP slot k)++[(0,0,a,b,0)])=false):offI n l slot a b (k+1)=offI n l slot a b k:=by
 grind [offI,Rq]
theorem YpJ{m:Nat}(h:Jh n (l.filter (atP slot k)++[(0,0,a,b,0)])=true)(hk:k<m):(offI n l slot a b m)[(offI n l slot a b k).length]? =some k:=by
 obtain⟨j,rfl⟩:∃j,m=k+(j+1):=⟨m-k-1,by omega⟩
 have e:offI n l slot a b (k+(j+1))=offI n l slot a b k++((List.range (j+1)).map (k+·)).filter λo:Nat=>Jh n (l.filter (atP slot o)++[(0,0,a,b,0)]):=by
  grind [offI,List.range_add]
 simp_all [List.range_succ_eq_map]
structure AiM where
 i:Nat
 A:Option Addr
 cap:Nat
 l:List Cel
variable {c:Cel}
theorem Yph(hc:l[i]? =some c)(h:c.1=slot):(l.take (i+1)).filter (λd=>decide (d.1=slot))=(l.take i).filter (λd=>decide (d.1=slot))++[c]:=Ybo
theorem Yro(hc:l[i]? =some c)(h:c.1≠slot):(l.take (i+1)).filter (λd=>decide (d.1=slot))=(l.take i).filter (λd=>decide (d.1=slot)):=Ybo
theorem Yqo(hc:l[i]? =some c):tchB (l.take (i+1)) slot a b=(tchB (l.take i) slot a b||(decide (c.1=slot)&&YC c (0,0,a,b,0))):=by
 grind [tchB,TF]
theorem YuN(hc:l[i]? =some c)(h:c.1=slot)(ht:YC c (0,0,a,b,0)=true):tchB l slot a b=true:=
 Ri.2 ⟨c,Tc hc,by simp_all⟩
theorem Yno(n:NetM)(s:SchM)(l:Lk)(slot:Int)(g3 g5 g4:Nat)(hck:Yo n.net=0)(hl:s.cells.length<=900)(hoff:0<=s.off/\s.off<=16){B:Nat}{w0:World}{R:List HP}(hin:n.In B w0 [many R])(hr:Rd B w0 [many R] s.A (s.cells.flatMap celF)):
 YbP Tryz.prog 446 [.pointer (some ⟨g3,0,none⟩),.pointer (some ⟨g5,0,none⟩),.pointer (some ⟨g4,0,none⟩)] (UJ n.net s.sch slot l.1 l.2.1) B w0 [intA g5 slot,lnkA g4 l,grdA g3 n s,many R]:=by
 refine YbQ Tryz.func446 Tryz.ntmps446 rfl rfl ?_
 intro ly SS X hy L0 h0
 refine JN 48 5 ?_
 have hsc:s.sch.cells=s.cells:=rfl
 refine zX8 ?_
 refine Yg (λ(x:AiM)=>[(14,.int .i64 x.i),(13,.int .i64 s.cells.length),(12,.slice s.A s.cells.length s.cap),(5,.slice x.A x.l.length x.cap),(0,.func (.yield ly) #[] #[]),(1,.pointer (some ⟨g3,0,none⟩)),(2,.pointer (some ⟨g5,0,none⟩)),(3,.pointer (some ⟨g4,0,none⟩))])
  (λx=>sl 48 5 x.A x.l.length x.cap (x.l.flatMap celF)::many L0::intA g5 slot::lnkA g4 l::grdA g3 n s::[many R]) (λx=>x.i<=s.cells.length/\x.l=(s.cells.take x.i).filter (λd=>decide (d.1=slot))/\tchB (s.cells.take x.i) slot l.1 l.2.1=false) (λx=>s.cells.length-x.i) ⟨0,none,0,[]⟩ ⟨Ti _,by simp,rfl⟩ ?_ ?_ ?_
 ·exact zc1
 ·dsimp only
  rw[show([]:List Cel).flatMap celF=[] from rfl,show([]:List Cel).length=0 from rfl]
  exact zc0
 rintro⟨i,A,cap,hs⟩ ⟨hi,hhs,htc⟩ K hK
 dsimp only at hi hhs htc⊢
 have hhl:hs.length<=900:=by
  have:=Ry (λd:Cel=>decide (d.1=slot)) (s.cells.take i)
  rw[<-hhs,TT]at this
  omega
 by_cases hlt:i<s.cells.length
 ·obtain⟨c,hc⟩:∃c,s.cells[i]? =some c:=⟨_,Ta hlt⟩
  have hts:=Yqo (slot:=slot) (a:=l.1) (b:=l.2.1) hc
  rw[htc,NG]at hts
  have p1:=λ{H':List HP}{w:World}(hw:St B w0 H' w)=>YiI c l hw
  unfold celV lkV at p1
  by_cases hsl:c.1=slot
  rotate_left
  ·rw[Tj hsl,S9]at hts
   refine zX44 ?_<;>intros
   apply hK ⟨i+1,A,cap,hs⟩
   ·exact⟨by exact zc86,by rw[Yro hc hsl];exact hhs,hts⟩
   ·exact zc47
   ·exact zc1
   ·exact zc0
  cases ht:YC c (0,0,l.1,l.2.1,0)with
  |true=>
   rw[ht]at p1
   have hnil:UJ n.net s.sch slot l.1 l.2.1=[]:=by
    unfold UJ
    rw[Tn (by rw[hsc];exact YuN hc hsl ht)]
   clear hK
   repeat'(first|((first|apply Yb Ylm|apply Yc Ylm);exact za;exact rfl;exactλ_ hw=>(p1 hw))|refine zgd ?_|(refine zge ?_ ?_<;>intro _<;>try exact zo)|(refine zgh ?_;intro _)|fail)
   apply Yh (many L0::intA g5 slot::lnkA g4 l::grdA g3 n s::[many R])
   ·exact zc0
   apply UV;exact rfl
   exact .inl ⟨L0,by rw[hnil];exact h0,rfl⟩
  |false=>
   rw[Td hsl,ht,RV]at hts
   rw[ht]at p1
   repeat'(first|((first|apply Yb Ylm|apply Yc Ylm);exact za;exact rfl;exactλ_ hw=>(p1 hw))|refine zgd ?_|(refine zge ?_ ?_<;>intro _<;>try exact zo)|(refine zgh ?_;intro _)|(refine zgi ?_;intro _ _)|fail)
   rename_i A' cap'
   have hl1:(hs++[c]).length=hs.length+1:=by rw[Tq];rfl
   apply hK ⟨i+1,A',cap',hs++[c]⟩
   ·exact⟨by exact zc86,by rw[Yph hc hsl,<-hhs],hts⟩
   ·exact zc47
   ·dsimp only
    rw[hl1]
    exact zc1
   ·dsimp only
    have e5:=UZ A' cap' hs c
    unfold cels at e5
    rw[<-e5]
    exact zc0
 ·obtain rfl:i=s.cells.length:=by omega
  rw[TM]at hhs htc
  clear hK
  refine zX1 ?_<;>intros
  have hxs:UJ n.net s.sch slot l.1 l.2.1=(offI n.net s.cells slot l.1 l.2.1 s.off.toNat).map λ(o:Nat)=>[Value.int .i64 (o:Int)]:=by
   unfold UJ
   rw[Tf (by rw[hsc,htc];decide)];rfl
  refine Yg (λ(x:Nat×List HP)=>[(33,.int .i64 (x.1:Nat)),(32,.int .i64 s.off),(5,.slice A hs.length cap),(0,.func (.yield ly) #[] #[]),(1,.pointer (some ⟨g3,0,none⟩)),(2,.pointer (some ⟨g5,0,none⟩)),(3,.pointer (some ⟨g4,0,none⟩))])
   (λx=>sl 48 5 A hs.length cap (hs.flatMap celF)::many x.2::intA g5 slot::lnkA g4 l::grdA g3 n s::[many R]) (λx=>(x.1:Int)<=s.off/\SS (offI n.net s.cells slot l.1 l.2.1 x.1).length x.2) (λx=>(s.off-x.1).toNat) (0,L0) ⟨by show((0:Nat):Int)<=_;omega,h0⟩ ?_ ?_ ?_
  ·exact zc1
  ·exact zc0
  rintro⟨o,L⟩ ⟨ho,hS⟩ K hK
  dsimp only at ho hS⊢
  by_cases hlt2:(o:Int)<s.off
  rotate_left
  ·obtain rfl:o=s.off.toNat:=by omega
   clear hK
   refine zX1 ?_<;>intros
   apply Yh (many L::intA g5 slot::lnkA g4 l::grdA g3 n s::[many R])
   ·exact zc0
   apply Jb;exact rfl
   exact .inl ⟨L,by rw[hxs,Tt];exact hS,rfl⟩
  obtain⟨own,hown⟩:∃own,s.cells.filter (atP slot o)=own:=⟨_,rfl⟩
  have hof:(hs.filter λc=>!!(decide (c.2.1=(o:Int))))=own:=by
   rw[<-hown,hhs,List.filter_filter]
   refine Nk λc _=>?_
   unfold atP
   rw[Bool.not_not,Bool.decide_and,Bool.and_comm]
  have hol:own.length<=900:=by
   have:=Ry (atP slot o) s.cells
   rw[hown]at this
   omega
  have pg:=λ{A2:Option Addr}{cap2:Nat}{H':List HP}{w:World}(hin:n.In B w0 H') (hr:Rd B w0 H' A2 (own.flatMap celF++#[Value.int .i64 0,.int .i64 0,.int .i64 l.1,.int .i64 l.2.1,.int .i64 0].toList)) (hw:St B w0 H' w)=>YjD n (own++[(0,0,l.1,l.2.1,0)]) hck (by rw[Tq];show own.length+1<=1000;omega) (A:=A2) (cap:=cap2) hin (by rw[Ro];exact hr) hw
  have hol1:(own++[((0,0,l.1,l.2.1,0):Cel)]).length=own.length+1:=by rw[Tq];rfl
  rw[hol1]at pg
  unfold NetM.val at pg
  refine zX44 ?_<;>intros
  rename_i g8
  apply Yf _ Yew
  exact za
  exact rfl
  exactλ_ hw=>(Z0 hs (by omega) (.sl (by(focus exact zc2))) (hw))
  rintro _ _ ⟨A1,c1,rfl,rfl⟩
  refine YdJ ?_
  apply Yf _ Yk5
  exact za
  exact rfl
  exactλ_ hw=>(V0 (λc=>!(decide (c.2.1=(o:Int)))) hs 448 [.pointer (some ⟨g8,0,none⟩)] YvP (by omega) (λc _ X w hw=>YjZ c o g8 (TS _ (by(focus exact zc2))) hw) (hw))
  rintro _ _ ⟨rfl,rfl⟩
  rw[hof]
  unfold cels
  refine zX4 ?_
  apply Yl7 [0,1,2,3,4,5,6,7,8,9,10,11,12,13] [14,15,16] [false,true,false,false,true,true,true,true]
  kernel_rfl
  kernel_rfl
  exact zy
  (simp only[Yd,nthO];rfl)
  (simp only[Yd,nthO];rfl)
  repeat'(first|(apply Yi T;exact rfl;exact zm;exact rfl;exact zv;exact rfl;exact rfl)|(apply Yj;try exact zl)|refine zgd ?_|(refine zgh ?_;intro _)|(refine zgi ?_;intro _ _)|fail)
  first|apply Yb YsV|apply Yc YsV
  exact za
  exact rfl
  exactλ_ hw=>(pg (hin.mono zc0) (.sl (by(focus exact zc2))) hw)
  cases hg:Jh n.net (own++[(0,0,l.1,l.2.1,0)])with
  |true=>
   have hg2:Jh n.net (s.cells.filter (atP slot o)++[(0,0,l.1,l.2.1,0)])=true:=by rw[hown];exact hg
   have hx:(UJ n.net s.sch slot l.1 l.2.1)[(offI n.net s.cells slot l.1 l.2.1 o).length]? =some [.int .i64 (o:Int)]:=by
    rw[hxs,TJ,YpJ hg2 (by omega)];rfl
   have hY:=hy _ _ hx [sl 48 5 A hs.length cap (hs.flatMap celF)] L hS
   refine zX17 ?_
   apply Yh (sl 48 5 A hs.length cap (hs.flatMap celF)::many L::intA g5 slot::lnkA g4 l::grdA g3 n s::[many R])
   ·exact zc0
   apply Yoy
   apply Yb3 _ _ (hy:=hY)
   ·exact Ybm (j:=11) (s:=51) rfl rfl rfl
   ·exact rfl
   ·exact YqB
   ·exact rfl
   ·exact YiW
   ·rintro _ ⟨L',hS',rfl⟩
    refine zX2 ?_
    apply hK (o+1,L')
    ·exact⟨by show((o+1:Nat):Int)<=_;omega,by rw[YpK hg2,Tq];exact hS'⟩
    ·exact zc47
    ·exact zc1
    exact zc20
   ·rintro _ ⟨L',hX',rfl⟩
    refine zX2 ?_
    apply Yh (many L'::intA g5 slot::lnkA g4 l::grdA g3 n s::[many R])
    ·exact zc57
    apply UV;exact rfl
    exact .inr ⟨L',hX',rfl⟩
  |false=>
   have hg2:Jh n.net (s.cells.filter (atP slot o)++[(0,0,l.1,l.2.1,0)])=false:=by rw[hown];exact hg
   refine zX17 ?_
   apply Yoy
   apply Yg4 YiW
   refine zX11 ?_
   apply hK (o+1,L)
   ·exact⟨by show((o+1:Nat):Int)<=_;omega,by rw[YrC hg2];exact hS⟩
   ·exact zc47
   ·exact zc1
   ·exact zc0
theorem YjW:∀a b:List Int,a.length=b.length->Xa (List.zipWith cmpI a b)=cmpV a b
 |[],[],_=>rfl
 |[],_::_,h=>by cases h
 |_::_,[],h=>by cases h
 |x::a,y::b,h=>by
  have ih:=YjW a b (by simp_all)
  rw[List.zipWith_cons_cons,Xa]
  by_cases h1:x<y
  ·have e1:cmpI x y= -1:=Tn h1
   have e2:XK (x::a) (y::b)=true:=by rw[XK,Tn (show x≠y by omega)];simp_all
   simp_all [cmpV]
  ·by_cases h2:y<x
   ·have e1:cmpI x y=1:=by simp_all [cmpI]
    have e2:XK (x::a) (y::b)=false:=by rw[XK,Tn (show x≠y by omega)];simp_all
    have e3:XK (y::b) (x::a)=true:=by rw[XK,Tn (show y≠x by omega)];simp_all
    simp_all [cmpV]
   ·obtain rfl:x=y:=by omega
    simp_all [cmpI,XK,cmpV]
variable {B:Nat}{w0 w:World}{H:List HP}
theorem OF(a b:Cel)(hw:St B w0 H w):
 CX B w0 169 [celV a,celV b] w λv K=>v=.int .i64 (cmpV (nums a) (nums b))/\K=H:=by
 refine Ya Tryz.func169 Tryz.ntmps169 rfl rfl hw ?_
 rw[<-YjW (nums a) (nums b) rfl]
 unfold celV
 refine zX15 ?_<;>intros
 apply YI [0,1,2,3,5,6,7,8,10,11,12,13,15,16,17,18,20,21,22,23,4,9,14,19,24,25,26,27] [] [true,true]
 kernel_rfl
 kernel_rfl
 exact zy
 (simp only[Yd,nthO];rfl)
 exact rfl
 refine zX16 ?_<;>intros
 rename_i g
 first|apply Yb en72|apply Yc en72
 exact za
 exact rfl
 exactλ_ hw=>(YlF (List.zipWith cmpI (nums a) (nums b)) (by simp[nums]) (Rd.blk (g:=g) (cs:=#[.int .i64 (cmpI a.1 b.1),.int .i64 (cmpI a.2.1 b.2.1),.int .i64 (cmpI a.2.2.1 b.2.2.1),.int .i64 (cmpI a.2.2.2.1 b.2.2.2.1),.int .i64 (cmpI a.2.2.2.2 b.2.2.2.2)]) (by(focus exact zc2))) hw)
 refine zX17 ?_
 apply Yh H
 ·exact zc0
 exact zc27
theorem Ygo(l:List Cel)(c:Cel)(ho:Ord l)(hlen:l.length<=1000000000){A:Option Addr}{cap:Nat}(hr:Rd B w0 H A (l.flatMap celF))(hw:St B w0 H w):
 CX B w0 435 [.slice A l.length cap,celV c,.func (.func 169) #[] #[]] w λv K=>
  v=.tuple #[.int .i64 (posE l c),.bool (decide (c∈l))]/\K=H:=by
 refine Ya Tryz.func435 Tryz.ntmps435 rfl rfl hw ?_
 (apply Xs;apply YX;apply YT;exact rfl;exact rfl;intro g)
 refine zX8 ?_
 have hr:=hr.cons (X:=blk g (.cells (celF c).toArray 48 (0,0)))
 refine YbR (λ(lo hi:Nat)=>[(9,.int .i64 lo),(10,.int .i64 hi),(8,.int .i64 l.length),(0,.slice A l.length cap),(2,.func (.func 169) #[] #[]),(4,.pointer (some ⟨g,0,none⟩))]) (λ_ _=>blk g (.cells (celF c).toArray 48 (0,0))::H)
  (λlo hi=>lo<=hi/\hi<=l.length/\(∀i x,i<lo->l[i]? =some x->Y4 x c=true)/\(∀i x,hi<=i->l[i]? =some x->Y4 x c=false)) (λlo hi=>hi-lo) 0 l.length ⟨by omega,by omega,λj x hj=>by omega,λj x h1 h2=>by simp_all⟩ ?_ (λw hw=>hw) ?_
 ·exact zc1
 rintro lo hi ⟨h1,h2,h3,h4⟩ K hK
 by_cases hlt:lo<hi
 ·obtain⟨b,hb⟩:∃b,l[(((lo:Int)+hi)/2).toNat]? =some b:=⟨_,Ta (by omega)⟩
  have hm:(((lo:Int)+hi)/2).toNat=(lo+hi)/2:=by omega
  have hb2:l[(lo+hi)/2]? =some b:=by grind
  repeat'(first|((first|apply YY (cs:=[])|apply Xh (cs:=[]));exact rfl;exact YoY;exact za;exact rfl;exactλ_ hw=>(OF b c hw))|(apply zg28;refine zs84 ?_)|refine zgd ?_|(refine zge ?_ ?_<;>intro _<;>try exact zo)|fail)
  ·rename_i hc
   rw[Yaj]at hc
   apply hK ((lo+hi)/2+1) hi
   ·refine⟨by omega,by omega,λj x hj hx=>?_,h4⟩
    by_cases e:j=(lo+hi)/2
    ·grind
    ·exact ZZ (Ygb ho hx hb2 (by omega)) hc
   ·omega
   ·exact zc1
   exact zc20
  ·rename_i hc
   have hc:Y4 b c=false:=by
    cases h:Y4 b c with
    |false=>rfl
    |true=>rw[<-Yaj]at h;omega
   apply hK lo ((lo+hi)/2)
   ·refine⟨by omega,by omega,h3,λj x hj hx=>?_⟩
    by_cases e:j=(lo+hi)/2
    ·exact YqC
    ·cases h:Y4 x c with
     |false=>rfl
     |true=>rw[ZZ (Ygb ho hb2 hx (by omega)) h]at hc;cases hc
   ·omega
   ·exact zc1
   exact zc20
 ·obtain rfl:lo=hi:=by omega
  have hp:Pos l c lo:=⟨h2,h3,h4⟩
  have hpe:=hp.posE ho
  have hpm:=YrP ho hp
  by_cases hl:lo<l.length
  ·obtain⟨b,hb⟩:∃b,l[lo]? =some b:=⟨_,Ta hl⟩
   rw[hb]at hpm
   repeat'(first|((first|apply YY (cs:=[])|apply Xh (cs:=[]));exact rfl;exact YoY;exact za;exact rfl;exactλ_ hw=>(OF b c hw))|(apply zg28;refine zs84 ?_)|refine zgd ?_|(refine zgf ?_ ?_<;>intro _<;>try exact zo)|fail)
   all_goals(apply Ym;apply YN;(iterate 3 exact rfl);rw[<-hpe])
   ·rename_i hc
    rw[YoL]at hc
    exact⟨by rw[Td (hpm.1 (by rw[hc]))],rfl⟩
   ·rename_i hc
    rw[ne_eq,YoL]at hc
    exact⟨by rw[Tj λh=>hc (Tv (hpm.2 h))],rfl⟩
  ·refine zX18 ?_<;>intros
   apply Ym;apply YN;(iterate 3 exact rfl);rw[<-hpe]
   rw[List.getElem?_eq_none (by omega)]at hpm
   exact⟨by rw[Tj λh=>by cases hpm.2 h],rfl⟩
theorem Yf8(n:NetM)(s:SchM)(l:Lk)(slot:Int)(hw:St B w0 H w):
 CX B w0 434 [grdV n s,lkV l,.int .i64 slot] w λv K=>∃g3 g4 g5,v=.func (.func 446) #[] #[.pointer (some ⟨g3,0,none⟩),.pointer (some ⟨g5,0,none⟩),.pointer (some ⟨g4,0,none⟩)]/\K=intA g5 slot::lnkA g4 l::grdA g3 n s::H:=by
 refine Ya Tryz.func434 Tryz.ntmps434 rfl rfl hw ?_
 refine zX27 ?_<;>intros
 exact YlV
end Go.Proofs.YtjlgijpmnfabcaaGreatDoor
namespace Go.Eng
open Go.RowKit
section
variable {P:Program}{B:Nat}{w0:World}{env:Env}{H:List HP}
theorem Yb1{n:Nat}(T:Tab P){fn:Func}{Φ:Value->List HP->Prop}{p g k q g2 rt st:Nat}{v:Value}{cs:Array Value}{tt tt2:TypeId}{fr fr2:Nat×Nat}(hr:fn.results=#[.cell p rt,.cell q st])(hp:get env p=some (.pointer (some ⟨g,0,none⟩)))(hq:get env q=some (.pointer (some ⟨g2,0,none⟩)))
 (hm:blk g (.cells cs tt fr)∈H) (hm2:blk g2 (.cells #[v] tt2 fr2)∈H) (ht:look T.ag rt=some k) (hk:cs.size=k) (ht2:look T.sc st=some ()) {H2:List HP}(hH:∀w,St B w0 H w->St B w0 H2 w) (h:Φ (.tuple #[.agg cs,v]) H2):VQ ⟨n,[],none⟩ B w0 (bodyPost P fn (Post B w0 Φ)) .ret env H:=by
 refine⟨λa w ha hw=>bodyPost_ret (v:=.tuple #[.agg cs,v]) ?_ ha.defers ⟨_,H2,rfl,hH w hw,h⟩⟩
 have hp':=ha.slot p _ hp
 have hq':=ha.slot q _ hq
 have hc:=YW (i:=0) (hw.blk hm2).1
 have h2:(loadVar st ⟨g2,0,none⟩).run P w=.ok v w:=by simp[loadVar,Y6 (T.scal ht2).1,hc]
 simp[results,hr,Array.getD_eq_getD_getElem?,hp',hq',asAddr,Vg T (hw.blk hm).1 ht hk,h2]
end
end Go.Eng
namespace Go.Proofs.YtjlgijpmnfabcaaGreatDoor
open Go.RowKit Go.Eng Go.Nw Go.Rt
theorem U6{α:Type}(p:α->Bool):∀l:List α,(l.filter p)[0]? =l.find? p
 |[]=>rfl
 |a::l=>by
  rw[Nr,List.find?_cons]
  cases h:p a with
  |true=>rfl
  |false=>exact U6 p l
variable {n:Net}{l:List Cel}{slot a b id:Int}
theorem Ylu(h:tchB l slot a b=false):(λo:Nat=>fitE n l slot o a b)=λo:Nat=>Jh n (l.filter (atP slot o)++[(0,0,a,b,0)]):=by
 grind [fitE,tchB]
theorem Yul(h:tchB l slot a b=true):(λo:Nat=>fitE n l slot o a b)=λ_=>false:=by
 grind [fitE,tchB]
variable {s:Sch}
theorem YjX(hh:hasC s.cells slot a b id=false)(h:(UJ n s slot a b).length=0):Jr n s a b id slot=none:=by
 unfold Jr
 have:((List.range s.off.toNat).find? λo:Nat=>fitE n s.cells slot o a b)=none:=by
  cases ht:tchB s.cells slot a b with
  |true=>simp_all [Yul]
  |false=>
   rw[Ylu ht,<-U6]
   unfold UJ at h
   grind [offI]
 simp_all
theorem YjY(hh:hasC s.cells slot a b id=false){args:List Value}(h:(UJ n s slot a b)[0]? =some args):∃o:Nat,args=[.int .i64 (o:Int)]/\o<s.off.toNat/\fitE n s.cells slot o a b=true/\Jr n s a b id slot=some ⟨s.len,s.off,insC s.cells (slot,(o:Int),a,b,id)⟩:=by
 unfold UJ at h
 cases ht:tchB s.cells slot a b with
 |true=>simp_all
 |false=>
  rw[ht,Tf (by decide),TJ]at h
  unfold offI at h
  rw[U6]at h
  cases hf:(List.range s.off.toNat).find? λo:Nat=>Jh n (s.cells.filter (atP slot o)++[(0,0,a,b,0)])with
  |none=>simp_all
  |some o=>
   have hf2:(List.range s.off.toNat).find? (λo:Nat=>fitE n s.cells slot o a b)=some o:=by rw[Ylu ht];exact hf
   unfold Jr
   grind
theorem Ykk(n:NetM)(s:SchM)(l:Lk)(id slot:Int)(hck:Yo n.net=0)(hl:s.cells.length<=900)(hoff:0<=s.off/\s.off<=16)(ho:Ord s.cells){B:Nat}{w0:World}{R:List HP}{w:World}(hin:n.In B w0 [many R])(hr:Rd B w0 [many R] s.A (s.cells.flatMap celF))(hw:St B w0 [many R] w):
 CX B w0 409 [grdV n s,lkV l,.int .i64 id,.int .i64 slot] w λv K=>
  (v=.tuple #[grdV n s,.bool true]/\Jr n.net s.sch l.1 l.2.1 id slot=some s.sch/\K=[many R])\/
  (v=.tuple #[grdV n s,.bool false]/\Jr n.net s.sch l.1 l.2.1 id slot=none/\K=[many R])\/
  ∃A cap c,v=.tuple #[grdV n ⟨s.len,s.off,A,cap,insC s.cells c⟩,.bool true]/\Jr n.net s.sch l.1 l.2.1 id slot=some ⟨s.len,s.off,insC s.cells c⟩/\K=[cels A cap (insC s.cells c),many R]:=by
 refine XZ Tryz.func409 Tryz.ntmps409 rfl rfl hw ?_
 have p1:=λ{H':List HP}{w:World}(hr:Rd B w0 H' s.A (s.cells.flatMap celF)) (hw:St B w0 H' w)=>Ym2 n s l id slot (by omega) hr hw
 have p2:=λ{H':List HP}{w:World}(hw:St B w0 H' w)=>Yf8 n s l slot hw
 cases hh:hasC s.cells slot l.1 l.2.1 id with
 |true=>
  rw[hh]at p1
  unfold grdV lkV at p1⊢
  refine YiS ?_<;>intros
  first|apply Yb Yll|apply Yc Yll
  exact za
  exact rfl
  exactλ_ hw=>(p1 hr.cons.cons.cons.cons.cons.cons hw)
  refine zX2 ?_
  apply VQ_m
  apply Yb1 T (H2:=[many R]);(iterate 3 exact rfl);(focus exact zc2);(focus exact zc2);(iterate 3 exact rfl);(intro w hw;refine hw.perm ?_;focus exact zc3)
  refine .inl ⟨rfl,?_,rfl⟩
  unfold Jr
  rw[show s.sch.cells=s.cells from rfl,Tn hh]
 |false=>
 rw[hh]at p1
 unfold grdV lkV at p1 p2⊢
 refine YiS ?_<;>intros
 rename_i g4 g5 g6 g7 g8 g9
 first|apply Yb Yll|apply Yc Yll
 exact za
 exact rfl
 exactλ_ hw=>(p1 hr.cons.cons.cons.cons.cons.cons hw)
 refine zX8 ?_
 apply Yf _ YvI
 exact za
 exact rfl
 exactλ_ hw=>(p2 (hw))
 rintro _ _ ⟨k3,k4,k5,rfl,rfl⟩
 refine zX8 ?_
 have hlen0:∀args∈UJ n.net s.sch slot l.1 l.2.1,args.length=[24].length:=by
  intro args h
  unfold UJ at h
  split at h
  ·cases h
  ·obtain⟨o,_,rfl⟩:=TC.1 h
   rfl
 refine X5 (gf:=446) (lb:=[.pointer (some ⟨k3,0,none⟩),.pointer (some ⟨k5,0,none⟩),.pointer (some ⟨k4,0,none⟩)]) (xs:=UJ n.net s.sch slot l.1 l.2.1) (intA k5 slot::lnkA k4 l::grdA k3 n s::[many R])
  (λ_:Unit=>[blk g9 (.cells #[.bool false] 4 (0,0)),blk g8 (.cells #[.int .i64 0,.slice none 0 0,.int .i64 0,.int .i64 0,.slice none 0 0,.slice none 0 0,.int .i64 0,.int .i64 0,.slice none 0 0] 410 (0,0)),intA g7 slot,intA g6 id,lnkA g5 l,grdA g4 n s])
  (λk _=>k=0) (λe K=>e=.ret/\∃A cap,∃o:Int,Jr n.net s.sch l.1 l.2.1 id slot=some ⟨s.len,s.off,insC s.cells (slot,o,l.1,l.2.1,id)⟩/\K=[blk g9 (.cells #[.bool true] 4 (0,0)),grdA g8 n ⟨s.len,s.off,A,cap,insC s.cells (slot,o,l.1,l.2.1,id)⟩,cels A cap (insC s.cells (slot,o,l.1,l.2.1,id))]) () rfl YvO (Yno n s l slot k3 k5 k4 hck hl hoff hin hr) rfl hlen0 (by kernel_rfl) (by kernel_rfl) ?_ rfl ?_ ?_ ?_
 ·intro w hw
  have h5:St B w0 (blk g9 (.cells (Value.bool false).cells 4 (0,0))::blk g8 (.cells (Value.agg #[.int .i64 0,.slice none 0 0,.int .i64 0,.int .i64 0,.slice none 0 0,.slice none 0 0,.int .i64 0,.int .i64 0,.slice none 0 0]).cells 410 (0,0))::intA g7 slot::intA g6 id::lnkA g5 l::grdA g4 n s::intA k5 slot::lnkA k4 l::grdA k3 n s::[many R]) w:=by
   revert w
   exact zc0
  exact h5
 ·rintro ly k args R1 ⟨⟩ hk rfl
  obtain⟨o,rfl,hol,hfit,hsl⟩:=YjY (id:=id) hh hk
  dsimp only[Ul,List.cons_append,List.nil_append]
  have hrx:∀{H':List HP},(∀w,St B w0 H' w->St B w0 [many R] w)->Rd B w0 H' s.A (s.cells.flatMap celF):=λh=>hr.mono h
  refine zX4 ?_
  apply Jv Yq
  intro R2
  have hpl:posE s.cells (slot,(o:Int),l.1,l.2.1,id)<=s.cells.length:=(Ygg ho _).1
  refine zX25 ?_<;>intros
  rename_i g11
  first|apply Yb YsS|apply Yc YsS
  exact za
  exact rfl
  exactλ_ hw=>(Ygo s.cells (slot,(o:Int),l.1,l.2.1,id) ho (by omega) (hrx zc0) hw)
  refine zX11 ?_
  apply YgG (.p1 0 (.p1 1 (.p1 2 (.p1 4 (.p1 5 (.d2 3 (.d1 6 (.d1 7 (.d1 8 (.d1 9 .done)))) 6 (.d1 3 (.d1 7 (.d1 8 (.d1 9 .done)))))))))) [10] [true,false,false,false,false,false,false,true,false,false,false,true]
  kernel_rfl
  kernel_rfl
  exact zy
  (simp only[Yd,nthO];rfl)
  repeat'(first|((apply Yf _ Yew);exact za;exact rfl;exactλ_ hw=>Z0 s.cells (by omega) (hrx zk) hw;rintro _ _ ⟨A1,cap1,rfl,rfl⟩)|(apply Vp T T2;(iterate 7 exact rfl);intro gv)|(apply Xl [cels A1 cap1 s.cells,blk gv (.cells #[.int .i64 slot,.int .i64 (o:Int),.int .i64 l.1,.int .i64 l.2.1,.int .i64 id] 48 (0,0))] _ YvJ;exact za;try exact zl;exact zp;exact rfl;exactλ_ hw=>Yf0 s.cells _ (slot,(o:Int),l.1,l.2.1,id) hpl (by omega) hw;rintro _ _ ⟨A2,cap2,rfl,rfl⟩)|(apply Ysc;(simp only[nthO];rfl))|(apply Ysa;(simp only[nthO];rfl);exact zp)|(apply Ysb;(simp only[nthO];rfl);(simp only[nthO];rfl);exact zp)|(apply Yg3;try exact zl)|refine zgd ?_|fail)
  all_goals(
   refine Qo [blk g9 (.cells #[.bool true] 4 (0,0)),grdA g8 n ⟨s.len,s.off,A2,cap2,insC s.cells (slot,(o:Int),l.1,l.2.1,id)⟩,cels A2 cap2 (insC s.cells (slot,(o:Int),l.1,l.2.1,id))] ⟨rfl,A2,cap2,(o:Int),hsl,rfl⟩ ?_
   dsimp only[List.cons_append,List.nil_append]
   unfold insC
   exact zk)
 ·rintro D ⟨⟩ hI
  have hnone:=YjX (id:=id) hh hI
  dsimp only[List.cons_append,List.nil_append]
  refine zX2 ?_
  apply Zr Yq
  apply VQ_m
  apply Yb1 T (H2:=[many R]);(iterate 3 exact rfl);(focus exact zc2);(focus exact zc2);(iterate 3 exact rfl);(intro w hw;refine hw.perm ?_;focus exact zc3)
  exact .inr (.inl ⟨rfl,hnone,rfl⟩)
 ·rintro D e K ⟨rfl,A,cap,o,hsl,rfl⟩ hjmp
  dsimp only[List.cons_append,List.nil_append]
  refine zX2 ?_
  apply Zr Yq
  apply VQ_m
  apply Yb1 T (H2:=[cels A cap (insC s.cells (slot,o,l.1,l.2.1,id)),many R]);(iterate 3 exact rfl);(focus exact zc2);(focus exact zc2);(iterate 3 exact rfl);(intro w hw;refine hw.perm ?_;focus exact zc3)
  exact .inr (.inr ⟨A,cap,_,rfl,hsl,rfl⟩)
variable {n:Net}
theorem Sm.few{l:List Flw}{s:Sch}(h:Sm n l s)(hl:s.len<=24):s.cells.length<=768:=by
 have hok:=YK h.ck
 have hnd:(s.cells.map λc=>c.1*32+YB c).Nodup:=by
  refine NE.2 (h.once.imp_of_mem λ{a b} ha hb hab e=>?_)
  have h1:=Xk hok (h.good a ha).1
  have h2:=Xk hok (h.good b hb).1
  have hn:=hok.n1
  grind [YC]
 have:=Go.Nw.nodup_len 768 _ hnd λx hx=>by
  obtain⟨c,hc,rfl⟩:=TC.1 hx
  have h1:=Xk hok (h.good c hc).1
  have hn:=hok.n1
  have hf:=h.formed c hc
  unfold Zu Zv insE at hf
  grind
 simp_all
variable {B:Nat}{w0 w:World}{H:List HP}
theorem Yqh(n:NetM)(s:SchM)(l:Lk)(id slot:Int)(hck:Yo n.net=0)(hl:s.cells.length<=900)(hoff:0<=s.off/\s.off<=16)(ho:Ord s.cells)(hin:n.In B w0 H)(hr:Rd B w0 H s.A (s.cells.flatMap celF))(hw:St B w0 H w):
 CX B w0 409 [grdV n s,lkV l,.int .i64 id,.int .i64 slot] w λv K=>
  (v=.tuple #[grdV n s,.bool true]/\Jr n.net s.sch l.1 l.2.1 id slot=some s.sch/\K=H)\/
  (v=.tuple #[grdV n s,.bool false]/\Jr n.net s.sch l.1 l.2.1 id slot=none/\K=H)\/
  ∃A cap c,v=.tuple #[grdV n ⟨s.len,s.off,A,cap,insC s.cells c⟩,.bool true]/\Jr n.net s.sch l.1 l.2.1 id slot=some ⟨s.len,s.off,insC s.cells c⟩/\K=cels A cap (insC s.cells c)::H:=by
 have hop:∀w,St B w0 [many H] w->St B w0 H w:=λw hw=>hw.perm (.openT H)
 refine(Ykk n s l id slot hck hl hoff ho (R:=H) (hin.mono hop) (hr.mono hop) (hw.perm (.closeT H))).mono ?_
 rintro e w' ⟨v,K,h1,hst,h⟩
 rcases h with⟨h2,h3,rfl⟩|⟨h2,h3,rfl⟩|⟨A,cap,c,h2,h3,rfl⟩
 ·exact⟨v,_,h1,hop _ hst,.inl ⟨h2,h3,rfl⟩⟩
 ·exact⟨v,_,h1,hop _ hst,.inr (.inl ⟨h2,h3,rfl⟩)⟩
 ·exact⟨v,_,h1,hst.perm (.cons _ (.openT H)),.inr (.inr ⟨A,cap,c,h2,h3,rfl⟩)⟩
structure ReM where
 i:Nat
 s:SchM
 z:Int
 L:List HP
theorem Yj6(m k:Nat)(h:k<m):(List.range m).drop k=k::(List.range m).drop (k+1):=by
 grind [Rh]
theorem YjN{r:List Int}{k:Nat}(h:k+1<r.length):(Yp n r).drop k=Zo n r k::(Yp n r).drop (k+1):=by
 unfold Yp
 rw[<-NF,<-NF,Yj6 _ _ (by omega),Ru]
abbrev flwA(g:Nat)(f:Flw):HP:=blk g (.cells #[.int .i64 f.1,.int .i64 f.2.1,.int .i64 f.2.2.1,.int .i64 f.2.2.2.1,.int .i64 f.2.2.2.2.1,.int .i64 f.2.2.2.2.2] 66 (0,0))
theorem Ym3(n:Net)(a b id:Int)(f:Nat)(s:Sch)(z:Int):hopA n a b id f 0 s z=some (s,z):=by cases f<;>rfl
structure FilI(n:NetM)(L:List Flw)(len off:Int)(B:Nat)(w0:World)(H:List HP)(s:SchM)(P:List HP):Prop where
 sm:Sm n.net L s.sch
 len:s.len=len
 off:s.off=off
 rd:Rd B w0 (many P::[many H]) s.A (s.cells.flatMap celF)
theorem Yd0(n:NetM)(L:List Flw)(s:SchM)(f:Flw)(r:RowM)(at_:Int)(hsm:Sm n.net L s.sch)(h24:s.len<=24)(hk:∀x∈Yp n.net r.xs,LkOk n.net L x.1 x.2.1 f.1)(hkey:∀i,i+1<r.xs.length->0<=Yy n.net (r.xs.getD i 0) (r.xs.getD (i+1) 0))
 (hrl:1<=r.xs.length/\r.xs.length<=9) (hat:0<=at_/\at_<=1000) (hd:0<=f.2.2.2.2.2/\f.2.2.2.2.2<=512) {R:List HP}(hin:n.In B w0 H) (hr:Rd B w0 H s.A (s.cells.flatMap celF)) (hrr:Rd B w0 H r.A (r.xs.flatMap numF)) (hw:St B w0 (many R::H) w):
 CX B w0 372 [grdV n s,flwV f,.slice r.A r.xs.length r.cap,.int .i64 at_] w λv K=>∃s' ok P,v=.tuple #[grdV n s',.bool ok]/\
  (ok=true->relA n.net f.1 (at_+f.2.2.2.2.2) (Yp n.net r.xs) s.sch at_=some s'.sch/\Rd B w0 (many P::H) s'.A (s'.cells.flatMap celF))/\(ok=false->relA n.net f.1 (at_+f.2.2.2.2.2) (Yp n.net r.xs) s.sch at_=none)/\K=many P::many R::H:=by
 refine Ya Tryz.func372 Tryz.ntmps372 rfl rfl hw ?_
 have hop:∀w,St B w0 [many H] w->St B w0 H w:=λw hw=>hw.perm (.openT H)
 have hin:=hin.mono hop
 have hr:=hr.mono hop
 have hrr:=hrr.mono hop
 have hok:=YK hsm.ck
 obtain⟨endd,hend⟩:∃e,at_+f.2.2.2.2.2=e:=⟨_,rfl⟩
 obtain⟨RR,hRR⟩:∃R,relA n.net f.1 endd (Yp n.net r.xs) s.sch at_=R:=⟨_,rfl⟩
 rw[hend,hRR]
 have hsz:1<=s.len/\s.len<=512/\1<=s.off/\s.off<=16:=Rm hsm.sized
 refine XD (many R::[many H]) (λw hw=>hw.perm (.cons _ (.closeT H))) ?_
 refine XD (many []::many R::[many H]) (λw hw=>hw.perm (.noMany _)) ?_
 unfold grdV flwV
 refine zX64 ?_<;>intros
 rename_i g4 g5 g8
 rw[hend]
 refine Yg (λz:ReM=>[(11,.int .i64 (z.i:Nat)),(10,.int .i64 endd),(9,.bool false),(3,.int .i64 z.z),(2,.slice r.A r.xs.length r.cap),(4,.pointer (some ⟨g4,0,none⟩)),(5,.pointer (some ⟨g5,0,none⟩)),(8,.pointer (some ⟨g8,0,none⟩))])
  (λz=>grdA g4 n z.s::flwA g5 f::blk g8 (.cells #[.int .i64 0,.slice none 0 0,.int .i64 0,.int .i64 0,.slice none 0 0,.slice none 0 0,.int .i64 0,.int .i64 0,.slice none 0 0] 410 (0,0))::many z.L::many R::[many H])
  (λz=>(1<=z.i/\z.i<=r.xs.length)/\FilI n L s.len s.off B w0 H z.s z.L/\(0<=z.z/\z.z<=endd)/\relA n.net f.1 endd ((Yp n.net r.xs).drop (z.i-1)) z.s.sch z.z=RR) (λz=>r.xs.length-z.i) ⟨1,s,at_,[]⟩ ⟨⟨by show 1<=1;omega,hrl.1⟩,⟨hsm,rfl,rfl,hr.cons⟩,⟨hat.1,by show at_<=endd;omega⟩,hRR⟩ ?_ ?_ ?_
 ·exact zc1
 ·intro w hw
  have h5:St B w0 (grdA g4 n s::flwA g5 f::blk g8 (.cells (Value.agg #[.int .i64 0,.slice none 0 0,.int .i64 0,.int .i64 0,.slice none 0 0,.slice none 0 0,.int .i64 0,.int .i64 0,.slice none 0 0]).cells 410 (0,0))::many []::many R::[many H]) w:=by
   revert w
   exact zc0
  exact h5
 rintro⟨i,s1,z,P⟩ ⟨⟨hi1,hi2⟩,hF,hz,hrel⟩ K hK
 dsimp only at hi1 hi2 hF hz hrel⊢
 by_cases hlt:i<r.xs.length
 rotate_left
 ·obtain rfl:i=r.xs.length:=by omega
  clear hK
  rw[Rf (by unfold Yp;simp)]at hrel
  refine zX1 ?_<;>intros
  apply Yv T (H2:=many P::many R::H);(iterate 3 exact rfl);(focus exact zc2);exact rfl;exact rfl
  ·intro w hw
   have h5:St B w0 (many P::many R::[many H]) w:=by
    revert w
    exact zc0
   exact YlU
  exact zc89
 obtain⟨k,rfl⟩:∃k,i=k+1:=⟨i-1,by omega⟩
 rw[R7,YjN hlt]at hrel
 obtain⟨a,ha⟩:∃a,r.xs[(((k+1:Nat):Int)-1).toNat]? =some a:=⟨_,Ta (by omega)⟩
 obtain⟨b,hb⟩:∃b,r.xs[((k+1:Nat):Int).toNat]? =some b:=⟨_,Ta (by omega)⟩
 have ha2:r.xs.getD k 0=a:=by rw[Tz,<-show(((k+1:Nat):Int)-1).toNat=k by omega,ha];rfl
 have hb2:r.xs.getD (k+1) 0=b:=by rw[Tz,<-show((k+1:Nat):Int).toNat=k+1 by omega,hb];rfl
 have hfi:=hkey k hlt
 rw[ha2,hb2]at hfi
 have hfl:=Zs hfi
 have hlk:n.links[(Yy n.net a b).toNat]? =some (Zo n.net r.xs k):=by
  unfold Zo
  rw[ha2,hb2]
  obtain⟨x,hx⟩:∃x,n.links[(Yy n.net a b).toNat]? =some x:=⟨_,Ta hfl⟩
  rw[Vf (n:=n.net) hx];exact hx
 obtain⟨lk,hlkd⟩:∃lk,Zo n.net r.xs k=lk:=⟨_,rfl⟩
 rw[hlkd]at hlk hrel
 have pi:=λ{H':List HP}{w:World}(hin:n.In B w0 H') (hw:St B w0 H' w)=>X8 n a b hin hw
 rw[show XS n.net a b=Yy n.net a b by unfold XS;rw[Tf (λe=>e hsm.ck)]]at pi
 unfold NetM.val at pi
 have hnl:n.links.length<=128:=hok.k0
 have hnlk:=hin.lk
 have hfl2:(Yy n.net a b).toNat<n.links.length:=hfl
 refine zX3 ?_<;>intros
 refine ZH (λg12:Nat=>[(12,.pointer (some ⟨g12,0,none⟩)),(11,.int .i64 ((k+1:Nat):Int)),(10,.int .i64 endd),(9,.bool false),(3,.int .i64 z),(2,.slice r.A r.xs.length r.cap),(4,.pointer (some ⟨g4,0,none⟩)),(5,.pointer (some ⟨g5,0,none⟩)),(8,.pointer (some ⟨g8,0,none⟩))])
  (λg12=>lnkA g12 lk::grdA g4 n s1::flwA g5 f::blk g8 (.cells #[.int .i64 0,.slice none 0 0,.int .i64 0,.int .i64 0,.slice none 0 0,.slice none 0 0,.int .i64 0,.int .i64 0,.slice none 0 0] 410 (0,0))::many P::many R::[many H]) ?_ ?_
 ·intro K2 hK2
  apply JH (.n1 0 (.n1 1 (.n1 2 (.n1 3 (.n1 4 (.n1 5 (.n1 6 (.n1 7 (.n1 8 (.n1 9 (.n1 10 (.n1 11 (.n1 12 (.n1 13 (.n2 14 (.n1 15 (.n1 16 (.n1 17 .done))) 17 (.n1 14 (.n1 15 (.n1 16 .done)))))))))))))))))) [18] [true,true,true,true,true,true]
  kernel_rfl
  kernel_rfl
  exact zy
  (simp only[Yd,nthO];rfl)
  repeat'(first|((first|apply Yb en69|apply Yc en69);exact za;exact rfl;exactλ_ hw=>(pi (hin.mono zk) hw))|(apply Yi T;exact rfl;exact zm;exact rfl;exact zv;exact rfl;exact rfl)|(apply Yj;try exact zl)|apply(zs91 ?_ ?_)|(apply Y7;try exact zl)|refine zgd ?_|(refine zgh ?_;intro _)|fail)
  all_goals(
   rename_i g12
   apply hK2 g12
   ·exact zu
   ·exact zk)
 rintro g12
 dsimp only
 have hlb:=YbF hok (r.xs.getD k 0) (r.xs.getD (k+1) 0)
 have hlb2:0<=lk.2.2/\lk.2.2<=7:=by rw[<-hlkd];exact hlb
 obtain⟨HR,hHR⟩:∃R,hopA n.net lk.1 lk.2.1 f.1 (endd-z).toNat (Y9 lk) s1.sch z=R:=⟨_,rfl⟩
 rw[relA,hHR]at hrel
 have hnd:lk.2.2+1=((Y9 lk:Nat):Int):=by unfold Y9;omega
 have hkl:LkOk n.net L lk.1 lk.2.1 f.1:=hk lk (by rw[<-hlkd];exact RX (T8.2 (by omega)))
 refine zX11 ?_
 rw[hnd]
 refine Yg (λy:ReM=>[(13,.int .i64 (y.i:Nat)),(12,.pointer (some ⟨g12,0,none⟩)),(11,.int .i64 ((k+1:Nat):Int)),(10,.int .i64 endd),(9,.bool false),(3,.int .i64 y.z),(2,.slice r.A r.xs.length r.cap),(4,.pointer (some ⟨g4,0,none⟩)),(5,.pointer (some ⟨g5,0,none⟩)),(8,.pointer (some ⟨g8,0,none⟩))])
  (λy=>lnkA g12 lk::grdA g4 n y.s::flwA g5 f::blk g8 (.cells #[.int .i64 0,.slice none 0 0,.int .i64 0,.int .i64 0,.slice none 0 0,.slice none 0 0,.int .i64 0,.int .i64 0,.slice none 0 0] 410 (0,0))::many y.L::many R::[many H])
  (λy=>FilI n L s.len s.off B w0 H y.s y.L/\(0<=y.z/\y.z<=endd)/\y.i<=8/\hopA n.net lk.1 lk.2.1 f.1 (endd-y.z).toNat y.i y.s.sch y.z=HR) (λy=>(endd-y.z).toNat) ⟨Y9 lk,s1,z,P⟩ ⟨hF,hz,by show Y9 lk<=8;omega,hHR⟩ ?_ ?_ ?_
 ·exact zc1
 ·exact zc0
 clear hF hz hHR
 rintro⟨m,s2,y,P2⟩ ⟨hF,hz,hm8,hHR⟩ K2 hK2
 dsimp only at hF hz hm8 hHR⊢
 cases m with
 |zero=>
  rw[Ym3]at hHR
  subst hHR
  dsimp only at hrel
  clear hK2
  refine zX1 ?_<;>intros
  apply hK ⟨k+1+1,s2,y,P2⟩
  ·exact⟨⟨by show 1<=k+1+1;omega,by show k+1+1<=_;omega⟩,hF,hz,hrel⟩
  ·exact zc47
  ·exact zc1
  ·exact zc0
 |succ m=>
 by_cases hlt2:y<endd
 rotate_left
 ·rw[show(endd-y).toNat=0 by omega,hopA]at hHR
  subst hHR
  dsimp only at hrel
  clear hK2 hK
  refine zX0 ?_<;>intros
  apply Yv T (H2:=many P2::many R::H);(iterate 3 exact rfl);(focus exact zc2);exact rfl;exact rfl
  ·intro w hw
   have h5:St B w0 (many P2::many R::[many H]) w:=by
    revert w
    exact zc0
   exact YlU
  exact⟨s2,false,P2,rfl,λh=>(by cases h),λ_=>hrel.symm,rfl⟩
 have hfew:=hF.sm.few (by show s2.len<=24;rw[hF.len];exact h24)
 have h2l:=hF.len
 have h2o:=hF.off
 have ps:=λ{H':List HP}{w:World}(hin:n.In B w0 H') (hr:Rd B w0 H' s2.A (s2.cells.flatMap celF)) (hw:St B w0 H' w)=>Yqh n s2 lk f.1 (y%s2.len) hsm.ck (by have:s2.sch.cells.length=s2.cells.length:=rfl;omega) ⟨by omega,by omega⟩ hF.sm.ord hin hr hw
 unfold grdV lkV at ps
 rw[show(endd-y).toNat=(endd-(y+1)).toNat+1 by omega,hopA,Rn hz.1]at hHR
 refine zX1 ?_<;>intros
 apply Um [0,1,2,3,4,5,6,7,8,9,10,12,11] [12,13,14] [13,14] [true,true,true,true,true,true,true]
 kernel_rfl
 kernel_rfl
 exact zy
 (simp only[Yd,nthO];rfl)
 (simp only[Yd,nthO];rfl)
 refine zX2 ?_
 apply Yf _ YvC
 exact za
 exact rfl
 exactλ_ hw=>(ps (hin.mono zc0) (hF.rd.mono zc0) (hw))
 rintro _ _ (⟨rfl,hs,rfl⟩|⟨rfl,hs,rfl⟩|⟨A3,cap3,c3,rfl,hs,rfl⟩)
 ·rw[show Jr n.net s2.sch lk.1 lk.2.1 f.1 (y%s2.sch.len)=some s2.sch from hs]at hHR
  dsimp only at hHR
  refine zX17 ?_
  rw[show((m+1:Nat):Int)-1=(m:Nat) by omega]
  apply hK2 ⟨m,s2,y+1,P2⟩
  ·exact⟨hF,⟨by show 0<=y+1;omega,by show y+1<=endd;omega⟩,by show m<=8;omega,hHR⟩
  ·exact zc47
  ·exact zc1
  ·exact zc0
 ·rw[show Jr n.net s2.sch lk.1 lk.2.1 f.1 (y%s2.sch.len)=none from hs]at hHR
  dsimp only at hHR
  refine zX17 ?_
  apply hK2 ⟨m+1,s2,y+1,P2⟩
  ·exact⟨hF,⟨by show 0<=y+1;omega,by show y+1<=endd;omega⟩,hm8,hHR⟩
  ·exact zc47
  ·exact zc1
  ·exact zc0
 ·rw[show Jr n.net s2.sch lk.1 lk.2.1 f.1 (y%s2.sch.len)=some ⟨s2.len,s2.off,insC s2.cells c3⟩ from hs]at hHR
  dsimp only at hHR
  have hmz:0<=y%s2.len/\y%s2.len<s2.len:=⟨Int.emod_nonneg _ (by omega),Int.emod_lt_of_pos _ (by omega)⟩
  obtain⟨hsm3,-,-⟩:=Yiz hF.sm hkl hmz hs
  have hop3:∀w,St B w0 (many (cels A3 cap3 (insC s2.cells c3)::[many P2])::[many H]) w->St B w0 (cels A3 cap3 (insC s2.cells c3)::many P2::[many H]) w:=λw hw=>hw.perm (.open_ [_,_] [many H])
  refine zX17 ?_
  rw[show((m+1:Nat):Int)-1=(m:Nat) by omega]
  apply hK2 ⟨m,⟨s2.len,s2.off,A3,cap3,insC s2.cells c3⟩,y+1,cels A3 cap3 (insC s2.cells c3)::[many P2]⟩
  ·exact⟨⟨hsm3,h2l,h2o,(Rd.sl (.head _)).mono hop3⟩,⟨by show 0<=y+1;omega,by show y+1<=endd;omega⟩,by show m<=8;omega,hHR⟩
  ·exact zc47
  ·exact zc1
  ·intro w hw
   have h5:St B w0 (lnkA g12 lk::grdA g4 n ⟨s2.len,s2.off,A3,cap3,insC s2.cells c3⟩::flwA g5 f::blk g8 (.cells #[.int .i64 0,.slice none 0 0,.int .i64 0,.int .i64 0,.slice none 0 0,.slice none 0 0,.int .i64 0,.int .i64 0,.slice none 0 0] 410 (0,0))::cels A3 cap3 (insC s2.cells c3)::many P2::many R::[many H]) w:=by
    revert w
    exact zc0
   exact h5.perm (.cons _ (.cons _ (.cons _ (.cons _ (.close [_,_] (many R::[many H]))))))
structure Yn4(n:NetM)(L:List Flw)(id:Int)(r:RowM):Prop where
 lk:∀x∈Yp n.net r.xs,LkOk n.net L x.1 x.2.1 id
 key:∀i,i+1<r.xs.length->0<=Yy n.net (r.xs.getD i 0) (r.xs.getD (i+1) 0)
 len:1<=r.xs.length/\r.xs.length<=9
structure PlM2 where
 i:Nat
 s:SchM
 P:List HP
theorem Yij(n:NetM)(L:List Flw)(s:SchM)(x:RqM)(hsm:Sm n.net L s.sch)(h24:s.len<=24)(hrow:∀r∈x.rows,Yn4 n L x.f.1 r)(hf:Xv n.net.nodes x.f=0){B:Nat}{w0:World}{H:List HP}{w:World}(hin:n.In B w0 H)(hr:Rd B w0 H s.A (s.cells.flatMap celF))(hx:x.In B w0 H)(hw:St B w0 H w):
 CX B w0 293 [n.val,s.val,rqV x] w λv K=>∃(s':SchM) (ok:Bool) (P:List HP),v=.tuple #[s'.val,.bool ok]/\
  (ok=true->Jm n.net x.f (x.rows.map (·.xs)) s.sch=some s'.sch/\Rd B w0 (many P::H) s'.A (s'.cells.flatMap celF))/\(ok=false->Jm n.net x.f (x.rows.map (·.xs)) s.sch=none)/\K=many P::H:=by
 refine Ya Tryz.func293 Tryz.ntmps293 rfl rfl hw ?_
 have hop:∀w,St B w0 [many H] w->St B w0 H w:=λw hw=>hw.perm (.openT H)
 have hin:=hin.mono hop
 have hr:=hr.mono hop
 have hx:=hx.mono hop
 obtain⟨-,hper,hph,-,hd⟩:=X6 hf
 have hxr:=hx.rt
 have hxl:=hx.ln
 obtain⟨RR,hRR⟩:∃R,Jm n.net x.f (x.rows.map (·.xs)) s.sch=R:=⟨_,rfl⟩
 rw[hRR]
 have hsz:1<=s.len/\s.len<=512/\1<=s.off/\s.off<=16:=Rm hsm.sized
 refine XD [many H] (λw hw=>hw.perm (.closeT H)) ?_
 refine XD (many []::[many H]) (λw hw=>hw.perm (.noMany _)) ?_
 unfold NetM.val SchM.val rqV
 refine zX25 ?_<;>intros
 rename_i g3 g4 g5 g6 g8
 refine Yg (λz:PlM2=>[(19,.int .i64 (z.i:Nat)),(18,.int .i64 x.rows.length),(17,.slice x.A x.rows.length x.cap),(9,.bool true),(7,.bool false),(8,.pointer (some ⟨g8,0,none⟩)),(6,.pointer (some ⟨g6,0,none⟩)),(5,.pointer (some ⟨g5,0,none⟩)),(4,.pointer (some ⟨g4,0,none⟩)),(3,.pointer (some ⟨g3,0,none⟩))])
  (λz=>grdA g8 n z.s::blk g6 (.cells #[.int .i64 0,.int .i64 0,.slice none 0 0] 30 (0,0))::rqA g5 x::schA g4 s::many z.P::[many H])
  (λz=>z.i<=x.rows.length/\FilI n L s.len s.off B w0 H z.s z.P/\Jm n.net x.f ((x.rows.map (·.xs)).drop z.i) z.s.sch=RR) (λz=>x.rows.length-z.i) ⟨0,s,[]⟩ ⟨Ti _,⟨hsm,rfl,rfl,hr.cons⟩,hRR⟩ ?_ ?_ ?_
 ·exact zc1
 ·intro w hw
  have h5:St B w0 (grdA g8 n s::blk g6 (.cells (Value.agg #[.int .i64 0,.int .i64 0,.slice none 0 0]).cells 30 (0,0))::rqA g5 x::schA g4 s::many []::[many H]) w:=by
   revert w
   exact zc0
  exact h5
 rintro⟨i,s1,P⟩ ⟨hi,hF,hrel⟩ K hK
 dsimp only at hi hF hrel⊢
 by_cases hlt:i<x.rows.length
 rotate_left
 ·obtain rfl:i=x.rows.length:=by omega
  clear hK
  rw[Rf YqL]at hrel
  refine YdK ?_<;>intros
  apply Yv T (H2:=many P::H);(iterate 3 exact rfl);(focus exact zc2);exact rfl;exact rfl
  ·intro w hw
   have h5:St B w0 (many P::[many H]) w:=by
    revert w
    exact zc0
   exact YlW
  exact zc89
 obtain⟨r,hrx⟩:∃r,x.rows[i]? =some r:=⟨_,Ta hlt⟩
 have hrm:r∈x.rows:=Tc hrx
 have hro:=hrow r hrm
 have hdrop:(x.rows.map (·.xs)).drop i=r.xs::(x.rows.map (·.xs)).drop (i+1):=by
  have hl2:i<(x.rows.map (·.xs)).length:=by rw[Tt];exact hlt
  rw[Rh hl2]
  congr 1
  have h6:(x.rows.map (·.xs))[i]? =some r.xs:=by rw[TJ,hrx];rfl
  rw[Ta hl2]at h6
  exact Tv h6
 rw[hdrop,Jm]at hrel
 obtain⟨HR,hHR⟩:∃R,QW n.net x.f (Yp n.net r.xs) s1.sch.len.toNat s1.sch x.f.2.2.2.2.1=R:=⟨_,rfl⟩
 rw[hHR]at hrel
 have hl1:s1.sch.len=s.len:=hF.len
 rw[hl1]at hHR
 refine zX0 ?_<;>intros
 refine Yg (λz:PlM2=>[(12,.int .i64 (x.f.2.2.2.2.1+(z.i:Int)*x.f.2.2.2.1)),(11,.slice r.A r.xs.length r.cap),(19,.int .i64 (i:Nat)),(18,.int .i64 x.rows.length),(17,.slice x.A x.rows.length x.cap),(9,.bool true),(7,.bool false),(8,.pointer (some ⟨g8,0,none⟩)),(6,.pointer (some ⟨g6,0,none⟩)),(5,.pointer (some ⟨g5,0,none⟩)),(4,.pointer (some ⟨g4,0,none⟩)),(3,.pointer (some ⟨g3,0,none⟩))])
  (λz=>grdA g8 n z.s::blk g6 (.cells #[.int .i64 0,.int .i64 0,.slice none 0 0] 30 (0,0))::rqA g5 x::schA g4 s::many z.P::[many H])
  (λz=>z.i<=s.len.toNat/\FilI n L s.len s.off B w0 H z.s z.P/\QW n.net x.f (Yp n.net r.xs) (s.len.toNat-z.i) z.s.sch (x.f.2.2.2.2.1+(z.i:Int)*x.f.2.2.2.1)=HR) (λz=>s.len.toNat-z.i) ⟨0,s1,P⟩ ⟨Ti _,hF,by simpa using hHR⟩ ?_ ?_ ?_
 ·dsimp only
  rw[show x.f.2.2.2.2.1+((0:Nat):Int)*x.f.2.2.2.1=x.f.2.2.2.2.1 by simp]
  exact zc1
 ·exact zc0
 clear hF hHR hl1
 rintro⟨j,s2,P2⟩ ⟨hj,hF,hHR⟩ K2 hK2
 dsimp only at hj hF hHR⊢
 have hl2:s2.sch.len=s.len:=hF.len
 obtain⟨y,hy⟩:∃y:Int,x.f.2.2.2.2.1+(j:Int)*x.f.2.2.2.1=y:=⟨_,rfl⟩
 have hjy:(j:Int)<=(j:Int)*x.f.2.2.2.1:=by
  have:=SI hper.1 (show(0:Int)<=j by omega)
  rw[Int.mul_one]at this
  exact this
 rw[hy]at hHR⊢
 by_cases hyl:y<s.len
 rotate_left
 ·have hHR2:HR=some s2.sch:=by
   rw[<-hHR]
   cases s.len.toNat-j with
   |zero=>rfl
   |succ k=>rw[QW,Tf (by rw[hl2];exact hyl)]
  rw[hHR2]at hrel
  dsimp only at hrel
  clear hK2
  refine zX1 ?_<;>intros
  apply hK ⟨i+1,s2,P2⟩
  ·exact⟨by exact zc86,hF,hrel⟩
  ·exact zc47
  ·exact zc1
  ·exact zc0
 obtain⟨k,hk⟩:∃k,s.len.toNat-j=k+1:=⟨s.len.toNat-j-1,by omega⟩
 rw[hk,QW,Tn (by rw[hl2];exact hyl)]at hHR
 have hxw:=hx.rw_ r hrm
 have pr:=λ{R':List HP}{w:World}(hw:St B w0 (many R'::many P2::[many H]) w)=>Yd0 n L s2 x.f r y hF.sm (by have:=hF.len;omega) hro.lk hro.key hro.len ⟨by omega,by omega⟩ ⟨by omega,by omega⟩ (R:=R') (H:=many P2::[many H]) hin.cons hF.rd hxw.cons hw
 unfold grdV flwV at pr
 refine YqA ?_<;>intros
 apply Xy (many [grdA g8 n s2,blk g6 (.cells #[.int .i64 0,.int .i64 0,.slice none 0 0] 30 (0,0)),rqA g5 x,schA g4 s]::many P2::[many H])
 ·intro w hw
  have h5:St B w0 (grdA g8 n s2::blk g6 (.cells #[.int .i64 0,.int .i64 0,.slice none 0 0] 30 (0,0))::rqA g5 x::schA g4 s::many P2::[many H]) w:=by
   revert w
   exact zc0
  exact h5.perm (.close [_,_,_,_] (many P2::[many H]))
 apply Yf _ Yvz
 exact za
 exact rfl
 exactλ_ hw=>(pr (hw))
 rintro _ _ ⟨s3,ok,P3,rfl,ho1,ho2,rfl⟩
 apply Xy (many P3::grdA g8 n s2::blk g6 (.cells #[.int .i64 0,.int .i64 0,.slice none 0 0] 30 (0,0))::rqA g5 x::schA g4 s::many P2::[many H])
 ·exactλw hw=>hw.perm (.cons _ (.open_ [_,_,_,_] (many P2::[many H])))
 cases ok with
 |false=>
  have hn:=ho2 rfl
  rw[hn]at hHR
  dsimp only at hHR
  rw[<-hHR]at hrel
  dsimp only at hrel
  clear hK hK2
  refine zX2 ?_
  apply Yv T (H2:=many P2::H);(iterate 3 exact rfl);(focus exact zc2);exact rfl;exact rfl
  ·intro w hw
   have h5:St B w0 (many P2::[many H]) w:=by
    revert w
    exact zc0
   exact YlW
  exact⟨s,false,P2,rfl,λh=>(by cases h),λ_=>hrel.symm,rfl⟩
 |true=>
  obtain⟨h1,hrd3⟩:=ho1 rfl
  rw[h1]at hHR
  dsimp only at hHR
  obtain⟨hsm3,hg3,-⟩:=Ygh (Yp n.net r.xs) hro.lk hF.sm (by omega) (by omega) (by rw[hl2];omega) h1
  have h3l:s3.len=s.len:=hg3.len.trans hF.len
  have h3o:s3.off=s.off:=hg3.off.trans hF.off
  have hyn:x.f.2.2.2.2.1+((j+1:Nat):Int)*x.f.2.2.2.1=y+x.f.2.2.2.1:=by
   rw[<-hy,show((j+1:Nat):Int)=(j:Int)+1 by omega,Int.add_mul];omega
  refine zX2 ?_
  apply hK2 ⟨j+1,s3,[many P3,many P2]⟩
  ·refine⟨by show j+1<=_;omega,⟨hsm3,h3l,h3o,hrd3.mono λw hw=>hw.perm (.open_ [_,_] [many H])⟩,?_⟩
   dsimp only
   rw[hyn,show s.len.toNat-(j+1)=k by omega]
   exact hHR
  ·exact zc47
  ·dsimp only
   rw[hyn]
   exact zc1
  ·intro w hw
   have h5:St B w0 (grdA g8 n s3::blk g6 (.cells #[.int .i64 0,.int .i64 0,.slice none 0 0] 30 (0,0))::rqA g5 x::schA g4 s::many P3::many P2::[many H]) w:=by
    revert w
    exact zc0
   exact h5.perm (.cons _ (.cons _ (.cons _ (.cons _ (.close [_,_] [many H])))))
variable {B:Nat}{w0 w:World}{H:List HP}
theorem Ybg(n:NetM)(q:List RqM)(s:SchM){A:Option Addr}{cap:Nat}(ht:TabsB B w0)(hin:n.In B w0 H)(hq:QIn B w0 H A q)(hrs:Rd B w0 H s.A (s.cells.flatMap celF))(hsl:s.cells.length<=1000000000000)(hw:St B w0 H w):
 CX B w0 166 [n.val,.slice A q.length cap,s.val] w λv K=>v=.bool (decide ((YO n.net (q.map RqM.rq) s.sch).2.2=0))/\K=H:=by
 refine Ya Tryz.func166 Tryz.ntmps166 rfl rfl hw ?_
 have p1:=λ{H':List HP}{w:World}(hin:n.In B w0 H') (hq:QIn B w0 H' A q) (hrs:Rd B w0 H' s.A (s.cells.flatMap celF)) (hw:St B w0 H' w)=>UG n q s (cap:=cap) ht hin hq hrs hsl hw
 unfold OutC NetM.val SchM.val at p1
 obtain⟨⟨RC,ri,re⟩,hR⟩:∃R,YO n.net (q.map RqM.rq) s.sch=R:=⟨_,rfl⟩
 rw[hR]at p1⊢
 dsimp only at p1⊢
 unfold NetM.val SchM.val
 refine zX70 ?_<;>intros
 apply Yf _ en40
 exact za
 exact rfl
 exactλ_ hw=>(p1 hin.cons.cons hq.cons.cons hrs.cons.cons (hw))
 rintro _ _ ⟨A2,cap2,C,rfl,hC,hCl,rfl⟩
 by_cases h0:re=0
 ·rw[Td h0]
  refine Yab ?_<;>intros
  apply Yh H
  ·exact zc0
  apply Ye;exact rfl;exact rfl;grind
 ·rw[Tj h0]
  refine Yab ?_<;>intros
  apply Yh H
  ·exact zc0
  exact zc13
theorem Yrg(s:SchM)(id:Int)(hf:Y1 s.sch=true):QA s.sch id=(⟨s.len,s.off,s.cells.filter λc=>!(decide (Xo c=id))⟩,0):=by
 unfold QA
 rw[Tf (by simp_all)]
 unfold Yse
 have h2:(λc:Cel=>decide (Xo c≠id))=λc=>!(decide (Xo c=id)):=by
  simp_all
 rw[h2]
 exact rfl
theorem Yl3(s:SchM)(id:Int)(ht:TabsB B w0)(hr:Rd B w0 H s.A (s.cells.flatMap celF))(hl:s.cells.length<=1000000000000)(hw:St B w0 H w):
 CX B w0 91 [s.val,.int .i64 id] w (OutS H (QA s.sch id)):=by
 refine Ya Tryz.func91 Tryz.ntmps91 rfl rfl hw ?_
 have p1:=λ{H':List HP}{w:World}(hr:Rd B w0 H' s.A (s.cells.flatMap celF)) (hw:St B w0 H' w)=>VH s ht hr hl hw
 unfold SchM.val at p1⊢
 repeat'(first|(apply zg23;first|(refine zs52 ?_;intro _)|(refine zs53 ?_;intro _))|refine zgb ?_|(refine zgh ?_;intro _)|fail)
 first|apply Yb en11|apply Yc en11
 exact za
 exact rfl
 exactλ_ hw=>(p1 hr.cons.cons.cons hw)
 cases hf:Y1 s.sch with
 |false=>
  rw[show(Y3 s.sch).2=1 by unfold Y3;rw[hf,Tn rfl]]
  repeat'(first|refine zgd ?_|(refine zge ?_ ?_<;>intro _<;>try exact zo)|fail)
  apply Yv T (H2:=cels none 0 []::H);(iterate 3 exact rfl);exact zm;exact rfl;exact rfl;(intro w hw;refine St.nilSlice (H:=H) ?_ _ _;revert w;exact zk)
  exact Ub 1 (by rw[QA,Tn hf]) rfl
 |true=>
  rw[show(Y3 s.sch).2=0 by unfold Y3;rw[hf,Tf (by decide)]]
  have hle:s.cells.length<=512:=(Xw.1 hf).few
  repeat'(first|refine zgc ?_|(refine zge ?_ ?_<;>intro _<;>try exact zo)|fail)
  rename_i g2 g3 g4
  apply Yf _ Yew
  exact za
  exact rfl
  exactλ_ hw=>(Z0 s.cells (by omega) hr.cons.cons.cons (hw))
  rintro _ _ ⟨A1,c1,rfl,rfl⟩
  repeat'(first|(apply zg29;(apply Yr;exact za;exact rfl))|fail)
  apply Yf _ Yk5
  exact za
  exact rfl
  exactλ_ hw=>(V0 (λc=>decide (Xo c=id)) s.cells 178 [.pointer (some ⟨g2,0,none⟩)] Yu8 (by omega) (λc _ X w hw=>Yjs c id g2 (TS _ zm) hw) (hw))
  rintro _ _ ⟨rfl,rfl⟩
  have hd:=Yrg s id hf
  repeat'(first|refine zgd ?_|fail)
  apply Yv T (H2:=cels A1 c1 (s.cells.filter λc=>!(decide (Xo c=id)))::H);(iterate 3 exact rfl);exact zm;exact rfl;exact rfl;exact zk
  rw[hd]
  exact⟨A1,c1,rfl,rfl⟩
def rqs(A:Option Addr)(cap:Nat)(l:List RqM):HP:=sl 69 7 A l.length cap (l.flatMap rqF)
theorem Yay(A:Option Addr)(cap:Nat)(l:List RqM)(x:RqM):sl 69 7 A (l.length+1) cap (l.flatMap rqF++#[Value.int .i64 x.f.1,.int .i64 x.f.2.1,.int .i64 x.f.2.2.1,.int .i64 x.f.2.2.2.1,.int .i64 x.f.2.2.2.2.1,.int .i64 x.f.2.2.2.2.2,.slice x.A x.rows.length x.cap].toList)=rqs A cap (l++[x]):=by
 grind [rqs,rqF]
variable {A:Option Addr}{cap B k gv:Nat}{w0 w:World}{H:List HP}
theorem WJ(l:List RqM)(hlen:l.length<=1000000)(hr:Rd B w0 H A (l.flatMap rqF))(hw:St B w0 H w):
 CX B w0 90 [.slice A l.length cap] w λv K=>∃A' cap',v=.slice A' l.length cap'/\K=rqs A' cap' l::H:=by
 cases A with
 |none=>
  have hl:l=[]:=by
   cases l with
   |nil=>rfl
   |cons x l=>
    exact zc36
  subst hl
  refine Ya Tryz.func90 Tryz.ntmps90 rfl rfl hw ?_
  refine zX7 ?_
  apply XW 69 7;exact zc39
 |some a=>
  refine Ya Tryz.func90 Tryz.ntmps90 rfl rfl hw ?_
  repeat'(first|(apply Zq;(iterate 3 exact rfl))|(apply Xt T;exact rfl;exact rfl;intro g2)|refine zgb ?_|fail)
  apply XE T (f:=rqF) (l2:=l) (e:=69) (size:=7) (xs:=[]);(iterate 3 exact rfl);exact hr.cons;exact(λ_=>rfl);exact(λ_=>rfl);exact rfl;(intro _ _;exact zd);omega;intro A' cap'
  exact zc61
section
variable {m:Eng.Mode}{n:Shp}{B d:Nat}{w0:World}{ops:Array Oper}{Q:Exit->Act->World->Prop}{rest:List Oper}{env:Env}{H:List HP}{ty:TypeId}{pos:String}{after:Array Edge}{x y lo:Operand}
variable {gv k cap:Nat}
theorem Yfx{g o la ca lb cb:Nat}{tt:TypeId}{cs:Array Value}{xs:List Value}{tys:Array TypeId}(hx:evo env x=some (.slice (some ⟨gv,0,none⟩) la ca))(hy:evo env y=some (.slice (subA (some ⟨g,0,none⟩) o cap 7) lb cb))(hm1:Eng.blk gv (.cells cs tt (0,0))∈H)(hm2:sl 69 7 (some ⟨g,0,none⟩) k cap xs∈H)
 (hne:∀w,St B w0 H w->gv≠g) (hc:0<cap/\cap≠o) (hn:Nat.ble (d+1) n.k=true) (h:VL Tryz.prog none n B w0 ops Q rest ((d,.bool false)::env) H):
 VL Tryz.prog none n B w0 ops Q (⟨some d,.call ⟨.value (.func 294),#[x,y],tys⟩,ty,pos,after,none⟩::rest) env H:=by
 have hsub:subA (some ⟨g,0,none⟩) o cap 7=some ⟨g,o*7,none⟩:=by
  simp_all [subA,Go.Addr.add_lit]
 rw[hsub]at hy
 refine Xj (λu K'=>u=.bool false/\K'=H) rfl rfl hn (λa w ha hw=>⟨.bool false,H,w,?_,hw,rfl,rfl⟩) zc51
 have hb:=(hw.blk hm1).1
 rcases ZK (hw.sl hm2)with⟨h0,_⟩|⟨g',cur,e0,g1,_,_,g4,_⟩
 ·cases h0
 injection e0 with e0
 injection e0 with e0
 subst e0
 obtain⟨bb,htl⟩:∃bb,Eng.look T.sl 27=some (69,7,bb):=⟨_,rfl⟩
 obtain⟨_,inf,_,hi,_,_,hsi,_⟩:=Yx (T.slic htl)
 have hr:=run_callFunc_extern (P:=Tryz.prog) Tryz.func294 (by kernel_rfl) (by kernel_rfl) (by kernel_rfl) (e:=Extern.SlicesOverlaps.overlaps #[27,27] #[4]) (by kernel_rfl) #[.slice (some ⟨gv,0,none⟩) la ca,.slice (some ⟨g,o*7,none⟩) lb cb] w
 have hov:=Lib.run_overlaps_apart (P:=Tryz.prog) w 27 4 69 Tryz.underlying27 7 (λw=>by simp[sizeOf,typeInfo,hi,hsi]) ⟨gv,0,none⟩ ⟨g,o*7,none⟩ la ca lb cb (hne w hw) tt 69 cs.size cur.size (by simp[World.shape?,hb]) (by simp[World.shape?,g1]) (by rw[g4];omega) Yfk Yfk
 have he:a.eval (.func 294)=.func (.func 294) #[] #[]:=rfl
 simp[execOp,resolve,invoke,ha.eval hx,ha.eval hy,he,Deferred.ofValue,hr,hov,Result.andThen]
end
theorem Yrq(l:List RqM)(c:RqM)(i:Nat)(hk:k=1):(l.take i).take i++[c].take k++(l.take i).drop (i+k)=l.take i++[c]:=by
 grind [Rf]
theorem Yrr(l:List RqM)(c:RqM)(i:Nat)(hi:i<=l.length)(hk:k=l.length-i):(l.take i++[c]).take (i+1)++(l.drop i).take k++(l.take i++[c]).drop (i+1+k)=l.take i++c::l.drop i:=by
 simp_all [List.take_of_length_le]
theorem Yrs(l:List RqM)(i:Nat)(hi:i<=l.length)(hk:k=l.length-i):l.take (i+1)++(l.drop i).take k++l.drop (i+1+k)=l.take (i+1)++l.drop i:=by
 grind [Rf,TZ]
theorem Yrt(l:List RqM)(c:RqM)(i:Nat)(hi:i<l.length)(hk:k=1):(l.take (i+1)++l.drop i).take i++[c].take k++(l.take (i+1)++l.drop i).drop (i+k)=l.take i++c::l.drop i:=by
 grind
theorem Yaq(l:List RqM)(c:RqM)(i:Nat)(hi:i<=l.length):(l.take i++c::l.drop i).length=l.length+1:=by
 grind
theorem Yf1(l:List RqM)(i:Nat)(c:RqM)(hi:i<=l.length)(hlen:l.length<=1000)(hw:St B w0 (rqs A cap l::blk gv (.cells #[.int .i64 c.f.1,.int .i64 c.f.2.1,.int .i64 c.f.2.2.1,.int .i64 c.f.2.2.2.1,.int .i64 c.f.2.2.2.2.1,.int .i64 c.f.2.2.2.2.2,.slice c.A c.rows.length c.cap] 69 (0,0))::H) w):
 CX B w0 208 [.slice A l.length cap,.int .i64 i,.slice (some ⟨gv,0,none⟩) 1 1] w λv K=>∃A' cap',v=.slice A' (l.take i++c::l.drop i).length cap'/\K=rqs A' cap' (l.take i++c::l.drop i)::H:=by
 refine Ya Tryz.func208 Tryz.ntmps208 rfl rfl hw ?_
 unfold rqs
 refine Oc (k:=l.length) (cap:=cap) (by(focus exact zc2)) λhcap=>?_
 have hli:=Yaq l c i hi
 have hrv:∀{L:List HP},blk gv (.cells #[.int .i64 c.f.1,.int .i64 c.f.2.1,.int .i64 c.f.2.2.1,.int .i64 c.f.2.2.2.1,.int .i64 c.f.2.2.2.2.1,.int .i64 c.f.2.2.2.2.2,.slice c.A c.rows.length c.cap] 69 (0,0))∈L->Rd B w0 L (some ⟨gv,0,none⟩) (([c]:List RqM).flatMap rqF):=λh=>by
  have h1:=Rd.blk (B:=B) (w0:=w0) (cs:=(rqF c).toArray) h
  rw[show([c]:List RqM).flatMap rqF=(rqF c).toArray.toList by simp]
  exact h1
 have hq7:∀c:RqM,(rqF c).length=7:=λ_=>rfl
 have ho7:∀c:RqM,ZM (rqF c)=true:=λ_=>rfl
 refine zX4 ?_
 apply YL T i (l.length-i);(iterate 5 exact rfl);exact hi;exact rfl
 by_cases hin:i=l.length
 ·have e1:l.take i++c::l.drop i=l++[c]:=by rw[hin,TM,R9]
  rw[e1]
  repeat'(first|refine zgb ?_|(refine zgf ?_ ?_<;>intro _<;>try exact zo)|(refine zgi ?_;intro _ _)|fail)
  rename_i A' cap'
  apply Yh (rqs A' cap' (l++[c])::H)
  ·intro w hw
   rw[<-Yay]
   revert w
   exact zc0
  exact Ytm
 have hlt:i<l.length:=by omega
 have hrs:∀{L:List HP}{g:Nat},sl 69 7 (some ⟨g,0,none⟩) l.length cap (l.flatMap rqF)∈L->Rd B w0 L (subA (some ⟨g,0,none⟩) i cap 7) ((l.drop i).flatMap rqF):=λh=>by
  have h1:=Rd.sub (B:=B) (w0:=w0) (q:=7) (o:=i) (k:=l.length-i) (cap:=cap) hq7 (Rd.sl h) hcap
  exact YtE
 apply YfC (k:=l.length) (by(focus exact zc2)) (by omega)
 rintro g rfl
 have hA:∃g',(some ⟨g,0,none⟩:Option Addr)=some ⟨g',0,none⟩:=⟨g,rfl⟩
 repeat'(first|(apply YkC T;(iterate 3 exact rfl))|refine zgc ?_|(refine zgf ?_ ?_<;>intro _<;>try exact zo)|fail)
 ·apply J8 T (n':=i);(iterate 4 exact rfl);omega;omega;exact hA
  refine zX2 ?_
  rw[show(l.length:Int)+((1:Nat):Int)-(i:Int)=((l.length+1-i:Nat):Int) by omega]
  apply YaF T (e:=69) (size:=7) (k:=l.length) (xs:=l.flatMap rqF);exact rfl;exact rfl;(focus exact zc2);exact rfl;kernel_rfl;exact rfl;kernel_rfl;omega;intro g2 c2 hc2
  rw[show i+(l.length+1-i)=l.length+1 by omega]at hc2⊢
  have e2:sl 69 7 (some ⟨g2,0,none⟩) i c2 ((l.flatMap rqF).take (i*7))=sl 69 7 (some ⟨g2,0,none⟩) (l.take i).length c2 ((l.take i).flatMap rqF):=by
   rw[Xr hq7,TT,SQ hi]
  rw[e2]
  have hA2:∃g',(some ⟨g2,0,none⟩:Option Addr)=some ⟨g',0,none⟩:=⟨g2,rfl⟩
  have htl:(l.take i).length=i:=Yfj
  refine zX4 ?_
  apply YL T i (l.length+1-i);(iterate 5 exact rfl);omega;exact rfl
  refine zX4 ?_
  apply JO T (l.take i) [c] (l.take i++[c]) (f:=rqF) (o:=i) (cap:=c2);exact rfl;exact rfl;exact hrv (by(focus exact zc2));exact hq7;exact ho7;exact rfl;exact rfl;exact hA2;(simp only[TO];omega);exact Yrq l c i (by omega);exact zd
  refine zX4 ?_
  apply YI [0,1,2,3,4,5,6,7] [8] [true,true,true]
  kernel_rfl
  kernel_rfl
  exact zy
  (simp only[Yd,nthO];rfl)
  (simp only[Yd,nthO];rfl)
  refine zX11 ?_
  apply YL T (i+1) (l.length+1-(i+1));(iterate 4 exact rfl);omega;omega;exact rfl
  refine zX4 ?_
  apply YL T i (l.length-i);(iterate 5 exact rfl);omega;exact rfl
  refine zX2 ?_
  apply JO T (l.take i++[c]) (l.drop i) (l.take i++c::l.drop i) (f:=rqF) (o:=i+1) (cap:=c2);exact rfl;exact rfl;exact hrs (by(focus exact zc2));exact hq7;exact ho7;exact rfl;exact rfl;exact hA2;(simp only[Tq,TT,TO,TZ];omega);exact Yrr l c i hi (by omega);exact zd
  refine zX2 ?_
  apply Yh (rqs (some ⟨g2,0,none⟩) c2 (l.take i++c::l.drop i)::H)
  ·unfold rqs
   exact zc0
  exact YtK
 ·apply J8 T (n':=l.length+1);(iterate 4 exact rfl);omega;omega;exact hA
  refine zX11 ?_
  apply YL T (i+1) (l.length+1-(i+1));(iterate 4 exact rfl);omega;omega;exact rfl
  apply Yfx (gv:=gv) (g:=g) (o:=i+1) (cap:=cap) (k:=l.length) (xs:=l.flatMap rqF);exact rfl;exact rfl;(focus exact zc2);(focus exact zc2);exactλw hw=>Yek (hw.perm (.swap _ _ _));omega;exact rfl
  refine zX2 ?_
  apply YI [0,1,2,3,4,5,6,7] [8] [true,true]
  kernel_rfl
  kernel_rfl
  exact zy
  (simp only[Yd,nthO];rfl)
  (simp only[Yd,nthO];rfl)
  refine zX11 ?_
  apply YL T (i+1) (l.length+1-(i+1));(iterate 4 exact rfl);omega;omega;exact rfl
  refine zX4 ?_
  apply YL T i (l.length+1-i);(iterate 5 exact rfl);omega;exact rfl
  refine zX2 ?_
  apply JO T l (l.drop i) (l.take (i+1)++l.drop i) (f:=rqF) (o:=i+1) (cap:=cap);exact rfl;exact rfl;exact hrs (by(focus exact zc2));exact hq7;exact ho7;exact rfl;exact rfl;exact hA;(simp only[TZ];omega);exact Yrs l i hi (by omega);exact zd
  refine zX2 ?_
  apply YL T i (l.length+1-i);(iterate 5 exact rfl);omega;exact rfl
  refine zX4 ?_
  apply JO T (l.take (i+1)++l.drop i) [c] (l.take i++c::l.drop i) (f:=rqF) (o:=i) (cap:=cap);exact rfl;exact rfl;exact hrv (by(focus exact zc2));exact hq7;exact ho7;exact rfl;exact rfl;exact hA;(simp only[Tq,TT,TO,TZ];omega);exact Yrt l c i hlt (by omega);exact zd
  refine zX8 ?_
  apply Yh (rqs (some ⟨g,0,none⟩) cap (l.take i++c::l.drop i)::H)
  ·unfold rqs
   exact zc0
  exact YtI
theorem YiH{id:Int}:∀{q:List Rqs}{k:Nat},k<=q.length->(∀i (x:Rqs),i<k->q[i]? =some x->x.1.1<id)->(∀x:Rqs,q[k]? =some x->¬x.1.1<id)->posQ q id=k
 |[],k,hk,_,_=>by
  have:k=0:=by simp_all
  subst this;rfl
 |y::q,0,_,_,h2=>by
  simp_all [posQ]
 |y::q,k+1,hk,h1,h2=>by
  have ih:=YiH (id:=id) (q:=q) (k:=k) (by grind) (λi x hi hx=>h1 (i+1) x (by omega) hx) λx hx=>h2 x hx
  unfold posQ at ih⊢
  rw[List.takeWhile_cons,Tn (Td (h1 0 y (by omega) rfl)),T0,ih]
theorem YeN(a b:RqM)(hw:St B w0 H w):
 CX B w0 371 [rqV a,rqV b] w λv K=>v=.int .i64 (cmpI a.f.1 b.f.1)/\K=H:=by
 refine Ya Tryz.func371 Tryz.ntmps371 rfl rfl hw ?_
 unfold rqV
 repeat'(first|((first|apply Yb en73|apply Yc en73);exact za;exact rfl;exactλ_ hw=>(WK _ _ hw))|refine zgb ?_|(refine zgh ?_;intro _)|fail)
 apply Yh H
 ·exact zk
 apply Ye;exact rfl;exact rfl
 exact⟨rfl,rfl⟩
theorem YkR{a b:Int}:cmpI a b<0↔a<b:=by
 unfold cmpI
 omega
def Yn1(l:List RqM):Prop:=∀(i j:Nat) (x y:RqM),i<j->l[i]? =some x->l[j]? =some y->x.f.1<y.f.1
theorem Ygp(l:List RqM)(c:RqM)(ho:Yn1 l)(hlen:l.length<=1000000000)(hr:Rd B w0 H A (l.flatMap rqF))(hw:St B w0 H w):
 CX B w0 370 [.slice A l.length cap,rqV c,.func (.func 371) #[] #[]] w λv K=>
  ∃b,v=.tuple #[.int .i64 (posQ (l.map RqM.rq) c.f.1:Nat),.bool b]/\K=H:=by
 refine Ya Tryz.func370 Tryz.ntmps370 rfl rfl hw ?_
 (apply Xs;apply YX;apply YT;exact rfl;exact rfl;intro g)
 refine zX8 ?_
 have hr:=hr.cons (X:=blk g (.cells (rqF c).toArray 69 (0,0)))
 refine YbR (λ(lo hi:Nat)=>[(9,.int .i64 lo),(10,.int .i64 hi),(8,.int .i64 l.length),(0,.slice A l.length cap),(2,.func (.func 371) #[] #[]),(4,.pointer (some ⟨g,0,none⟩))]) (λ_ _=>blk g (.cells (rqF c).toArray 69 (0,0))::H)
  (λlo hi=>lo<=hi/\hi<=l.length/\(∀i x,i<lo->l[i]? =some x->x.f.1<c.f.1)/\(∀i x,hi<=i->l[i]? =some x->¬x.f.1<c.f.1)) (λlo hi=>hi-lo) 0 l.length ⟨by omega,by omega,λj x hj=>by omega,λj x h1 h2=>by simp_all⟩ ?_ (λw hw=>hw) ?_
 ·exact zc1
 rintro lo hi ⟨h1,h2,h3,h4⟩ K hK
 by_cases hlt:lo<hi
 ·obtain⟨b,hb⟩:∃b,l[(((lo:Int)+hi)/2).toNat]? =some b:=⟨_,Ta (by omega)⟩
  have hm:(((lo:Int)+hi)/2).toNat=(lo+hi)/2:=by omega
  have hb2:l[(lo+hi)/2]? =some b:=by grind
  repeat'(first|((first|apply YY (cs:=[])|apply Xh (cs:=[]));exact rfl;exact YsL;exact za;exact rfl;exactλ_ hw=>(YeN b c hw))|(apply zg28;refine zs84 ?_)|refine zgd ?_|(refine zge ?_ ?_<;>intro _<;>try exact zo)|fail)
  ·rename_i hc
   rw[YkR]at hc
   apply hK ((lo+hi)/2+1) hi
   ·refine⟨by omega,by omega,λj x hj hx=>?_,h4⟩
    by_cases e:j=(lo+hi)/2
    ·exact YqC
    ·exact Int.lt_trans (ho j _ x b (by omega) hx hb2) hc
   ·omega
   ·exact zc1
   exact zc20
  ·rename_i hc
   have hc:¬b.f.1<c.f.1:=λh=>by have:=YkR.2 h;omega
   apply hK lo ((lo+hi)/2)
   ·refine⟨by omega,by omega,h3,λj x hj hx=>?_⟩
    by_cases e:j=(lo+hi)/2
    ·exact YqC
    ·exactλh=>hc (Int.lt_trans (ho _ j b x (by omega) hb2 hx) h)
   ·omega
   ·exact zc1
   exact zc20
 ·obtain rfl:lo=hi:=by omega
  have hpe:posQ (l.map RqM.rq) c.f.1=lo:=YiH (by rw[Tt];exact h2) (λi x hi hx=>by
   rw[TJ]at hx
   cases hl:l[i]? with
   |none=>rw[hl]at hx;cases hx
   |some y=>rw[hl]at hx;cases hx;exact h3 i y hi hl) λx hx=>by
   rw[TJ]at hx
   cases hl:l[lo]? with
   |none=>rw[hl]at hx;cases hx
   |some y=>rw[hl]at hx;cases hx;exact h4 lo y (TI _) hl
  rw[hpe]
  by_cases hl:lo<l.length
  ·obtain⟨b,hb⟩:∃b,l[lo]? =some b:=⟨_,Ta hl⟩
   repeat'(first|((first|apply YY (cs:=[])|apply Xh (cs:=[]));exact rfl;exact YsL;exact za;exact rfl;exactλ_ hw=>(YeN b c hw))|(apply zg28;refine zs84 ?_)|refine zgd ?_|(refine zgf ?_ ?_<;>intro _<;>try exact zo)|fail)
   all_goals(apply Ym;apply YN;(iterate 3 exact rfl);exact⟨_,rfl,rfl⟩)
  ·refine zX18 ?_<;>intros
   apply Ym;exact zc95
theorem YdZ(q:List RqM)(x:RqM)(ho:Yn1 q)(hlen:q.length<=1000)(hr:Rd B w0 H A (q.flatMap rqF))(hw:St B w0 H w):
 CX B w0 292 [.slice A q.length cap,rqV x] w λv K=>∃A' cap',v=.slice A' (q.length+1) cap'/\
  K=rqs A' cap' (q.take (posQ (q.map RqM.rq) x.f.1)++x::q.drop (posQ (q.map RqM.rq) x.f.1))::H:=by
 refine Ya Tryz.func292 Tryz.ntmps292 rfl rfl hw ?_
 have hp:posQ (q.map RqM.rq) x.f.1<=q.length:=zc83
 generalize hP:posQ (q.map RqM.rq) x.f.1=k at hp
 have p1:=λ{H':List HP}{w:World}(hr:Rd B w0 H' A (q.flatMap rqF)) (hw:St B w0 H' w)=>Ygp q x ho (by omega) (cap:=cap) hr hw
 rw[hP]at p1
 have p2:=λ{A':Option Addr}{cap' gv:Nat}{H':List HP}{w:World}(hw:St B w0 (rqs A' cap' q::rqA gv x::H') w)=>Yf1 q k x hp hlen hw
 rw[Yaq q x k hp]at p2
 have hr:Rd B w0 [many H] A (q.flatMap rqF):=hr.mono λw hw=>hw.perm (.openT H)
 have hrx:∀{L:List HP},(∀w,St B w0 L w->St B w0 [many H] w)->Rd B w0 L A (q.flatMap rqF):=λh=>hr.mono h
 refine XD [many H] (λw hw=>hw.perm (.closeT H)) ?_
 unfold rqV at p1⊢
 (apply Xs;apply YX;apply YT;exact rfl;exact rfl;intro g)
 refine zX8 ?_
 apply Yf _ Yvy
 exact za
 exact rfl
 exactλ_ hw=>(p1 hr.cons (hw))
 rintro _ _ ⟨b,rfl,rfl⟩
 refine zX11 ?_
 apply YgG (.p1 0 (.p1 2 (.p1 3 (.d2 1 (.d1 4 (.d1 5 (.d1 6 .done))) 4 (.d1 1 (.d1 5 (.d1 6 .done))))))) [] [true,true]
 kernel_rfl
 kernel_rfl
 exact zy
 exact rfl
 repeat'(first|((apply Yf _ en90);exact za;exact rfl;exactλ_ hw=>WJ q (by omega) (hrx zk) hw;rintro _ _ ⟨A1,cap1,rfl,rfl⟩)|(apply Vp T T2;(iterate 7 exact rfl);intro gv)|(apply Xl [rqs A1 cap1 q,rqA gv x] _ Yvd;exact za;try exact zl;exact zp;exact rfl;exactλ_ hw=>p2 hw;rintro _ _ ⟨A2,cap2,rfl,rfl⟩)|(apply Ysc;(simp only[nthO];rfl))|(apply Ysa;(simp only[nthO];rfl);exact zp)|(apply Ysb;(simp only[nthO];rfl);(simp only[nthO];rfl);exact zp)|(apply Yg3;try exact zl)|refine zgd ?_|fail)
 all_goals(
  apply Yh (rqs A2 cap2 (q.take k++x::q.drop k)::H)
  ·intro w hw
   have h5:St B w0 (rqs A2 cap2 (q.take k++x::q.drop k)::[many H]) w:=by
    revert w
    exact zk
   exact h5.perm (.cons _ (.openT H))
  apply Ye;exact rfl;exact rfl
  exact⟨A2,cap2,rfl,rfl⟩)
variable {A:Option Addr}{cap B:Nat}{w0 w:World}{H:List HP}
theorem YcP(p:RqM->Bool)(l:List RqM)(f:Nat)(cs:List Value)(hen:∀xs w,(callFunc f xs).run Tryz.prog w=.ok (.enter f xs) w)(hlen:l.length<=100000000)(hr:Rd B w0 H A (l.flatMap rqF))
 (hp:∀a∈l,∀w,St B w0 H w->Calls Tryz.prog f ([rqV a]++cs).toArray w (Post B w0 λv K=>v=.bool (p a)/\K=H)) (hw:St B w0 H w):
 CX B w0 87 [.slice A l.length cap,.func (.func f) #[] cs.toArray] w λv K=>v=.int .i64 (Yl p l 0)/\K=H:=by
 refine Ya Tryz.func87 Tryz.ntmps87 rfl rfl hw ?_
 refine zX8 ?_
 refine Yg (λ(k:Nat)=>[(8,.int .i64 k),(7,.int .i64 l.length),(0,.slice A l.length cap),(1,.func (.func f) #[] cs.toArray)]) (λ_=>H) (λk=>k<=l.length/\Yl p l 0=Yl p (l.drop k) k) (λk=>l.length-k) 0 ⟨Ti _,by simp⟩ ?_ (λw hw=>hw) ?_
 ·exact zc1
 rintro k ⟨hk,hi⟩ K hK
 by_cases hlt:k<l.length
 ·obtain⟨a,ha⟩:∃a,l[k]? =some a:=⟨_,Ta hlt⟩
  have hpa:=hp a (Tc ha)
  rw[Ji p l ha]at hi
  refine zX10 ?_<;>intros
  cases hpv:p a
  ·rw[hpv]at hi
   refine zX11 ?_
   apply hK (k+1)
   ·grind
   ·omega
   ·exact zc1
   exact zc20
  exact zc9
 exact zc7
theorem WN(p:RqM->Bool)(l:List RqM)(f:Nat)(cs:List Value)(hen:∀xs w,(callFunc f xs).run Tryz.prog w=.ok (.enter f xs) w)(hlen:l.length<=100000000)(hr:Rd B w0 H A (l.flatMap rqF))
 (hp:∀a∈l,∀w,St B w0 H w->Calls Tryz.prog f ([rqV a]++cs).toArray w (Post B w0 λv K=>v=.bool (p a)/\K=H)) (hw:St B w0 H w):
 CX B w0 264 [.slice A l.length cap,.func (.func f) #[] cs.toArray] w λv K=>v=.bool (l.any p)/\K=H:=by
 refine Ya Tryz.func264 Tryz.ntmps264 rfl rfl hw ?_
 rw[<-YcM]
 refine zX4 ?_
 first|apply Yb en87|apply Yc en87
 exact za
 exact rfl
 exactλ_ hw=>(YcP p l f cs hen hlen hr hp hw)
 by_cases h0:0<=Yl p l 0
 ·exact zc16
 ·exact zc16
theorem Yqe(n:Net)(l:List Flw):(schE n l XI).2≠0:=by
 have h:Zg n l XI≠0:=by
  unfold Zg
  split
  ·decide
  split
  ·decide
  rw[Tn (by decide)];decide
 simp_all [schE]
def YfU(n:Net)(q:List Rqs):Bool:=decide (¬(YO n q XI).2.2=1\/0<=(YO n q XI).2.1)
variable {n:Net}{q:List Rqs}
theorem YeH(h:Yo n=0):YfU n q=decide ((rqsE n q).2≠0):=by
 unfold YfU YO
 by_cases h1:(rqsE n q).2=0
 ·rw[Tf (λe=>e h1),Tn (Yqe n _)]
  simp_all
 ·have h3:decide ((rqsE n q).2≠0)=true:=Td h1
  rw[Tn h1,h3]
  refine Td ?_
  have hff:∀{f:Nat->Int}{r:Nat},(YH f r 0).2≠0->0<=(YH f r 0).1:=λ{f r} hne=>by
   have aux:∀{r i:Nat},(YH f r i).2≠0->0<=(YH f r i).1:=by
    intro r
    induction r with
    |zero=>intro i h;exact absurd rfl h
    |succ r ih=>
     intro i h
     unfold YH at h⊢
     split
     ·split at h
      ·exact ih h
      ·contradiction
     ·omega
   exact aux hne
  unfold rqsE at h1⊢
  rw[Tf (λe=>e h)]at h1⊢
  by_cases h2:(YE n.nodes (YR q)).2=0
  ·rw[Tf (λe=>e h2)]at h1⊢
   exact .inr (hff h1)
  ·rw[Tn h2]at h1⊢
   unfold YE at h2⊢
   split at h2
   ·rw[Tn (by assumption)];decide
   rw[Tf (by assumption)]
   split at h2
   ·rw[Tn (by assumption)];decide
   rw[Tf (by assumption)]
   exact .inr (hff h2)
theorem YaW(n:NetM)(q:List RqM)(ht:TabsB B w0)(hin:n.In B w0 H)(hq:QIn B w0 H A q)(hw:St B w0 H w):
 CX B w0 263 [n.val,.slice A q.length cap] w λv K=>v=.bool (YfU n.net (q.map RqM.rq))/\K=H:=by
 refine Ya Tryz.func263 Tryz.ntmps263 rfl rfl hw ?_
 have p1:=λ{H':List HP}{w:World}(hin:n.In B w0 H') (hq:QIn B w0 H' A q) (hw:St B w0 H' w)=>UG n q ⟨0,0,none,0,[]⟩ (cap:=cap) ht hin hq (.nil) (by decide) hw
 unfold OutC NetM.val SchM.val at p1
 have hz:(⟨0,0,none,0,[]⟩:SchM).sch=XI:=rfl
 rw[hz]at p1
 unfold YfU
 obtain⟨⟨RC,ri,re⟩,hR⟩:∃R,YO n.net (q.map RqM.rq) XI=R:=⟨_,rfl⟩
 rw[hR]at p1⊢
 dsimp only at p1⊢
 unfold NetM.val
 refine zX25 ?_<;>intros
 apply Yf _ en40
 exact za
 exact rfl
 exactλ_ hw=>(p1 hin.cons hq.cons (hw))
 rintro _ _ ⟨A2,cap2,C,rfl,hC,hCl,rfl⟩
 by_cases h0:re=1
 ·by_cases h1:0<=ri
  ·rw[Td (.inr h1)]
   refine Yab ?_<;>intros
   all_goals(apply Yh H;((intro w hw;refine hw.perm ?_;focus exact zc3));exact zc90)
  ·rw[Tj (by rintro(h|h);exact h h0;exact h1 h)]
   refine Yab ?_<;>intros
   all_goals(apply Yh H;((intro w hw;refine hw.perm ?_;focus exact zc3));exact zc90)
 ·rw[Td (.inl h0)]
  refine zX1 ?_<;>intros
  all_goals(apply Yh H;((intro w hw;refine hw.perm ?_;focus exact zc3));exact zc90)
theorem Yml(y x:RqM)(g:Nat)(hm:rqA g x∈H)(hw:St B w0 H w):
 CX B w0 291 [rqV y,.pointer (some ⟨g,0,none⟩)] w λv K=>v=.bool (decide (y.f.1=x.f.1))/\K=H:=by
 refine Ya Tryz.func291 Tryz.ntmps291 rfl rfl hw ?_
 unfold rqV
 by_cases h:y.f.1=x.f.1
 ·rw[Td h]
  refine zX43 ?_<;>intros
  all_goals(apply Yh H;((intro w hw;refine hw.perm ?_;focus exact zc3));exact zc13)
 ·rw[Tj h]
  refine zX43 ?_<;>intros
  all_goals(apply Yh H;((intro w hw;refine hw.perm ?_;focus exact zc3));exact zc13)
theorem Ymm{s:Sch}{x:Rqs}(hc:(YO n q s).2.2=0)(hx:(rqsE n (insQ q x)).2=0)(hm:s.len.tmod x.1.2.2.2.1=0):
 Sm n (YR (insQ q x)) s/\Xv n.nodes x.1=0/\(∀r∈x.2,(∀y∈Yp n r,LkOk n (YR (insQ q x)) y.1 y.2.1 x.1.1)/\(∀i,i+1<r.length->0<=Yy n (r.getD i 0) (r.getD (i+1) 0))/\1<=r.length/\r.length<=9):=by
 obtain⟨h1,h2⟩:=Za.1 hc
 have hsem:=JM.1 (Zw.1 h1)
 obtain⟨-,hfl,hrt⟩:=VM hx
 have hxm:x∈insQ q x:=by simp[JS]
 have hrx:=hrt x hxm
 have hfx:Xv n.nodes x.1=0:=JB hfl (TC.2 ⟨x,hxm,rfl⟩)
 obtain⟨hib,-⟩:=X6 hfx
 have hsm:Sm n (YR (insQ q x)) s:=by
  have h0:=hsem.sm
  refine⟨h0.ck,hfl,λf hf=>?_,h0.sized,h0.formed,h0.ord,λc hcm=>⟨(h0.good c hcm).1,?_⟩,h0.once,h0.clear⟩
  ·obtain⟨y,hy,rfl⟩:=TC.1 hf
   rcases JS.1 hy with rfl|hy
   ·exact hm
   ·exact h0.per _ (TC.2 ⟨y,hy,rfl⟩)
  ·obtain⟨f,hf,e⟩:=Vi.1 (h0.good c hcm).2
   obtain⟨y,hy,rfl⟩:=TC.1 hf
   exact Vi.2 ⟨y.1,TC.2 ⟨y,JS.2 (.inr hy),rfl⟩,e⟩
 have hfi:0<=Z3 (YR (insQ q x)) x.1.1:=Vi.2 ⟨x.1,TC.2 ⟨x,hxm,rfl⟩,rfl⟩
 refine⟨hsm,hfx,λr hr=>?_⟩
 have hck:=ZN hrx r hr
 obtain⟨-,hlen,hg⟩:=JA hck
 refine⟨λy hy=>⟨YcV hck y hy,hfi,hib⟩,λi hi=>?_,by omega,hlen.2⟩
 have:=hg i hi
 unfold YZ at this
 rw[Tm]at this
 exact Rm this.1
theorem QIn.insert{A':Option Addr}{cap':Nat}{q:List RqM}{x:RqM}(h:QIn B w0 H A q)(hx:x.In B w0 H)(hl:q.length<=1000)(k:Nat)(hk:k<=q.length):QIn B w0 (rqs A' cap' (q.take k++x::q.drop k)::H) A' (q.take k++x::q.drop k):=
 ⟨.sl TB,λy hy=>by
  rcases TU.1 hy with hy|hy
  ·exact(h.x y (SA hy)).cons
  ·rcases TV.1 hy with rfl|hy
   ·exact hx.cons
   ·exact(h.x y (List.mem_of_mem_drop hy)).cons,by grind⟩
theorem Yru(q:List RqM)(x:RqM):(q.take (posQ (q.map RqM.rq) x.f.1)++x::q.drop (posQ (q.map RqM.rq) x.f.1)).map RqM.rq=insQ (q.map RqM.rq) x.rq:=by
 rw[Rk,Ru,List.map_take,NF];rfl
theorem Yum{q:List RqM}(h:(rqsE n (q.map RqM.rq)).2=0):Yn1 q:=λi j x y hij hi hj=>by
 have hl:=(Tu.1 hj).1
 have:=Yqa h hij (by simp_all)
 unfold rqAt at this
 rw[Tz,Tz,TJ,TJ,hi,hj]at this
 exact this
end Go.Proofs.YtjlgijpmnfabcaaGreatDoor
