/- Lemmas. -/
import Derived.Test.YtjlgijpmnfabcaaGreatDoorQ13
set_option maxRecDepth 100000
set_option maxHeartbeats 8000000
set_option linter.all false
namespace Go.Proofs.YtjlgijpmnfabcaaGreatDoor
open Go.RowKit Go.Eng Go.Nw Go.Rt
variable {r:List Int}
theorem YpE:W8 r=false↔r.Nodup:=by
 unfold W8
 rw[RL]
 constructor
 ·intro h
  refine TT.2 λi j hi hj hij e=>?_
  have h1:=h j (Ro.2 hj)
  apply h1
  rw[List.contains_iff_mem,TA,Ta hj,Option.getD_some,<-e]
  refine TO.2 ⟨i,?_⟩
  simp_all
 grind [TO,TT]
theorem Yb5{n:Net}{b:Int}{r:List Int}(hl:r.getD (r.length-1) 0=b)(hnd:r.Nodup)(hk:∀i,i+1<r.length->(XK n r i).1=r.getD i 0/\(XK n r i).2.1=r.getD (i+1) 0):∀(m i:Nat),i+m+1=r.length->
 Chain b (r.getD i 0) ((List.range' i m).map (XK n r))
 |0,i,h=>by
  show r.getD i 0=b
  grind
 |m+1,i,h=>by
  obtain⟨h1,h2⟩:=hk i (by omega)
  refine⟨h1.symm,λe=>?_,?_⟩
  ·rw[<-hl]at e
   rw[TA,TA,Ta (show i<r.length by omega),Ta (show r.length-1<r.length by omega)]at e
   exact TT.1 hnd i (r.length-1) (by omega) (by omega) (by omega) (Tz (by simp_all))
  ·rw[h2]
   exact Yb5 hl hnd hk m (i+1) (by omega)
theorem YhV{n:Net}{a b:Int}(h:Xu n a b r=0):Chain b a (YH n r)/\(∀x∈YH n r,0<=x.2.2)/\YH n r≠[]/\r.Nodup/\
 ∀i,i+1<r.length->(XK n r i).1=r.getD i 0/\(XK n r i).2.1=r.getD (i+1) 0:=by
 have h':=h
 unfold Xu at h
 by_cases h0:Zm n a b=0
 rotate_left
 ·omega
 rw[Tf (λe=>e h0)]at h
 obtain⟨hlen,-,⟨hs,ht⟩,htw,-⟩:=Qv h
 obtain⟨hck,-,hg⟩:=JF h'
 have hok:=YN hck
 have hnd:=YpE.1 htw
 have hk:∀i,i+1<r.length->(XK n r i).1=r.getD i 0/\(XK n r i).2.1=r.getD (i+1) 0:=λi hi=>WJ (Vl (hg i hi))
 refine⟨?_,λx hx=>?_,?_,hnd,hk⟩
 ·grind [Yb5,YH,List.range_eq_range']
 ·obtain⟨i,hi,rfl⟩:=TI.1 hx
  exact(Ybx hok (r.getD i 0) (r.getD (i+1) 0)).1
 ·intro e
  have:=TD List.length e
  grind [YH]
def posQ(q:List Rqs)(id:Int):Nat:=(q.takeWhile λy=>decide (y.1.1<id)).length
def insQ(q:List Rqs)(x:Rqs):List Rqs:=q.take (posQ q x.1.1)++x::q.drop (posQ q x.1.1)
variable {q:List Rqs}{x:Rqs}
theorem QF{y:Rqs}:y∈insQ q x↔y=x\/y∈q:=by
 have h:y∈q↔y∈q.take (posQ q x.1.1)\/y∈q.drop (posQ q x.1.1):=by grind [RG]
 grind [insQ]
variable {l:List Flw}{f:Flw}
theorem Uo{nodes:Int}(h:(YA nodes l).2=0)(hf:f∈l):Xl nodes f=0:=by
 obtain⟨j,hj,rfl⟩:=List.mem_iff_getElem.1 hf
 unfold YA at h
 split at h
 ·cases h
 split at h
 ·cases h
 have:=YF.1 h j (Tc _) (by omega)
 unfold YT at this
 split at this
 all_goals simp_all [Y3]
theorem JG{nodes:Int}(hf:Xl nodes f=0):(0<=f.1/\f.1<256)/\(1<=f.2.2.2.1/\f.2.2.2.1<=512)/\(0<=f.2.2.2.2.1/\f.2.2.2.2.1<f.2.2.2.1)/\f.2.1≠f.2.2.1/\(1<=f.2.2.2.2.2/\f.2.2.2.2.2<=f.2.2.2.1):=by
 unfold Xl at hf
 omega
theorem Yai{id:Int}:0<=Zv l id↔∃f∈l,f.1=id:=by
 unfold Zv
 rw[VY _ _ _ (RS 0),TZ]
 simp_all
variable {n:Net}
theorem U6(h:(rqsE n q).2=0):Ym n=0/\(YA n.nodes (Y1 q)).2=0/\∀x∈q,rtsE n x=0:=by
 unfold rqsE at h
 by_cases h1:Ym n=0
 rotate_left
 ·simp_all
 by_cases h2:(YA n.nodes (Y1 q)).2=0
 rotate_left
 ·simp_all
 refine⟨h1,h2,λx hx=>?_⟩
 obtain⟨i,hi,rfl⟩:=Yh0 hx
 simp_all [YF]
theorem U7(h:rtsE n x=0):∀r∈x.2,Xu n x.1.2.1 x.1.2.2.1 r=0:=by
 intro r hr
 unfold rtsE at h
 split at h
 ·cases h
 split at h
 ·cases h
 split at h
 ·omega
 rename_i h3
 obtain⟨k,hk⟩:=TO.1 hr
 have hkl:=(Tn.1 hk).1
 have:=YF.1 (TK.1 h3) k (Tc _) (by omega)
 grind [rtAt]
theorem YjM{a b:Int}{r:List Int}(h:Xu n a b r=0):∀x∈YH n r,YX n x.1 x.2.1=true:=by
 obtain⟨-,-,-,-,hk⟩:=YhV h
 obtain⟨-,-,hg⟩:=JF h
 grind [YH]
def hasQ(q:List Rqs)(id:Int):Bool:=q.any λy=>decide (y.1.1=id)
def JC(n:Net)(q:List Rqs)(s:Sch)(x:Rqs):Sch×Int:=
 if(YK n q s).2.2≠0 then(J3,1)else if hasQ q x.1.1=true then(J3,6)else if(rqsE n (insQ q x)).2≠0 then(J3,1)
 else if s.len.tmod x.1.2.2.2.1≠0 then(J3,11)else match V9 n x.1 x.2 s with
  |none=>(J3,18)
  |some t=>if 512<t.cells.length then(J3,8)else(t,0)
theorem Yuk{n:Net}{q:List Rqs}(h:(rqsE n q).2=0){i j:Nat}(hij:i<j)(hj:j<q.length):(rqAt q i).1.1<(rqAt q j).1.1:=by
 obtain⟨-,hfl,-⟩:=U6 h
 have:=YeP hfl hij (by unfold Y1;rw[Tu];exact hj)
 have hat:∀{i:Nat},i<q.length->Y3 (Y1 q) i=(rqAt q i).1:=λ{i} hi=>by
  unfold Y3 Y1
  rw[TA,TU,Oq hi];rfl
 rw[hat (by omega),hat hj]at this
 exact this
end Go.Proofs.YtjlgijpmnfabcaaGreatDoor
namespace Go.Eng
open Go.RowKit
section
variable {P:Program}{n:Shp}{B:Nat}{w0:World}{Q:Exit->Act->World->Prop}{env:Env}{H:List HP}{m:Mode}{ops:Array Oper}{rest:List Oper}{d:Nat}{ty:TypeId}{pos:String}{after:Array Edge}
variable {a b:Int}
theorem Yef{x y:Operand}{k:IntKind}{xt yt:TypeId}(hx:evo env x=some (.int k a))(hy:evo env y=some (.int k b))(hn:Nat.ble (d+1) n.k=true)(h:VL P m n B w0 ops Q rest ((d,.int k (bits .andNot k a b))::env) H):
 VL P m n B w0 ops Q (⟨some d,.binOp .andNot xt x y yt,ty,pos,after,none⟩::rest) env H:=Xe hx hy hn (λ_=>rfl) (λ_=>by rw[show binOp .andNot xt (.int k a) (.int k b)=Op.intBits .andNot k a b by simp[binOp]];rfl) h
end
end Go.Eng
namespace Go.Proofs.YtjlgijpmnfabcaaGreatDoor
open Go.RowKit Go.Eng Go.Nw Go.Rt
def pow1(o:Int):Int:=IntKind.i64.wrap (1*2^o.toNat)
theorem Ylq{o:Int}(h:0<=o/\o<=16):1<=pow1 o/\pow1 o<=65536:=by
 have key:∀n:Nat,n<17->1<=IntKind.i64.wrap (1*2^n)/\IntKind.i64.wrap (1*2^n)<=65536:=by decide+kernel
 exact key o.toNat (by omega)
def ZD(m:List Int)(c:Cel):List Int:=m.set c.1.toNat (bits .andNot .i64 (m.getD c.1.toNat 0) (pow1 c.2.1))
def XY(s:Sch):List Int:=s.cells.foldl ZD (List.replicate s.len.toNat (pow1 s.off-1))
def Xg(s:Sch):List Int×Int:=if Xw s=false then([],1)else(XY s,0)
theorem YoR(m:List Int)(c:Cel):(ZD m c).length=m.length:=TY
theorem Zp:∀(cs:List Cel) (m:List Int),(cs.foldl ZD m).length=m.length
 |[],_=>rfl
 |c::cs,m=>by rw[List.foldl_cons,Zp cs,YoR]
variable {a b:Int}
theorem Yrh{n i:Nat}(h:i<n):(List.replicate i a++List.replicate (n-i) b).set i a=List.replicate (i+1) a++List.replicate (n-(i+1)) b:=by
 obtain⟨k,rfl⟩:∃k,n=i+(k+1):=⟨n-i-1,by omega⟩
 rw[show i+(k+1)-i=k+1 by omega,show i+(k+1)-(i+1)=k by omega,SX _ _ (by simp),TN,Nr,SN,List.set_cons_zero,List.replicate_succ' (n:=i),Rq];rfl
theorem Ypi(n:Nat)(x:Int):(List.replicate 0 x++List.replicate (n-0) 0).flatMap numF=List.replicate n (Value.int .i64 0):=by
 rw[Nh,TG,Nat.sub_zero]
 induction n with
 |zero=>rfl
 |succ n ih=>rw[SN,Rl,ih,SN];rfl
variable {B:Nat}{w0 w:World}{H:List HP}
theorem Yhz(s:SchM)(ht:TabsB B w0)(hr:Rd B w0 H s.A (s.cells.flatMap celF))(hl:s.cells.length<=1000000000000)(hw:St B w0 H w):
 CX B w0 104 [s.val] w λv K=>v=.bool (Xw s.sch)/\K=H:=by
 refine Yc Tryz.func104 Tryz.ntmps104 rfl rfl hw ?_
 have p1:=λ{H':List HP}{w:World}(hr:Rd B w0 H' s.A (s.cells.flatMap celF)) (hw:St B w0 H' w)=>Yc1 s ht hr hl hw
 unfold SchM.val at p1⊢
 refine zX70 ?_<;>intros
 first|apply Ya en11|apply Yb en11
 exact za
 exact rfl
 exactλ_ hw=>(p1 hr.cons hw)
 cases hf:Xw s.sch with
 |false=>
  rw[show(JN s.sch).2=1 by simp_all [JN]]
  refine zX1 ?_<;>intros
  apply Yg H
  ·exact zc0
  exact zc13
 |true=>
  rw[show(JN s.sch).2=0 by simp_all [JN]]
  refine zX1 ?_<;>intros
  apply Yg H
  ·exact zc0
  exact zc13
theorem YjO(s:SchM)(hf:Frm s.sch)(hr:Rd B w0 H s.A (s.cells.flatMap celF))(hw:St B w0 H w):
 CX B w0 105 [s.val] w λv K=>∃g,v=.slice (some ⟨g,0,none⟩) (XY s.sch).length (XY s.sch).length/\K=nrs (some ⟨g,0,none⟩) (XY s.sch).length (XY s.sch)::H:=by
 refine Yc Tryz.func105 Tryz.ntmps105 rfl rfl hw ?_
 have hsz:1<=s.len/\s.len<=512/\1<=s.off/\s.off<=16:=TR hf.sized
 have hp:=Ylq (o:=s.off) ⟨by omega,hsz.2.2.2⟩
 have hcl:s.cells.length<=512:=hf.few
 obtain⟨n,hn⟩:∃n:Nat,s.len=n:=⟨s.len.toNat,by omega⟩
 have hp2:1<=IntKind.i64.wrap (1*2^s.off.toNat)/\IntKind.i64.wrap (1*2^s.off.toNat)<=65536:=hp
 have hm0:List.replicate s.sch.len.toNat (pow1 s.sch.off-1)=List.replicate n (IntKind.i64.wrap (1*2^s.off.toNat)-1):=by
  show List.replicate s.len.toNat _=_
  rw[hn,RD];rfl
 have hml:(XY s.sch).length=n:=by
  unfold XY
  rw[Zp,hm0,TN]
 unfold SchM.val
 rw[hn]
 repeat'(first|(apply YgP T;(iterate 3 exact rfl);exact zi3;(iterate 3 exact rfl);omega;intro _)|refine zgb ?_|(refine zgh ?_;intro _)|fail)
 rename_i gs g
 simp only[RD]
 refine Yf (λi:Nat=>[(12,.int .i64 (i:Nat)),(11,.int .i64 (n:Nat)),(3,.slice (some ⟨g,0,none⟩) n n),(1,.pointer (some ⟨gs,0,none⟩))])
  (λi=>sl 3 1 (some ⟨g,0,none⟩) n n ((List.replicate i (IntKind.i64.wrap (1*2^s.off.toNat)-1)++List.replicate (n-i) 0).flatMap numF)::blk gs (.cells #[.int .i64 (n:Nat),.int .i64 s.off,.slice s.A s.cells.length s.cap] 30 (0,0))::H) (λi=>i<=n) (λi=>n-i) 0 (Tc _) ?_ ?_ ?_
 ·exact zc1
 ·have e0:=Ypi n (IntKind.i64.wrap (1*2^s.off.toNat)-1)
  rw[e0]
  exact zc0
 rintro i hi K hK
 by_cases hlt:i<n
 ·have hL:(List.replicate i (IntKind.i64.wrap (1*2^s.off.toNat)-1)++List.replicate (n-i) 0).length=n:=by
   rw[Tq,TN,TN];omega
  repeat'(first|(apply Xt T (f:=numF) (l:=List.replicate i (IntKind.i64.wrap (1*2^s.off.toNat)-1)++List.replicate (n-i) 0) (i:=(i:Int).toNat) (a:=IntKind.i64.wrap (1*2^s.off.toNat)-1);(iterate 3 exact rfl);exact zd;exact rfl;exactλ_=>rfl;exact rfl;omega)|refine zgd ?_|(refine zge ?_ ?_<;>intro _<;>try exact zo)|fail)
  rw[RD,Yrh hlt]
  apply hK (i+1)
  ·show i+1<=n;omega
  ·omega
  ·exact zc1
  ·exact zc0
 obtain rfl:i=n:=by omega
 rw[Nr,Nh,Rw]
 clear hK
 refine zX1 ?_<;>intros
 refine Yf (λj:Nat=>[(26,.int .i64 (j:Nat)),(25,.int .i64 s.cells.length),(24,.slice s.A s.cells.length s.cap),(3,.slice (some ⟨g,0,none⟩) i i),(1,.pointer (some ⟨gs,0,none⟩))])
  (λj=>sl 3 1 (some ⟨g,0,none⟩) i i (((s.cells.take j).foldl ZD (List.replicate i (IntKind.i64.wrap (1*2^s.off.toNat)-1))).flatMap numF)::blk gs (.cells #[.int .i64 (i:Nat),.int .i64 s.off,.slice s.A s.cells.length s.cap] 30 (0,0))::H) (λj=>j<=s.cells.length) (λj=>s.cells.length-j) 0 (Tc _) ?_ ?_ ?_
 ·exact zc1
 ·rw[S8,List.foldl_nil]
  exact zc0
 rintro j hj K hK
 by_cases hlt2:j<s.cells.length
 rotate_left
 ·obtain rfl:j=s.cells.length:=by omega
  rw[TC]
  clear hK
  refine zX1 ?_<;>intros
  apply Yg (nrs (some ⟨g,0,none⟩) (XY s.sch).length (XY s.sch)::H)
  ·unfold nrs
   rw[hml]
   unfold XY
   rw[hm0,show s.sch.cells=s.cells from rfl]
   exact zc0
  apply Yd;exact rfl;exact rfl
  exact⟨g,by rw[hml],rfl⟩
 obtain⟨c,hc⟩:∃c,s.cells[j]? =some c:=⟨_,Ta hlt2⟩
 obtain⟨m,hm⟩:∃m,(s.cells.take j).foldl ZD (List.replicate i (IntKind.i64.wrap (1*2^s.off.toNat)-1))=m:=⟨_,rfl⟩
 have hmn:m.length=i:=by rw[<-hm,Zp,TN]
 have hnext:(s.cells.take (j+1)).foldl ZD (List.replicate i (IntKind.i64.wrap (1*2^s.off.toNat)-1))=ZD m c:=by
  rw[TB,hc,List.foldl_append,hm];rfl
 rw[hm]
 have hform:=hf.formed c (Td hc)
 unfold XC XE insE at hform
 simp only[Tt,To]at hform
 have hc1:0<=c.1/\c.1<i:=by have:=hform.1.1.1.1;have e:s.sch.len=i:=hn;omega
 have hc2:0<=c.2.1/\c.2.1<16:=by have:=hform.1.1.1.2;have e:s.sch.off=s.off:=rfl;omega
 obtain⟨v,hv⟩:∃v,m[c.1.toNat]? =some v:=⟨_,Ta (by omega)⟩
 have hmc:ZD m c=m.set c.1.toNat (bits .andNot .i64 v (IntKind.i64.wrap (1*2^c.2.1.toNat))):=by
  unfold ZD;rw[TA,hv];rfl
 refine zX44 ?_<;>intros
 apply Y7 [0,1,2,3,4,5,6,7,8,9] [10]
 kernel_rfl
 kernel_rfl
 (simp only[Yh,nthO];rfl)
 (simp only[Yh,nthO];rfl)
 repeat'(first|(apply Xt T (f:=numF) (l:=m) (i:=c.1.toNat) (a:=bits .andNot .i64 v (IntKind.i64.wrap (1*2^c.2.1.toNat)));(iterate 3 exact rfl);exact zd;exact rfl;exactλ_=>rfl;exact rfl;omega)|(apply Yef;(iterate 3 exact rfl))|refine zgd ?_|fail)
 rw[<-hmc,<-hnext]
 apply hK (j+1)
 ·show j+1<=_;omega
 ·omega
 ·exact zc1
 ·exact zc0
theorem Yed(s:SchM)(ht:TabsB B w0)(hr:Rd B w0 H s.A (s.cells.flatMap celF))(hl:s.cells.length<=1000000000000)(hw:St B w0 H w):
 CX B w0 42 [s.val] w λv K=>∃A,v=.tuple #[.slice A (Xg s.sch).1.length (Xg s.sch).1.length,.int .i64 (Xg s.sch).2]/\K=nrs A (Xg s.sch).1.length (Xg s.sch).1::H:=by
 refine Yc Tryz.func42 Tryz.ntmps42 rfl rfl hw ?_
 have p1:=λ{H':List HP}{w:World}(hr:Rd B w0 H' s.A (s.cells.flatMap celF)) (hw:St B w0 H' w)=>Yhz s ht hr hl hw
 have p2:=λ(hf:Frm s.sch) {H':List HP}{w:World}(hr:Rd B w0 H' s.A (s.cells.flatMap celF)) (hw:St B w0 H' w)=>YjO s hf hr hw
 repeat'(first|(refine zs8 ?_)|((refine zs52 ?_;intro _))|refine zga ?_|fail)
 first|apply Ya YrA|apply Yb YrA
 exact za
 exact rfl
 exactλ_ hw=>(p1 hr.cons hw)
 cases hf:Xw s.sch with
 |false=>
  rw[show Xg s.sch=([],1) by simp_all [Xg]]
  repeat'(first|(refine zs48 ?_)|(refine zs71 ?_)|refine zgb ?_|fail)
  apply Yg (nrs none 0 []::H)
  ·intro w hw
   have h5:St B w0 H w:=by
    revert w
    exact zc85
   exact h5.nilSlice _ _
  exact zc47
 |true=>
  rw[show Xg s.sch=(XY s.sch,0) by simp_all [Xg]]
  repeat'(first|(refine zs8 ?_)|(refine zs47 ?_)|(refine zs72 ?_)|refine zga ?_|fail)
  apply Yi _ YuH
  exact za
  exact rfl
  exactλ_ hw=>(p2 (Za.1 hf) hr.cons (hw))
  rintro _ _ ⟨g,rfl,rfl⟩
  refine zX4 ?_
  apply Yg (nrs (some ⟨g,0,none⟩) (XY s.sch).length (XY s.sch)::H)
  ·exact zc0
  exact zc47
variable {B:Nat}{w0 w:World}{H:List HP}
theorem YiM(c:Cel)(l:Lk)(hw:St B w0 H w):
 CX B w0 447 [celV c,lkV l] w λv K=>v=.bool (YE c (0,0,l.1,l.2.1,0))/\K=H:=by
 refine Yc Tryz.func447 Tryz.ntmps447 rfl rfl hw ?_
 have htc:YE c (0,0,l.1,l.2.1,0)=true↔(c.2.2.1=l.1\/c.2.2.1=l.2.1\/c.2.2.2.1=l.1\/c.2.2.2.1=l.2.1):=by unfold YE YM toC;simp_all
 obtain⟨z,hz⟩:∃z,YE c (0,0,l.1,l.2.1,0)=z:=⟨_,rfl⟩
 rw[hz]at htc⊢
 unfold lkV
 repeat'(first|refine zgc ?_|(refine zge ?_ ?_<;>intro _<;>try exact zo)|(refine zgh ?_;intro _)|fail)
 all_goals(
  apply Yg H
  ·exact zk
  apply Yd;exact rfl;exact rfl
  cases z<;>simp at htc<;>first|exact⟨rfl,rfl⟩|(exfalso;omega))
abbrev grdA(g:Nat)(n:NetM)(s:SchM):HP:=blk g (.cells #[.int .i64 n.nodes,.slice n.pA n.rows.length n.pcap,.int .i64 n.noise,.int .i64 n.thr,.slice n.lA n.links.length n.lcap,.slice n.mA n.margin.length n.mcap,.int .i64 s.len,.int .i64 s.off,.slice s.A s.cells.length s.cap] 410 (0,0))
def grdV(n:NetM)(s:SchM):Value:=.agg #[.int .i64 n.nodes,.slice n.pA n.rows.length n.pcap,.int .i64 n.noise,.int .i64 n.thr,.slice n.lA n.links.length n.lcap,.slice n.mA n.margin.length n.mcap,.int .i64 s.len,.int .i64 s.off,.slice s.A s.cells.length s.cap]
abbrev lnkA(g:Nat)(l:Lk):HP:=blk g (.cells #[.int .i64 l.1,.int .i64 l.2.1,.int .i64 l.2.2] 145 (0,0))
abbrev intA(g:Nat)(v:Int):HP:=blk g (.cells #[.int .i64 v] 3 (0,0))
theorem Ymx(c:Cel)(l:Lk)(slot id:Int)(g7 g5 g6:Nat)(h7:intA g7 slot∈H)(h5:lnkA g5 l∈H)(h6:intA g6 id∈H)(hw:St B w0 H w):
 CX B w0 445 [celV c,.pointer (some ⟨g7,0,none⟩),.pointer (some ⟨g5,0,none⟩),.pointer (some ⟨g6,0,none⟩)] w λv K=>v=.bool (decide (c.1=slot/\YM c=l.1/\toC c=l.2.1/\Zw c=id))/\K=H:=by
 refine Yc Tryz.func445 Tryz.ntmps445 rfl rfl hw ?_
 have hb:decide (c.1=slot/\YM c=l.1/\toC c=l.2.1/\Zw c=id)=true↔c.1=slot/\c.2.2.1=l.1/\c.2.2.2.1=l.2.1/\c.2.2.2.2=id:=by unfold Zw YM toC;simp_all
 obtain⟨b,hbe⟩:∃b,decide (c.1=slot/\YM c=l.1/\toC c=l.2.1/\Zw c=id)=b:=⟨_,rfl⟩
 rw[hbe]at hb⊢
 repeat'(first|refine zgc ?_|(refine zge ?_ ?_<;>intro _<;>try exact zo)|(refine zgh ?_;intro _)|fail)
 all_goals(
  apply Yg H
  ·exact zk
  apply Yd;exact rfl;exact rfl
  cases b<;>simp at hb<;>first|exact⟨rfl,rfl⟩|(exfalso;omega))
theorem Ymy(n:NetM)(s:SchM)(l:Lk)(id slot:Int)(hl:s.cells.length<=1000)(hr:Rd B w0 H s.A (s.cells.flatMap celF))(hw:St B w0 H w):
 CX B w0 433 [grdV n s,lkV l,.int .i64 id,.int .i64 slot] w λv K=>v=.bool (hasC s.cells slot l.1 l.2.1 id)/\K=H:=by
 refine Yc Tryz.func433 Tryz.ntmps433 rfl rfl hw ?_
 unfold grdV lkV
 repeat'(first|(apply zg23;first|(refine zs52 ?_;intro _)|(refine zs53 ?_;intro _))|(apply zg29;(apply Ys;exact za;exact rfl))|refine zgb ?_|fail)
 rename_i g4 g5 g6 g7
 first|apply Ya Yk9|apply Yb Yk9
 exact za
 exact rfl
 exactλ_ hw=>(WD (λc=>decide (c.1=slot/\YM c=l.1/\toC c=l.2.1/\Zw c=id)) s.cells 445 [.pointer (some ⟨g7,0,none⟩),.pointer (some ⟨g5,0,none⟩),.pointer (some ⟨g6,0,none⟩)] YvI hl hr.cons.cons.cons.cons (λc _ w hw=>Ymx c l slot id g7 g5 g6 zm zm zm hw) hw)
 repeat'(first|refine zga ?_|fail)
 apply Yg H
 ·exact zk
 apply Yd;exact rfl;exact rfl;exact⟨rfl,rfl⟩
theorem YjV(c:Cel)(o:Int)(g:Nat)(hm:intA g o∈H)(hw:St B w0 H w):
 CX B w0 448 [celV c,.pointer (some ⟨g,0,none⟩)] w λv K=>v=.bool (!(decide (c.2.1=o)))/\K=H:=by
 refine Yc Tryz.func448 Tryz.ntmps448 rfl rfl hw ?_
 by_cases h:c.2.1=o
 ·rw[Ti h]
  refine zX21 ?_<;>intros
  apply Yg H
  ·exact zc0
  exact zc13
 ·rw[Tj h]
  refine zX21 ?_<;>intros
  apply Yg H
  ·exact zc0
  exact zc13
def tchB(l:List Cel)(slot a b:Int):Bool:=l.any λd=>decide (d.1=slot)&&YE d (0,0,a,b,0)
def offI(n:Net)(l:List Cel)(slot a b:Int)(k:Nat):List Nat:=(List.range k).filter λo:Nat=>Jm n (l.filter (atP slot o)++[(0,0,a,b,0)])
def Uy(n:Net)(s:Sch)(slot a b:Int):List (List Value):=if tchB s.cells slot a b=true then []else(offI n s.cells slot a b s.off.toNat).map λ(o:Nat)=>[Value.int .i64 (o:Int)]
variable {n:Net}{l:List Cel}{slot a b:Int}{k i:Nat}
theorem Yo4(h:Jm n (l.filter (atP slot k)++[(0,0,a,b,0)])=true):offI n l slot a b (k+1)=offI n l slot a b k++[k]:=by
 grind [offI,RI]
theorem Yq3(h:Jm n (l.filter (atP slot k)++[(0,0,a,b,0)])=false):offI n l slot a b (k+1)=offI n l slot a b k:=by
 grind [offI,RI]
theorem Yo3{m:Nat}(h:Jm n (l.filter (atP slot k)++[(0,0,a,b,0)])=true)(hk:k<m):(offI n l slot a b m)[(offI n l slot a b k).length]? =some k:=by
 obtain⟨j,rfl⟩:∃j,m=k+(j+1):=⟨m-k-1,by omega⟩
 have e:offI n l slot a b (k+(j+1))=offI n l slot a b k++((List.range (j+1)).map (k+·)).filter λo:Nat=>Jm n (l.filter (atP slot o)++[(0,0,a,b,0)]):=by
  grind [offI,List.range_add]
 simp_all [List.range_succ_eq_map]
structure AiM where
 i:Nat
 A:Option Addr
 cap:Nat
 l:List Cel
variable {c:Cel}
theorem YoD(hc:l[i]? =some c)(h:c.1=slot):(l.take (i+1)).filter (λd=>decide (d.1=slot))=(l.take i).filter (λd=>decide (d.1=slot))++[c]:=zc81
theorem YqK(hc:l[i]? =some c)(h:c.1≠slot):(l.take (i+1)).filter (λd=>decide (d.1=slot))=(l.take i).filter (λd=>decide (d.1=slot)):=zc81
theorem YpA(hc:l[i]? =some c):tchB (l.take (i+1)) slot a b=(tchB (l.take i) slot a b||(decide (c.1=slot)&&YE c (0,0,a,b,0))):=by
 grind [tchB,TB]
theorem Yux(hc:l[i]? =some c)(h:c.1=slot)(ht:YE c (0,0,a,b,0)=true):tchB l slot a b=true:=
 TZ.2 ⟨c,Td hc,by simp_all⟩
theorem YmS(n:NetM)(s:SchM)(l:Lk)(slot:Int)(g3 g5 g4:Nat)(hck:Ym n.net=0)(hl:s.cells.length<=900)(hoff:0<=s.off/\s.off<=16){B:Nat}{w0:World}{R:List HP}(hin:n.In B w0 [many R])(hr:Rd B w0 [many R] s.A (s.cells.flatMap celF)):
 YbI Tryz.prog 446 [.pointer (some ⟨g3,0,none⟩),.pointer (some ⟨g5,0,none⟩),.pointer (some ⟨g4,0,none⟩)] (Uy n.net s.sch slot l.1 l.2.1) B w0 [intA g5 slot,lnkA g4 l,grdA g3 n s,many R]:=by
 refine YbJ Tryz.func446 Tryz.ntmps446 rfl rfl ?_
 intro ly SS X hy L0 h0
 refine XF 48 5 ?_
 have hsc:s.sch.cells=s.cells:=rfl
 refine zX7 ?_
 refine Yf (λ(x:AiM)=>[(14,.int .i64 x.i),(13,.int .i64 s.cells.length),(12,.slice s.A s.cells.length s.cap),(5,.slice x.A x.l.length x.cap),(0,.func (.yield ly) #[] #[]),(1,.pointer (some ⟨g3,0,none⟩)),(2,.pointer (some ⟨g5,0,none⟩)),(3,.pointer (some ⟨g4,0,none⟩))])
  (λx=>sl 48 5 x.A x.l.length x.cap (x.l.flatMap celF)::many L0::intA g5 slot::lnkA g4 l::grdA g3 n s::[many R]) (λx=>x.i<=s.cells.length/\x.l=(s.cells.take x.i).filter (λd=>decide (d.1=slot))/\tchB (s.cells.take x.i) slot l.1 l.2.1=false) (λx=>s.cells.length-x.i) ⟨0,none,0,[]⟩ ⟨Tc _,by simp,rfl⟩ ?_ ?_ ?_
 ·exact zc1
 ·dsimp only
  rw[show([]:List Cel).flatMap celF=[] from rfl,show([]:List Cel).length=0 from rfl]
  exact zc0
 rintro⟨i,A,cap,hs⟩ ⟨hi,hhs,htc⟩ K hK
 dsimp only at hi hhs htc⊢
 have hhl:hs.length<=900:=by
  have:=RO (λd:Cel=>decide (d.1=slot)) (s.cells.take i)
  rw[<-hhs,TJ]at this
  omega
 by_cases hlt:i<s.cells.length
 ·obtain⟨c,hc⟩:∃c,s.cells[i]? =some c:=⟨_,Ta hlt⟩
  have hts:=YpA (slot:=slot) (a:=l.1) (b:=l.2.1) hc
  rw[htc,Nu]at hts
  have p1:=λ{H':List HP}{w:World}(hw:St B w0 H' w)=>YiM c l hw
  unfold celV lkV at p1
  by_cases hsl:c.1=slot
  rotate_left
  ·rw[Tj hsl,Bool.false_and]at hts
   refine zX44 ?_<;>intros
   apply hK ⟨i+1,A,cap,hs⟩
   ·exact⟨by exact Ydy,by rw[YqK hc hsl];exact hhs,hts⟩
   ·exact zc83
   ·exact zc1
   ·exact zc0
  cases ht:YE c (0,0,l.1,l.2.1,0)with
  |true=>
   rw[ht]at p1
   have hnil:Uy n.net s.sch slot l.1 l.2.1=[]:=by
    unfold Uy
    rw[Tm (by rw[hsc];exact Yux hc hsl ht)]
   clear hK
   repeat'(first|((first|apply Ya Yle|apply Yb Yle);exact za;exact rfl;exactλ_ hw=>(p1 hw))|refine zgd ?_|(refine zge ?_ ?_<;>intro _<;>try exact zo)|(refine zgh ?_;intro _)|fail)
   apply Yg (many L0::intA g5 slot::lnkA g4 l::grdA g3 n s::[many R])
   ·exact zc0
   apply Ob;exact rfl
   exact .inl ⟨L0,by rw[hnil];exact h0,rfl⟩
  |false=>
   rw[Ti hsl,ht,RX]at hts
   rw[ht]at p1
   repeat'(first|((first|apply Ya Yle|apply Yb Yle);exact za;exact rfl;exactλ_ hw=>(p1 hw))|refine zgd ?_|(refine zge ?_ ?_<;>intro _<;>try exact zo)|(refine zgh ?_;intro _)|(refine zgi ?_;intro _ _)|fail)
   rename_i A' cap'
   have hl1:(hs++[c]).length=hs.length+1:=by rw[Tq];rfl
   apply hK ⟨i+1,A',cap',hs++[c]⟩
   ·exact⟨by exact Ydy,by rw[YoD hc hsl,<-hhs],hts⟩
   ·exact zc83
   ·dsimp only
    rw[hl1]
    exact zc1
   ·dsimp only
    have e5:=JE A' cap' hs c
    unfold cels at e5
    rw[<-e5]
    exact zc0
 ·obtain rfl:i=s.cells.length:=by omega
  rw[TC]at hhs htc
  clear hK
  refine zX1 ?_<;>intros
  have hxs:Uy n.net s.sch slot l.1 l.2.1=(offI n.net s.cells slot l.1 l.2.1 s.off.toNat).map λ(o:Nat)=>[Value.int .i64 (o:Int)]:=by
   unfold Uy
   rw[Tf (by rw[hsc,htc];decide)];rfl
  refine Yf (λ(x:Nat×List HP)=>[(33,.int .i64 (x.1:Nat)),(32,.int .i64 s.off),(5,.slice A hs.length cap),(0,.func (.yield ly) #[] #[]),(1,.pointer (some ⟨g3,0,none⟩)),(2,.pointer (some ⟨g5,0,none⟩)),(3,.pointer (some ⟨g4,0,none⟩))])
   (λx=>sl 48 5 A hs.length cap (hs.flatMap celF)::many x.2::intA g5 slot::lnkA g4 l::grdA g3 n s::[many R]) (λx=>(x.1:Int)<=s.off/\SS (offI n.net s.cells slot l.1 l.2.1 x.1).length x.2) (λx=>(s.off-x.1).toNat) (0,L0) ⟨by show((0:Nat):Int)<=_;omega,h0⟩ ?_ ?_ ?_
  ·exact zc1
  ·exact zc0
  rintro⟨o,L⟩ ⟨ho,hS⟩ K hK
  dsimp only at ho hS⊢
  by_cases hlt2:(o:Int)<s.off
  rotate_left
  ·obtain rfl:o=s.off.toNat:=by omega
   clear hK
   refine zX1 ?_<;>intros
   apply Yg (many L::intA g5 slot::lnkA g4 l::grdA g3 n s::[many R])
   ·exact zc0
   apply Vd;exact rfl
   exact .inl ⟨L,by rw[hxs,Tu];exact hS,rfl⟩
  obtain⟨own,hown⟩:∃own,s.cells.filter (atP slot o)=own:=⟨_,rfl⟩
  have hof:(hs.filter λc=>!!(decide (c.2.1=(o:Int))))=own:=by
   rw[<-hown,hhs,List.filter_filter]
   refine Np λc _=>?_
   unfold atP
   rw[Bool.not_not,Bool.decide_and,Bool.and_comm]
  have hol:own.length<=900:=by
   have:=RO (atP slot o) s.cells
   rw[hown]at this
   omega
  have pg:=λ{A2:Option Addr}{cap2:Nat}{H':List HP}{w:World}(hin:n.In B w0 H') (hr:Rd B w0 H' A2 (own.flatMap celF++#[Value.int .i64 0,.int .i64 0,.int .i64 l.1,.int .i64 l.2.1,.int .i64 0].toList)) (hw:St B w0 H' w)=>YjD n (own++[(0,0,l.1,l.2.1,0)]) hck (by rw[Tq];show own.length+1<=1000;omega) (A:=A2) (cap:=cap2) hin (by rw[Ri];exact hr) hw
  have hol1:(own++[((0,0,l.1,l.2.1,0):Cel)]).length=own.length+1:=by rw[Tq];rfl
  rw[hol1]at pg
  unfold NetM.val at pg
  refine zX44 ?_<;>intros
  rename_i g8
  apply Yi _ YkT
  exact za
  exact rfl
  exactλ_ hw=>(VN hs (by omega) (.sl (by(focus exact zc2))) (hw))
  rintro _ _ ⟨A1,c1,rfl,rfl⟩
  refine Yfq ?_
  apply Yi _ YrV
  exact za
  exact rfl
  exactλ_ hw=>(YaF (λc=>!(decide (c.2.1=(o:Int)))) hs 448 [.pointer (some ⟨g8,0,none⟩)] YvK (by omega) (λc _ X w hw=>YjV c o g8 (T9 _ (by(focus exact zc2))) hw) (hw))
  rintro _ _ ⟨rfl,rfl⟩
  rw[hof]
  unfold cels
  refine zX4 ?_
  apply YlQ [0,1,2,3,4,5,6,7,8,9,10,11,12,13] [14,15,16] [false,true,false,false,true,true,true,true]
  kernel_rfl
  kernel_rfl
  exact zy
  (simp only[Yh,nthO];rfl)
  (simp only[Yh,nthO];rfl)
  repeat'(first|(apply Ye T;exact rfl;exact zm;exact rfl;exact zv;exact rfl;exact rfl)|(apply Yj;try exact zl)|refine zgd ?_|(refine zgh ?_;intro _)|(refine zgi ?_;intro _ _)|fail)
  first|apply Ya YsJ|apply Yb YsJ
  exact za
  exact rfl
  exactλ_ hw=>(pg (hin.mono zc0) (.sl (by(focus exact zc2))) hw)
  cases hg:Jm n.net (own++[(0,0,l.1,l.2.1,0)])with
  |true=>
   have hg2:Jm n.net (s.cells.filter (atP slot o)++[(0,0,l.1,l.2.1,0)])=true:=by rw[hown];exact hg
   have hx:(Uy n.net s.sch slot l.1 l.2.1)[(offI n.net s.cells slot l.1 l.2.1 o).length]? =some [.int .i64 (o:Int)]:=by
    rw[hxs,TU,Yo3 hg2 (by omega)];rfl
   have hY:=hy _ _ hx [sl 48 5 A hs.length cap (hs.flatMap celF)] L hS
   refine zX16 ?_
   apply Yg (sl 48 5 A hs.length cap (hs.flatMap celF)::many L::intA g5 slot::lnkA g4 l::grdA g3 n s::[many R])
   ·exact zc0
   apply YnQ
   apply YbV _ _ (hy:=hY)
   ·exact Ybf (j:=11) (s:=51) rfl rfl rfl
   ·exact rfl
   ·exact YpU
   ·exact rfl
   ·exact YiY
   ·rintro _ ⟨L',hS',rfl⟩
    refine zX2 ?_
    apply hK (o+1,L')
    ·exact⟨by show((o+1:Nat):Int)<=_;omega,by rw[Yo4 hg2,Tq];exact hS'⟩
    ·exact zc83
    ·exact zc1
    exact zc20
   ·rintro _ ⟨L',hX',rfl⟩
    refine zX2 ?_
    apply Yg (many L'::intA g5 slot::lnkA g4 l::grdA g3 n s::[many R])
    ·exact zc62
    apply Ob;exact rfl
    exact .inr ⟨L',hX',rfl⟩
  |false=>
   have hg2:Jm n.net (s.cells.filter (atP slot o)++[(0,0,l.1,l.2.1,0)])=false:=by rw[hown];exact hg
   refine zX16 ?_
   apply YnQ
   apply YgY YiY
   refine zX9 ?_
   apply hK (o+1,L)
   ·exact⟨by show((o+1:Nat):Int)<=_;omega,by rw[Yq3 hg2];exact hS⟩
   ·exact zc83
   ·exact zc1
   ·exact zc0
theorem Yo2:∀a b:List Int,a.length=b.length->Jk (List.zipWith cmpI a b)=cmpV a b
 |[],[],_=>rfl
 |[],_::_,h=>by cases h
 |_::_,[],h=>by cases h
 |x::a,y::b,h=>by
  have ih:=Yo2 a b (by simp_all)
  rw[List.zipWith_cons_cons,Jk]
  by_cases h1:x<y
  ·have e1:cmpI x y= -1:=Tm h1
   have e2:XR (x::a) (y::b)=true:=by rw[XR,Tm (show x≠y by omega)];simp_all
   simp_all [cmpV]
  ·by_cases h2:y<x
   ·have e1:cmpI x y=1:=by simp_all [cmpI]
    have e2:XR (x::a) (y::b)=false:=by rw[XR,Tm (show x≠y by omega)];simp_all
    have e3:XR (y::b) (x::a)=true:=by rw[XR,Tm (show y≠x by omega)];simp_all
    simp_all [cmpV]
   ·obtain rfl:x=y:=by omega
    simp_all [cmpI,XR,cmpV]
variable {B:Nat}{w0 w:World}{H:List HP}
theorem OB(a b:Cel)(hw:St B w0 H w):
 CX B w0 169 [celV a,celV b] w λv K=>v=.int .i64 (cmpV (nums a) (nums b))/\K=H:=by
 refine Yc Tryz.func169 Tryz.ntmps169 rfl rfl hw ?_
 rw[<-Yo2 (nums a) (nums b) rfl]
 unfold celV
 refine zX14 ?_<;>intros
 apply YG [0,1,2,3,5,6,7,8,10,11,12,13,15,16,17,18,20,21,22,23,4,9,14,19,24,25,26,27] [] [true,true]
 kernel_rfl
 kernel_rfl
 exact zy
 (simp only[Yh,nthO];rfl)
 exact rfl
 refine zX15 ?_<;>intros
 rename_i g
 first|apply Ya en72|apply Yb en72
 exact za
 exact rfl
 exactλ_ hw=>(Yln (List.zipWith cmpI (nums a) (nums b)) (by simp[nums]) (Rd.blk (g:=g) (cs:=#[.int .i64 (cmpI a.1 b.1),.int .i64 (cmpI a.2.1 b.2.1),.int .i64 (cmpI a.2.2.1 b.2.2.1),.int .i64 (cmpI a.2.2.2.1 b.2.2.2.1),.int .i64 (cmpI a.2.2.2.2 b.2.2.2.2)]) (by(focus exact zc2))) hw)
 refine zX16 ?_
 apply Yg H
 ·exact zc0
 exact zc26
theorem Ygp(l:List Cel)(c:Cel)(ho:Ord l)(hlen:l.length<=1000000000){A:Option Addr}{cap:Nat}(hr:Rd B w0 H A (l.flatMap celF))(hw:St B w0 H w):
 CX B w0 435 [.slice A l.length cap,celV c,.func (.func 169) #[] #[]] w λv K=>
  v=.tuple #[.int .i64 (posE l c),.bool (decide (c∈l))]/\K=H:=by
 refine Yc Tryz.func435 Tryz.ntmps435 rfl rfl hw ?_
 (apply Y0;apply YL;apply Yy;exact rfl;exact rfl;intro g)
 refine zX7 ?_
 have hr:=hr.cons (X:=blk g (.cells (celF c).toArray 48 (0,0)))
 refine Wu (λ(lo hi:Nat)=>[(9,.int .i64 lo),(10,.int .i64 hi),(8,.int .i64 l.length),(0,.slice A l.length cap),(2,.func (.func 169) #[] #[]),(4,.pointer (some ⟨g,0,none⟩))]) (λ_ _=>blk g (.cells (celF c).toArray 48 (0,0))::H)
  (λlo hi=>lo<=hi/\hi<=l.length/\(∀i x,i<lo->l[i]? =some x->Xn x c=true)/\(∀i x,hi<=i->l[i]? =some x->Xn x c=false)) (λlo hi=>hi-lo) 0 l.length ⟨by omega,by omega,λj x hj=>by omega,λj x h1 h2=>by simp_all⟩ ?_ (λw hw=>hw) ?_
 ·exact zc1
 rintro lo hi ⟨h1,h2,h3,h4⟩ K hK
 by_cases hlt:lo<hi
 ·obtain⟨b,hb⟩:∃b,l[(((lo:Int)+hi)/2).toNat]? =some b:=⟨_,Ta (by omega)⟩
  have hm:(((lo:Int)+hi)/2).toNat=(lo+hi)/2:=by omega
  have hb2:l[(lo+hi)/2]? =some b:=by grind
  repeat'(first|((first|apply YV (cs:=[])|apply Y2 (cs:=[]));exact rfl;exact YrS;exact za;exact rfl;exactλ_ hw=>(OB b c hw))|(apply zg28;refine zs84 ?_)|refine zgd ?_|(refine zge ?_ ?_<;>intro _<;>try exact zo)|fail)
  ·rename_i hc
   rw[Yb9]at hc
   apply hK ((lo+hi)/2+1) hi
   ·refine⟨by omega,by omega,λj x hj hx=>?_,h4⟩
    by_cases e:j=(lo+hi)/2
    ·grind
    ·exact Ui (Yf9 ho hx hb2 (by omega)) hc
   ·omega
   ·exact zc1
   exact zc20
  ·rename_i hc
   have hc:Xn b c=false:=by
    cases h:Xn b c with
    |false=>rfl
    |true=>rw[<-Yb9]at h;omega
   apply hK lo ((lo+hi)/2)
   ·refine⟨by omega,by omega,h3,λj x hj hx=>?_⟩
    by_cases e:j=(lo+hi)/2
    ·rw[e,hb2]at hx
     injection hx with hx;subst hx;exact hc
    ·cases h:Xn x c with
     |false=>rfl
     |true=>rw[Ui (Yf9 ho hb2 hx (by omega)) h]at hc;cases hc
   ·omega
   ·exact zc1
   exact zc20
 ·obtain rfl:lo=hi:=by omega
  have hp:Pos l c lo:=⟨h2,h3,h4⟩
  have hpe:=hp.posE ho
  have hpm:=Yrg ho hp
  by_cases hl:lo<l.length
  ·obtain⟨b,hb⟩:∃b,l[lo]? =some b:=⟨_,Ta hl⟩
   rw[hb]at hpm
   repeat'(first|((first|apply YV (cs:=[])|apply Y2 (cs:=[]));exact rfl;exact YrS;exact za;exact rfl;exactλ_ hw=>(OB b c hw))|(apply zg28;refine zs84 ?_)|refine zgd ?_|(refine zge ?_ ?_<;>intro _<;>try exact zo)|fail)
   all_goals(apply Yk;apply Yo;(iterate 3 exact rfl);rw[<-hpe])
   ·rename_i hc
    rw[Yn7]at hc
    exact⟨by rw[Ti (hpm.1 (by rw[hc]))],rfl⟩
   ·rename_i hc
    rw[ne_eq,Yn7]at hc
    exact⟨by rw[Tj λh=>hc (Tz (hpm.2 h))],rfl⟩
  ·refine zX17 ?_<;>intros
   apply Yk;apply Yo;(iterate 3 exact rfl);rw[<-hpe]
   rw[List.getElem?_eq_none (by omega)]at hpm
   exact⟨by rw[Tj λh=>by cases hpm.2 h],rfl⟩
theorem Yf6(n:NetM)(s:SchM)(l:Lk)(slot:Int)(hw:St B w0 H w):
 CX B w0 434 [grdV n s,lkV l,.int .i64 slot] w λv K=>∃g3 g4 g5,v=.func (.func 446) #[] #[.pointer (some ⟨g3,0,none⟩),.pointer (some ⟨g5,0,none⟩),.pointer (some ⟨g4,0,none⟩)]/\K=intA g5 slot::lnkA g4 l::grdA g3 n s::H:=by
 refine Yc Tryz.func434 Tryz.ntmps434 rfl rfl hw ?_
 refine zX27 ?_<;>intros
 exact Yp6
end Go.Proofs.YtjlgijpmnfabcaaGreatDoor
namespace Go.Eng
open Go.RowKit
section
variable {P:Program}{B:Nat}{w0:World}{env:Env}{H:List HP}
theorem YbS{n:Nat}(T:Tab P){fn:Func}{Φ:Value->List HP->Prop}{p g k q g2 rt st:Nat}{v:Value}{cs:Array Value}{tt tt2:TypeId}{fr fr2:Nat×Nat}(hr:fn.results=#[.cell p rt,.cell q st])(hp:get env p=some (.pointer (some ⟨g,0,none⟩)))(hq:get env q=some (.pointer (some ⟨g2,0,none⟩)))
 (hm:blk g (.cells cs tt fr)∈H) (hm2:blk g2 (.cells #[v] tt2 fr2)∈H) (ht:look T.ag rt=some k) (hk:cs.size=k) (ht2:look T.sc st=some ()) {H2:List HP}(hH:∀w,St B w0 H w->St B w0 H2 w) (h:Φ (.tuple #[.agg cs,v]) H2):VQ ⟨n,[],none⟩ B w0 (bodyPost P fn (Post B w0 Φ)) .ret env H:=by
 refine⟨λa w ha hw=>bodyPost_ret (v:=.tuple #[.agg cs,v]) ?_ ha.defers ⟨_,H2,rfl,hH w hw,h⟩⟩
 have hp':=ha.slot p _ hp
 have hq':=ha.slot q _ hq
 have hc:=Xc (i:=0) (hw.blk hm2).1
 have h2:(loadVar st ⟨g2,0,none⟩).run P w=.ok v w:=by simp[loadVar,XA (T.scal ht2).1,hc]
 simp[results,hr,Array.getD_eq_getD_getElem?,hp',hq',asAddr,ZM T (hw.blk hm).1 ht hk,h2]
end
end Go.Eng
namespace Go.Proofs.YtjlgijpmnfabcaaGreatDoor
open Go.RowKit Go.Eng Go.Nw Go.Rt
theorem UR{α:Type}(p:α->Bool):∀l:List α,(l.filter p)[0]? =l.find? p
 |[]=>rfl
 |a::l=>by
  rw[Nb,List.find?_cons]
  cases h:p a with
  |true=>rfl
  |false=>exact UR p l
variable {n:Net}{l:List Cel}{slot a b id:Int}
theorem Ylj(h:tchB l slot a b=false):(λo:Nat=>fitE n l slot o a b)=λo:Nat=>Jm n (l.filter (atP slot o)++[(0,0,a,b,0)]):=by
 grind [fitE,tchB]
theorem Yt6(h:tchB l slot a b=true):(λo:Nat=>fitE n l slot o a b)=λ_=>false:=by
 grind [fitE,tchB]
variable {s:Sch}
theorem YjT(hh:hasC s.cells slot a b id=false)(h:(Uy n s slot a b).length=0):Js n s a b id slot=none:=by
 unfold Js
 have:((List.range s.off.toNat).find? λo:Nat=>fitE n s.cells slot o a b)=none:=by
  cases ht:tchB s.cells slot a b with
  |true=>simp_all [Yt6]
  |false=>
   rw[Ylj ht,<-UR]
   unfold Uy at h
   grind [offI]
 simp_all
theorem YjU(hh:hasC s.cells slot a b id=false){args:List Value}(h:(Uy n s slot a b)[0]? =some args):∃o:Nat,args=[.int .i64 (o:Int)]/\o<s.off.toNat/\fitE n s.cells slot o a b=true/\Js n s a b id slot=some ⟨s.len,s.off,insC s.cells (slot,(o:Int),a,b,id)⟩:=by
 unfold Uy at h
 cases ht:tchB s.cells slot a b with
 |true=>simp_all
 |false=>
  rw[ht,Tf (by decide),TU]at h
  unfold offI at h
  rw[UR]at h
  cases hf:(List.range s.off.toNat).find? λo:Nat=>Jm n (s.cells.filter (atP slot o)++[(0,0,a,b,0)])with
  |none=>simp_all
  |some o=>
   have hf2:(List.range s.off.toNat).find? (λo:Nat=>fitE n s.cells slot o a b)=some o:=by rw[Ylj ht];exact hf
   unfold Js
   grind
theorem Ykf(n:NetM)(s:SchM)(l:Lk)(id slot:Int)(hck:Ym n.net=0)(hl:s.cells.length<=900)(hoff:0<=s.off/\s.off<=16)(ho:Ord s.cells){B:Nat}{w0:World}{R:List HP}{w:World}(hin:n.In B w0 [many R])(hr:Rd B w0 [many R] s.A (s.cells.flatMap celF))(hw:St B w0 [many R] w):
 CX B w0 409 [grdV n s,lkV l,.int .i64 id,.int .i64 slot] w λv K=>
  (v=.tuple #[grdV n s,.bool true]/\Js n.net s.sch l.1 l.2.1 id slot=some s.sch/\K=[many R])\/
  (v=.tuple #[grdV n s,.bool false]/\Js n.net s.sch l.1 l.2.1 id slot=none/\K=[many R])\/
  ∃A cap c,v=.tuple #[grdV n ⟨s.len,s.off,A,cap,insC s.cells c⟩,.bool true]/\Js n.net s.sch l.1 l.2.1 id slot=some ⟨s.len,s.off,insC s.cells c⟩/\K=[cels A cap (insC s.cells c),many R]:=by
 refine ZH Tryz.func409 Tryz.ntmps409 rfl rfl hw ?_
 have p1:=λ{H':List HP}{w:World}(hr:Rd B w0 H' s.A (s.cells.flatMap celF)) (hw:St B w0 H' w)=>Ymy n s l id slot (by omega) hr hw
 have p2:=λ{H':List HP}{w:World}(hw:St B w0 H' w)=>Yf6 n s l slot hw
 cases hh:hasC s.cells slot l.1 l.2.1 id with
 |true=>
  rw[hh]at p1
  unfold grdV lkV at p1⊢
  refine YsQ ?_<;>intros
  first|apply Ya Yld|apply Yb Yld
  exact za
  exact rfl
  exactλ_ hw=>(p1 hr.cons.cons.cons.cons.cons.cons hw)
  refine zX2 ?_
  apply VQ_m
  apply YbS T (H2:=[many R]);(iterate 3 exact rfl);(focus exact zc2);(focus exact zc2);(iterate 3 exact rfl);(intro w hw;refine hw.perm ?_;focus exact zc6)
  refine .inl ⟨rfl,?_,rfl⟩
  unfold Js
  rw[show s.sch.cells=s.cells from rfl,Tm hh]
 |false=>
 rw[hh]at p1
 unfold grdV lkV at p1 p2⊢
 refine YsQ ?_<;>intros
 rename_i g4 g5 g6 g7 g8 g9
 first|apply Ya Yld|apply Yb Yld
 exact za
 exact rfl
 exactλ_ hw=>(p1 hr.cons.cons.cons.cons.cons.cons hw)
 refine zX7 ?_
 apply Yi _ YvD
 exact za
 exact rfl
 exactλ_ hw=>(p2 (hw))
 rintro _ _ ⟨k3,k4,k5,rfl,rfl⟩
 refine zX7 ?_
 have hlen0:∀args∈Uy n.net s.sch slot l.1 l.2.1,args.length=[24].length:=by
  intro args h
  unfold Uy at h
  split at h
  ·cases h
  ·obtain⟨o,_,rfl⟩:=TI.1 h
   rfl
 refine ZI (gf:=446) (lb:=[.pointer (some ⟨k3,0,none⟩),.pointer (some ⟨k5,0,none⟩),.pointer (some ⟨k4,0,none⟩)]) (xs:=Uy n.net s.sch slot l.1 l.2.1) (intA k5 slot::lnkA k4 l::grdA k3 n s::[many R])
  (λ_:Unit=>[blk g9 (.cells #[.bool false] 4 (0,0)),blk g8 (.cells #[.int .i64 0,.slice none 0 0,.int .i64 0,.int .i64 0,.slice none 0 0,.slice none 0 0,.int .i64 0,.int .i64 0,.slice none 0 0] 410 (0,0)),intA g7 slot,intA g6 id,lnkA g5 l,grdA g4 n s])
  (λk _=>k=0) (λe K=>e=.ret/\∃A cap,∃o:Int,Js n.net s.sch l.1 l.2.1 id slot=some ⟨s.len,s.off,insC s.cells (slot,o,l.1,l.2.1,id)⟩/\K=[blk g9 (.cells #[.bool true] 4 (0,0)),grdA g8 n ⟨s.len,s.off,A,cap,insC s.cells (slot,o,l.1,l.2.1,id)⟩,cels A cap (insC s.cells (slot,o,l.1,l.2.1,id))]) () rfl YvJ (YmS n s l slot k3 k5 k4 hck hl hoff hin hr) rfl hlen0 (by kernel_rfl) (by kernel_rfl) ?_ rfl ?_ ?_ ?_
 ·intro w hw
  have h5:St B w0 (blk g9 (.cells (Value.bool false).cells 4 (0,0))::blk g8 (.cells (Value.agg #[.int .i64 0,.slice none 0 0,.int .i64 0,.int .i64 0,.slice none 0 0,.slice none 0 0,.int .i64 0,.int .i64 0,.slice none 0 0]).cells 410 (0,0))::intA g7 slot::intA g6 id::lnkA g5 l::grdA g4 n s::intA k5 slot::lnkA k4 l::grdA k3 n s::[many R]) w:=by
   revert w
   exact zc0
  exact h5
 ·rintro ly k args R1 ⟨⟩ hk rfl
  obtain⟨o,rfl,hol,hfit,hsl⟩:=YjU (id:=id) hh hk
  dsimp only[U0,List.cons_append,List.nil_append]
  have hrx:∀{H':List HP},(∀w,St B w0 H' w->St B w0 [many R] w)->Rd B w0 H' s.A (s.cells.flatMap celF):=λh=>hr.mono h
  refine zX4 ?_
  apply Vj YD
  intro R2
  have hpl:posE s.cells (slot,(o:Int),l.1,l.2.1,id)<=s.cells.length:=(Yge ho _).1
  refine zX25 ?_<;>intros
  rename_i g11
  first|apply Ya YsG|apply Yb YsG
  exact za
  exact rfl
  exactλ_ hw=>(Ygp s.cells (slot,(o:Int),l.1,l.2.1,id) ho (by omega) (hrx zc0) hw)
  refine zX9 ?_
  apply YbM (.p1 0 (.p1 1 (.p1 2 (.p1 4 (.p1 5 (.d2 3 (.d1 6 (.d1 7 (.d1 8 (.d1 9 .done)))) 6 (.d1 3 (.d1 7 (.d1 8 (.d1 9 .done)))))))))) [10] [true,false,false,false,false,false,false,true,false,false,false,true]
  kernel_rfl
  kernel_rfl
  exact zy
  (simp only[Yh,nthO];rfl)
  repeat'(first|((apply Yi _ YkT);exact za;exact rfl;exactλ_ hw=>VN s.cells (by omega) (hrx zk) hw;rintro _ _ ⟨A1,cap1,rfl,rfl⟩)|(apply Vq T T2;(iterate 7 exact rfl);intro gv)|(apply X6 [cels A1 cap1 s.cells,blk gv (.cells #[.int .i64 slot,.int .i64 (o:Int),.int .i64 l.1,.int .i64 l.2.1,.int .i64 id] 48 (0,0))] _ YvE;exact za;try exact zl;exact zp;exact rfl;exactλ_ hw=>YfZ s.cells _ (slot,(o:Int),l.1,l.2.1,id) hpl (by omega) hw;rintro _ _ ⟨A2,cap2,rfl,rfl⟩)|(apply YnU;(simp only[nthO];rfl))|(apply YnS;(simp only[nthO];rfl);exact zp)|(apply YnT;(simp only[nthO];rfl);(simp only[nthO];rfl);exact zp)|(apply YbU;try exact zl)|refine zgd ?_|fail)
  all_goals(
   refine Qg [blk g9 (.cells #[.bool true] 4 (0,0)),grdA g8 n ⟨s.len,s.off,A2,cap2,insC s.cells (slot,(o:Int),l.1,l.2.1,id)⟩,cels A2 cap2 (insC s.cells (slot,(o:Int),l.1,l.2.1,id))] ⟨rfl,A2,cap2,(o:Int),hsl,rfl⟩ ?_
   dsimp only[List.cons_append,List.nil_append]
   unfold insC
   exact zk)
 ·rintro D ⟨⟩ hI
  have hnone:=YjT (id:=id) hh hI
  dsimp only[List.cons_append,List.nil_append]
  refine zX2 ?_
  apply Z0 YD
  apply VQ_m
  apply YbS T (H2:=[many R]);(iterate 3 exact rfl);(focus exact zc2);(focus exact zc2);(iterate 3 exact rfl);(intro w hw;refine hw.perm ?_;focus exact zc6)
  exact .inr (.inl ⟨rfl,hnone,rfl⟩)
 ·rintro D e K ⟨rfl,A,cap,o,hsl,rfl⟩ hjmp
  dsimp only[List.cons_append,List.nil_append]
  refine zX2 ?_
  apply Z0 YD
  apply VQ_m
  apply YbS T (H2:=[cels A cap (insC s.cells (slot,o,l.1,l.2.1,id)),many R]);(iterate 3 exact rfl);(focus exact zc2);(focus exact zc2);(iterate 3 exact rfl);(intro w hw;refine hw.perm ?_;focus exact zc6)
  exact .inr (.inr ⟨A,cap,_,rfl,hsl,rfl⟩)
variable {n:Net}
theorem Sm.few{l:List Flw}{s:Sch}(h:Sm n l s)(hl:s.len<=24):s.cells.length<=768:=by
 have hok:=YN h.ck
 have hnd:(s.cells.map λc=>c.1*32+YM c).Nodup:=by
  refine List.pairwise_map.2 (h.once.imp_of_mem λ{a b} ha hb hab e=>?_)
  have h1:=Xr hok (h.good a ha).1
  have h2:=Xr hok (h.good b hb).1
  have hn:=hok.n1
  grind [YE]
 have:=Go.Nw.nodup_len 768 _ hnd λx hx=>by
  obtain⟨c,hc,rfl⟩:=TI.1 hx
  have h1:=Xr hok (h.good c hc).1
  have hn:=hok.n1
  have hf:=h.formed c hc
  unfold XC XE insE at hf
  grind
 simp_all
variable {B:Nat}{w0 w:World}{H:List HP}
theorem Ypt(n:NetM)(s:SchM)(l:Lk)(id slot:Int)(hck:Ym n.net=0)(hl:s.cells.length<=900)(hoff:0<=s.off/\s.off<=16)(ho:Ord s.cells)(hin:n.In B w0 H)(hr:Rd B w0 H s.A (s.cells.flatMap celF))(hw:St B w0 H w):
 CX B w0 409 [grdV n s,lkV l,.int .i64 id,.int .i64 slot] w λv K=>
  (v=.tuple #[grdV n s,.bool true]/\Js n.net s.sch l.1 l.2.1 id slot=some s.sch/\K=H)\/
  (v=.tuple #[grdV n s,.bool false]/\Js n.net s.sch l.1 l.2.1 id slot=none/\K=H)\/
  ∃A cap c,v=.tuple #[grdV n ⟨s.len,s.off,A,cap,insC s.cells c⟩,.bool true]/\Js n.net s.sch l.1 l.2.1 id slot=some ⟨s.len,s.off,insC s.cells c⟩/\K=cels A cap (insC s.cells c)::H:=by
 have hop:∀w,St B w0 [many H] w->St B w0 H w:=λw hw=>hw.perm (.openT H)
 refine(Ykf n s l id slot hck hl hoff ho (R:=H) (hin.mono hop) (hr.mono hop) (hw.perm (.closeT H))).mono ?_
 rintro e w' ⟨v,K,h1,hst,h⟩
 rcases h with⟨h2,h3,rfl⟩|⟨h2,h3,rfl⟩|⟨A,cap,c,h2,h3,rfl⟩
 ·exact⟨v,_,h1,hop _ hst,.inl ⟨h2,h3,rfl⟩⟩
 ·exact⟨v,_,h1,hop _ hst,.inr (.inl ⟨h2,h3,rfl⟩)⟩
 ·exact⟨v,_,h1,hst.perm (.cons _ (.openT H)),.inr (.inr ⟨A,cap,c,h2,h3,rfl⟩)⟩
structure ReM where
 i:Nat
 s:SchM
 z:Int
 L:List HP
theorem Yj2(m k:Nat)(h:k<m):(List.range m).drop k=k::(List.range m).drop (k+1):=by
 grind [T8]
theorem YjL{r:List Int}{k:Nat}(h:k+1<r.length):(YH n r).drop k=XK n r k::(YH n r).drop (k+1):=by
 unfold YH
 rw[<-Nv,<-Nv,Yj2 _ _ (by omega),RP]
abbrev flwA(g:Nat)(f:Flw):HP:=blk g (.cells #[.int .i64 f.1,.int .i64 f.2.1,.int .i64 f.2.2.1,.int .i64 f.2.2.2.1,.int .i64 f.2.2.2.2.1,.int .i64 f.2.2.2.2.2] 66 (0,0))
theorem Ymz(n:Net)(a b id:Int)(f:Nat)(s:Sch)(z:Int):hopA n a b id f 0 s z=some (s,z):=by cases f<;>rfl
structure FilI(n:NetM)(L:List Flw)(len off:Int)(B:Nat)(w0:World)(H:List HP)(s:SchM)(P:List HP):Prop where
 sm:Sm n.net L s.sch
 len:s.len=len
 off:s.off=off
 rd:Rd B w0 (many P::[many H]) s.A (s.cells.flatMap celF)
theorem YdW(n:NetM)(L:List Flw)(s:SchM)(f:Flw)(r:RowM)(at_:Int)(hsm:Sm n.net L s.sch)(h24:s.len<=24)(hk:∀x∈YH n.net r.xs,LkOk n.net L x.1 x.2.1 f.1)(hkey:∀i,i+1<r.xs.length->0<=Yu n.net (r.xs.getD i 0) (r.xs.getD (i+1) 0))
 (hrl:1<=r.xs.length/\r.xs.length<=9) (hat:0<=at_/\at_<=1000) (hd:0<=f.2.2.2.2.2/\f.2.2.2.2.2<=512) {R:List HP}(hin:n.In B w0 H) (hr:Rd B w0 H s.A (s.cells.flatMap celF)) (hrr:Rd B w0 H r.A (r.xs.flatMap numF)) (hw:St B w0 (many R::H) w):
 CX B w0 372 [grdV n s,flwV f,.slice r.A r.xs.length r.cap,.int .i64 at_] w λv K=>∃s' ok P,v=.tuple #[grdV n s',.bool ok]/\
  (ok=true->relA n.net f.1 (at_+f.2.2.2.2.2) (YH n.net r.xs) s.sch at_=some s'.sch/\Rd B w0 (many P::H) s'.A (s'.cells.flatMap celF))/\(ok=false->relA n.net f.1 (at_+f.2.2.2.2.2) (YH n.net r.xs) s.sch at_=none)/\K=many P::many R::H:=by
 refine Yc Tryz.func372 Tryz.ntmps372 rfl rfl hw ?_
 have hop:∀w,St B w0 [many H] w->St B w0 H w:=λw hw=>hw.perm (.openT H)
 have hin:=hin.mono hop
 have hr:=hr.mono hop
 have hrr:=hrr.mono hop
 have hok:=YN hsm.ck
 obtain⟨endd,hend⟩:∃e,at_+f.2.2.2.2.2=e:=⟨_,rfl⟩
 obtain⟨RR,hRR⟩:∃R,relA n.net f.1 endd (YH n.net r.xs) s.sch at_=R:=⟨_,rfl⟩
 rw[hend,hRR]
 have hsz:1<=s.len/\s.len<=512/\1<=s.off/\s.off<=16:=TR hsm.sized
 refine YW (many R::[many H]) (λw hw=>hw.perm (.cons _ (.closeT H))) ?_
 refine YW (many []::many R::[many H]) (λw hw=>hw.perm (.noMany _)) ?_
 unfold grdV flwV
 repeat'(first|refine zgc ?_|(refine zgh ?_;intro _)|fail)
 rename_i g4 g5 g8
 rw[hend]
 refine Yf (λz:ReM=>[(11,.int .i64 (z.i:Nat)),(10,.int .i64 endd),(9,.bool false),(3,.int .i64 z.z),(2,.slice r.A r.xs.length r.cap),(4,.pointer (some ⟨g4,0,none⟩)),(5,.pointer (some ⟨g5,0,none⟩)),(8,.pointer (some ⟨g8,0,none⟩))])
  (λz=>grdA g4 n z.s::flwA g5 f::blk g8 (.cells #[.int .i64 0,.slice none 0 0,.int .i64 0,.int .i64 0,.slice none 0 0,.slice none 0 0,.int .i64 0,.int .i64 0,.slice none 0 0] 410 (0,0))::many z.L::many R::[many H])
  (λz=>(1<=z.i/\z.i<=r.xs.length)/\FilI n L s.len s.off B w0 H z.s z.L/\(0<=z.z/\z.z<=endd)/\relA n.net f.1 endd ((YH n.net r.xs).drop (z.i-1)) z.s.sch z.z=RR) (λz=>r.xs.length-z.i) ⟨1,s,at_,[]⟩ ⟨⟨by show 1<=1;omega,hrl.1⟩,⟨hsm,rfl,rfl,hr.cons⟩,⟨hat.1,by show at_<=endd;omega⟩,hRR⟩ ?_ ?_ ?_
 ·exact zc1
 ·intro w hw
  have h5:St B w0 (grdA g4 n s::flwA g5 f::blk g8 (.cells (Value.agg #[.int .i64 0,.slice none 0 0,.int .i64 0,.int .i64 0,.slice none 0 0,.slice none 0 0,.int .i64 0,.int .i64 0,.slice none 0 0]).cells 410 (0,0))::many []::many R::[many H]) w:=by
   revert w
   exact zc0
  exact h5
 rintro⟨i,s1,z,P⟩ ⟨⟨hi1,hi2⟩,hF,hz,hrel⟩ K hK
 dsimp only at hi1 hi2 hF hz hrel⊢
 by_cases hlt:i<r.xs.length
 rotate_left
 ·obtain rfl:i=r.xs.length:=by omega
  clear hK
  rw[Rm (by unfold YH;simp)]at hrel
  refine zX1 ?_<;>intros
  apply Yp T (H2:=many P::many R::H);(iterate 3 exact rfl);(focus exact zc2);exact rfl;exact rfl
  ·intro w hw
   have h5:St B w0 (many P::many R::[many H]) w:=by
    revert w
    exact zc0
   exact Yp5
  exact zc94
 obtain⟨k,rfl⟩:∃k,i=k+1:=⟨i-1,by omega⟩
 rw[SR,YjL hlt]at hrel
 obtain⟨a,ha⟩:∃a,r.xs[(((k+1:Nat):Int)-1).toNat]? =some a:=⟨_,Ta (by omega)⟩
 obtain⟨b,hb⟩:∃b,r.xs[((k+1:Nat):Int).toNat]? =some b:=⟨_,Ta (by omega)⟩
 have ha2:r.xs.getD k 0=a:=by rw[TA,<-show(((k+1:Nat):Int)-1).toNat=k by omega,ha];rfl
 have hb2:r.xs.getD (k+1) 0=b:=by rw[TA,<-show((k+1:Nat):Int).toNat=k+1 by omega,hb];rfl
 have hfi:=hkey k hlt
 rw[ha2,hb2]at hfi
 have hfl:=XM hfi
 have hlk:n.links[(Yu n.net a b).toNat]? =some (XK n.net r.xs k):=by
  unfold XK
  rw[ha2,hb2]
  obtain⟨x,hx⟩:∃x,n.links[(Yu n.net a b).toNat]? =some x:=⟨_,Ta hfl⟩
  rw[Jn (n:=n.net) hx];exact hx
 obtain⟨lk,hlkd⟩:∃lk,XK n.net r.xs k=lk:=⟨_,rfl⟩
 rw[hlkd]at hlk hrel
 have pi:=λ{H':List HP}{w:World}(hin:n.In B w0 H') (hw:St B w0 H' w)=>Zi n a b hin hw
 rw[show Zb n.net a b=Yu n.net a b by unfold Zb;rw[Tf (λe=>e hsm.ck)]]at pi
 unfold NetM.val at pi
 have hnl:n.links.length<=128:=hok.k0
 have hnlk:=hin.lk
 have hfl2:(Yu n.net a b).toNat<n.links.length:=hfl
 refine zX3 ?_<;>intros
 refine Zt (λg12:Nat=>[(12,.pointer (some ⟨g12,0,none⟩)),(11,.int .i64 ((k+1:Nat):Int)),(10,.int .i64 endd),(9,.bool false),(3,.int .i64 z),(2,.slice r.A r.xs.length r.cap),(4,.pointer (some ⟨g4,0,none⟩)),(5,.pointer (some ⟨g5,0,none⟩)),(8,.pointer (some ⟨g8,0,none⟩))])
  (λg12=>lnkA g12 lk::grdA g4 n s1::flwA g5 f::blk g8 (.cells #[.int .i64 0,.slice none 0 0,.int .i64 0,.int .i64 0,.slice none 0 0,.slice none 0 0,.int .i64 0,.int .i64 0,.slice none 0 0] 410 (0,0))::many P::many R::[many H]) ?_ ?_
 ·intro K2 hK2
  apply JR (.n1 0 (.n1 1 (.n1 2 (.n1 3 (.n1 4 (.n1 5 (.n1 6 (.n1 7 (.n1 8 (.n1 9 (.n1 10 (.n1 11 (.n1 12 (.n1 13 (.n2 14 (.n1 15 (.n1 16 (.n1 17 .done))) 17 (.n1 14 (.n1 15 (.n1 16 .done)))))))))))))))))) [18] [true,true,true,true,true,true]
  kernel_rfl
  kernel_rfl
  exact zy
  (simp only[Yh,nthO];rfl)
  repeat'(first|((first|apply Ya en69|apply Yb en69);exact za;exact rfl;exactλ_ hw=>(pi (hin.mono zk) hw))|(apply Ye T;exact rfl;exact zm;exact rfl;exact zv;exact rfl;exact rfl)|(apply Yj;try exact zl)|apply(zs91 ?_ ?_)|(apply Y4;try exact zl)|refine zgd ?_|(refine zgh ?_;intro _)|fail)
  all_goals(
   rename_i g12
   apply hK2 g12
   ·exact zu
   ·exact zk)
 rintro g12
 dsimp only
 have hlb:=Ybx hok (r.xs.getD k 0) (r.xs.getD (k+1) 0)
 have hlb2:0<=lk.2.2/\lk.2.2<=7:=by rw[<-hlkd];exact hlb
 obtain⟨HR,hHR⟩:∃R,hopA n.net lk.1 lk.2.1 f.1 (endd-z).toNat (Y6 lk) s1.sch z=R:=⟨_,rfl⟩
 rw[relA,hHR]at hrel
 have hnd:lk.2.2+1=((Y6 lk:Nat):Int):=by unfold Y6;omega
 have hkl:LkOk n.net L lk.1 lk.2.1 f.1:=hk lk (by rw[<-hlkd];exact Rx (Ro.2 (by omega)))
 refine zX9 ?_
 rw[hnd]
 refine Yf (λy:ReM=>[(13,.int .i64 (y.i:Nat)),(12,.pointer (some ⟨g12,0,none⟩)),(11,.int .i64 ((k+1:Nat):Int)),(10,.int .i64 endd),(9,.bool false),(3,.int .i64 y.z),(2,.slice r.A r.xs.length r.cap),(4,.pointer (some ⟨g4,0,none⟩)),(5,.pointer (some ⟨g5,0,none⟩)),(8,.pointer (some ⟨g8,0,none⟩))])
  (λy=>lnkA g12 lk::grdA g4 n y.s::flwA g5 f::blk g8 (.cells #[.int .i64 0,.slice none 0 0,.int .i64 0,.int .i64 0,.slice none 0 0,.slice none 0 0,.int .i64 0,.int .i64 0,.slice none 0 0] 410 (0,0))::many y.L::many R::[many H])
  (λy=>FilI n L s.len s.off B w0 H y.s y.L/\(0<=y.z/\y.z<=endd)/\y.i<=8/\hopA n.net lk.1 lk.2.1 f.1 (endd-y.z).toNat y.i y.s.sch y.z=HR) (λy=>(endd-y.z).toNat) ⟨Y6 lk,s1,z,P⟩ ⟨hF,hz,by show Y6 lk<=8;omega,hHR⟩ ?_ ?_ ?_
 ·exact zc1
 ·exact zc0
 clear hF hz hHR
 rintro⟨m,s2,y,P2⟩ ⟨hF,hz,hm8,hHR⟩ K2 hK2
 dsimp only at hF hz hm8 hHR⊢
 cases m with
 |zero=>
  rw[Ymz]at hHR
  subst hHR
  dsimp only at hrel
  clear hK2
  refine zX41 ?_<;>intros
  apply hK ⟨k+1+1,s2,y,P2⟩
  ·exact⟨⟨by show 1<=k+1+1;omega,by show k+1+1<=_;omega⟩,hF,hz,hrel⟩
  ·exact zc83
  ·exact zc1
  ·exact zc0
 |succ m=>
 by_cases hlt2:y<endd
 rotate_left
 ·rw[show(endd-y).toNat=0 by omega,hopA]at hHR
  subst hHR
  dsimp only at hrel
  clear hK2 hK
  refine zX24 ?_<;>intros
  apply Yp T (H2:=many P2::many R::H);(iterate 3 exact rfl);(focus exact zc2);exact rfl;exact rfl
  ·intro w hw
   have h5:St B w0 (many P2::many R::[many H]) w:=by
    revert w
    exact zc0
   exact Yp5
  exact⟨s2,false,P2,rfl,λh=>(by cases h),λ_=>hrel.symm,rfl⟩
 have hfew:=hF.sm.few (by show s2.len<=24;rw[hF.len];exact h24)
 have h2l:=hF.len
 have h2o:=hF.off
 have ps:=λ{H':List HP}{w:World}(hin:n.In B w0 H') (hr:Rd B w0 H' s2.A (s2.cells.flatMap celF)) (hw:St B w0 H' w)=>Ypt n s2 lk f.1 (y%s2.len) hsm.ck (by have:s2.sch.cells.length=s2.cells.length:=rfl;omega) ⟨by omega,by omega⟩ hF.sm.ord hin hr hw
 unfold grdV lkV at ps
 rw[show(endd-y).toNat=(endd-(y+1)).toNat+1 by omega,hopA,Rb hz.1]at hHR
 refine zX41 ?_<;>intros
 apply Uc [0,1,2,3,4,5,6,7,8,9,10,12,11] [12,13,14] [13,14] [true,true,true,true,true,true,true]
 kernel_rfl
 kernel_rfl
 exact zy
 (simp only[Yh,nthO];rfl)
 (simp only[Yh,nthO];rfl)
 refine zX2 ?_
 apply Yi _ Yvw
 exact za
 exact rfl
 exactλ_ hw=>(ps (hin.mono zc0) (hF.rd.mono zc0) (hw))
 rintro _ _ (⟨rfl,hs,rfl⟩|⟨rfl,hs,rfl⟩|⟨A3,cap3,c3,rfl,hs,rfl⟩)
 ·rw[show Js n.net s2.sch lk.1 lk.2.1 f.1 (y%s2.sch.len)=some s2.sch from hs]at hHR
  dsimp only at hHR
  refine zX16 ?_
  rw[show((m+1:Nat):Int)-1=(m:Nat) by omega]
  apply hK2 ⟨m,s2,y+1,P2⟩
  ·exact⟨hF,⟨by show 0<=y+1;omega,by show y+1<=endd;omega⟩,by show m<=8;omega,hHR⟩
  ·exact zc83
  ·exact zc1
  ·exact zc0
 ·rw[show Js n.net s2.sch lk.1 lk.2.1 f.1 (y%s2.sch.len)=none from hs]at hHR
  dsimp only at hHR
  refine zX16 ?_
  apply hK2 ⟨m+1,s2,y+1,P2⟩
  ·exact⟨hF,⟨by show 0<=y+1;omega,by show y+1<=endd;omega⟩,hm8,hHR⟩
  ·exact zc83
  ·exact zc1
  ·exact zc0
 ·rw[show Js n.net s2.sch lk.1 lk.2.1 f.1 (y%s2.sch.len)=some ⟨s2.len,s2.off,insC s2.cells c3⟩ from hs]at hHR
  dsimp only at hHR
  have hmz:0<=y%s2.len/\y%s2.len<s2.len:=⟨Int.emod_nonneg _ (by omega),Int.emod_lt_of_pos _ (by omega)⟩
  obtain⟨hsm3,-,-⟩:=YiD hF.sm hkl hmz hs
  have hop3:∀w,St B w0 (many (cels A3 cap3 (insC s2.cells c3)::[many P2])::[many H]) w->St B w0 (cels A3 cap3 (insC s2.cells c3)::many P2::[many H]) w:=λw hw=>hw.perm (.open_ [_,_] [many H])
  refine zX16 ?_
  rw[show((m+1:Nat):Int)-1=(m:Nat) by omega]
  apply hK2 ⟨m,⟨s2.len,s2.off,A3,cap3,insC s2.cells c3⟩,y+1,cels A3 cap3 (insC s2.cells c3)::[many P2]⟩
  ·exact⟨⟨hsm3,h2l,h2o,(Rd.sl (.head _)).mono hop3⟩,⟨by show 0<=y+1;omega,by show y+1<=endd;omega⟩,by show m<=8;omega,hHR⟩
  ·exact zc83
  ·exact zc1
  ·intro w hw
   have h5:St B w0 (lnkA g12 lk::grdA g4 n ⟨s2.len,s2.off,A3,cap3,insC s2.cells c3⟩::flwA g5 f::blk g8 (.cells #[.int .i64 0,.slice none 0 0,.int .i64 0,.int .i64 0,.slice none 0 0,.slice none 0 0,.int .i64 0,.int .i64 0,.slice none 0 0] 410 (0,0))::cels A3 cap3 (insC s2.cells c3)::many P2::many R::[many H]) w:=by
    revert w
    exact zc0
   exact h5.perm (.cons _ (.cons _ (.cons _ (.cons _ (.close [_,_] (many R::[many H]))))))
structure Ynr(n:NetM)(L:List Flw)(id:Int)(r:RowM):Prop where
 lk:∀x∈YH n.net r.xs,LkOk n.net L x.1 x.2.1 id
 key:∀i,i+1<r.xs.length->0<=Yu n.net (r.xs.getD i 0) (r.xs.getD (i+1) 0)
 len:1<=r.xs.length/\r.xs.length<=9
structure PlM2 where
 i:Nat
 s:SchM
 P:List HP
theorem Yif(n:NetM)(L:List Flw)(s:SchM)(x:RqM)(hsm:Sm n.net L s.sch)(h24:s.len<=24)(hrow:∀r∈x.rows,Ynr n L x.f.1 r)(hf:Xl n.net.nodes x.f=0){B:Nat}{w0:World}{H:List HP}{w:World}(hin:n.In B w0 H)(hr:Rd B w0 H s.A (s.cells.flatMap celF))(hx:x.In B w0 H)(hw:St B w0 H w):
 CX B w0 293 [n.val,s.val,rqV x] w λv K=>∃(s':SchM) (ok:Bool) (P:List HP),v=.tuple #[s'.val,.bool ok]/\
  (ok=true->V9 n.net x.f (x.rows.map (·.xs)) s.sch=some s'.sch/\Rd B w0 (many P::H) s'.A (s'.cells.flatMap celF))/\(ok=false->V9 n.net x.f (x.rows.map (·.xs)) s.sch=none)/\K=many P::H:=by
 refine Yc Tryz.func293 Tryz.ntmps293 rfl rfl hw ?_
 have hop:∀w,St B w0 [many H] w->St B w0 H w:=λw hw=>hw.perm (.openT H)
 have hin:=hin.mono hop
 have hr:=hr.mono hop
 have hx:=hx.mono hop
 obtain⟨-,hper,hph,-,hd⟩:=JG hf
 have hxr:=hx.rt
 have hxl:=hx.ln
 obtain⟨RR,hRR⟩:∃R,V9 n.net x.f (x.rows.map (·.xs)) s.sch=R:=⟨_,rfl⟩
 rw[hRR]
 have hsz:1<=s.len/\s.len<=512/\1<=s.off/\s.off<=16:=TR hsm.sized
 refine YW [many H] (λw hw=>hw.perm (.closeT H)) ?_
 refine YW (many []::[many H]) (λw hw=>hw.perm (.noMany _)) ?_
 unfold NetM.val SchM.val rqV
 refine zX25 ?_<;>intros
 rename_i g3 g4 g5 g6 g8
 refine Yf (λz:PlM2=>[(19,.int .i64 (z.i:Nat)),(18,.int .i64 x.rows.length),(17,.slice x.A x.rows.length x.cap),(9,.bool true),(7,.bool false),(8,.pointer (some ⟨g8,0,none⟩)),(6,.pointer (some ⟨g6,0,none⟩)),(5,.pointer (some ⟨g5,0,none⟩)),(4,.pointer (some ⟨g4,0,none⟩)),(3,.pointer (some ⟨g3,0,none⟩))])
  (λz=>grdA g8 n z.s::blk g6 (.cells #[.int .i64 0,.int .i64 0,.slice none 0 0] 30 (0,0))::rqA g5 x::schA g4 s::many z.P::[many H])
  (λz=>z.i<=x.rows.length/\FilI n L s.len s.off B w0 H z.s z.P/\V9 n.net x.f ((x.rows.map (·.xs)).drop z.i) z.s.sch=RR) (λz=>x.rows.length-z.i) ⟨0,s,[]⟩ ⟨Tc _,⟨hsm,rfl,rfl,hr.cons⟩,hRR⟩ ?_ ?_ ?_
 ·exact zc1
 ·intro w hw
  have h5:St B w0 (grdA g8 n s::blk g6 (.cells (Value.agg #[.int .i64 0,.int .i64 0,.slice none 0 0]).cells 30 (0,0))::rqA g5 x::schA g4 s::many []::[many H]) w:=by
   revert w
   exact zc0
  exact h5
 rintro⟨i,s1,P⟩ ⟨hi,hF,hrel⟩ K hK
 dsimp only at hi hF hrel⊢
 by_cases hlt:i<x.rows.length
 rotate_left
 ·obtain rfl:i=x.rows.length:=by omega
  clear hK
  rw[Rm (by rw[Tu];exact TQ _)]at hrel
  refine Yfr ?_<;>intros
  apply Yp T (H2:=many P::H);(iterate 3 exact rfl);(focus exact zc2);exact rfl;exact rfl
  ·intro w hw
   have h5:St B w0 (many P::[many H]) w:=by
    revert w
    exact zc0
   exact Yp7
  exact zc94
 obtain⟨r,hrx⟩:∃r,x.rows[i]? =some r:=⟨_,Ta hlt⟩
 have hrm:r∈x.rows:=Td hrx
 have hro:=hrow r hrm
 have hdrop:(x.rows.map (·.xs)).drop i=r.xs::(x.rows.map (·.xs)).drop (i+1):=by
  have hl2:i<(x.rows.map (·.xs)).length:=by rw[Tu];exact hlt
  rw[T8 hl2]
  congr 1
  have h6:(x.rows.map (·.xs))[i]? =some r.xs:=by rw[TU,hrx];rfl
  rw[Ta hl2]at h6
  exact Tz h6
 rw[hdrop,V9]at hrel
 obtain⟨HR,hHR⟩:∃R,Yfd n.net x.f (YH n.net r.xs) s1.sch.len.toNat s1.sch x.f.2.2.2.2.1=R:=⟨_,rfl⟩
 rw[hHR]at hrel
 have hl1:s1.sch.len=s.len:=hF.len
 rw[hl1]at hHR
 refine zX0 ?_<;>intros
 refine Yf (λz:PlM2=>[(12,.int .i64 (x.f.2.2.2.2.1+(z.i:Int)*x.f.2.2.2.1)),(11,.slice r.A r.xs.length r.cap),(19,.int .i64 (i:Nat)),(18,.int .i64 x.rows.length),(17,.slice x.A x.rows.length x.cap),(9,.bool true),(7,.bool false),(8,.pointer (some ⟨g8,0,none⟩)),(6,.pointer (some ⟨g6,0,none⟩)),(5,.pointer (some ⟨g5,0,none⟩)),(4,.pointer (some ⟨g4,0,none⟩)),(3,.pointer (some ⟨g3,0,none⟩))])
  (λz=>grdA g8 n z.s::blk g6 (.cells #[.int .i64 0,.int .i64 0,.slice none 0 0] 30 (0,0))::rqA g5 x::schA g4 s::many z.P::[many H])
  (λz=>z.i<=s.len.toNat/\FilI n L s.len s.off B w0 H z.s z.P/\Yfd n.net x.f (YH n.net r.xs) (s.len.toNat-z.i) z.s.sch (x.f.2.2.2.2.1+(z.i:Int)*x.f.2.2.2.1)=HR) (λz=>s.len.toNat-z.i) ⟨0,s1,P⟩ ⟨Tc _,hF,by simpa using hHR⟩ ?_ ?_ ?_
 ·dsimp only
  rw[show x.f.2.2.2.2.1+((0:Nat):Int)*x.f.2.2.2.1=x.f.2.2.2.2.1 by simp]
  exact zc1
 ·exact zc0
 clear hF hHR hl1
 rintro⟨j,s2,P2⟩ ⟨hj,hF,hHR⟩ K2 hK2
 dsimp only at hj hF hHR⊢
 have hl2:s2.sch.len=s.len:=hF.len
 obtain⟨y,hy⟩:∃y:Int,x.f.2.2.2.2.1+(j:Int)*x.f.2.2.2.1=y:=⟨_,rfl⟩
 have hjy:(j:Int)<=(j:Int)*x.f.2.2.2.1:=by
  have:=Int.mul_le_mul_of_nonneg_left hper.1 (show(0:Int)<=j by omega)
  rw[Int.mul_one]at this
  exact this
 rw[hy]at hHR⊢
 by_cases hyl:y<s.len
 rotate_left
 ·have hHR2:HR=some s2.sch:=by
   rw[<-hHR]
   cases s.len.toNat-j with
   |zero=>rfl
   |succ k=>rw[Yfd,Tf (by rw[hl2];exact hyl)]
  rw[hHR2]at hrel
  dsimp only at hrel
  clear hK2
  refine zX1 ?_<;>intros
  apply hK ⟨i+1,s2,P2⟩
  ·exact⟨by exact Ydy,hF,hrel⟩
  ·exact zc83
  ·exact zc1
  ·exact zc0
 obtain⟨k,hk⟩:∃k,s.len.toNat-j=k+1:=⟨s.len.toNat-j-1,by omega⟩
 rw[hk,Yfd,Tm (by rw[hl2];exact hyl)]at hHR
 have hxw:=hx.rw_ r hrm
 have pr:=λ{R':List HP}{w:World}(hw:St B w0 (many R'::many P2::[many H]) w)=>YdW n L s2 x.f r y hF.sm (by have:=hF.len;omega) hro.lk hro.key hro.len ⟨by omega,by omega⟩ ⟨by omega,by omega⟩ (R:=R') (H:=many P2::[many H]) hin.cons hF.rd hxw.cons hw
 unfold grdV flwV at pr
 repeat'(first|(apply Ye T;exact rfl;exact zm;exact rfl;exact zv;exact rfl;exact rfl)|refine zgb ?_|(refine zge ?_ ?_<;>intro _<;>try exact zo)|fail)
 apply Zz (many [grdA g8 n s2,blk g6 (.cells #[.int .i64 0,.int .i64 0,.slice none 0 0] 30 (0,0)),rqA g5 x,schA g4 s]::many P2::[many H])
 ·intro w hw
  have h5:St B w0 (grdA g8 n s2::blk g6 (.cells #[.int .i64 0,.int .i64 0,.slice none 0 0] 30 (0,0))::rqA g5 x::schA g4 s::many P2::[many H]) w:=by
   revert w
   exact zc0
  exact h5.perm (.close [_,_,_,_] (many P2::[many H]))
 apply Yi _ Yvq
 exact za
 exact rfl
 exactλ_ hw=>(pr (hw))
 rintro _ _ ⟨s3,ok,P3,rfl,ho1,ho2,rfl⟩
 apply Zz (many P3::grdA g8 n s2::blk g6 (.cells #[.int .i64 0,.int .i64 0,.slice none 0 0] 30 (0,0))::rqA g5 x::schA g4 s::many P2::[many H])
 ·exactλw hw=>hw.perm (.cons _ (.open_ [_,_,_,_] (many P2::[many H])))
 cases ok with
 |false=>
  have hn:=ho2 rfl
  rw[hn]at hHR
  dsimp only at hHR
  rw[<-hHR]at hrel
  dsimp only at hrel
  clear hK hK2
  refine zX2 ?_
  apply Yp T (H2:=many P2::H);(iterate 3 exact rfl);(focus exact zc2);exact rfl;exact rfl
  ·intro w hw
   have h5:St B w0 (many P2::[many H]) w:=by
    revert w
    exact zc0
   exact Yp7
  exact⟨s,false,P2,rfl,λh=>(by cases h),λ_=>hrel.symm,rfl⟩
 |true=>
  obtain⟨h1,hrd3⟩:=ho1 rfl
  rw[h1]at hHR
  dsimp only at hHR
  obtain⟨hsm3,hg3,-⟩:=Yls (YH n.net r.xs) hro.lk hF.sm (by omega) (by omega) (by rw[hl2];omega) h1
  have h3l:s3.len=s.len:=hg3.len.trans hF.len
  have h3o:s3.off=s.off:=hg3.off.trans hF.off
  have hyn:x.f.2.2.2.2.1+((j+1:Nat):Int)*x.f.2.2.2.1=y+x.f.2.2.2.1:=by
   rw[<-hy,show((j+1:Nat):Int)=(j:Int)+1 by omega,Int.add_mul];omega
  refine zX2 ?_
  apply hK2 ⟨j+1,s3,[many P3,many P2]⟩
  ·refine⟨by show j+1<=_;omega,⟨hsm3,h3l,h3o,hrd3.mono λw hw=>hw.perm (.open_ [_,_] [many H])⟩,?_⟩
   dsimp only
   rw[hyn,show s.len.toNat-(j+1)=k by omega]
   exact hHR
  ·exact zc83
  ·dsimp only
   rw[hyn]
   exact zc1
  ·intro w hw
   have h5:St B w0 (grdA g8 n s3::blk g6 (.cells #[.int .i64 0,.int .i64 0,.slice none 0 0] 30 (0,0))::rqA g5 x::schA g4 s::many P3::many P2::[many H]) w:=by
    revert w
    exact zc0
   exact h5.perm (.cons _ (.cons _ (.cons _ (.cons _ (.close [_,_] [many H])))))
theorem Ya9(n:NetM)(q:List RqM)(s:SchM){A:Option Addr}{cap B:Nat}{w0:World}{H:List HP}{w:World}(ht:TabsB B w0)(hin:n.In B w0 H)(hq:QIn B w0 H A q)(hrs:Rd B w0 H s.A (s.cells.flatMap celF))(hsl:s.cells.length<=1000000000000)(hw:St B w0 H w):
 CX B w0 166 [n.val,.slice A q.length cap,s.val] w λv K=>v=.bool (decide ((YK n.net (q.map RqM.rq) s.sch).2.2=0))/\K=H:=by
 refine Yc Tryz.func166 Tryz.ntmps166 rfl rfl hw ?_
 have p1:=λ{H':List HP}{w:World}(hin:n.In B w0 H') (hq:QIn B w0 H' A q) (hrs:Rd B w0 H' s.A (s.cells.flatMap celF)) (hw:St B w0 H' w)=>Uv n q s (cap:=cap) ht hin hq hrs hsl hw
 unfold OutC NetM.val SchM.val at p1
 obtain⟨⟨RC,ri,re⟩,hR⟩:∃R,YK n.net (q.map RqM.rq) s.sch=R:=⟨_,rfl⟩
 rw[hR]at p1⊢
 dsimp only at p1⊢
 unfold NetM.val SchM.val
 refine zX70 ?_<;>intros
 apply Yi _ en40
 exact za
 exact rfl
 exactλ_ hw=>(p1 hin.cons.cons hq.cons.cons hrs.cons.cons (hw))
 rintro _ _ ⟨A2,cap2,C,rfl,hC,hCl,rfl⟩
 by_cases h0:re=0
 ·rw[Ti h0]
  refine zX1 ?_<;>intros
  apply Yg H
  ·exact zc0
  apply Yd;exact rfl;exact rfl;grind
 ·rw[Tj h0]
  refine zX1 ?_<;>intros
  apply Yg H
  ·exact zc0
  exact zc13
def rqs(A:Option Addr)(cap:Nat)(l:List RqM):HP:=sl 69 7 A l.length cap (l.flatMap rqF)
theorem Yfe(A:Option Addr)(cap:Nat)(l:List RqM)(x:RqM):sl 69 7 A (l.length+1) cap (l.flatMap rqF++#[Value.int .i64 x.f.1,.int .i64 x.f.2.1,.int .i64 x.f.2.2.1,.int .i64 x.f.2.2.2.1,.int .i64 x.f.2.2.2.2.1,.int .i64 x.f.2.2.2.2.2,.slice x.A x.rows.length x.cap].toList)=rqs A cap (l++[x]):=by
 grind [rqs,rqF]
variable {A:Option Addr}{cap B k gv:Nat}{w0 w:World}{H:List HP}
theorem WC(l:List RqM)(hlen:l.length<=1000000)(hr:Rd B w0 H A (l.flatMap rqF))(hw:St B w0 H w):
 CX B w0 90 [.slice A l.length cap] w λv K=>∃A' cap',v=.slice A' l.length cap'/\K=rqs A' cap' l::H:=by
 cases A with
 |none=>
  have hl:l=[]:=by
   cases l with
   |nil=>rfl
   |cons x l=>
    exact zc39
  subst hl
  refine Yc Tryz.func90 Tryz.ntmps90 rfl rfl hw ?_
  refine zX6 ?_
  apply Xk 69 7;exact zc42
 |some a=>
  refine Yc Tryz.func90 Tryz.ntmps90 rfl rfl hw ?_
  repeat'(first|(apply Zo;(iterate 3 exact rfl))|(apply Yr T;exact rfl;exact rfl;intro g2)|refine zga ?_|fail)
  apply YU T (f:=rqF) (l2:=l) (e:=69) (size:=7) (xs:=[]);(iterate 3 exact rfl);exact hr.cons;exact(λ_=>rfl);exact(λ_=>rfl);exact rfl;(intro _ _;exact zd);omega;intro A' cap'
  exact zc67
section
variable {m:Eng.Mode}{n:Shp}{B d:Nat}{w0:World}{ops:Array Oper}{Q:Exit->Act->World->Prop}{rest:List Oper}{env:Env}{H:List HP}{ty:TypeId}{pos:String}{after:Array Edge}{x y lo:Operand}
variable {gv k cap:Nat}
theorem YfE{g o la ca lb cb:Nat}{tt:TypeId}{cs:Array Value}{xs:List Value}{tys:Array TypeId}(hx:evo env x=some (.slice (some ⟨gv,0,none⟩) la ca))(hy:evo env y=some (.slice (subA (some ⟨g,0,none⟩) o cap 7) lb cb))(hm1:Eng.blk gv (.cells cs tt (0,0))∈H)(hm2:sl 69 7 (some ⟨g,0,none⟩) k cap xs∈H)
 (hne:∀w,St B w0 H w->gv≠g) (hc:0<cap/\cap≠o) (hn:Nat.ble (d+1) n.k=true) (h:VL Tryz.prog none n B w0 ops Q rest ((d,.bool false)::env) H):
 VL Tryz.prog none n B w0 ops Q (⟨some d,.call ⟨.value (.func 294),#[x,y],tys⟩,ty,pos,after,none⟩::rest) env H:=by
 have hsub:subA (some ⟨g,0,none⟩) o cap 7=some ⟨g,o*7,none⟩:=by
  simp_all [subA,Go.Addr.add_lit]
 rw[hsub]at hy
 refine XH (λu K'=>u=.bool false/\K'=H) rfl rfl hn (λa w ha hw=>⟨.bool false,H,w,?_,hw,rfl,rfl⟩) zc64
 have hb:=(hw.blk hm1).1
 rcases Z2 (hw.sl hm2)with⟨h0,_⟩|⟨g',cur,e0,g1,_,_,g4,_⟩
 ·cases h0
 injection e0 with e0
 injection e0 with e0
 subst e0
 obtain⟨bb,htl⟩:∃bb,Eng.look T.sl 27=some (69,7,bb):=⟨_,rfl⟩
 obtain⟨_,inf,_,hi,_,_,hsi,_⟩:=YR (T.slic htl)
 have hr:=run_callFunc_extern (P:=Tryz.prog) Tryz.func294 (by kernel_rfl) (by kernel_rfl) (by kernel_rfl) (e:=Extern.SlicesOverlaps.overlaps #[27,27] #[4]) (by kernel_rfl) #[.slice (some ⟨gv,0,none⟩) la ca,.slice (some ⟨g,o*7,none⟩) lb cb] w
 have hov:=Lib.run_overlaps_apart (P:=Tryz.prog) w 27 4 69 Tryz.underlying27 7 (λw=>by simp[sizeOf,typeInfo,hi,hsi]) ⟨gv,0,none⟩ ⟨g,o*7,none⟩ la ca lb cb (hne w hw) tt 69 cs.size cur.size (by simp[World.shape?,hb]) (by simp[World.shape?,g1]) (by rw[g4];omega) Yi0 Yi0
 have he:a.eval (.func 294)=.func (.func 294) #[] #[]:=rfl
 simp[execOp,resolve,invoke,ha.eval hx,ha.eval hy,he,Deferred.ofValue,hr,hov,Result.andThen]
end
theorem YqO(l:List RqM)(c:RqM)(i:Nat)(hk:k=1):(l.take i).take i++[c].take k++(l.take i).drop (i+k)=l.take i++[c]:=by
 grind [Rm]
theorem YqQ(l:List RqM)(c:RqM)(i:Nat)(hi:i<=l.length)(hk:k=l.length-i):(l.take i++[c]).take (i+1)++(l.drop i).take k++(l.take i++[c]).drop (i+1+k)=l.take i++c::l.drop i:=Yp8
theorem YqS(l:List RqM)(i:Nat)(hi:i<=l.length)(hk:k=l.length-i):l.take (i+1)++(l.drop i).take k++l.drop (i+1+k)=l.take (i+1)++l.drop i:=YpZ
theorem YqU(l:List RqM)(c:RqM)(i:Nat)(hi:i<l.length)(hk:k=1):(l.take (i+1)++l.drop i).take i++[c].take k++(l.take (i+1)++l.drop i).drop (i+k)=l.take i++c::l.drop i:=by
 grind
theorem Oj(l:List RqM)(c:RqM)(i:Nat)(hi:i<=l.length):(l.take i++c::l.drop i).length=l.length+1:=by
 grind
theorem QG(l:List RqM)(i:Nat)(c:RqM)(hi:i<=l.length)(hlen:l.length<=1000)(hw:St B w0 (rqs A cap l::blk gv (.cells #[.int .i64 c.f.1,.int .i64 c.f.2.1,.int .i64 c.f.2.2.1,.int .i64 c.f.2.2.2.1,.int .i64 c.f.2.2.2.2.1,.int .i64 c.f.2.2.2.2.2,.slice c.A c.rows.length c.cap] 69 (0,0))::H) w):
 CX B w0 208 [.slice A l.length cap,.int .i64 i,.slice (some ⟨gv,0,none⟩) 1 1] w λv K=>∃A' cap',v=.slice A' (l.take i++c::l.drop i).length cap'/\K=rqs A' cap' (l.take i++c::l.drop i)::H:=by
 refine Yc Tryz.func208 Tryz.ntmps208 rfl rfl hw ?_
 unfold rqs
 refine Oa (k:=l.length) (cap:=cap) (by(focus exact zc2)) λhcap=>?_
 have hli:=Oj l c i hi
 have hrv:∀{L:List HP},blk gv (.cells #[.int .i64 c.f.1,.int .i64 c.f.2.1,.int .i64 c.f.2.2.1,.int .i64 c.f.2.2.2.1,.int .i64 c.f.2.2.2.2.1,.int .i64 c.f.2.2.2.2.2,.slice c.A c.rows.length c.cap] 69 (0,0))∈L->Rd B w0 L (some ⟨gv,0,none⟩) (([c]:List RqM).flatMap rqF):=λh=>by
  have h1:=Rd.blk (B:=B) (w0:=w0) (cs:=(rqF c).toArray) h
  rw[show([c]:List RqM).flatMap rqF=(rqF c).toArray.toList by simp]
  exact h1
 have hq7:∀c:RqM,(rqF c).length=7:=λ_=>rfl
 have ho7:∀c:RqM,Z4 (rqF c)=true:=λ_=>rfl
 refine zX4 ?_
 apply Yv T i (l.length-i);(iterate 5 exact rfl);exact hi;exact rfl
 by_cases hin:i=l.length
 ·have e1:l.take i++c::l.drop i=l++[c]:=Yp4
  rw[e1]
  refine YpN ?_<;>intros
  rename_i A' cap'
  apply Yg (rqs A' cap' (l++[c])::H)
  ·intro w hw
   rw[<-Yfe]
   revert w
   exact zc0
  exact zc74
 have hlt:i<l.length:=by omega
 have hrs:∀{L:List HP}{g:Nat},sl 69 7 (some ⟨g,0,none⟩) l.length cap (l.flatMap rqF)∈L->Rd B w0 L (subA (some ⟨g,0,none⟩) i cap 7) ((l.drop i).flatMap rqF):=λh=>by
  have h1:=Rd.sub (B:=B) (w0:=w0) (q:=7) (o:=i) (k:=l.length-i) (cap:=cap) hq7 (Rd.sl h) hcap
  exact zc90
 apply Ybp (k:=l.length) (by(focus exact zc2)) (by omega)
 rintro g rfl
 have hA:∃g',(some ⟨g,0,none⟩:Option Addr)=some ⟨g',0,none⟩:=⟨g,rfl⟩
 repeat'(first|(apply UH T;(iterate 3 exact rfl))|refine zgc ?_|(refine zgf ?_ ?_<;>intro _<;>try exact zo)|fail)
 ·apply ZJ T (n':=i);(iterate 4 exact rfl);omega;omega;exact hA
  refine zX2 ?_
  rw[show(l.length:Int)+((1:Nat):Int)-(i:Int)=((l.length+1-i:Nat):Int) by omega]
  apply Wv T (e:=69) (size:=7) (k:=l.length) (xs:=l.flatMap rqF);exact rfl;exact rfl;(focus exact zc2);exact rfl;kernel_rfl;exact rfl;kernel_rfl;omega;intro g2 c2 hc2
  rw[show i+(l.length+1-i)=l.length+1 by omega]at hc2⊢
  have e2:sl 69 7 (some ⟨g2,0,none⟩) i c2 ((l.flatMap rqF).take (i*7))=sl 69 7 (some ⟨g2,0,none⟩) (l.take i).length c2 ((l.take i).flatMap rqF):=by
   rw[XO hq7,TJ,Sr hi]
  rw[e2]
  have hA2:∃g',(some ⟨g2,0,none⟩:Option Addr)=some ⟨g',0,none⟩:=⟨g2,rfl⟩
  have htl:(l.take i).length=i:=Ydx
  refine zX4 ?_
  apply Yv T i (l.length+1-i);(iterate 5 exact rfl);omega;exact rfl
  refine zX4 ?_
  apply Zl T (l.take i) [c] (l.take i++[c]) (f:=rqF) (o:=i) (cap:=c2);exact rfl;exact rfl;exact hrv (by(focus exact zc2));exact hq7;exact ho7;exact rfl;exact rfl;exact hA2;(simp only[TL];omega);exact YqO l c i (by omega);exact zd
  refine zX4 ?_
  apply YG [0,1,2,3,4,5,6,7] [8] [true,true,true]
  kernel_rfl
  kernel_rfl
  exact zy
  (simp only[Yh,nthO];rfl)
  (simp only[Yh,nthO];rfl)
  refine zX9 ?_
  apply Yv T (i+1) (l.length+1-(i+1));(iterate 4 exact rfl);omega;omega;exact rfl
  refine zX4 ?_
  apply Yv T i (l.length-i);(iterate 5 exact rfl);omega;exact rfl
  refine zX2 ?_
  apply Zl T (l.take i++[c]) (l.drop i) (l.take i++c::l.drop i) (f:=rqF) (o:=i+1) (cap:=c2);exact rfl;exact rfl;exact hrs (by(focus exact zc2));exact hq7;exact ho7;exact rfl;exact rfl;exact hA2;(simp only[Tq,TJ,TL,Rh];omega);exact YqQ l c i hi (by omega);exact zd
  refine zX2 ?_
  apply Yg (rqs (some ⟨g2,0,none⟩) c2 (l.take i++c::l.drop i)::H)
  ·unfold rqs
   exact zc0
  exact YpS
 ·apply ZJ T (n':=l.length+1);(iterate 4 exact rfl);omega;omega;exact hA
  refine zX9 ?_
  apply Yv T (i+1) (l.length+1-(i+1));(iterate 4 exact rfl);omega;omega;exact rfl
  apply YfE (gv:=gv) (g:=g) (o:=i+1) (cap:=cap) (k:=l.length) (xs:=l.flatMap rqF);exact rfl;exact rfl;(focus exact zc2);(focus exact zc2);exactλw hw=>Yab (hw.perm (.swap _ _ _));omega;exact rfl
  refine zX2 ?_
  apply YG [0,1,2,3,4,5,6,7] [8] [true,true]
  kernel_rfl
  kernel_rfl
  exact zy
  (simp only[Yh,nthO];rfl)
  (simp only[Yh,nthO];rfl)
  refine zX9 ?_
  apply Yv T (i+1) (l.length+1-(i+1));(iterate 4 exact rfl);omega;omega;exact rfl
  refine zX4 ?_
  apply Yv T i (l.length+1-i);(iterate 5 exact rfl);omega;exact rfl
  refine zX2 ?_
  apply Zl T l (l.drop i) (l.take (i+1)++l.drop i) (f:=rqF) (o:=i+1) (cap:=cap);exact rfl;exact rfl;exact hrs (by(focus exact zc2));exact hq7;exact ho7;exact rfl;exact rfl;exact hA;(simp only[Rh];omega);exact YqS l i hi (by omega);exact zd
  refine zX2 ?_
  apply Yv T i (l.length+1-i);(iterate 5 exact rfl);omega;exact rfl
  refine zX4 ?_
  apply Zl T (l.take (i+1)++l.drop i) [c] (l.take i++c::l.drop i) (f:=rqF) (o:=i) (cap:=cap);exact rfl;exact rfl;exact hrv (by(focus exact zc2));exact hq7;exact ho7;exact rfl;exact rfl;exact hA;(simp only[Tq,TJ,TL,Rh];omega);exact YqU l c i hlt (by omega);exact zd
  refine zX7 ?_
  apply Yg (rqs (some ⟨g,0,none⟩) cap (l.take i++c::l.drop i)::H)
  ·unfold rqs
   exact zc0
  exact zc97
theorem Ydn{id:Int}:∀{q:List Rqs}{k:Nat},k<=q.length->(∀i (x:Rqs),i<k->q[i]? =some x->x.1.1<id)->(∀x:Rqs,q[k]? =some x->¬x.1.1<id)->posQ q id=k
 |[],k,hk,_,_=>by
  have:k=0:=by simp_all
  subst this;rfl
 |y::q,0,_,_,h2=>by
  simp_all [posQ]
 |y::q,k+1,hk,h1,h2=>by
  have ih:=Ydn (id:=id) (q:=q) (k:=k) (by grind) (λi x hi hx=>h1 (i+1) x (by omega) hx) λx hx=>h2 x hx
  unfold posQ at ih⊢
  rw[List.takeWhile_cons,Tm (Ti (h1 0 y (by omega) rfl)),TS,ih]
theorem YeT(a b:RqM)(hw:St B w0 H w):
 CX B w0 371 [rqV a,rqV b] w λv K=>v=.int .i64 (cmpI a.f.1 b.f.1)/\K=H:=by
 refine Yc Tryz.func371 Tryz.ntmps371 rfl rfl hw ?_
 unfold rqV
 repeat'(first|((first|apply Ya en73|apply Yb en73);exact za;exact rfl;exactλ_ hw=>(JX _ _ hw))|refine zgb ?_|(refine zgh ?_;intro _)|fail)
 apply Yg H
 ·exact zk
 apply Yd;exact rfl;exact rfl
 exact⟨rfl,rfl⟩
theorem Of{a b:Int}:cmpI a b<0↔a<b:=by
 unfold cmpI
 omega
def Ykv(l:List RqM):Prop:=∀(i j:Nat) (x y:RqM),i<j->l[i]? =some x->l[j]? =some y->x.f.1<y.f.1
theorem Ygs(l:List RqM)(c:RqM)(ho:Ykv l)(hlen:l.length<=1000000000)(hr:Rd B w0 H A (l.flatMap rqF))(hw:St B w0 H w):
 CX B w0 370 [.slice A l.length cap,rqV c,.func (.func 371) #[] #[]] w λv K=>
  ∃b,v=.tuple #[.int .i64 (posQ (l.map RqM.rq) c.f.1:Nat),.bool b]/\K=H:=by
 refine Yc Tryz.func370 Tryz.ntmps370 rfl rfl hw ?_
 (apply Y0;apply YL;apply Yy;exact rfl;exact rfl;intro g)
 refine zX7 ?_
 have hr:=hr.cons (X:=blk g (.cells (rqF c).toArray 69 (0,0)))
 refine Wu (λ(lo hi:Nat)=>[(9,.int .i64 lo),(10,.int .i64 hi),(8,.int .i64 l.length),(0,.slice A l.length cap),(2,.func (.func 371) #[] #[]),(4,.pointer (some ⟨g,0,none⟩))]) (λ_ _=>blk g (.cells (rqF c).toArray 69 (0,0))::H)
  (λlo hi=>lo<=hi/\hi<=l.length/\(∀i x,i<lo->l[i]? =some x->x.f.1<c.f.1)/\(∀i x,hi<=i->l[i]? =some x->¬x.f.1<c.f.1)) (λlo hi=>hi-lo) 0 l.length ⟨by omega,by omega,λj x hj=>by omega,λj x h1 h2=>by simp_all⟩ ?_ (λw hw=>hw) ?_
 ·exact zc1
 rintro lo hi ⟨h1,h2,h3,h4⟩ K hK
 by_cases hlt:lo<hi
 ·obtain⟨b,hb⟩:∃b,l[(((lo:Int)+hi)/2).toNat]? =some b:=⟨_,Ta (by omega)⟩
  have hm:(((lo:Int)+hi)/2).toNat=(lo+hi)/2:=by omega
  have hb2:l[(lo+hi)/2]? =some b:=by grind
  repeat'(first|((first|apply YV (cs:=[])|apply Y2 (cs:=[]));exact rfl;exact Ysv;exact za;exact rfl;exactλ_ hw=>(YeT b c hw))|(apply zg28;refine zs84 ?_)|refine zgd ?_|(refine zge ?_ ?_<;>intro _<;>try exact zo)|fail)
  ·rename_i hc
   rw[Of]at hc
   apply hK ((lo+hi)/2+1) hi
   ·exact zc63
   ·omega
   ·exact zc1
   exact zc20
  ·rename_i hc
   have hc:¬b.f.1<c.f.1:=λh=>by have:=Of.2 h;omega
   apply hK lo ((lo+hi)/2)
   ·exact zc55
   ·omega
   ·exact zc1
   exact zc20
 ·obtain rfl:lo=hi:=by omega
  have hpe:posQ (l.map RqM.rq) c.f.1=lo:=Ydn (by rw[Tu];exact h2) (λi x hi hx=>by
   rw[TU]at hx
   cases hl:l[i]? with
   |none=>rw[hl]at hx;cases hx
   |some y=>rw[hl]at hx;cases hx;exact h3 i y hi hl) λx hx=>by
   rw[TU]at hx
   cases hl:l[lo]? with
   |none=>rw[hl]at hx;cases hx
   |some y=>exact YtG
  rw[hpe]
  by_cases hl:lo<l.length
  ·obtain⟨b,hb⟩:∃b,l[lo]? =some b:=⟨_,Ta hl⟩
   repeat'(first|((first|apply YV (cs:=[])|apply Y2 (cs:=[]));exact rfl;exact Ysv;exact za;exact rfl;exactλ_ hw=>(YeT b c hw))|(apply zg28;refine zs84 ?_)|refine zgd ?_|(refine zge ?_ ?_<;>intro _<;>try exact zo)|fail)
   all_goals(apply Yk;apply Yo;(iterate 3 exact rfl);exact⟨_,rfl,rfl⟩)
  ·refine zX17 ?_<;>intros
   apply Yk;exact YpR
theorem YdP(q:List RqM)(x:RqM)(ho:Ykv q)(hlen:q.length<=1000)(hr:Rd B w0 H A (q.flatMap rqF))(hw:St B w0 H w):
 CX B w0 292 [.slice A q.length cap,rqV x] w λv K=>∃A' cap',v=.slice A' (q.length+1) cap'/\
  K=rqs A' cap' (q.take (posQ (q.map RqM.rq) x.f.1)++x::q.drop (posQ (q.map RqM.rq) x.f.1))::H:=by
 refine Yc Tryz.func292 Tryz.ntmps292 rfl rfl hw ?_
 have hp:posQ (q.map RqM.rq) x.f.1<=q.length:=zc89
 generalize hP:posQ (q.map RqM.rq) x.f.1=k at hp
 have p1:=λ{H':List HP}{w:World}(hr:Rd B w0 H' A (q.flatMap rqF)) (hw:St B w0 H' w)=>Ygs q x ho (by omega) (cap:=cap) hr hw
 rw[hP]at p1
 have p2:=λ{A':Option Addr}{cap' gv:Nat}{H':List HP}{w:World}(hw:St B w0 (rqs A' cap' q::rqA gv x::H') w)=>QG q k x hp hlen hw
 rw[Oj q x k hp]at p2
 have hr:Rd B w0 [many H] A (q.flatMap rqF):=hr.mono λw hw=>hw.perm (.openT H)
 have hrx:∀{L:List HP},(∀w,St B w0 L w->St B w0 [many H] w)->Rd B w0 L A (q.flatMap rqF):=λh=>hr.mono h
 refine YW [many H] (λw hw=>hw.perm (.closeT H)) ?_
 unfold rqV at p1⊢
 (apply Y0;apply YL;apply Yy;exact rfl;exact rfl;intro g)
 refine zX7 ?_
 apply Yi _ Yvp
 exact za
 exact rfl
 exactλ_ hw=>(p1 hr.cons (hw))
 rintro _ _ ⟨b,rfl,rfl⟩
 refine zX9 ?_
 apply YbM (.p1 0 (.p1 2 (.p1 3 (.d2 1 (.d1 4 (.d1 5 (.d1 6 .done))) 4 (.d1 1 (.d1 5 (.d1 6 .done))))))) [] [true,true]
 kernel_rfl
 kernel_rfl
 exact zy
 exact rfl
 repeat'(first|((apply Yi _ en90);exact za;exact rfl;exactλ_ hw=>WC q (by omega) (hrx zk) hw;rintro _ _ ⟨A1,cap1,rfl,rfl⟩)|(apply Vq T T2;(iterate 7 exact rfl);intro gv)|(apply X6 [rqs A1 cap1 q,rqA gv x] _ Yoj;exact za;try exact zl;exact zp;exact rfl;exactλ_ hw=>p2 hw;rintro _ _ ⟨A2,cap2,rfl,rfl⟩)|(apply YnU;(simp only[nthO];rfl))|(apply YnS;(simp only[nthO];rfl);exact zp)|(apply YnT;(simp only[nthO];rfl);(simp only[nthO];rfl);exact zp)|(apply YbU;try exact zl)|refine zgd ?_|fail)
 all_goals(
  apply Yg (rqs A2 cap2 (q.take k++x::q.drop k)::H)
  ·intro w hw
   have h5:St B w0 (rqs A2 cap2 (q.take k++x::q.drop k)::[many H]) w:=by
    revert w
    exact zk
   exact h5.perm (.cons _ (.openT H))
  apply Yd;exact rfl;exact rfl
  exact⟨A2,cap2,rfl,rfl⟩)
variable {A:Option Addr}{cap B:Nat}{w0 w:World}{H:List HP}
theorem YjF(p:RqM->Bool)(l:List RqM)(f:Nat)(cs:List Value)(hen:∀xs w,(callFunc f xs).run Tryz.prog w=.ok (.enter f xs) w)(hlen:l.length<=100000000)(hr:Rd B w0 H A (l.flatMap rqF))
 (hp:∀a∈l,∀w,St B w0 H w->Calls Tryz.prog f ([rqV a]++cs).toArray w (Post B w0 λv K=>v=.bool (p a)/\K=H)) (hw:St B w0 H w):
 CX B w0 87 [.slice A l.length cap,.func (.func f) #[] cs.toArray] w λv K=>v=.int .i64 (Yq p l 0)/\K=H:=by
 refine Yc Tryz.func87 Tryz.ntmps87 rfl rfl hw ?_
 refine zX7 ?_
 refine Yf (λ(k:Nat)=>[(8,.int .i64 k),(7,.int .i64 l.length),(0,.slice A l.length cap),(1,.func (.func f) #[] cs.toArray)]) (λ_=>H) (λk=>k<=l.length/\Yq p l 0=Yq p (l.drop k) k) (λk=>l.length-k) 0 ⟨Tc _,by simp⟩ ?_ (λw hw=>hw) ?_
 ·exact zc1
 rintro k ⟨hk,hi⟩ K hK
 by_cases hlt:k<l.length
 ·obtain⟨a,ha⟩:∃a,l[k]? =some a:=⟨_,Ta hlt⟩
  have hpa:=hp a (Td ha)
  rw[ZX p l ha]at hi
  refine zX8 ?_<;>intros
  cases hpv:p a
  ·rw[hpv]at hi
   refine zX9 ?_
   apply hK (k+1)
   ·grind
   ·omega
   ·exact zc1
   exact zc20
  exact zc10
 exact zc7
theorem WF(p:RqM->Bool)(l:List RqM)(f:Nat)(cs:List Value)(hen:∀xs w,(callFunc f xs).run Tryz.prog w=.ok (.enter f xs) w)(hlen:l.length<=100000000)(hr:Rd B w0 H A (l.flatMap rqF))
 (hp:∀a∈l,∀w,St B w0 H w->Calls Tryz.prog f ([rqV a]++cs).toArray w (Post B w0 λv K=>v=.bool (p a)/\K=H)) (hw:St B w0 H w):
 CX B w0 264 [.slice A l.length cap,.func (.func f) #[] cs.toArray] w λv K=>v=.bool (l.any p)/\K=H:=by
 refine Yc Tryz.func264 Tryz.ntmps264 rfl rfl hw ?_
 rw[<-YcI]
 refine zX4 ?_
 first|apply Ya en87|apply Yb en87
 exact za
 exact rfl
 exactλ_ hw=>(YjF p l f cs hen hlen hr hp hw)
 by_cases h0:0<=Yq p l 0
 ·exact zc16
 ·exact zc16
theorem Yps(n:Net)(l:List Flw):(schE n l J3).2≠0:=by
 have h:Xs n l J3≠0:=by
  unfold Xs
  split
  ·decide
  split
  ·decide
  rw[Tm (by decide)];decide
 simp_all [schE]
def YfS(n:Net)(q:List Rqs):Bool:=decide (¬(YK n q J3).2.2=1\/0<=(YK n q J3).2.1)
variable {n:Net}{q:List Rqs}
theorem YeM(h:Ym n=0):YfS n q=decide ((rqsE n q).2≠0):=by
 unfold YfS YK
 by_cases h1:(rqsE n q).2=0
 ·rw[Tf (λe=>e h1),Tm (Yps n _)]
  simp_all
 ·have h3:decide ((rqsE n q).2≠0)=true:=Ti h1
  rw[Tm h1,h3]
  refine Ti ?_
  have hff:∀{f:Nat->Int}{r:Nat},(YC f r 0).2≠0->0<=(YC f r 0).1:=λ{f r} hne=>by
   have aux:∀{r i:Nat},(YC f r i).2≠0->0<=(YC f r i).1:=by
    intro r
    induction r with
    |zero=>intro i h;exact absurd rfl h
    |succ r ih=>
     intro i h
     unfold YC at h⊢
     split
     ·split at h
      ·exact ih h
      ·contradiction
     ·omega
   exact aux hne
  unfold rqsE at h1⊢
  rw[Tf (λe=>e h)]at h1⊢
  by_cases h2:(YA n.nodes (Y1 q)).2=0
  ·rw[Tf (λe=>e h2)]at h1⊢
   exact .inr (hff h1)
  ·rw[Tm h2]at h1⊢
   unfold YA at h2⊢
   split at h2
   ·rw[Tm (by assumption)];decide
   rw[Tf (by assumption)]
   split at h2
   ·rw[Tm (by assumption)];decide
   rw[Tf (by assumption)]
   exact .inr (hff h2)
theorem YaO(n:NetM)(q:List RqM)(ht:TabsB B w0)(hin:n.In B w0 H)(hq:QIn B w0 H A q)(hw:St B w0 H w):
 CX B w0 263 [n.val,.slice A q.length cap] w λv K=>v=.bool (YfS n.net (q.map RqM.rq))/\K=H:=by
 refine Yc Tryz.func263 Tryz.ntmps263 rfl rfl hw ?_
 have p1:=λ{H':List HP}{w:World}(hin:n.In B w0 H') (hq:QIn B w0 H' A q) (hw:St B w0 H' w)=>Uv n q ⟨0,0,none,0,[]⟩ (cap:=cap) ht hin hq (.nil) (by decide) hw
 unfold OutC NetM.val SchM.val at p1
 have hz:(⟨0,0,none,0,[]⟩:SchM).sch=J3:=rfl
 rw[hz]at p1
 unfold YfS
 obtain⟨⟨RC,ri,re⟩,hR⟩:∃R,YK n.net (q.map RqM.rq) J3=R:=⟨_,rfl⟩
 rw[hR]at p1⊢
 dsimp only at p1⊢
 unfold NetM.val
 refine zX25 ?_<;>intros
 apply Yi _ en40
 exact za
 exact rfl
 exactλ_ hw=>(p1 hin.cons hq.cons (hw))
 rintro _ _ ⟨A2,cap2,C,rfl,hC,hCl,rfl⟩
 by_cases h0:re=1
 ·by_cases h1:0<=ri
  ·rw[Ti (.inr h1)]
   refine zX41 ?_<;>intros
   all_goals(apply Yg H;((intro w hw;refine hw.perm ?_;focus exact zc6));exact zc95)
  ·rw[Tj (by rintro(h|h);exact h h0;exact h1 h)]
   refine zX41 ?_<;>intros
   all_goals(apply Yg H;((intro w hw;refine hw.perm ?_;focus exact zc6));exact zc95)
 ·rw[Ti (.inl h0)]
  refine zX1 ?_<;>intros
  all_goals(apply Yg H;((intro w hw;refine hw.perm ?_;focus exact zc6));exact zc95)
theorem Yl1(y x:RqM)(g:Nat)(hm:rqA g x∈H)(hw:St B w0 H w):
 CX B w0 291 [rqV y,.pointer (some ⟨g,0,none⟩)] w λv K=>v=.bool (decide (y.f.1=x.f.1))/\K=H:=by
 refine Yc Tryz.func291 Tryz.ntmps291 rfl rfl hw ?_
 unfold rqV
 by_cases h:y.f.1=x.f.1
 ·rw[Ti h]
  refine zX21 ?_<;>intros
  all_goals(apply Yg H;((intro w hw;refine hw.perm ?_;focus exact zc6));exact zc13)
 ·rw[Tj h]
  refine zX21 ?_<;>intros
  all_goals(apply Yg H;((intro w hw;refine hw.perm ?_;focus exact zc6));exact zc13)
theorem Yl2{s:Sch}{x:Rqs}(hc:(YK n q s).2.2=0)(hx:(rqsE n (insQ q x)).2=0)(hm:s.len.tmod x.1.2.2.2.1=0):
 Sm n (Y1 (insQ q x)) s/\Xl n.nodes x.1=0/\(∀r∈x.2,(∀y∈YH n r,LkOk n (Y1 (insQ q x)) y.1 y.2.1 x.1.1)/\(∀i,i+1<r.length->0<=Yu n (r.getD i 0) (r.getD (i+1) 0))/\1<=r.length/\r.length<=9):=by
 obtain⟨h1,h2⟩:=WB.1 hc
 have hsem:=YbE.1 (Wd.1 h1)
 obtain⟨-,hfl,hrt⟩:=U6 hx
 have hxm:x∈insQ q x:=by simp[QF]
 have hrx:=hrt x hxm
 have hfx:Xl n.nodes x.1=0:=Uo hfl (TI.2 ⟨x,hxm,rfl⟩)
 obtain⟨hib,-⟩:=JG hfx
 have hsm:Sm n (Y1 (insQ q x)) s:=by
  have h0:=hsem.sm
  refine⟨h0.ck,hfl,λf hf=>?_,h0.sized,h0.formed,h0.ord,λc hcm=>⟨(h0.good c hcm).1,?_⟩,h0.once,h0.clear⟩
  ·obtain⟨y,hy,rfl⟩:=TI.1 hf
   rcases QF.1 hy with rfl|hy
   ·exact hm
   ·exact h0.per _ (TI.2 ⟨y,hy,rfl⟩)
  ·obtain⟨f,hf,e⟩:=Yai.1 (h0.good c hcm).2
   obtain⟨y,hy,rfl⟩:=TI.1 hf
   exact Yai.2 ⟨y.1,TI.2 ⟨y,QF.2 (.inr hy),rfl⟩,e⟩
 have hfi:0<=Zv (Y1 (insQ q x)) x.1.1:=Yai.2 ⟨x.1,TI.2 ⟨x,hxm,rfl⟩,rfl⟩
 refine⟨hsm,hfx,λr hr=>?_⟩
 have hck:=U7 hrx r hr
 obtain⟨-,hlen,hg⟩:=JF hck
 refine⟨λy hy=>⟨YjM hck y hy,hfi,hib⟩,λi hi=>?_,by omega,hlen.2⟩
 have:=hg i hi
 unfold YX at this
 rw[Tt]at this
 exact TR this.1
theorem QIn.insert{A':Option Addr}{cap':Nat}{q:List RqM}{x:RqM}(h:QIn B w0 H A q)(hx:x.In B w0 H)(hl:q.length<=1000)(k:Nat)(hk:k<=q.length):QIn B w0 (rqs A' cap' (q.take k++x::q.drop k)::H) A' (q.take k++x::q.drop k):=
 ⟨.sl TM,λy hy=>by
  rcases Re.1 hy with hy|hy
  ·exact(h.x y (SC hy)).cons
  ·rcases RA.1 hy with rfl|hy
   ·exact hx.cons
   ·exact(h.x y (List.mem_of_mem_drop hy)).cons,by grind⟩
theorem YqV(q:List RqM)(x:RqM):(q.take (posQ (q.map RqM.rq) x.f.1)++x::q.drop (posQ (q.map RqM.rq) x.f.1)).map RqM.rq=insQ (q.map RqM.rq) x.rq:=by
 rw[TX,RP,List.map_take,Nv];rfl
theorem YoI{q:List RqM}(h:(rqsE n (q.map RqM.rq)).2=0):Ykv q:=λi j x y hij hi hj=>by
 have hl:=(Tn.1 hj).1
 have:=Yuk h hij (by simp_all)
 unfold rqAt at this
 rw[TA,TA,TU,TU,hi,hj]at this
 exact this
end Go.Proofs.YtjlgijpmnfabcaaGreatDoor
