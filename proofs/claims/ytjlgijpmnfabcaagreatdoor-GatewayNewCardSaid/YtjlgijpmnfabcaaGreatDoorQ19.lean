/- Lemmas. -/
import Derived.Shelf.SlSortCmp.NoneTotal
import Derived.Test.YtjlgijpmnfabcaaGreatDoorQ17
set_option maxRecDepth 100000
set_option maxHeartbeats 8000000
set_option linter.all false
namespace Go.Eng
open Go.RowKit
section
variable {P:Program}{m:Mode}{n:Shp}{B:Nat}{w0:World}{ops:Array Oper}{Q:Exit->Act->World->Prop}{rest:List Oper}{env:Env}{H:List HP}{d:Nat}{ty:TypeId}{pos:String}{after:Array Edge}{x y:Operand}
variable {k:Nat}
theorem Yaz(T:Tab P){t tn e size bytes:Nat}(hx:evo env x=some (.slice none 0 0))(hy:evo env y=some (.int .i64 (k:Int)))(ht:look T.sl t=some (e,size,bytes))(htn:Yf1 P tn=true)(hn:Nat.ble (d+1) n.k=true)(hb:Nat.ble bytes 1000=true)(hk:0<k/\k<=1000000)
 (h:∀g c,k<=c->VL P none n B w0 ops Q rest ((d,.slice (some ⟨g,0,none⟩) k c)::env) (sl e size (some ⟨g,0,none⟩) 0 c []::H)):VL P none n B w0 ops Q (⟨some d,.call ⟨.builtin .append,#[x,y],#[t,tn]⟩,ty,pos,after,none⟩::rest) env H:=by
 obtain⟨hu,i,z,hi,hz,hzs,hsi,hbi,_,_⟩:=YR (T.slic ht)
 obtain⟨kn,hkn⟩:=YaW htn
 have hb':=TV hb
 refine XH (λv K=>∃g c,v=.slice (some ⟨g,0,none⟩) k c/\K=sl e size (some ⟨g,0,none⟩) 0 c []::H/\k<=c) rfl rfl hn (λa w ha hw=>?_) (by rintro _ _ ⟨g,c,rfl,rfl,hc⟩;exact h g c hc)
 have hbytes:k*i.bytes<=281474976710656:=by
  have:k*i.bytes<=k*1000:=Nat.mul_le_mul_left _ (by omega)
  omega
 have hrun:=Lib.run_append_nil_zeros (P:=P) w t tn ty e i z .i64 kn hu hkn hi hz k hk.1 (by omega) (by omega) hbytes
 have hge:=grownCap_ge w k 0 e
 have hcm:grownCap w k 0 e<=maxLen:=grownCap_le_maxLen w k 0 e (by simp only[maxLen];omega)
 refine⟨_,_,_,by simp only[execOp,resolve,invoke,builtin,ha.eval hx,ha.eval hy,List.map_toArray,RP,RY,Sem.run_bind,Sem.run_pure,hrun,Result.andThen_ok];rfl,?_,w.heap.size,grownCap w k 0 e,rfl,rfl,hge⟩
 have h2:=hw.drew.alloc (.cells (Builtin.zeroCells z.cells k++Builtin.zeroCells z.cells (grownCap w k 0 e-k)) e)
 refine h2.upd (Upd.here _) rfl rfl rfl (TQ _) λS1 ⟨h3,h4⟩=>⟨⟨⟨by simp,.inr ⟨w.heap.size,grownCap w k 0 e,_,rfl,Tc _,h4,Tc _,hcm,?_,by simp⟩⟩,λa ha=>by cases ha;exact h3⟩,λ_ _ _=>rfl⟩
 rw[Array.size_append,size_zeroCells,size_zeroCells,hzs,<-SI,Nat.add_sub_cancel' hge]
end
end Go.Eng
namespace Go.Proofs.YtjlgijpmnfabcaaGreatDoor
open Go.RowKit Go.Eng Go.Nw Go.Rt
def slF{α:Type}(r:SlM α):List Value:=[.slice r.A r.xs.length r.cap]
def catS{α:Type}(rs:List (SlM α)):List α:=rs.flatMap λr=>r.xs
variable {α:Type}{k B cap:Nat}
theorem Od{rs:List (SlM α)}{r:SlM α}(h:rs[k]? =some r):catS (rs.take (k+1))=catS (rs.take k)++r.xs:=by
 unfold catS
 rw[TB,h,Ru,Ri,List.flatMap_singleton]
theorem Ybv(rs:List (SlM α))(k:Nat):(catS (rs.take k)).length<=(catS rs).length:=by
 have e:catS rs=catS (rs.take k)++catS (rs.drop k):=by unfold catS;rw[<-Ri,RG]
 rw[e,Tq];omega
variable {w0 w:World}{H:List HP}
theorem YhD(k:Nat)(hk:k<=1000000)(hw:St B w0 H w):
 CX B w0 288 [.slice none 0 0,.int .i64 k] w λv K=>∃A c,v=.slice A 0 c/\K=sl 79 7 A 0 c []::H:=by
 refine Yc Tryz.func288 Tryz.ntmps288 rfl rfl hw ?_
 by_cases h0:k=0
 ·subst h0
  repeat'(first|(apply UH T;(iterate 3 exact rfl))|refine zgd ?_|(refine zgf ?_ ?_<;>intro _<;>try exact zo)|fail)
  apply Xk 79 7
  apply Yd;exact rfl;exact rfl
  exact⟨none,0,rfl,rfl⟩
 ·skip
  repeat'(first|(apply UH T;(iterate 3 exact rfl))|refine zgd ?_|(refine zgf ?_ ?_<;>intro _<;>try exact zo)|fail)
  apply Xv T (l:=([]:List Int)) (n':=0);(iterate 4 exact rfl);exact⟨RS _,RS _⟩;exact TQ _;rfl
  rw[Z6,show((k:Int)-((0:Nat)-(0:Nat)):Int)=(k:Int) by omega]
  iterate 1 (first|refine zga ?_|fail)
  apply Yaz T (k:=k);(iterate 3 exact rfl);kernel_rfl;exact rfl;exact rfl;omega;intro g c hc
  repeat'(first|(apply Xv T (l:=List.replicate k (0:Int)) (n':=0);(rw[TN];exact rfl);(iterate 3 exact rfl);omega;(rw[TN];exact hc);omega)|refine zgb ?_|fail)
  rw[Z6]
  repeat'(first|fail)
  apply Yd;exact rfl;exact rfl
  exact⟨some ⟨g,0,none⟩,c,rfl,rfl⟩
variable {A:Option Addr}
theorem YdJ(rs:List (SlM Lop))(hrs:rs.length<=1000)(hct:(catS rs).length<=1000000)(hr:Rd B w0 H A (rs.flatMap slF))(hrr:∀r∈rs,Rd B w0 H r.A (r.xs.flatMap lopF))(hw:St B w0 H w):
 CX B w0 202 [.slice A rs.length cap] w λv K=>∃A' c,v=.slice A' (catS rs).length c/\(catS rs).length<=c/\K=sl 79 7 A' (catS rs).length c ((catS rs).flatMap lopF)::H:=by
 refine Yc Tryz.func202 Tryz.ntmps202 rfl rfl hw ?_
 repeat'(first|refine zgb ?_|fail)
 refine Yf (λ(k:Nat)=>[(11,.int .i64 k),(10,.int .i64 rs.length),(9,.slice A rs.length cap),(3,.int .i64 (catS (rs.take k)).length),(0,.slice A rs.length cap)]) (λ_=>H) (λk=>k<=rs.length) (λk=>rs.length-k) 0 (Tc _) ?_ (λw hw=>hw) ?_
 ·exact zu
 intro k hk K hK
 by_cases hlt:k<rs.length
 ·obtain⟨r,hx⟩:∃x,rs[k]? =some x:=⟨_,Ta hlt⟩
  have hst:=Od hx
  have h1:=Ybv rs (k+1)
  rw[hst,Tq]at h1
  repeat'(first|refine zgd ?_|(refine zge ?_ ?_<;>intro _<;>try exact zo)|fail)
  apply hK (k+1)
  ·omega
  ·omega
  ·rw[hst,Tq,Int.natCast_add];exact zu
  ·exactλw hw=>hw
 ·obtain rfl:k=rs.length:=by omega
  clear hK
  rw[TC]
  repeat'(first|refine zgc ?_|(refine zge ?_ ?_<;>intro _<;>try exact zo)|fail)
  apply Yi _ Yvf
  exact za
  exact rfl
  exactλ_ hw=>(YhD (catS rs).length (by omega) (hw))
  rintro _ _ ⟨A0,c0,rfl,rfl⟩
  repeat'(first|refine zgb ?_|fail)
  refine Yf (λ(z:LsM)=>[(27,.int .i64 z.i),(26,.int .i64 rs.length),(25,.slice A rs.length cap),(6,.slice z.A (catS (rs.take z.i)).length z.cap)]) (λz=>sl 79 7 z.A (catS (rs.take z.i)).length z.cap ((catS (rs.take z.i)).flatMap lopF)::H) (λz=>z.i<=rs.length) (λz=>rs.length-z.i) ⟨0,A0,c0⟩ (Tc _) ?_ (λw hw=>hw) ?_
  ·exact zu
  rintro⟨k,A1,c1⟩ hk K hK
  simp only at hk⊢
  by_cases hlt:k<rs.length
  ·obtain⟨r,hx⟩:∃x,rs[k]? =some x:=⟨_,Ta hlt⟩
   have hst:=Od hx
   have h1:=Ybv rs (k+1)
   rw[hst,Tq]at h1
   have hrx:=hrr r (Td hx)
   obtain⟨C,hC⟩:∃C,catS (rs.take k)=C:=⟨_,rfl⟩
   rw[hC]at hst h1⊢
   repeat'(first|refine zgd ?_|(refine zge ?_ ?_<;>intro _<;>try exact zo)|fail)
   apply YU T (f:=lopF) (l2:=r.xs) (e:=79) (size:=7) (xs:=C.flatMap lopF);(iterate 3 exact rfl);exact hrx.cons;exact(λ_=>rfl);exact(λ_=>rfl);exact rfl;(intro _ _;exact zd);omega;intro A' cap'
   repeat'(first|refine zgc ?_|fail)
   apply hK ⟨k+1,A',cap'⟩
   ·simp only;omega
   ·simp only;omega
   ·dsimp only
    rw[hst,Tq];exact zu
   ·dsimp only
    rw[hst,Tq,Ri]
    exactλw hw=>hw
  ·obtain rfl:k=rs.length:=by omega
   clear hK
   rw[TC]
   refine Oa (k:=(catS rs).length) (cap:=c1) zm λhcap=>?_
   repeat'(first|refine zgc ?_|(refine zge ?_ ?_<;>intro _<;>try exact zo)|fail)
   apply Yd;exact rfl;exact rfl
   exact⟨A1,c1,rfl,hcap,rfl⟩
theorem YiS(l:List Lop)(k:Nat)(x:Lop)(hk:k<=l.length)(hl:l.length<=1000)(hc:l.length<=cap)(hr:Rd B w0 H A (l.flatMap lopF))(hw:St B w0 H w):
 CX B w0 111 [.slice A l.length cap,.int .i64 k,lopV x] w λv K=>∃A' c,v=.slice A' (XS l k x).length c/\(XS l k x).length<=c/\K=sl 79 7 A' (XS l k x).length c ((XS l k x).flatMap lopF)::H:=by
 refine Yc Tryz.func111 Tryz.ntmps111 rfl rfl hw ?_
 have hop:∀w,St B w0 [many H] w->St B w0 H w:=λw hw=>hw.perm (.openT H)
 have hM:∀{H':List HP},many H∈H'->Rd B w0 H' A (l.flatMap lopF):=λhm=>hr.mono λw hw=>hw.inM hm
 have hq:∀c:Lop,(lopF c).length=7:=λ_=>rfl
 have p1:=λ(g gs:Nat) {H':List HP}{w:World}(hm:many H∈H') (h1:blk g (.cells #[.int .i64 x.1,.int .i64 x.2.1,.int .i64 x.2.2.1,.int .i64 x.2.2.2.1,.int .i64 x.2.2.2.2.1,.int .i64 x.2.2.2.2.2.1,.int .i64 x.2.2.2.2.2.2] 79 (0,0))∈H') (h2:blk gs (.cells #[.slice A k cap,.slice (some ⟨g,0,none⟩) 1 1,.slice (subA A k cap 7) (l.length-k) (cap-k)] 51 (0,0))∈H') (hw:St B w0 H' w)=>by
  have h0:=YdJ [⟨A,cap,l.take k⟩,⟨some ⟨g,0,none⟩,1,[x]⟩,⟨subA A k cap 7,cap-k,l.drop k⟩] (by simp) (by simp only[catS,Rl,SQ,Tq,TJ,Rh,TS,Rr];omega) (A:=some ⟨gs,0,none⟩) (cap:=3) (H:=H') (by
   have h3:=Rd.blk (B:=B) (w0:=w0) h2
   simp only[slF,Rl,SQ,TJ,Rh,TS,Rr,Sr hk]
   exact h3) (λr hr=>by
   simp only[RA,R9,NA]at hr
   rcases hr with rfl|rfl|rfl
   ·exact(hM hm).take k hq
   ·have h3:=Rd.blk (B:=B) (w0:=w0) h1
    exact h3
   ·have h3:=(hM hm).sub (o:=k) (k:=l.length-k) hq hc
    rwa [TE (by rw[Rh];omega)]at h3) hw
  rw[show catS [⟨A,cap,l.take k⟩,⟨some ⟨g,0,none⟩,1,[x]⟩,⟨subA A k cap 7,cap-k,l.drop k⟩]=XS l k x by simp[catS,XS]]at h0
  exact h0
 unfold lopV
 refine YW [many H] (λw hw=>hw.perm (.closeT H)) ?_
 repeat'(first|refine zga ?_|(refine zgh ?_;intro _)|fail)
 apply YG [0,1,2,3,5,6,7,4,8,9,10] [] [true,true]
 kernel_rfl
 kernel_rfl
 exact zy
 (simp only[Yh,nthO];rfl)
 exact rfl
 repeat'(first|(apply Xv T (l:=l) (n':=k);(iterate 4 exact rfl);omega;exact hc;omega;rw[Z6])|(apply Yv T k (l.length-k);(iterate 5 exact rfl);exact hk;exact rfl)|(apply Yj;try exact zl)|refine zgd ?_|(refine zgh ?_;intro _)|fail)
 rename_i g0 g gs
 apply Yi _ YuZ
 exact za
 exact rfl
 exactλ_ hw=>(p1 g gs zm zm zm (hw))
 rintro _ _ ⟨A',c,rfl,hcap,rfl⟩
 repeat'(first|(apply Yj;try exact zl)|refine zgd ?_|fail)
 apply Yg (sl 79 7 A' (XS l k x).length c ((XS l k x).flatMap lopF)::H)
 ·intro w hw
  have h5:St B w0 (sl 79 7 A' (XS l k x).length c ((XS l k x).flatMap lopF)::[many H]) w:=by
   revert w
   exact zk
  exact h5.perm (.cons _ (.openT H))
 apply Yd;exact rfl;exact rfl
 exact⟨A',c,rfl,hcap,rfl⟩
theorem YhE(k:Nat)(hk:k<=1000000)(hw:St B w0 H w):
 CX B w0 296 [.slice none 0 0,.int .i64 k] w λv K=>∃A c,v=.slice A 0 c/\K=sl 81 2 A 0 c []::H:=by
 refine Yc Tryz.func296 Tryz.ntmps296 rfl rfl hw ?_
 by_cases h0:k=0
 ·subst h0
  repeat'(first|(apply UH T;(iterate 3 exact rfl))|refine zgd ?_|(refine zgf ?_ ?_<;>intro _<;>try exact zo)|fail)
  apply Xk 81 2
  apply Yd;exact rfl;exact rfl
  exact⟨none,0,rfl,rfl⟩
 ·skip
  repeat'(first|(apply UH T;(iterate 3 exact rfl))|refine zgd ?_|(refine zgf ?_ ?_<;>intro _<;>try exact zo)|fail)
  apply Xv T (l:=([]:List Int)) (n':=0);(iterate 4 exact rfl);exact⟨RS _,RS _⟩;exact TQ _;rfl
  rw[Z6,show((k:Int)-((0:Nat)-(0:Nat)):Int)=(k:Int) by omega]
  iterate 1 (first|refine zga ?_|fail)
  apply Yaz T (k:=k);(iterate 3 exact rfl);kernel_rfl;exact rfl;exact rfl;omega;intro g c hc
  repeat'(first|(apply Xv T (l:=List.replicate k (0:Int)) (n':=0);(rw[TN];exact rfl);(iterate 3 exact rfl);omega;(rw[TN];exact hc);omega)|refine zgb ?_|fail)
  rw[Z6]
  repeat'(first|fail)
  apply Yd;exact rfl;exact rfl
  exact⟨some ⟨g,0,none⟩,c,rfl,rfl⟩
theorem YdK(rs:List (SlM Spl))(hrs:rs.length<=1000)(hct:(catS rs).length<=1000000)(hr:Rd B w0 H A (rs.flatMap slF))(hrr:∀r∈rs,Rd B w0 H r.A (r.xs.flatMap splF))(hw:St B w0 H w):
 CX B w0 209 [.slice A rs.length cap] w λv K=>∃A' c,v=.slice A' (catS rs).length c/\(catS rs).length<=c/\K=sl 81 2 A' (catS rs).length c ((catS rs).flatMap splF)::H:=by
 refine Yc Tryz.func209 Tryz.ntmps209 rfl rfl hw ?_
 repeat'(first|refine zgb ?_|fail)
 refine Yf (λ(k:Nat)=>[(11,.int .i64 k),(10,.int .i64 rs.length),(9,.slice A rs.length cap),(3,.int .i64 (catS (rs.take k)).length),(0,.slice A rs.length cap)]) (λ_=>H) (λk=>k<=rs.length) (λk=>rs.length-k) 0 (Tc _) ?_ (λw hw=>hw) ?_
 ·exact zu
 intro k hk K hK
 by_cases hlt:k<rs.length
 ·obtain⟨r,hx⟩:∃x,rs[k]? =some x:=⟨_,Ta hlt⟩
  have hst:=Od hx
  have h1:=Ybv rs (k+1)
  rw[hst,Tq]at h1
  repeat'(first|refine zgd ?_|(refine zge ?_ ?_<;>intro _<;>try exact zo)|fail)
  apply hK (k+1)
  ·omega
  ·omega
  ·rw[hst,Tq,Int.natCast_add];exact zu
  ·exactλw hw=>hw
 ·obtain rfl:k=rs.length:=by omega
  clear hK
  rw[TC]
  repeat'(first|refine zgc ?_|(refine zge ?_ ?_<;>intro _<;>try exact zo)|fail)
  apply Yi _ Yvj
  exact za
  exact rfl
  exactλ_ hw=>(YhE (catS rs).length (by omega) (hw))
  rintro _ _ ⟨A0,c0,rfl,rfl⟩
  repeat'(first|refine zgb ?_|fail)
  refine Yf (λ(z:LsM)=>[(27,.int .i64 z.i),(26,.int .i64 rs.length),(25,.slice A rs.length cap),(6,.slice z.A (catS (rs.take z.i)).length z.cap)]) (λz=>sl 81 2 z.A (catS (rs.take z.i)).length z.cap ((catS (rs.take z.i)).flatMap splF)::H) (λz=>z.i<=rs.length) (λz=>rs.length-z.i) ⟨0,A0,c0⟩ (Tc _) ?_ (λw hw=>hw) ?_
  ·exact zu
  rintro⟨k,A1,c1⟩ hk K hK
  simp only at hk⊢
  by_cases hlt:k<rs.length
  ·obtain⟨r,hx⟩:∃x,rs[k]? =some x:=⟨_,Ta hlt⟩
   have hst:=Od hx
   have h1:=Ybv rs (k+1)
   rw[hst,Tq]at h1
   have hrx:=hrr r (Td hx)
   obtain⟨C,hC⟩:∃C,catS (rs.take k)=C:=⟨_,rfl⟩
   rw[hC]at hst h1⊢
   repeat'(first|refine zgd ?_|(refine zge ?_ ?_<;>intro _<;>try exact zo)|fail)
   apply YU T (f:=splF) (l2:=r.xs) (e:=81) (size:=2) (xs:=C.flatMap splF);(iterate 3 exact rfl);exact hrx.cons;exact(λ_=>rfl);exact(λ_=>rfl);exact rfl;(intro _ _;exact zd);omega;intro A' cap'
   repeat'(first|refine zgc ?_|fail)
   apply hK ⟨k+1,A',cap'⟩
   ·simp only;omega
   ·simp only;omega
   ·dsimp only
    rw[hst,Tq];exact zu
   ·dsimp only
    rw[hst,Tq,Ri]
    exactλw hw=>hw
  ·obtain rfl:k=rs.length:=by omega
   clear hK
   rw[TC]
   refine Oa (k:=(catS rs).length) (cap:=c1) zm λhcap=>?_
   repeat'(first|refine zgc ?_|(refine zge ?_ ?_<;>intro _<;>try exact zo)|fail)
   apply Yd;exact rfl;exact rfl
   exact⟨A1,c1,rfl,hcap,rfl⟩
theorem YiT(l:List Spl)(k:Nat)(x:Spl)(hk:k<=l.length)(hl:l.length<=1000)(hc:l.length<=cap)(hr:Rd B w0 H A (l.flatMap splF))(hw:St B w0 H w):
 CX B w0 116 [.slice A l.length cap,.int .i64 k,splV x] w λv K=>∃A' c,v=.slice A' (XS l k x).length c/\(XS l k x).length<=c/\K=sl 81 2 A' (XS l k x).length c ((XS l k x).flatMap splF)::H:=by
 refine Yc Tryz.func116 Tryz.ntmps116 rfl rfl hw ?_
 have hop:∀w,St B w0 [many H] w->St B w0 H w:=λw hw=>hw.perm (.openT H)
 have hM:∀{H':List HP},many H∈H'->Rd B w0 H' A (l.flatMap splF):=λhm=>hr.mono λw hw=>hw.inM hm
 have hq:∀c:Spl,(splF c).length=2:=λ_=>rfl
 have p1:=λ(g gs:Nat) {H':List HP}{w:World}(hm:many H∈H') (h1:blk g (.cells #[.int .i64 x.1,.int .i64 x.2] 81 (0,0))∈H') (h2:blk gs (.cells #[.slice A k cap,.slice (some ⟨g,0,none⟩) 1 1,.slice (subA A k cap 2) (l.length-k) (cap-k)] 52 (0,0))∈H') (hw:St B w0 H' w)=>by
  have h0:=YdK [⟨A,cap,l.take k⟩,⟨some ⟨g,0,none⟩,1,[x]⟩,⟨subA A k cap 2,cap-k,l.drop k⟩] (by simp) (by simp only[catS,Rl,SQ,Tq,TJ,Rh,TS,Rr];omega) (A:=some ⟨gs,0,none⟩) (cap:=3) (H:=H') (by
   have h3:=Rd.blk (B:=B) (w0:=w0) h2
   simp only[slF,Rl,SQ,TJ,Rh,TS,Rr,Sr hk]
   exact h3) (λr hr=>by
   simp only[RA,R9,NA]at hr
   rcases hr with rfl|rfl|rfl
   ·exact(hM hm).take k hq
   ·have h3:=Rd.blk (B:=B) (w0:=w0) h1
    exact h3
   ·have h3:=(hM hm).sub (o:=k) (k:=l.length-k) hq hc
    rwa [TE (by rw[Rh];omega)]at h3) hw
  rw[show catS [⟨A,cap,l.take k⟩,⟨some ⟨g,0,none⟩,1,[x]⟩,⟨subA A k cap 2,cap-k,l.drop k⟩]=XS l k x by simp[catS,XS]]at h0
  exact h0
 unfold splV
 refine YW [many H] (λw hw=>hw.perm (.closeT H)) ?_
 repeat'(first|refine zga ?_|(refine zgh ?_;intro _)|fail)
 apply YG [0,1,2,3,5,6,7,4,8,9,10] [] [true,true]
 kernel_rfl
 kernel_rfl
 exact zy
 (simp only[Yh,nthO];rfl)
 exact rfl
 repeat'(first|(apply Xv T (l:=l) (n':=k);(iterate 4 exact rfl);omega;exact hc;omega;rw[Z6])|(apply Yv T k (l.length-k);(iterate 5 exact rfl);exact hk;exact rfl)|(apply Yj;try exact zl)|refine zgd ?_|(refine zgh ?_;intro _)|fail)
 rename_i g0 g gs
 apply Yi _ Yu0
 exact za
 exact rfl
 exactλ_ hw=>(p1 g gs zm zm zm (hw))
 rintro _ _ ⟨A',c,rfl,hcap,rfl⟩
 repeat'(first|(apply Yj;try exact zl)|refine zgd ?_|fail)
 apply Yg (sl 81 2 A' (XS l k x).length c ((XS l k x).flatMap splF)::H)
 ·intro w hw
  have h5:St B w0 (sl 81 2 A' (XS l k x).length c ((XS l k x).flatMap splF)::[many H]) w:=by
   revert w
   exact zk
  exact h5.perm (.cons _ (.openT H))
 apply Yd;exact rfl;exact rfl
 exact⟨A',c,rfl,hcap,rfl⟩
theorem YpD{α:Type}{k:α->Int}{id:Int}:∀{l:List α}{n:Nat},n<=l.length->(∀i x,i<n->l[i]? =some x->k x<id)->(∀x,l[n]? =some x->¬k x<id)->(l.takeWhile λy=>decide (k y<id)).length=n
 |[],n,hn,_,_=>by
  have:n=0:=by simpa using hn
  subst this;rfl
 |y::l,0,_,_,h2=>by rw[List.takeWhile_cons_of_neg (by simpa using h2 y rfl)];rfl
 |y::l,n+1,hn,h1,h2=>by
  rw[List.takeWhile_cons_of_pos (by simpa using h1 0 y (by omega) rfl),TS,YpD (l:=l) (by simpa using hn) (λi x hi hx=>h1 (i+1) x (by omega) hx) (λx hx=>h2 x hx)]
theorem YaQ(a:Lop)(id:Int)(hw:St B w0 H w):
 CX B w0 153 [lopV a,.int .i64 id] w λv K=>v=.int .i64 (cmpI a.1 id)/\K=H:=by
 refine Yc Tryz.func153 Tryz.ntmps153 rfl rfl hw ?_
 unfold lopV
 repeat'(first|((first|apply Ya en73|apply Yb en73);exact za;exact rfl;exactλ_ hw=>(JX _ _ hw))|refine zgb ?_|(refine zgh ?_;intro _)|fail)
 apply Yg H
 ·exact zk
 apply Yd;exact rfl;exact rfl
 exact⟨rfl,rfl⟩
theorem Ygq(l:List Lop)(id:Int)(ho:l.Pairwise λa b=>a.1<b.1)(hlen:l.length<=1000000000)(hr:Rd B w0 H A (l.flatMap lopF))(hw:St B w0 H w):
 CX B w0 152 [.slice A l.length cap,.int .i64 id,.func (.func 153) #[] #[]] w λv K=>
  v=.tuple #[.int .i64 (posL l id:Nat),.bool (hasL l id)]/\K=H:=by
 refine Yc Tryz.func152 Tryz.ntmps152 rfl rfl hw ?_
 have ho:∀(i j:Nat) (x y:Lop),i<j->l[i]? =some x->l[j]? =some y->x.1<y.1:=λi j x y hij hi hj=>by
  rw[TT]at ho
  obtain⟨a1,rfl⟩:=Tn.1 hi
  obtain⟨b1,rfl⟩:=Tn.1 hj
  exact ho i j a1 b1 hij
 repeat'(first|refine zgb ?_|fail)
 refine Wu (λ(lo hi:Nat)=>[(9,.int .i64 lo),(10,.int .i64 hi),(8,.int .i64 l.length),(0,.slice A l.length cap),(1,.int .i64 id),(2,.func (.func 153) #[] #[])]) (λ_ _=>H)
  (λlo hi=>lo<=hi/\hi<=l.length/\(∀i x,i<lo->l[i]? =some x->x.1<id)/\(∀i x,hi<=i->l[i]? =some x->¬x.1<id)) (λlo hi=>hi-lo) 0 l.length ⟨by omega,by omega,λj x hj=>by omega,λj x h1 h2=>by have:=(Tn.1 h2).1;omega⟩ ?_ (λw hw=>hw) ?_
 ·exact zu
 rintro lo hi ⟨h1,h2,h3,h4⟩ K hK
 by_cases hlt:lo<hi
 ·obtain⟨b,hb⟩:∃b,l[(((lo:Int)+hi)/2).toNat]? =some b:=⟨_,Ta (by omega)⟩
  have hm:(((lo:Int)+hi)/2).toNat=(lo+hi)/2:=by omega
  have hb2:l[(lo+hi)/2]? =some b:=by rw[<-hm];exact hb
  repeat'(first|((first|apply YV (cs:=[])|apply Y2 (cs:=[]));exact rfl;exact YrM;exact za;exact rfl;exactλ_ hw=>(YaQ b id hw))|refine zgd ?_|(refine zge ?_ ?_<;>intro _<;>try exact zo)|fail)
  ·rename_i hc
   rw[Of]at hc
   apply hK ((lo+hi)/2+1) hi
   ·refine⟨by omega,by omega,λj x hj hx=>?_,h4⟩
    by_cases e:j=(lo+hi)/2
    ·rw[e,hb2]at hx
     injection hx with hx;subst hx;exact hc
    ·exact Int.lt_trans (ho j _ x b (by omega) hx hb2) hc
   ·omega
   ·exact zu
   ·exactλw hw=>hw
  ·rename_i hc
   have hc:¬b.1<id:=λh=>by have:=Of.2 h;omega
   apply hK lo ((lo+hi)/2)
   ·refine⟨by omega,by omega,h3,λj x hj hx=>?_⟩
    by_cases e:j=(lo+hi)/2
    ·rw[e,hb2]at hx
     injection hx with hx;subst hx;exact hc
    ·exactλh=>hc (Int.lt_trans (ho _ j b x (by omega) hb2 hx) h)
   ·omega
   ·exact zu
   ·exactλw hw=>hw
 ·obtain rfl:lo=hi:=by omega
  have hpe:posL l id=lo:=YpD h2 h3 λx hx=>h4 lo x (TQ _) hx
  rw[hpe]
  have hfd:hasL l id=true↔∃b,l[lo]? =some b/\b.1=id:=by
   unfold hasL
   rw[TZ]
   constructor
   ·rintro⟨b,hb,he⟩
    have he:b.1=id:=TR he
    obtain⟨j,hj⟩:=TO.1 hb
    rcases SJ j lo with h|rfl|h
    ·have:=h3 j b h hj;omega
    ·exact⟨b,hj,he⟩
    ·obtain⟨d,hd⟩:∃d,l[lo]? =some d:=⟨_,Ta (by have:=(Tn.1 hj).1;omega)⟩
     have:=ho lo j d b h hd hj
     have:=h4 lo d (TQ _) hd
     omega
   ·rintro⟨b,hb,he⟩
    exact⟨b,Td hb,Ti he⟩
  by_cases hl:lo<l.length
  ·obtain⟨b,hb⟩:∃b,l[lo]? =some b:=⟨_,Ta hl⟩
   repeat'(first|((first|apply YV (cs:=[])|apply Y2 (cs:=[]));exact rfl;exact YrM;exact za;exact rfl;exactλ_ hw=>(YaQ b id hw))|refine zgd ?_|(refine zge ?_ ?_<;>intro _<;>try exact zo)|fail)
   ·rename_i h
    apply Yo;(iterate 3 exact rfl)
    exact⟨by rw[hfd.2 ⟨b,hb,cmpI_zero.1 h⟩],rfl⟩
   ·rename_i h
    apply Yo;(iterate 3 exact rfl)
    have hf0:hasL l id=false:=RB.2 λe=>by
     obtain⟨b',hb',he⟩:=hfd.1 e
     rw[hb]at hb'
     obtain rfl:=Tz hb'
     exact h (cmpI_zero.2 he)
    exact⟨by rw[hf0],rfl⟩
  ·repeat'(first|refine zgc ?_|(refine zge ?_ ?_<;>intro _<;>try exact zo)|fail)
   apply Yo;(iterate 3 exact rfl)
   have hf0:hasL l id=false:=RB.2 λe=>by
    obtain⟨b',hb',he⟩:=hfd.1 e
    exact hl (Tn.1 hb').1
   exact⟨by rw[hf0],rfl⟩
theorem O2(l:List Lop)(id:Int)(ho:l.Pairwise λa b=>a.1<b.1)(hlen:l.length<=1000000000)(hr:Rd B w0 H A (l.flatMap lopF))(hw:St B w0 H w):
 CX B w0 74 [.slice A l.length cap,.int .i64 id] w λv K=>v=.tuple #[.int .i64 (posL l id:Nat),.bool (hasL l id)]/\K=H:=by
 refine Yc Tryz.func74 Tryz.ntmps74 rfl rfl hw ?_
 repeat'(first|((first|apply Ya YrL|apply Yb YrL);exact za;exact rfl;exactλ_ hw=>(Ygq l id ho hlen hr hw))|refine zgc ?_|fail)
 apply Yo;(iterate 3 exact rfl)
 exact⟨rfl,rfl⟩
variable {B:Nat}{w0 w:World}{H:List HP}
theorem Yjp(l m:List Int)(hlen:l.length<=9223372036854775807){A A2:Option Addr}{cap cap2:Nat}(hr:Rd B w0 H A (l.flatMap numF))(hr2:Rd B w0 H A2 (m.flatMap numF))(hw:St B w0 H w):
 CX B w0 32 [.slice A l.length cap,.slice A2 m.length cap2] w λu K=>u=.bool (decide (l=m))/\K=H:=by
 refine Yc Tryz.func32 Tryz.ntmps32 rfl rfl hw ?_
 by_cases hll:l.length=m.length
 rotate_left
 ·exact zc11
 refine zX3 ?_<;>intros
 refine Yf (λ(k:Nat)=>[(13,.int .i64 k),(12,.int .i64 l.length),(0,.slice A l.length cap),(1,.slice A2 m.length cap2)]) (λ_=>H) (λk=>k<=l.length/\l.take k=m.take k) (λk=>l.length-k) 0 ⟨Tc _,by simp⟩ ?_ (λw hw=>hw) ?_
 ·exact zc1
 rintro k ⟨hk,hi⟩ K hK
 by_cases hlt:k<l.length
 ·obtain⟨a,ha⟩:∃a,l[k]? =some a:=⟨_,Ta hlt⟩
  obtain⟨b,hb⟩:∃b,m[k]? =some b:=⟨_,Ta (by omega)⟩
  repeat'(first|refine zgd ?_|(refine zge ?_ ?_<;>intro _<;>try exact zo)|fail)
  ·exact zc61
  ·rename_i h
   apply hK (k+1)
   ·exact⟨by omega,by exact zc81⟩
   ·omega
   ·exact zc1
   exact zc20
 exact zc9
theorem Qo(p:PnM)(ht:TabsB B w0)(hp:p.In B w0 H)(hw:St B w0 H w):
 CX B w0 10 [p.val] w λv K=>v=.int .i64 (chkP p.pln)/\K=H:=by
 refine Yc Tryz.func10 Tryz.ntmps10 rfl rfl hw ?_
 obtain⟨n,qA,qcap,q,s,cA,ccap,c,fA,fcap,f⟩:=p
 obtain⟨hin,hq,hrs,hsl,hc,hf,hfl⟩:=hp
 dsimp only at hin hq hrs hsl hc hf hfl
 have p1:=λ{H':List HP}{w:World}(hin:n.In B w0 H') (hw:St B w0 H' w)=>Ju n hin hw
 have p2:=λ{H':List HP}{w:World}(hin:n.In B w0 H') (hq:QIn B w0 H' qA q) (hrs:Rd B w0 H' s.A (s.cells.flatMap celF)) (hw:St B w0 H' w)=>Uv n q s (cap:=qcap) ht hin hq hrs hsl hw
 have p3:=λ{H':List HP}{w:World}(hin:n.In B w0 H') (hq:QIn B w0 H' qA q) (hrs:Rd B w0 H' s.A (s.cells.flatMap celF)) (hc:CIn B w0 H' cA c) (hw:St B w0 H' w)=>YfP n q s c (cap:=qcap) (cap1:=ccap) ht hin hq hrs hsl hc hw
 have p4:=λ{H':List HP}{w:World}(hrs:Rd B w0 H' s.A (s.cells.flatMap celF)) (hw:St B w0 H' w)=>Yed s ht hrs hsl hw
 unfold PnM.val
 show VC _ _ B w0 _ (bodyPost _ _ (Post B w0 λv K=>v=.int .i64 (chkP ⟨n.net,q.map RqM.rq,s.sch,c.map ClM.clm,f⟩)/\K=H)) _ _
 unfold chkP
 dsimp only
 unfold OutC at p2
 obtain⟨⟨RC,ri,re⟩,hR⟩:∃R,YK n.net (q.map RqM.rq) s.sch=R:=⟨_,rfl⟩
 obtain⟨⟨RF,fe⟩,hRF⟩:∃R,Xg s.sch=R:=⟨_,rfl⟩
 obtain⟨⟨ki,ke⟩,hRK⟩:∃R,chkE n.net (q.map RqM.rq) s.sch (c.map ClM.clm)=R:=⟨_,rfl⟩
 rw[hR]at p2⊢
 rw[hRF]at p4⊢
 rw[hRK]at p3⊢
 dsimp only at p2 p3 p4⊢
 have hFn:RF.length<=9223372036854775807:=by
  have h2:=TD (λz=>z.1.length) hRF
  dsimp only at h2
  unfold Xg at h2
  split at h2
  ·simp only[Rr]at h2;omega
  ·rename_i h0
   unfold XY at h2
   rw[Zp,TN]at h2
   have h3:=(Za.1 (by simpa using h0)).sized
   exact YtH
 unfold NetM.val at p1
 unfold NetM.val SchM.val at p2 p3
 unfold SchM.val at p4
 clear hR hRF hRK
 by_cases hck:Ym n.net=0
 rotate_left
 ·rw[Tm hck]
  rw[Tj hck]at p1
  refine YsR ?_<;>intros
  first|apply Ya en39|apply Yb en39
  exact za
  exact rfl
  exactλ_ hw=>(p1 (hin.mono zc0) hw)
  refine W9 ?_
  apply Yg H
  ·exact zc0
  exact zc3
 rw[Tf (λe=>e hck)]
 rw[Ti hck]at p1
 refine YsR ?_<;>intros
 first|apply Ya en39|apply Yb en39
 exact za
 exact rfl
 exactλ_ hw=>(p1 (hin.mono zc0) hw)
 refine W9 ?_
 apply Yi _ en40
 exact za
 exact rfl
 exactλ_ hw=>(p2 (hin.mono zc0) (hq.mono zc0) (hrs.mono zc0) (hw))
 rintro _ _ ⟨A2,c2,C,rfl,hC,hCl,rfl⟩
 by_cases h18:re=15\/re=1/\ri<0
 ·rw[Tm h18]
  repeat'(first|(apply Ye T;exact rfl;exact zm;exact rfl;exact zv;exact rfl;exact rfl)|refine zgd ?_|(refine zge ?_ ?_<;>intro _<;>try exact zo)|fail)
  all_goals try exact zo
  all_goals(
   apply Yg H
   ·exact zk
   apply Yd;exact rfl;exact rfl;exact⟨rfl,rfl⟩)
 rw[Tf h18]
 by_cases h0:re=0
 rotate_left
 ·rw[Tm h0]
  repeat'(first|(apply Ye T;exact rfl;exact zm;exact rfl;exact zv;exact rfl;exact rfl)|refine zgd ?_|(refine zge ?_ ?_<;>intro _<;>try exact zo)|fail)
  all_goals try exact zo
  all_goals(
   apply Yg H
   ·exact zk
   apply Yd;exact rfl;exact rfl;exact⟨rfl,rfl⟩)
 rw[Tf (λe=>e h0)]
 subst h0
 refine Yfr ?_<;>intros
 all_goals try exact zo
 first|apply Ya en41|apply Yb en41
 exact za
 exact rfl
 exactλ_ hw=>(p3 (hin.mono zc0) (hq.mono zc0) (hrs.mono zc0) (hc.mono zc0) hw)
 by_cases hk0:ke=0
 rotate_left
 ·rw[Tm hk0]
  refine Yfr ?_<;>intros
  apply Yg H
  ·exact zc0
  exact zc3
 rw[Tf (λe=>e hk0)]
 refine Yfr ?_<;>intros
 apply Yi _ en42
 exact za
 exact rfl
 exactλ_ hw=>(p4 (hrs.mono zc0) (hw))
 rintro _ _ ⟨A3,rfl,rfl⟩
 have p5:=λ{cap1 cap2:Nat}{H':List HP}{w:World}(h1:Rd B w0 H' A3 (RF.flatMap numF)) (h2:Rd B w0 H' fA (f.flatMap numF)) (hw:St B w0 H' w)=>Yjp RF f hFn (cap:=cap1) (cap2:=cap2) h1 h2 hw
 by_cases hf0:fe=0
 rotate_left
 ·rw[Tm (.inl hf0)]
  refine Yfr ?_<;>intros
  all_goals try exact zo
  all_goals(
   apply Yg H
   ·exact zc0
   exact zc3)
 by_cases hff:RF=f
 ·rw[Tf (by rintro(h|h);exact h hf0;exact h hff)]
  rw[Ti hff]at p5
  refine YsS ?_<;>intros
  all_goals try exact zo
  all_goals(
   apply Yg H
   ·exact zc0
   exact zc3)
 ·rw[Tm (.inr hff)]
  rw[Tj hff]at p5
  refine YsS ?_<;>intros
  all_goals try exact zo
  all_goals(
   apply Yg H
   ·exact zc0
   exact zc3)
def YsK(f:Flw):List Int:=[f.1,f.2.1,f.2.2.1,f.2.2.2.1,f.2.2.2.2.1,f.2.2.2.2.2]
structure RqD(x:Rqs):Prop where
 f:∀n∈YsK x.1,0<=n/\n<10000
 n:x.2.length<=2
 l:∀r∈x.2,r.length<=9
 r:∀r∈x.2,∀n∈r,0<=n/\n<10000
theorem Yhc{p:Pln}(h:chkP p=0):(YK p.n p.q p.s).2.2=0:=by
 unfold chkP at h
 omega
variable {n:Net}{q:List Rqs}
theorem Yhb{s:Sch}(h:(YK n q s).2.2=0):(rqsE n q).2=0:=TK.1 λh1=>by
 simp_all [YK]
theorem Ylw(h:(rqsE n q).2=0):q.length<=16/\∀x∈q,RqD x:=by
 obtain⟨hck,hfl,hrt⟩:=U6 h
 have hok:=YN hck
 have h32:=hok.n1
 refine⟨?_,λx hx=>?_⟩
 ·grind [YA,Y1]
 have hfx:Xl n.nodes x.1=0:=Uo hfl (TI.2 ⟨x,hx,rfl⟩)
 obtain⟨h1,h2,h3,-,h5⟩:=JG hfx
 have h6:(0<=x.1.2.1/\x.1.2.1<n.nodes)/\0<=x.1.2.2.1/\x.1.2.2.1<n.nodes:=by
  grind [Xl,insE]
 have hrx:=hrt x hx
 refine⟨λz hz=>?_,?_,λr hr=>?_,λr hr z hz=>?_⟩
 ·unfold YsK at hz
  grind
 ·grind [QV]
 ·exact(JF (U7 hrx r hr)).2.1.2
 ·have hc:=U7 hrx r hr
  unfold Xu at hc
  split at hc
  ·exact absurd hc (by assumption)
  have ho:=(Qv hc).2.1
  rw[RL]at ho
  have h8:=ho z hz
  unfold offE at h8
  simp only[To]at h8
  omega
variable {B:Nat}{w0 w:World}{H:List HP}
theorem NetM.In.here{n:NetM}(h:n.In B w0 H)(hw:St B w0 H w):n.In w.heap.size w []:=⟨h.pw.here hw,λr hr=>(h.rw_ r hr).here hw,h.lk.here hw,h.mg.here hw,h.s1,h.s2,h.s3,h.s4⟩
theorem QIn.here{q:List RqM}{A:Option Addr}(h:QIn B w0 H A q)(hw:St B w0 H w):QIn w.heap.size w [] A q:=⟨h.rd.here hw,λx hx=>⟨(h.x x hx).rt.here hw,λr hr=>((h.x x hx).rw_ r hr).here hw,(h.x x hx).ln,(h.x x hx).rl⟩,h.ln⟩
theorem PnM.In.here{p:PnM}(h:p.In B w0 H)(hw:St B w0 H w):p.In w.heap.size w []:=⟨h.n.here hw,h.q.here hw,h.s.here hw,h.sl,h.c.here hw,h.f.here hw,h.fl⟩
theorem PnM.In.inX{B:Nat}{w0:World}{X H:List HP}{p:PnM}(h:p.In B w0 [many X])(hm:many X∈H):p.In B w0 H:=h.mono λ_ hw=>(hw.inM hm).perm (.closeT X)
abbrev plnA(g:Nat)(n:NetM)(qA:Option Addr)(qcap:Nat)(q:List RqM)(s:SchM)(cA:Option Addr)(ccap:Nat)(c:List ClM)(fA:Option Addr)(fcap:Nat)(fm:List Int):HP:=blk g (.cells #[.int .i64 n.nodes,.slice n.pA n.rows.length n.pcap,.int .i64 n.noise,.int .i64 n.thr,.slice n.lA n.links.length n.lcap,.slice n.mA n.margin.length n.mcap,.slice qA q.length qcap,.int .i64 s.len,.int .i64 s.off,.slice s.A s.cells.length s.cap,.slice cA c.length ccap,.slice fA fm.length fcap] 35 (0,0))
abbrev zerA(g:Nat):HP:=blk g (.cells (Value.agg #[.int .i64 0,.slice none 0 0,.int .i64 0,.int .i64 0,.slice none 0 0,.slice none 0 0,.slice none 0 0,.int .i64 0,.int .i64 0,.slice none 0 0,.slice none 0 0,.slice none 0 0]).cells 35 (0,0))
abbrev schD(g:Nat)(t:Sch)(A:Option Addr)(cap:Nat):HP:=blk g (.cells #[.int .i64 t.len,.int .i64 t.off,.slice A t.cells.length cap] 30 (0,0))
structure ExM where
 y:RqM
 t:Sch
 A:Option Addr
 cap:Nat
 e:Int
 X:HP
structure ExOk(B:Nat)(w0:World)(n:Net)(q:List Rqs)(f:Flw)(RR:Option Pln×Int)(z:ExM):Prop where
 yin:∀{H':List HP},z.X∈H'->z.y.In B w0 H'
 id:z.y.f.1=f.1
 tl:z.t.cells.length<=1000000000000
 res:(if z.e=0 then finE n (insQ q z.y.rq) z.t 0 else(none,18))=RR
theorem Qi(n:Net)(q:List Rqs)(s:Sch)(x:Rqs):(JC n q s x).1.cells.length<=512:=by
 unfold JC
 split
 ·exact Yft
 split
 ·exact Yft
 split
 ·exact Yft
 split
 ·exact Yft
 split
 ·exact Yft
 split
 ·exact Yft
 simp_all
theorem Yco(p:PnM)(f:Flw)(hrun:Vp 100000 p.n.net f.2.1 f.2.2.1=some (Jp p.n.net f))(h24:p.s.len<=24\/chkP p.pln≠0){B:Nat}{w0:World}{H:List HP}{w:World}(ht:TabsB B w0)(hp:p.In B w0 H)(hw:St B w0 H w):
 CX B w0 114 [p.val,flwV f] w (YbK B w0 H (extP p.pln f)):=by
 refine Yc Tryz.func114 Tryz.ntmps114 rfl rfl hw ?_
 have p1:=λ{H':List HP}{w:World}(hp:p.In B w0 H') (hw:St B w0 H' w)=>Qo p ht hp hw
 have hop:∀w,St B w0 [many H] w->St B w0 H w:=λw hw=>hw.perm (.openT H)
 have hpM:∀{H':List HP},many H∈H'->p.In B w0 H':=λhm=>hp.mono λw hw=>hw.inM hm
 obtain⟨n,qA,qcap,q,s,cA,ccap,c,fA,fcap,fm⟩:=p
 have hinM:∀{H':List HP},many H∈H'->n.In B w0 H':=λhm=>(hpM hm).n
 have hqM:∀{H':List HP},many H∈H'->QIn B w0 H' qA q:=λhm=>(hpM hm).q
 have hrsM:∀{H':List HP},many H∈H'->Rd B w0 H' s.A (s.cells.flatMap celF):=λhm=>(hpM hm).s
 have hsl:s.cells.length<=1000000000000:=hp.sl
 dsimp only at h24
 unfold PnM.val at p1⊢
 have hpl:(⟨n,qA,qcap,q,s,cA,ccap,c,fA,fcap,fm⟩:PnM).pln=⟨n.net,q.map RqM.rq,s.sch,c.map ClM.clm,fm⟩:=rfl
 rw[hpl]at p1 h24⊢
 unfold extP
 dsimp only at p1⊢
 unfold flwV
 refine YW [many H] (λw hw=>hw.perm (.closeT H)) ?_
 by_cases hk:chkP ⟨n.net,q.map RqM.rq,s.sch,c.map ClM.clm,fm⟩=0
 rotate_left
 ·rw[Tm hk]
  repeat'(first|refine zgb ?_|(refine zgh ?_;intro _)|fail)
  first|apply Ya en10|apply Yb en10
  exact za
  exact rfl
  exactλ_ hw=>(p1 (hpM zm) hw)
  repeat'(first|refine zgd ?_|(refine zge ?_ ?_<;>intro _<;>try exact zo)|fail)
  apply Yp T (H2:=H);(iterate 3 exact rfl);exact zm;exact rfl;exact rfl
  ·intro w hw
   have h5:St B w0 [many H] w:=by
    revert w
    exact zk
   exact hop w h5
  exact .inl ⟨rfl,rfl,rfl⟩
 have hs24:s.len<=24:=by
  rcases h24 with h|h
  ·exact h
  ·exact absurd hk h
 have hce:=Yhc hk
 have hrq:=Yhb hce
 have hq16:q.length<=16:=by
  have:=(Ylw hrq).1
  rwa [Tu]at this
 have hord:=YoI hrq
 rw[hk]at p1
 rw[Tf (λe=>e hk)]
 have hpos:posQ (q.map RqM.rq) f.1<=q.length:=by
  have:=(List.takeWhile_prefix (p:=λy:Rqs=>decide (y.1.1<f.1)) (l:=q.map RqM.rq)).length_le
  rw[Tu]at this
  exact this
 obtain⟨k,hkp⟩:∃k,posQ (q.map RqM.rq) f.1=k:=⟨_,rfl⟩
 have p2:=λ{H':List HP}{w:World}(hq:QIn B w0 H' qA q) (hw:St B w0 H' w)=>Ygr q f hord (by omega) (cap:=qcap) hq.rd hw
 rw[hkp]at p2 hpos
 obtain⟨hs,hhs⟩:∃hs,hasQ (q.map RqM.rq) f.1=hs:=⟨_,rfl⟩
 rw[hhs]at p2⊢
 unfold flwV at p2
 repeat'(first|refine zgb ?_|(refine zgh ?_;intro _)|fail)
 rename_i g2 g3 g4
 first|apply Ya en10|apply Yb en10
 exact za
 exact rfl
 exactλ_ hw=>(p1 (hpM zm) hw)
 repeat'(first|refine zgb ?_|(refine zge ?_ ?_<;>intro _<;>try exact zo)|fail)
 first|apply Ya Yr0|apply Yb Yr0
 exact za
 exact rfl
 exactλ_ hw=>(p2 (hqM zm) hw)
 cases hs with
 |true=>
  repeat'(first|refine zgd ?_|fail)
  apply Yp T (H2:=H);(iterate 3 exact rfl);exact zm;exact rfl;exact rfl
  ·intro w hw
   have h5:St B w0 [many H] w:=by
    revert w
    exact zk
   exact hop w h5
  exact .inl ⟨rfl,rfl,rfl⟩
 |false=>
 rw[Tf (by decide)]
 have hfl:Y1 (insQ (q.map RqM.rq) (f,[]))=(RqM.fl q).take k++f::(RqM.fl q).drop k:=by
  unfold insQ Y1
  rw[show((f,[]):Rqs).1.1=f.1 from rfl,hkp,TX,RP,List.map_take,Nv,SV]
  rfl
 rw[hfl]
 have hfll:(RqM.fl q).length=q.length:=by unfold RqM.fl;rw[Tu]
 have hil:=YeU (RqM.fl q) f k (by omega)
 have p3:=λ{H':List HP}{w:World}(hq:QIn B w0 H' qA q) (hw:St B w0 H' w)=>Yid q (cap:=qcap) (by omega) hq.rd hw
 have p4:=λ{A2:Option Addr}{cap2 gv:Nat}{H':List HP}{w:World}(hw:St B w0 (flws A2 cap2 (RqM.fl q)::flwB gv f::H') w)=>Yf0 (RqM.fl q) k f (by omega) (by omega) hw
 obtain⟨L,hL⟩:∃L,(RqM.fl q).take k++f::(RqM.fl q).drop k=L:=⟨_,rfl⟩
 rw[hL]at p4 hil⊢
 have p5:=λ{A2:Option Addr}{cap2:Nat}{H':List HP}{w:World}(hr:Rd B w0 H' A2 (L.flatMap flwF)) (hw:St B w0 H' w)=>YZ n.nodes L (by omega) (cap:=cap2) hr hw
 obtain⟨fe,hfe⟩:∃fe,(YA n.net.nodes L).2=fe:=⟨_,rfl⟩
 obtain⟨fi,hfi⟩:∃fi,(YA n.net.nodes L).1=fi:=⟨_,rfl⟩
 rw[show n.nodes=n.net.nodes from rfl,hfe,hfi]at p5
 rw[hfe]
 repeat'(first|refine zgc ?_|fail)
 refine Zt (λ_:Unit=>[(2,.pointer (some ⟨g2,0,none⟩)),(3,.pointer (some ⟨g3,0,none⟩)),(4,.pointer (some ⟨g4,0,none⟩)),(6,.int .i64 (k:Nat)),(9,.int .i64 fe)]) (λ_=>[plnA g2 n qA qcap q s cA ccap c fA fcap fm,flwB g3 f,zerA g4,many H]) ?_ ?_
 ·intro K hK
  repeat'(first|(apply Ye T;exact rfl;exact zm;exact rfl;exact zv;exact rfl;exact rfl)|fail)
  apply JR (.n1 0 (.n1 1 (.n1 2 (.n1 3 (.n1 4 (.n1 6 (.n1 7 (.n2 5 (.n1 8 (.n1 9 (.n1 10 (.n1 11 (.n1 12 (.n1 13 (.n1 14 (.n1 15 .done)))))))) 8 (.n1 5 (.n1 9 (.n1 10 (.n1 11 (.n1 12 (.n1 13 (.n1 14 (.n1 15 .done)))))))))))))))) [] [true,true,true,true]
  kernel_rfl
  kernel_rfl
  exact zy
  exact rfl
  repeat'(first|(apply Ye T;exact rfl;exact zm;exact rfl;exact zv;exact rfl;exact rfl)|(apply Yj;try exact zl)|apply(zs91 ?_ ?_)|(apply Y4;try exact zl)|refine zgd ?_|(refine zgh ?_;intro _)|fail)
  ·skip
   apply Yi _ Yr3
   exact za
   exact rfl
   exactλ_ hw=>(p3 (hqM zm) (hw))
   rintro _ _ ⟨A2,cap2,rfl,rfl⟩
   repeat'(first|(apply Ye T;exact rfl;exact zm;exact rfl;exact zv;exact rfl;exact rfl)|(apply Yj;try exact zl)|(apply Y4;try exact zl)|refine zgd ?_|(refine zgh ?_;intro _)|fail)
   rename_i gv
   apply X6 [flws A2 cap2 (RqM.fl q),flwB gv f] _ Yr2
   exact za
   try exact zl
   exact zp
   exact rfl
   exactλ_ hw=>(p4 hw)
   rintro _ _ ⟨A3,cap3,rfl,rfl⟩
   repeat'(first|((first|apply Ya en78|apply Yb en78);exact za;exact rfl;exactλ_ hw=>(p5 (Rd.sl zm) hw))|(apply Yj;try exact zl)|(apply Y4;try exact zl)|refine zgd ?_|fail)
   apply hK ()
   ·exact zu
   ·exact zk
  ·rename_i gv
   apply Yi _ Yr3
   exact za
   exact rfl
   exactλ_ hw=>(p3 (hqM zm) (hw))
   rintro _ _ ⟨A2,cap2,rfl,rfl⟩
   repeat'(first|(apply Ye T;exact rfl;exact zm;exact rfl;exact zv;exact rfl;exact rfl)|(apply Yj;try exact zl)|(apply Y4;try exact zl)|refine zgd ?_|fail)
   apply X6 [flws A2 cap2 (RqM.fl q),flwB gv f] _ Yr2
   exact za
   try exact zl
   exact zp
   exact rfl
   exactλ_ hw=>(p4 hw)
   rintro _ _ ⟨A3,cap3,rfl,rfl⟩
   repeat'(first|((first|apply Ya en78|apply Yb en78);exact za;exact rfl;exactλ_ hw=>(p5 (Rd.sl zm) hw))|(apply Yj;try exact zl)|(apply Y4;try exact zl)|refine zgd ?_|fail)
   apply hK ()
   ·exact zu
   ·exact zk
 rintro⟨⟩
 by_cases hfe0:fe=0
 rotate_left
 ·rw[Tm hfe0]
  repeat'(first|refine zgd ?_|(refine zge ?_ ?_<;>intro _<;>try exact zo)|fail)
  apply Yp T (H2:=H);(iterate 3 exact rfl);exact zm;exact rfl;exact rfl
  ·intro w hw
   have h5:St B w0 [many H] w:=by
    revert w
    exact zk
   exact hop w h5
  exact .inl ⟨rfl,rfl,rfl⟩
 rw[Tf (λe=>e hfe0)]
 subst hfe0
 clear p1 p2 p3 p4 p5
 have hflw:=(Ymt.1 hfe).2.2.1 f (by rw[<-hL];exact T9 _ TM)
 obtain⟨-,hper,-,-,-⟩:=JG hflw
 have hsz:=(UD (Wd.1 (WB.1 hce).1).whole).2.2.1
 have hl1:1<=s.len:=by
  exact(TR hsz).1
 rw[show s.sch.len=s.len from rfl,Rb (by omega)]
 by_cases hmod:s.len%f.2.2.2.1=0
 rotate_left
 ·rw[Tm hmod]
  repeat'(first|refine zgd ?_|(refine zge ?_ ?_<;>intro _<;>try exact zo)|fail)
  apply Yp T (H2:=H);(iterate 3 exact rfl);exact zm;exact rfl;exact rfl
  ·intro w hw
   have h5:St B w0 [many H] w:=by
    revert w
    exact zk
   exact hop w h5
  exact .inl ⟨rfl,rfl,rfl⟩
 rw[Tf (λe=>e hmod)]
 have p6:=λ{A2:Option Addr}{cap2:Nat}{H':List HP}{w:World}(hin:n.In B w0 H') (hr:Rd B w0 H' A2 ([f].flatMap flwF)) (hw:St B w0 H' w)=>Yd2 n [f] (by simp) (λf' hf'=>by rw[Rk.1 hf'];exact hrun) (cap:=cap2) hin hr hw
 obtain⟨⟨RQ,ri,re⟩,hR⟩:∃R,J6 n.net [f]=R:=⟨_,rfl⟩
 rw[hR]at p6⊢
 dsimp only at p6⊢
 unfold Ynq NetM.val at p6
 dsimp only at p6
 repeat'(first|(apply Ye T;exact rfl;exact zm;exact rfl;exact zv;exact rfl;exact rfl)|refine zgd ?_|(refine zge ?_ ?_<;>intro _<;>try exact zo)|(refine zgh ?_;intro _)|fail)
 apply Yi _ en81
 exact za
 exact rfl
 exactλ_ hw=>(p6 (hinM zm) (Rd.blk (cs:=#[.int .i64 f.1,.int .i64 f.2.1,.int .i64 f.2.2.1,.int .i64 f.2.2.2.1,.int .i64 f.2.2.2.2.1,.int .i64 f.2.2.2.2.2]) (t:=66) (fr:=(0,0)) zm) (hw))
 rintro _ _ ⟨A4,cap4,qr,rfl,hqr,hqs,rfl⟩
 by_cases hre:re=0
 rotate_left
 ·rw[Tm hre]
  repeat'(first|refine zgd ?_|(refine zge ?_ ?_<;>intro _<;>try exact zo)|fail)
  apply Yp T (H2:=H);(iterate 3 exact rfl);exact zm;exact rfl;exact rfl
  ·intro w hw
   have h5:St B w0 [many H] w:=by
    revert w
    exact zk
   exact hop w h5
  exact .inl ⟨rfl,rfl,rfl⟩
 rw[Tf (λe=>e hre)]
 subst hre
 have hRQ:RQ=[(reqE n.net f).1]:=by
  have h1:=hR
  unfold J6 at h1
  split at h1
  ·cases h1
  split at h1
  ·rename_i h2;injection h1 with _ h3;rw[h3]at h2;exact absurd rfl h2
  split at h1
  ·rename_i h2;injection h1 with _ h3;rw[h3]at h2;exact absurd rfl h2
  ·injection h1 with h2 h3
   rw[<-h2];rfl
 obtain⟨x,rfl,hxr⟩:∃x,qr=[x]/\x.rq=(reqE n.net f).1:=by
  rw[hRQ]at hqr
  match qr,hqr with
  |[],h=>cases h
  |[x],h=>injection h with h1 _;exact⟨x,rfl,h1⟩
  |_::_::_,h=>injection h with _ h1;cases h1
 have hxl:=hqs x TM
 have hx0:[x][(0:Int).toNat]? =some x:=rfl
 have hx1:[x].length=1:=rfl
 rw[<-hxr]
 have p7:=λ(y:RqM) {H':List HP}{w:World}(hin:n.In B w0 H') (hq:QIn B w0 H' qA q) (hrs:Rd B w0 H' s.A (s.cells.flatMap celF)) (hy:y.In B w0 H') (hw:St B w0 H' w)=>Yi2 n q s y hs24 (cap:=qcap) ht hin hq hrs hsl hy hw
 unfold OutS NetM.val SchM.val rqV at p7
 have p8:=λ{H':List HP}{w:World}(hin:n.In B w0 H') (hw:St B w0 H' w)=>OW n f hin hw
 unfold OutQ NetM.val flwV at p8
 unfold rqs
 repeat'(first|(apply Ye T;exact rfl;exact zm;exact rfl;exact zv;exact rfl;exact rfl)|refine zgd ?_|(refine zge ?_ ?_<;>intro _<;>try exact zo)|(refine zgh ?_;intro _)|fail)
 rename_i g13
 have hxin:∀{H':List HP},many ([x].map rqQ)∈H'->x.In B w0 H':=λhm=>Ylo hm TM hxl
 obtain⟨⟨t,te⟩,hA⟩:∃R,JC n.net (q.map RqM.rq) s.sch x.rq=R:=⟨_,rfl⟩
 have p9:=λ{H':List HP}{w:World}(hin:n.In B w0 H') (hq:QIn B w0 H' qA q) (hrs:Rd B w0 H' s.A (s.cells.flatMap celF)) (hy:x.In B w0 H') (hw:St B w0 H' w)=>p7 x hin hq hrs hy hw
 rw[hA]at p9
 rw[hA]
 dsimp only at p9⊢
 apply Yi _ Yr4
 exact za
 exact rfl
 exactλ_ hw=>(p9 (hinM zm) (hqM zm) (hrsM zm) (hxin zm) (hw))
 rintro _ _ ⟨A5,cap5,rfl,rfl⟩
 iterate 9 (first|(apply Ye T;exact rfl;exact zm;exact rfl;exact zv;exact rfl;exact rfl)|refine zgc ?_|(refine zgh ?_;intro _)|fail)
 rename_i g14
 have htl:=Qi n.net (q.map RqM.rq) s.sch x.rq
 rw[hA]at htl
 dsimp only at htl
 obtain⟨RR,hRR⟩:∃RR,(if te=0 then finE n.net (insQ (q.map RqM.rq) x.rq) t 0 else if(Vc n.net f).2≠0 then(none,18)else ext1 ⟨n.net,q.map RqM.rq,s.sch,c.map ClM.clm,fm⟩ (Vc n.net f).1 (JC n.net (q.map RqM.rq) s.sch (Vc n.net f).1))=RR:=⟨_,rfl⟩
 rw[hRR]
 have hxf:x.f.1=f.1:=by
  have h1:x.rq.1=f:=by rw[hxr];exact Ypk (Ypo (by rw[hR]))
  exact TD Prod.fst h1
 refine Zt (λz:{z:ExM//ExOk B w0 n.net (q.map RqM.rq) f RR z}=>[(2,.pointer (some ⟨g2,0,none⟩)),(4,.pointer (some ⟨g4,0,none⟩)),(6,.int .i64 (k:Nat)),(12,.int .i64 z.1.e),(13,.pointer (some ⟨g13,0,none⟩)),(14,.pointer (some ⟨g14,0,none⟩))])
  (λz=>[rqA g13 z.1.y,schD g14 z.1.t z.1.A z.1.cap,cels z.1.A z.1.cap z.1.t.cells,z.1.X,plnA g2 n qA qcap q s cA ccap c fA fcap fm,zerA g4,many H]) ?_ ?_
 ·intro K hK
  by_cases hte:te=0
  ·rw[Tm hte]at hRR
   repeat'(first|refine zga ?_|(refine zge ?_ ?_<;>intro _<;>try exact zo)|fail)
   apply hK ⟨⟨x,t,A5,cap5,te,many ([x].map rqQ)⟩,⟨hxin,hxf,by show t.cells.length<=_;omega,by rw[<-hRR];exact Tm hte⟩⟩
   ·exact zu
   ·exact zk
  rw[Tf hte]at hRR
  obtain⟨⟨sy,se⟩,hS⟩:∃R,Vc n.net f=R:=⟨_,rfl⟩
  have hsf:se=0->sy.1=f:=λh=>by have:=@Yfl n.net f (by rw[hS];exact h);rwa [hS]at this
  rw[hS]at p8 hRR
  dsimp only at p8 hRR
  repeat'(first|(apply Ye T;exact rfl;exact zm;exact rfl;exact zv;exact rfl;exact rfl)|refine zgb ?_|(refine zge ?_ ?_<;>intro _<;>try exact zo)|fail)
  apply Yi _ YrQ
  exact za
  exact rfl
  exactλ_ hw=>(p8 (hinM zm) (hw))
  rintro _ _ ⟨y,rfl,hy,hyl,rfl⟩
  unfold rqV
  by_cases hse:se=0
  rotate_left
  ·rw[Tm hse]at hRR
   repeat'(first|(apply Ye T;exact rfl;exact zm;exact rfl;exact zv;exact rfl;exact rfl)|refine zgd ?_|(refine zge ?_ ?_<;>intro _<;>try exact zo)|(refine zgh ?_;intro _)|fail)
   apply Yp T (H2:=H);(iterate 3 exact rfl);exact zm;exact rfl;exact rfl
   ·intro w hw
    have h5:St B w0 [many H] w:=by
     revert w
     exact zk
    exact hop w h5
   exact .inl ⟨by rw[<-hRR],by rw[<-hRR];rfl,rfl⟩
  rw[Tf (λe=>e hse)]at hRR
  subst hy
  have hyin:∀{H':List HP},rqQ y∈H'->y.In B w0 H':=λhm=>Ypp hm hyl
  unfold ext1 at hRR
  dsimp only at hRR
  obtain⟨⟨t2,te2⟩,hA2⟩:∃R,JC n.net (q.map RqM.rq) s.sch y.rq=R:=⟨_,rfl⟩
  have p10:=λ{H':List HP}{w:World}(hin:n.In B w0 H') (hq:QIn B w0 H' qA q) (hrs:Rd B w0 H' s.A (s.cells.flatMap celF)) (hy:y.In B w0 H') (hw:St B w0 H' w)=>p7 y hin hq hrs hy hw
  have htl2:=Qi n.net (q.map RqM.rq) s.sch y.rq
  rw[hA2]at p10 hRR htl2
  dsimp only at p10 hRR htl2
  repeat'(first|(apply Ye T;exact rfl;exact zm;exact rfl;exact zv;exact rfl;exact rfl)|refine zgc ?_|(refine zge ?_ ?_<;>intro _<;>try exact zo)|(refine zgh ?_;intro _)|fail)
  apply Yi _ Yr4
  exact za
  exact rfl
  exactλ_ hw=>(p10 (hinM zm) (hqM zm) (hrsM zm) (hyin zm) (hw))
  rintro _ _ ⟨A6,cap6,rfl,rfl⟩
  repeat'(first|(apply Ye T;exact rfl;exact zm;exact rfl;exact zv;exact rfl;exact rfl)|refine zgc ?_|fail)
  apply hK ⟨⟨y,t2,A6,cap6,te2,rqQ y⟩,⟨hyin,TD Prod.fst (hsf hse),by show t2.cells.length<=_;omega,?_⟩⟩
  ·exact zu
  ·exact zk
  ·rw[<-hRR]
   show(if te2=0 then _ else _)=if te2≠0 then _ else _
   by_cases h:te2=0
   ·rw[Tm h,Tf (λe=>e h)]
   ·rw[Tf h,Tm h]
 rintro⟨⟨y,t3,A7,cap7,e3,X⟩,hz⟩
 obtain⟨hyin,hyf,ht3,hres⟩:=hz
 dsimp only at hyin hyf ht3 hres⊢
 clear hRR p7 p8 p9 hA htl hxin
 by_cases he3:e3=0
 rotate_left
 ·rw[Tf he3]at hres
  repeat'(first|refine zgd ?_|(refine zge ?_ ?_<;>intro _<;>try exact zo)|fail)
  apply Yp T (H2:=H);(iterate 3 exact rfl);exact zm;exact rfl;exact rfl
  ·intro w hw
   have h5:St B w0 [many H] w:=by
    revert w
    exact zk
   exact hop w h5
  exact .inl ⟨by rw[<-hres],by rw[<-hres];rfl,rfl⟩
 rw[Tm he3]at hres
 subst he3
 obtain⟨Q,hQ⟩:∃Q,q.take k++y::q.drop k=Q:=⟨_,rfl⟩
 have hQl:=Oj q y k hpos
 rw[hQ]at hQl
 have hQm:Q.map RqM.rq=insQ (q.map RqM.rq) y.rq:=by
  unfold insQ
  rw[show y.rq.1.1=f.1 from hyf,hkp,<-hQ,TX,RP,List.map_take,Nv]
 rw[<-hQm]at hres
 have p11:=λ{H':List HP}{w:World}(hq:QIn B w0 H' qA q) (hw:St B w0 H' w)=>WC q (by omega) (cap:=qcap) hq.rd hw
 have p12:=λ{A':Option Addr}{cap' gv:Nat}{H':List HP}{w:World}(hw:St B w0 (rqs A' cap' q::rqA gv y::H') w)=>QG q k y hpos (by omega) hw
 rw[hQ]at p12
 repeat'(first|refine zga ?_|(refine zge ?_ ?_<;>intro _<;>try exact zo)|fail)
 refine Zt (λz:Option Addr×Nat×Nat=>[(17,.pointer (some ⟨z.2.2,0,none⟩)),(4,.pointer (some ⟨g4,0,none⟩))])
  (λz=>[bldA z.2.2 ⟨n,z.1,z.2.1,Q,⟨t3.len,t3.off,A7,cap7,t3.cells⟩,none,0,[],none,0,[],0⟩,rqs z.1 z.2.1 Q,cels A7 cap7 t3.cells,X,zerA g4,many H]) ?_ ?_
 ·intro K hK
  repeat'(first|(apply Ye T;exact rfl;exact zm;exact rfl;exact zv;exact rfl;exact rfl)|fail)
  apply JR (.n1 0 (.n1 1 (.n1 2 (.n1 3 (.n1 5 (.n1 6 (.n1 9 (.n2 4 (.n1 7 (.n1 8 (.n1 10 (.n1 11 (.n1 12 (.n1 13 .done)))))) 7 (.n1 4 (.n1 8 (.n1 10 (.n1 11 (.n1 12 (.n1 13 .done)))))))))))))) [] [true,true,true,true,true,true,true]
  kernel_rfl
  kernel_rfl
  exact zy
  exact rfl
  repeat'(first|(apply Ye T;exact rfl;exact zm;exact rfl;exact zv;exact rfl;exact rfl)|(apply Yj;try exact zl)|apply(zs91 ?_ ?_)|(apply Y4;try exact zl)|refine zgd ?_|(refine zgh ?_;intro _)|fail)
  ·skip
   apply Yi _ en90
   exact za
   exact rfl
   exactλ_ hw=>(p11 (hqM zm) (hw))
   rintro _ _ ⟨A1,c1,rfl,rfl⟩
   repeat'(first|(apply Ye T;exact rfl;exact zm;exact rfl;exact zv;exact rfl;exact rfl)|(apply Yj;try exact zl)|(apply Y4;try exact zl)|refine zgd ?_|(refine zgh ?_;intro _)|fail)
   rename_i gv
   apply X6 [rqs A1 c1 q,rqA gv y] _ Yoj
   exact za
   try exact zl
   exact zp
   exact rfl
   exactλ_ hw=>(p12 hw)
   rintro _ _ ⟨A8,cap8,rfl,rfl⟩
   repeat'(first|(apply Ye T;exact rfl;exact zm;exact rfl;exact zv;exact rfl;exact rfl)|(apply Yj;try exact zl)|(apply Y4;try exact zl)|refine zgd ?_|(refine zgh ?_;intro _)|fail)
   rename_i g17
   apply hK ⟨A8,cap8,g17⟩
   ·exact zu
   ·intro w hw
    have h5:St B w0 (blk g17 (.cells #[.int .i64 n.nodes,.slice n.pA n.rows.length n.pcap,.int .i64 n.noise,.int .i64 n.thr,.slice n.lA n.links.length n.lcap,.slice n.mA n.margin.length n.mcap,.slice A8 Q.length cap8,.int .i64 t3.len,.int .i64 t3.off,.slice A7 t3.cells.length cap7,.slice none 0 0,.slice none 0 0,.int .i64 0] 164 (0,0))::rqs A8 cap8 Q::cels A7 cap7 t3.cells::X::zerA g4::[many H]) w:=by
     revert w
     exact zk
    exact h5
  ·rename_i gv
   apply Yi _ en90
   exact za
   exact rfl
   exactλ_ hw=>(p11 (hqM zm) (hw))
   rintro _ _ ⟨A1,c1,rfl,rfl⟩
   repeat'(first|(apply Ye T;exact rfl;exact zm;exact rfl;exact zv;exact rfl;exact rfl)|(apply Yj;try exact zl)|(apply Y4;try exact zl)|refine zgd ?_|fail)
   apply X6 [rqs A1 c1 q,rqA gv y] _ Yoj
   exact za
   try exact zl
   exact zp
   exact rfl
   exactλ_ hw=>(p12 hw)
   rintro _ _ ⟨A8,cap8,rfl,rfl⟩
   repeat'(first|(apply Ye T;exact rfl;exact zm;exact rfl;exact zv;exact rfl;exact rfl)|(apply Yj;try exact zl)|(apply Y4;try exact zl)|refine zgd ?_|(refine zgh ?_;intro _)|fail)
   rename_i g17
   apply hK ⟨A8,cap8,g17⟩
   ·exact zu
   ·intro w hw
    have h5:St B w0 (blk g17 (.cells #[.int .i64 n.nodes,.slice n.pA n.rows.length n.pcap,.int .i64 n.noise,.int .i64 n.thr,.slice n.lA n.links.length n.lcap,.slice n.mA n.margin.length n.mcap,.slice A8 Q.length cap8,.int .i64 t3.len,.int .i64 t3.off,.slice A7 t3.cells.length cap7,.slice none 0 0,.slice none 0 0,.int .i64 0] 164 (0,0))::rqs A8 cap8 Q::cels A7 cap7 t3.cells::X::zerA g4::[many H]) w:=by
     revert w
     exact zk
    exact h5
 rintro⟨A8,cap8,g17⟩
 dsimp only
 have hqe:∀{H':List HP},many H∈H'->X∈H'->rqs A8 cap8 Q∈H'->QIn B w0 H' A8 Q:=λh1 h2 h3=>⟨Yuh h3,λz hz=>by
  rw[<-hQ]at hz
  rcases Re.1 hz with h|h
  ·exact(hqM h1).x z (SC h)
  ·rcases RA.1 h with rfl|h
   ·exact hyin h2
   ·exact(hqM h1).x z (List.mem_of_mem_drop h),by omega⟩
 repeat'(first|refine zga ?_|fail)
 apply X6 [bldA g17 ⟨n,A8,cap8,Q,⟨t3.len,t3.off,A7,cap7,t3.cells⟩,none,0,[],none,0,[],0⟩] _ en86
 exact za
 try exact zl
 exact zp
 exact rfl
 exactλ_ hw=>(OK ⟨n,A8,cap8,Q,⟨t3.len,t3.off,A7,cap7,t3.cells⟩,none,0,[],none,0,[],0⟩ g17 ht (hinM zm) (hqe zm zm zm) (Ylr (cap:=cap7) zm) ht3 hw)
 rintro _ _ hO
 dsimp only at hO
 rw[show(⟨t3.len,t3.off,A7,cap7,t3.cells⟩:SchM).sch=t3 from rfl,hres]at hO
 rcases hO with⟨h1,rfl,rfl⟩|⟨p,XX,h1,rfl,hp,rfl⟩
 ·unfold zeroPnV
  repeat'(first|refine zgc ?_|fail)
  apply Yp T (H2:=H);(iterate 3 exact rfl);exact zm;exact rfl;exact rfl
  ·intro w hw
   have h5:St B w0 [many H] w:=by
    revert w
    exact zk
   exact hop w h5
  exact .inl ⟨h1,rfl,rfl⟩
 ·unfold PnM.val
  repeat'(first|refine zgc ?_|fail)
  apply Yp T (H2:=many [many XX,cels A7 cap7 t3.cells]::H);(iterate 3 exact rfl);exact zm;exact rfl;exact rfl
  ·intro w hw
   have h5:St B w0 (many XX::cels A7 cap7 t3.cells::[many H]) w:=by
    revert w
    exact zk
   exact(h5.perm (.cons _ (.cons _ (.openT H)))).perm (.close [_,_] H)
  exact .inr ⟨p,_,h1,rfl,(hp _ (Ylr (cap:=cap7) (.head _))).mono λw hw=>(hw.perm (.open_ [_,_] [])),rfl⟩
theorem Ycy:∀{a b:List Lop}{c d:List Spl},a.length=c.length->Xi (a++b) (c++d)=Xi a c++Xi b d
 |[],_,[],_,_=>rfl
 |x::a,b,y::c,d,h=>by
  have:=Ycy (a:=a) (b:=b) (c:=c) (d:=d) (by simpa using h)
  simp only[TF,Xi,this]
 |[],_,_::_,_,h=>by cases h
 |_::_,_,[],_,h=>by cases h
theorem Yb0:∀{a b:List Lop}{c d:List Spl},a.length=c.length->badS (a++b) (c++d)=(badS a c||badS b d)
 |[],_,[],_,_=>by simp[badS]
 |x::a,b,y::c,d,h=>by
  have:=Yb0 (a:=a) (b:=b) (c:=c) (d:=d) (by simpa using h)
  simp only[TF,badS,this,Bool.or_assoc]
 |[],_,_::_,_,h=>by cases h
 |_::_,_,[],_,h=>by cases h
variable {l:Lop}
theorem YvS{nodes:Int}(h:lopE nodes l=0)(hn:nodes<=32):lopE 32 l=0:=by
 have hi:∀a:Int,¬(insE a nodes=false)->¬(insE a 32=false):=λa h=>by
  unfold insE at h⊢
  simp only[Tv,TK]at h⊢
  omega
 unfold lopE at h⊢
 split at h
 ·cases h
 rename_i h1
 split at h
 ·cases h
 rename_i h2
 split at h
 ·cases h
 rename_i h3
 rw[Tf (λe=>h1 ?_),Tf h2,Tf h3]
 rcases e with e|e|e|e|e
 ·exact .inl e
 ·exact .inr (.inl e)
 ·exact .inr (.inr (.inl (TK.1 λe2=>hi _ e2 e)))
 ·exact .inr (.inr (.inr (.inl (TK.1 λe2=>hi _ e2 e))))
 ·exact .inr (.inr (.inr (.inr (TK.1 λe2=>hi _ e2 e))))
theorem Ykj{s:Spl}(h:lopE 32 l=0)(hs:s∈Zs l):Xf l s=0:=by
 unfold Zs at hs
 obtain⟨i,hi,rfl⟩:=TI.1 hs
 have hi:=Ro.1 hi
 unfold Xf
 rw[Tf (λe=>e h),Tf]
 unfold fitS Ydt sumS
 unfold sumS at hi
 simp only[Bool.not_eq_false,To]
 omega
theorem Yrf(l:List Lop)(id:Int):posL l id<=l.length:=(List.takeWhile_sublist _).length_le
theorem Ylp:∀{l:List Lop}{x:Lop},(l.Pairwise λa b=>a.1<b.1)->x∈l->l[posL l x.1]? =some x
 |y::l,x,hp,hx=>by
  obtain⟨h1,h2⟩:=List.pairwise_cons.1 hp
  unfold posL
  by_cases hy:y.1<x.1
  ·rw[List.takeWhile_cons_of_pos (by simpa using hy),TS,List.getElem?_cons_succ]
   rcases RA.1 hx with rfl|hx
   ·exact absurd hy (Int.lt_irrefl _)
   ·exact Ylp h2 hx
  ·rw[List.takeWhile_cons_of_neg (by simpa using hy)]
   rcases RA.1 hx with rfl|hx
   ·rfl
   ·exact absurd (h1 x hx) hy
theorem YiF{α:Type}{l:List α}{k:Nat}{x:α}(h:l[k]? =some x):l=l.take k++x::l.drop (k+1):=by
 obtain⟨hk,rfl⟩:=Tn.1 h
 rw[<-T8 hk,RG]
structure GwM where
 p:PnM
 lA:Option Addr
 lcap:Nat
 l:List Lop
 sA:Option Addr
 scap:Nat
 s:List Spl
def GwM.val(g:GwM):Value:=.agg #[.int .i64 g.p.n.nodes,.slice g.p.n.pA g.p.n.rows.length g.p.n.pcap,.int .i64 g.p.n.noise,.int .i64 g.p.n.thr,.slice g.p.n.lA g.p.n.links.length g.p.n.lcap,.slice g.p.n.mA g.p.n.margin.length g.p.n.mcap,.slice g.p.qA g.p.q.length g.p.qcap,.int .i64 g.p.s.len,.int .i64 g.p.s.off,.slice g.p.s.A g.p.s.cells.length g.p.s.cap,.slice g.p.cA g.p.c.length g.p.ccap,.slice g.p.fA g.p.f.length g.p.fcap,.slice g.lA g.l.length g.lcap,.slice g.sA g.s.length g.scap]
def GwM.gw(g:GwM):Gwy:=⟨g.p.pln,g.l,g.s⟩
structure GwM.In(B:Nat)(w0:World)(H:List HP)(g:GwM):Prop where
 p:g.p.In B w0 H
 l:Rd B w0 H g.lA (g.l.flatMap lopF)
 s:Rd B w0 H g.sA (g.s.flatMap splF)
 ll:g.l.length<=1000
 sl:g.s.length<=1000
 lc:g.l.length<=g.lcap
 sc:g.s.length<=g.scap
abbrev gwyA(g:Nat)(m:GwM):HP:=blk g (.cells #[.int .i64 m.p.n.nodes,.slice m.p.n.pA m.p.n.rows.length m.p.n.pcap,.int .i64 m.p.n.noise,.int .i64 m.p.n.thr,.slice m.p.n.lA m.p.n.links.length m.p.n.lcap,.slice m.p.n.mA m.p.n.margin.length m.p.n.mcap,.slice m.p.qA m.p.q.length m.p.qcap,.int .i64 m.p.s.len,.int .i64 m.p.s.off,.slice m.p.s.A m.p.s.cells.length m.p.s.cap,.slice m.p.cA m.p.c.length m.p.ccap,.slice m.p.fA m.p.f.length m.p.fcap,.slice m.lA m.l.length m.lcap,.slice m.sA m.s.length m.scap] 54 (0,0))
variable {B:Nat}{w0 w:World}{H:List HP}
theorem GwM.In.mono{H':List HP}{g:GwM}(h:g.In B w0 H)(hH:∀w,St B w0 H' w->St B w0 H w):g.In B w0 H':=⟨h.p.mono hH,h.l.mono hH,h.s.mono hH,h.ll,h.sl,h.lc,h.sc⟩
theorem Yhx{a b:Flw}(h:flwF a=flwF b):a=b:=by
 obtain⟨a1,a2,a3,a4,a5,a6⟩:=a
 obtain⟨b1,b2,b3,b4,b5,b6⟩:=b
 simpa [flwF]using h
theorem Yhj(l m:List Flw)(hlen:l.length<=1000000000000){A A2:Option Addr}{cap cap2:Nat}(hr:Rd B w0 H A (l.flatMap flwF))(hr2:Rd B w0 H A2 (m.flatMap flwF))(hw:St B w0 H w):
 CX B w0 59 [.slice A l.length cap,.slice A2 m.length cap2] w λu K=>u=.bool (decide (l=m))/\K=H:=by
 refine Yc Tryz.func59 Tryz.ntmps59 rfl rfl hw ?_
 by_cases hll:l.length=m.length
 rotate_left
 ·repeat'(first|refine zgb ?_|(refine zge ?_ ?_<;>intro _<;>try exact zo)|fail)
  apply Yd;exact rfl;exact rfl
  exact⟨by rw[Tj λe=>hll (by rw[e])],rfl⟩
 repeat'(first|refine zgb ?_|(refine zge ?_ ?_<;>intro _<;>try exact zo)|fail)
 refine Yf (λ(k:Nat)=>[(13,.int .i64 k),(12,.int .i64 l.length),(0,.slice A l.length cap),(1,.slice A2 m.length cap2)]) (λ_=>H) (λk=>k<=l.length/\l.take k=m.take k) (λk=>l.length-k) 0 ⟨Tc _,by simp⟩ ?_ (λw hw=>hw) ?_
 ·exact zu
 rintro k ⟨hk,hi⟩ K hK
 by_cases hlt:k<l.length
 ·obtain⟨a,ha⟩:∃a,l[k]? =some a:=⟨_,Ta hlt⟩
  obtain⟨b,hb⟩:∃b,m[k]? =some b:=⟨_,Ta (by omega)⟩
  repeat'(first|(apply UF (xs:=flwF a) (ys:=flwF b);(iterate 3 exact rfl);kernel_rfl;kernel_rfl;all_goals intro _)|refine zgd ?_|(refine zge ?_ ?_<;>intro _<;>try exact zo)|fail)
  ·rename_i h
   apply Yd;exact rfl;exact rfl
   exact⟨by rw[Tj λe=>by rw[e,hb]at ha;exact h (by rw[Tz ha])],rfl⟩
  ·rename_i h
   apply hK (k+1)
   ·exact⟨by omega,by rw[TB,TB,ha,hb,hi,Yhx h]⟩
   ·omega
   ·exact zu
   ·exactλw hw=>hw
 ·repeat'(first|refine zgc ?_|(refine zge ?_ ?_<;>intro _<;>try exact zo)|fail)
  apply Yd;exact rfl;exact rfl
  rw[TE (by omega),TE (by omega)]at hi
  exact⟨by rw[Ti hi],rfl⟩
theorem US:∀(l:List Lop) (s:List Spl),(Xi l s).length<=2*l.length
 |_::l,_::s=>by
  have:=US l s
  simp only[Xi,TS]
  omega
 |[],_=>by simp[Xi]
 |_::_,[]=>by simp[Xi]
theorem Ybu{l:List Lop}{s:List Spl}{k:Nat}{a:Lop}{b:Spl}(hl:s.length=l.length)(ha:l[k]? =some a)(hb:s[k]? =some b):
 Xi (l.take (k+1)) (s.take (k+1))=Xi (l.take k) (s.take k)++[ZW a b,ZO a b]/\(Xf a b≠0->badS l s=true)/\(badS (l.take k) (s.take k)=false->Xf a b=0->badS (l.take (k+1)) (s.take (k+1))=false):=by
 have hlen:(l.take k).length=(s.take k).length:=by rw[TJ,TJ,hl]
 rw[TB,TB,ha,hb,Ru,Ru]
 refine⟨by rw[Ycy hlen];rfl,λh=>?_,λh1 h2=>?_⟩
 ·rw[YiF ha,YiF hb,Yb0 hlen]
  simp[badS,h]
 ·rw[Yb0 hlen,h1]
  simp[badS,h2]
theorem Jh(g:GwM)(ht:TabsB B w0)(hg:g.In B w0 H)(hw:St B w0 H w):
 CX B w0 23 [g.val] w λv K=>v=.int .i64 (chkG g.gw)/\K=H:=by
 refine Yc Tryz.func23 Tryz.ntmps23 rfl rfl hw ?_
 have hop:∀w,St B w0 [many H] w->St B w0 H w:=λw hw=>hw.perm (.openT H)
 have hgM:∀{H':List HP},many H∈H'->g.In B w0 H':=λhm=>hg.mono λw hw=>hw.inM hm
 have p1:=λ{H':List HP}{w:World}(hg:g.In B w0 H') (hw:St B w0 H' w)=>Qo g.p ht hg.p hw
 have p2:=λ{H':List HP}{w:World}(hg:g.In B w0 H') (hw:St B w0 H' w)=>WL g.p.n.nodes g.l (T0 hg.ll (by decide)) (cap:=g.lcap) hg.l hw
 have p3:=λ(a:Lop) (b:Spl) {H':List HP}{w:World}(hw:St B w0 H' w)=>YaX a b hw
 have hll:=hg.ll
 have hsl:=hg.sl
 unfold GwM.val
 unfold PnM.val at p1
 unfold chkG
 rw[show g.gw.p=g.p.pln from rfl,show g.gw.l=g.l from rfl,show g.gw.s=g.s from rfl,show g.p.pln.n.nodes=g.p.n.nodes from rfl]
 refine YW [many H] (λw hw=>hw.perm (.closeT H)) ?_
 by_cases hk:chkP g.p.pln=0
 rotate_left
 ·rw[Tm hk]
  repeat'(first|(apply Ye T;exact rfl;exact zm;exact rfl;exact zv;exact rfl;exact rfl)|refine zgb ?_|(refine zgh ?_;intro _)|fail)
  first|apply Ya en10|apply Yb en10
  exact za
  exact rfl
  exactλ_ hw=>(p1 (hgM zm) hw)
  repeat'(first|refine zgb ?_|(refine zge ?_ ?_<;>intro _<;>try exact zo)|fail)
  apply Yg H
  ·intro w hw
   have h5:St B w0 [many H] w:=by
    revert w
    exact zk
   exact hop w h5
  apply Yd;exact rfl;exact rfl;exact⟨rfl,rfl⟩
 rw[Tf (λe=>e hk)]
 rw[hk]at p1
 obtain⟨⟨li,le⟩,hL⟩:∃R,XD g.p.n.nodes g.l=R:=⟨_,rfl⟩
 rw[hL]at p2⊢
 dsimp only at p2⊢
 by_cases hle:le=0
 rotate_left
 ·rw[Tm hle]
  repeat'(first|(apply Ye T;exact rfl;exact zm;exact rfl;exact zv;exact rfl;exact rfl)|((first|apply Ya en10|apply Yb en10);exact za;exact rfl;exactλ_ hw=>(p1 (hgM zm) hw))|((first|apply Ya en57|apply Yb en57);exact za;exact rfl;exactλ_ hw=>(p2 (hgM zm) hw))|refine zgc ?_|(refine zge ?_ ?_<;>intro _<;>try exact zo)|(refine zgh ?_;intro _)|fail)
  apply Yg H
  ·intro w hw
   have h5:St B w0 [many H] w:=by
    revert w
    exact zk
   exact hop w h5
  apply Yd;exact rfl;exact rfl;exact⟨rfl,rfl⟩
 rw[Tf (λe=>e hle)]
 subst hle
 by_cases hlen:g.s.length=g.l.length
 rotate_left
 ·rw[Tm hlen]
  repeat'(first|(apply Ye T;exact rfl;exact zm;exact rfl;exact zv;exact rfl;exact rfl)|((first|apply Ya en10|apply Yb en10);exact za;exact rfl;exactλ_ hw=>(p1 (hgM zm) hw))|((first|apply Ya en57|apply Yb en57);exact za;exact rfl;exactλ_ hw=>(p2 (hgM zm) hw))|refine zgc ?_|(refine zge ?_ ?_<;>intro _<;>try exact zo)|(refine zgh ?_;intro _)|fail)
  apply Yg H
  ·intro w hw
   have h5:St B w0 [many H] w:=by
    revert w
    exact zk
   exact hop w h5
  apply Yd;exact rfl;exact rfl;exact⟨rfl,rfl⟩
 rw[Tf (λe=>e hlen)]
 have hq16:g.p.q.length<=16:=by
  have h1:(g.p.q.map RqM.rq).length<=16:=(Ylw (Yhb (Yhc hk))).1
  rwa [Tu]at h1
 repeat'(first|(apply Ye T;exact rfl;exact zm;exact rfl;exact zv;exact rfl;exact rfl)|((first|apply Ya en10|apply Yb en10);exact za;exact rfl;exactλ_ hw=>(p1 (hgM zm) hw))|((first|apply Ya en57|apply Yb en57);exact za;exact rfl;exactλ_ hw=>(p2 (hgM zm) hw))|refine zgc ?_|(refine zge ?_ ?_<;>intro _<;>try exact zo)|(refine zgh ?_;intro _)|fail)
 rename Nat=>g1
 clear p1 p2
 refine XF 66 6 ?_
 refine Yf (λz:FlM=>[(42,.int .i64 (z.i:Nat)),(41,.int .i64 g.l.length),(40,.slice g.lA g.l.length g.lcap),(6,.slice z.A (Xi (g.l.take z.i) (g.s.take z.i)).length z.cap),(7,.slice none 0 0),(1,.pointer (some ⟨g1,0,none⟩))])
  (λz=>flws z.A z.cap (Xi (g.l.take z.i) (g.s.take z.i))::gwyA g1 g::[many H]) (λz=>z.i<=g.l.length/\badS (g.l.take z.i) (g.s.take z.i)=false) (λz=>g.l.length-z.i) ⟨0,none,0⟩ ⟨Tc _,by rw[S8];rfl⟩ ?_ ?_ ?_
 ·exact zu
 ·intro w hw
  have h5:St B w0 (sl 66 6 none 0 0 []::gwyA g1 g::[many H]) w:=by
   revert w
   exact zk
  exact h5
 rintro⟨i,A1,c1⟩ ⟨hi,hb⟩ K hK
 dsimp only at hi hb⊢
 have hfl:=US (g.l.take i) (g.s.take i)
 rw[TJ]at hfl
 by_cases hlt:i<g.l.length
 ·obtain⟨a,ha⟩:∃a,g.l[i]? =some a:=⟨_,Ta hlt⟩
  obtain⟨b,hb2⟩:∃b,g.s[i]? =some b:=⟨_,Ta (by omega)⟩
  obtain⟨hst,hbad,hnext⟩:=Ybu hlen ha hb2
  have p4:=λ{H':List HP}{w:World}(hw:St B w0 H' w)=>p3 a b hw
  unfold lopV splV at p4
  have hra:=(hgM (H':=flws A1 c1 (Xi (g.l.take i) (g.s.take i))::gwyA g1 g::[many H]) (.tail _ (.tail _ (.head _)))).l
  have hrb:=(hgM (H':=flws A1 c1 (Xi (g.l.take i) (g.s.take i))::gwyA g1 g::[many H]) (.tail _ (.tail _ (.head _)))).s
  by_cases hr:Xf a b=0
  rotate_left
  ·rw[Tm (hbad hr)]
   repeat'(first|(apply Ye T;exact rfl;exact zm;exact rfl;exact zv;exact rfl;exact rfl)|refine zgd ?_|(refine zge ?_ ?_<;>intro _<;>try exact zo)|(refine zgh ?_;intro _)|fail)
   apply YG [0,1,2,3,4,5,6,7,8,9,10,11] [] [true,true,true,true]
   kernel_rfl
   kernel_rfl
   exact zy
   (simp only[Yh,nthO];rfl)
   exact rfl
   repeat'(first|(apply Ye T;exact rfl;exact zm;exact rfl;exact zv;exact rfl;exact rfl)|refine zgd ?_|fail)
   apply Yi _ en58
   exact za
   exact rfl
   exactλ_ hw=>(p4 (hw))
   rintro _ _ ⟨A3,rfl,rfl⟩
   repeat'(first|(apply Yj;try exact zl)|refine zgd ?_|(refine zge ?_ ?_<;>intro _<;>try exact zo)|fail)
   apply Yg H
   ·intro w hw
    have h5:St B w0 [many H] w:=by
     revert w
     exact zk
    exact hop w h5
   apply Yd;exact rfl;exact rfl;exact⟨rfl,rfl⟩
  obtain⟨m,hm⟩:∃m,[ZW a b,ZO a b]=m:=⟨_,rfl⟩
  have hml:m.length=2:=by rw[<-hm];rfl
  rw[show flsS a b=m from by unfold flsS;rw[Tf (λe=>e hr)];exact hm,hr]at p4
  rw[hm]at hst
  have hnb:=hnext hb hr
  generalize Xi (g.l.take i) (g.s.take i)=L at hst hfl hra hrb⊢
  repeat'(first|(apply Ye T;exact rfl;exact zm;exact rfl;exact zv;exact rfl;exact rfl)|refine zgd ?_|(refine zge ?_ ?_<;>intro _<;>try exact zo)|(refine zgh ?_;intro _)|fail)
  apply YG [0,1,2,3,4,5,6,7,8,9,10,11] [] [true,true,true,true]
  kernel_rfl
  kernel_rfl
  exact zy
  (simp only[Yh,nthO];rfl)
  exact rfl
  repeat'(first|(apply Ye T;exact rfl;exact zm;exact rfl;exact zv;exact rfl;exact rfl)|refine zgd ?_|fail)
  apply Yi _ en58
  exact za
  exact rfl
  exactλ_ hw=>(p4 (hw))
  rintro _ _ ⟨A3,rfl,rfl⟩
  unfold flws
  repeat'(first|(apply YU T (f:=flwF) (l2:=m) (e:=66) (size:=6) (xs:=L.flatMap flwF);(iterate 3 exact rfl);exact Rd.sl zm;exact(λ_=>rfl);exact(λ_=>rfl);exact rfl;(intro _ _;exact zd);omega;intro A4 c4)|(apply Yj;try exact zl)|refine zgd ?_|(refine zge ?_ ?_<;>intro _<;>try exact zo)|fail)
  rename_i A4 c4
  apply hK ⟨i+1,A4,c4⟩
  ·exact⟨by show i+1<=_;omega,hnb⟩
  ·dsimp only;omega
  ·dsimp only
   rw[hst,Tq]
   exact zu
  ·intro w hw
   dsimp only
   unfold flws
   rw[hst,Tq,Ri]
   revert w
   exact zk
 obtain rfl:i=g.l.length:=by omega
 rw[TC,TE (by omega)]at hb hfl
 rw[TC,TE (l:=g.s) (by omega)]
 rw[Tf (show¬badS g.l g.s=true by rw[hb];decide)]
 have hfq:Y1 g.p.pln.q=RqM.fl g.p.q:=by
  show(g.p.q.map RqM.rq).map (·.1)=g.p.q.map _
  rw[SV];rfl
 rw[hfq]
 clear hK
 generalize Xi g.l g.s=L at hfl⊢
 have hrq:∀{H':List HP},many H∈H'->Rd B w0 H' g.p.qA (g.p.q.flatMap rqF):=λhm=>(hgM hm).p.q.rd
 repeat'(first|(apply Ye T;exact rfl;exact zm;exact rfl;exact zv;exact rfl;exact rfl)|refine zgc ?_|(refine zge ?_ ?_<;>intro _<;>try exact zo)|fail)
 refine XF 66 6 ?_
 refine Yf (λz:FlM=>[(67,.int .i64 (z.i:Nat)),(66,.int .i64 g.p.q.length),(65,.slice g.p.qA g.p.q.length g.p.qcap),(7,.slice z.A (RqM.fl (g.p.q.take z.i)).length z.cap),(6,.slice A1 L.length c1)])
  (λz=>flws z.A z.cap (RqM.fl (g.p.q.take z.i))::flws A1 c1 L::[many H]) (λz=>z.i<=g.p.q.length) (λz=>g.p.q.length-z.i) ⟨0,none,0⟩ (Tc _) ?_ ?_ ?_
 ·exact zu
 ·intro w hw
  have h5:St B w0 (sl 66 6 none 0 0 []::flws A1 c1 L::[many H]) w:=by
   revert w
   exact zk
  exact h5
 rintro⟨i,A2,c2⟩ hi K hK
 dsimp only at hi⊢
 have hrd:=hrq (H':=flws A2 c2 (RqM.fl (g.p.q.take i))::flws A1 c1 L::[many H]) (.tail _ (.tail _ (.head _)))
 have hlen:(RqM.fl (g.p.q.take i)).length=i:=by unfold RqM.fl;rw[Tu,TJ];omega
 by_cases hlt:i<g.p.q.length
 ·obtain⟨x,hx⟩:∃x,g.p.q[i]? =some x:=⟨_,Ta hlt⟩
  have hst:RqM.fl (g.p.q.take (i+1))=RqM.fl (g.p.q.take i)++[x.f]:=by unfold RqM.fl;rw[TB,hx,Ru,TX];rfl
  repeat'(first|(apply Ye T;exact rfl;exact zm;exact rfl;exact zv;exact rfl;exact rfl)|refine zgd ?_|(refine zge ?_ ?_<;>intro _<;>try exact zo)|(refine zgh ?_;intro _)|(refine zgi ?_;intro _ _)|fail)
  rename_i A' cap'
  rw[Up,<-hst,show(RqM.fl (g.p.q.take i)).length+1=(RqM.fl (g.p.q.take (i+1))).length from by rw[hst];simp]
  apply hK ⟨i+1,A',cap'⟩
  ·show i+1<=_
   omega
  ·dsimp only;omega
  ·exact zu
  ·exact zk
 obtain rfl:i=g.p.q.length:=by omega
 rw[TC]
 clear hK hrd
 have p5:=λ{H':List HP}{w:World}(h1:Rd B w0 H' A1 (L.flatMap flwF)) (h2:Rd B w0 H' A2 ((RqM.fl g.p.q).flatMap flwF)) (hw:St B w0 H' w)=>Yhj L (RqM.fl g.p.q) (by omega) (cap:=c1) (cap2:=c2) h1 h2 hw
 by_cases heq:L=RqM.fl g.p.q
 ·rw[Ti heq]at p5
  rw[Tf (λe=>e heq)]
  repeat'(first|((first|apply Ya en59|apply Yb en59);exact za;exact rfl;exactλ_ hw=>(p5 (Rd.sl zm) (Rd.sl zm) hw))|refine zgd ?_|(refine zge ?_ ?_<;>intro _<;>try exact zo)|fail)
  apply Yg H
  ·intro w hw
   have h5:St B w0 [many H] w:=by
    revert w
    exact zk
   exact hop w h5
  apply Yd;exact rfl;exact rfl;exact⟨rfl,rfl⟩
 ·rw[Tj heq]at p5
  rw[Tm heq]
  repeat'(first|((first|apply Ya en59|apply Yb en59);exact za;exact rfl;exactλ_ hw=>(p5 (Rd.sl zm) (Rd.sl zm) hw))|refine zgd ?_|(refine zge ?_ ?_<;>intro _<;>try exact zo)|fail)
  apply Yg H
  ·intro w hw
   have h5:St B w0 [many H] w:=by
    revert w
    exact zk
   exact hop w h5
  apply Yd;exact rfl;exact rfl;exact⟨rfl,rfl⟩
noncomputable def Ycp(p:Pln):List Flw->Option Pln
 |[]=>some p
 |f::fs=>match extP p f with
  |(some q,0)=>Ycp q fs
  |_=>none
theorem Yah(p:Pln)(f:Flw)(fs:List Flw):Ycp p (f::fs)=match extP p f with
 |(some q,0)=>Ycp q fs
 |_=>none:=rfl
theorem YpC(p:Pln)(l:Lop)(s:Spl)(ss:List Spl):tryG p l (s::ss)=match Wg p l s with
 |some q=>some (s,q)
 |none=>tryG p l ss:=rfl
theorem Yme(p:Pln)(l:Lop)(s:Spl):Wg p l s=Ycp p [ZW l s,ZO l s]:=by
 unfold Wg
 rw[Yah]
 split
 ·rename_i q h
  rw[h]
  show _=Ycp q _
  rw[Yah];rfl
 ·rename_i h
  split
  ·rename_i q h2;exact absurd h2 (h q)
  ·rfl
def V6:Value:=.agg #[.int .i64 0,.slice none 0 0,.int .i64 0,.int .i64 0,.slice none 0 0,.slice none 0 0,.slice none 0 0,.int .i64 0,.int .i64 0,.slice none 0 0,.slice none 0 0,.slice none 0 0,.slice none 0 0,.slice none 0 0]
def Qd(B:Nat)(w0:World)(H:List HP)(R:Option Gwy×Int)(v:Value)(K:List HP):Prop:=
 (R.1=none/\v=.tuple #[V6,.int .i64 R.2]/\K=H)\/∃(g:GwM) (X:List HP),R.1=some g.gw/\v=.tuple #[g.val,.int .i64 R.2]/\g.In B w0 [many X]/\K=many X::H
abbrev plnB(g:Nat)(p:PnM):HP:=plnA g p.n p.qA p.qcap p.q p.s p.cA p.ccap p.c p.fA p.fcap p.f
abbrev zerB(g:Nat):HP:=blk g (.cells #[.int .i64 0,.slice none 0 0,.int .i64 0,.int .i64 0,.slice none 0 0,.slice none 0 0,.slice none 0 0,.int .i64 0,.int .i64 0,.slice none 0 0,.slice none 0 0,.slice none 0 0] 35 (0,0))
abbrev lopA(g:Nat)(l:Lop):HP:=blk g (.cells #[.int .i64 l.1,.int .i64 l.2.1,.int .i64 l.2.2.1,.int .i64 l.2.2.2.1,.int .i64 l.2.2.2.2.1,.int .i64 l.2.2.2.2.2.1,.int .i64 l.2.2.2.2.2.2] 79 (0,0))
structure TrM where
 i:Nat
 q:PnM
 X:List HP
structure ExtG(S:Spl->Prop)(G:Nat->Pln->Prop)(l:Lop):Prop where
 le:∀i q,G i q->q.s.len<=24
 st:∀i q s f,G i q->S s->Xf l s=0->[ZW l s,ZO l s][i]? =some f->((extP q f).1=none/\(extP q f).2≠0)\/∃r,extP q f=(some r,0)/\G (i+1) r
 rn:∀i q s f,G i q->S s->Xf l s=0->[ZW l s,ZO l s][i]? =some f->Vp 100000 q.n f.2.1 f.2.2.1=some (Jp q.n f)
structure TrOk(G:Nat->Pln->Prop)(B:Nat)(w0:World)(H:List HP)(p:Pln)(fs:List Flw)(z:TrM):Prop where
 i:z.i<=fs.length
 yin:∀{H':List HP},many z.X∈H'->many H∈H'->z.q.In B w0 H'
 new:z.i≠0->z.q.In B w0 [many z.X]
 g:G z.i z.q.pln
 ex:Ycp p fs=Ycp z.q.pln (fs.drop z.i)
variable {S:Spl->Prop}{G:Nat->Pln->Prop}{B:Nat}{w0 w:World}{H:List HP}
theorem YiN(g:GwM)(l:Lop)(s:Spl)(gl gg gp:Nat)(hG:ExtG S G l)(hS:S s)(h0:G 0 g.p.pln)(hr:Xf l s=0)(ht:TabsB B w0)(hg:g.p.In B w0 H)(hw:St B w0 (zerB gp::lopA gl l::gwyA gg g::H) w):
 CX B w0 113 [splV s,.pointer (some ⟨gl,0,none⟩),.pointer (some ⟨gg,0,none⟩),.pointer (some ⟨gp,0,none⟩)] w λv K=>
  (Wg g.p.pln l s=none/\v=.bool false/\K=zerB gp::lopA gl l::gwyA gg g::H)\/∃q X,Wg g.p.pln l s=some (PnM.pln q)/\v=.bool true/\q.In B w0 [many X]/\K=plnB gp q::many X::lopA gl l::gwyA gg g::H:=by
 refine Yc Tryz.func113 Tryz.ntmps113 rfl rfl hw ?_
 have hop:∀w,St B w0 [many H] w->St B w0 H w:=λw hw=>hw.perm (.openT H)
 have hgM:∀{H':List HP},many H∈H'->g.p.In B w0 H':=λhm=>hg.mono λw hw=>hw.inM hm
 have p1:=λ{H':List HP}{w:World}(hw:St B w0 H' w)=>YaX l s hw
 have hfs:flsS l s=[ZW l s,ZO l s]:=by unfold flsS;rw[Tf (λe=>e hr)]
 rw[hfs,hr,show [ZW l s,ZO l s].length=2 from rfl]at p1
 rw[Yme]
 obtain⟨fs,hfe⟩:∃fs,[ZW l s,ZO l s]=fs:=⟨_,rfl⟩
 have hfl:fs.length=2:=by rw[<-hfe];rfl
 rw[hfe]at p1⊢
 rw[<-hfl]at p1
 unfold lopV splV at p1
 unfold splV
 refine YW (zerB gp::lopA gl l::gwyA gg g::[many H]) (λw hw=>hw.perm (.cons _ (.cons _ (.cons _ (.closeT H))))) ?_
 repeat'(first|refine zgb ?_|(refine zgh ?_;intro _)|fail)
 apply Yi _ en58
 exact za
 exact rfl
 exactλ_ hw=>(p1 (hw))
 rintro _ _ ⟨A3,rfl,rfl⟩
 repeat'(first|(apply Ye T;exact rfl;exact zm;exact rfl;exact zv;exact rfl;exact rfl)|refine zgc ?_|fail)
 refine Yf (λz:TrM=>[(21,.int .i64 (z.i:Nat)),(20,.int .i64 fs.length),(19,.slice A3 fs.length fs.length),(3,.pointer (some ⟨gp,0,none⟩))])
  (λz=>plnB gp z.q::many z.X::flws A3 fs.length fs::lopA gl l::gwyA gg g::[many H]) (TrOk G B w0 H g.p.pln fs) (λz=>fs.length-z.i) ⟨0,g.p,[]⟩ ⟨Tc _,λ_ h=>hgM h,λh=>absurd rfl h,h0,rfl⟩ ?_ ?_ ?_
 ·exact zu
 ·intro w hw
  have h5:St B w0 (plnB gp g.p::flws A3 fs.length fs::lopA gl l::gwyA gg g::[many H]) w:=by
   revert w
   exact zk
  exact h5.perm (.cons _ (.close [] _))
 rintro⟨i,q,X⟩ ⟨hi,hin,hnew,hck,hex⟩ K hK
 dsimp only at hi hin hnew hck hex⊢
 by_cases hlt:i<fs.length
 ·obtain⟨f,hf⟩:∃f,fs[i]? =some f:=⟨_,Ta hlt⟩
  have hdr:fs.drop i=f::fs.drop (i+1):=by
   obtain⟨h1,rfl⟩:=Tn.1 hf
   exact T8 h1
  rw[hdr,Yah]at hex
  have hfm:[ZW l s,ZO l s][i]? =some f:=by rw[hfe];exact hf
  have p2:=λ{H':List HP}{w:World}(hq:q.In B w0 H') (hw:St B w0 H' w)=>Yco q f (hG.rn i q.pln s f hck hS hr hfm) (.inl (hG.le _ _ hck)) ht hq hw
  have hst:=hG.st i q.pln s f hck hS hr hfm
  obtain⟨⟨R,e⟩,hR⟩:∃R,extP q.pln f=R:=⟨_,rfl⟩
  rw[hR]at p2 hex hst
  unfold YbK PnM.val flwV at p2
  dsimp only at p2
  repeat'(first|refine zgd ?_|(refine zge ?_ ?_<;>intro _<;>try exact zo)|(refine zgh ?_;intro _)|fail)
  apply Yi _ YuK
  exact za
  exact rfl
  exactλ_ hw=>(p2 (hin zm zm) (hw))
  rintro _ K1 (⟨h,rfl,rfl⟩|⟨q2,X2,hq2,rfl,hq2in,rfl⟩)
  ·obtain⟨-,he⟩:R=none/\e≠0:=by
    rcases hst with h1|⟨r,h1,-⟩
    ·exact h1
    ·have h2:=(Nx h1).1
     rw[show R=none from h]at h2;cases h2
   subst h
   unfold zeroPnV
   repeat'(first|refine zgd ?_|(refine zge ?_ ?_<;>intro _<;>try exact zo)|fail)
   apply Yg (zerB gp::lopA gl l::gwyA gg g::H)
   ·intro w hw
    have h5:St B w0 (zerB gp::lopA gl l::gwyA gg g::[many H]) w:=by
     revert w
     exact zk
    exact h5.perm (.cons _ (.cons _ (.cons _ (.openT H))))
   apply Yd;exact rfl;exact rfl
   exact .inl ⟨hex,rfl,rfl⟩
  ·obtain⟨r,h1,hGr⟩:∃r,(R,e)=(some r,0)/\G (i+1) r:=by
    rcases hst with⟨h1,-⟩|h
    ·rw[show R=some q2.pln from hq2]at h1;cases h1
    ·exact h
   obtain⟨h2,rfl⟩:=Nx h1
   have hc2:G (i+1) q2.pln:=by
    rw[show R=some q2.pln from hq2]at h2
    rw[Tz h2];exact hGr
   subst hq2
   repeat'(first|refine zgc ?_|(refine zge ?_ ?_<;>intro _<;>try exact zo)|fail)
   apply hK ⟨i+1,q2,X2⟩
   ·exact⟨by show i+1<=_;omega,λh _=>hq2in.inX h,λ_=>hq2in,hc2,hex⟩
   ·dsimp only;omega
   ·exact zu
   ·exact zk
 ·obtain rfl:i=fs.length:=by omega
  rw[RV]at hex
  have hnew:=hnew (by omega)
  repeat'(first|refine zgc ?_|(refine zge ?_ ?_<;>intro _<;>try exact zo)|fail)
  apply Yg (plnB gp q::many X::lopA gl l::gwyA gg g::H)
  ·intro w hw
   have h5:St B w0 (plnB gp q::many X::lopA gl l::gwyA gg g::[many H]) w:=by
    revert w
    exact zk
   exact h5.perm (.cons _ (.cons _ (.cons _ (.cons _ (.openT H)))))
  apply Yd;exact rfl;exact rfl
  exact .inr ⟨q,X,hex,rfl,hnew,rfl⟩
theorem YhH(g:GwM)(l:Lop)(L:List Spl)(gl gg gp:Nat)(hG:ExtG S G l)(h0:G 0 g.p.pln)(hS:∀(k:Nat) s,L[k]? =some s->(∀(j:Nat) t,j<k->L[j]? =some t->Wg g.p.pln l t=none)->S s)(hL:∀s∈L,Xf l s=0)(hlen:L.length<=1000000){A:Option Addr}{cap:Nat}(ht:TabsB B w0)(hg:g.p.In B w0 H)(hr:Rd B w0 H A (L.flatMap splF))(hw:St B w0 (zerB gp::lopA gl l::gwyA gg g::H) w):
 CX B w0 115 [.slice A L.length cap,.func (.func 113) #[] #[.pointer (some ⟨gl,0,none⟩),.pointer (some ⟨gg,0,none⟩),.pointer (some ⟨gp,0,none⟩)]] w λv K=>
  (tryG g.p.pln l L=none/\v=.int .i64 (-1)/\K=zerB gp::lopA gl l::gwyA gg g::H)\/∃k s q X,L[k]? =some s/\tryG g.p.pln l L=some (s,PnM.pln q)/\v=.int .i64 ((k:Nat):Int)/\q.In B w0 [many X]/\K=plnB gp q::many X::lopA gl l::gwyA gg g::H:=by
 refine Yc Tryz.func115 Tryz.ntmps115 rfl rfl hw ?_
 have hr:=((hr.cons (X:=gwyA gg g)).cons (X:=lopA gl l)).cons (X:=zerB gp)
 have p1:=λ(s:Spl) (hSs:S s) (hs:Xf l s=0) {w:World}(hw:St B w0 (zerB gp::lopA gl l::gwyA gg g::H) w)=>YiN g l s gl gg gp hG hSs h0 hs ht hg hw
 repeat'(first|refine zgb ?_|fail)
 refine Yf (λ(k:Nat)=>[(8,.int .i64 k),(7,.int .i64 L.length),(0,.slice A L.length cap),(1,.func (.func 113) #[] #[.pointer (some ⟨gl,0,none⟩),.pointer (some ⟨gg,0,none⟩),.pointer (some ⟨gp,0,none⟩)])]) (λ_=>zerB gp::lopA gl l::gwyA gg g::H) (λk=>k<=L.length/\tryG g.p.pln l L=tryG g.p.pln l (L.drop k)/\∀(j:Nat) t,j<k->L[j]? =some t->Wg g.p.pln l t=none) (λk=>L.length-k) 0 ⟨Tc _,by simp,λj t hj=>absurd hj (Rj _)⟩ ?_ (λw hw=>hw) ?_
 ·exact zu
 rintro k ⟨hk1,hi,hfa⟩ K hK
 by_cases hlt:k<L.length
 ·obtain⟨a,ha⟩:∃a,L[k]? =some a:=⟨_,Ta hlt⟩
  have hdr:L.drop k=a::L.drop (k+1):=by
   obtain⟨h1,rfl⟩:=Tn.1 ha
   exact T8 h1
  rw[hdr,YpC]at hi
  have p2:=λ{w:World}(hw:St B w0 (zerB gp::lopA gl l::gwyA gg g::H) w)=>p1 a (hS k a ha hfa) (hL a (Td ha)) hw
  unfold splV at p2
  repeat'(first|refine zgd ?_|(refine zge ?_ ?_<;>intro _<;>try exact zo)|fail)
  apply YgI _ (cs:=[.pointer (some ⟨gl,0,none⟩),.pointer (some ⟨gg,0,none⟩),.pointer (some ⟨gp,0,none⟩)])
  exact rfl
  exact YuJ
  exact za
  exact rfl
  exactλ_ hw=>p2 hw
  rintro _ _ (⟨hb,rfl,rfl⟩|⟨q,X,hb,rfl,hq,rfl⟩)
  ·rw[hb]at hi
   repeat'(first|refine zgc ?_|fail)
   apply hK (k+1)
   ·refine⟨by omega,hi,λj t hj ht=>?_⟩
    by_cases hjk:j=k
    ·subst hjk;rw[ha]at ht;rw[<-Tz ht];exact hb
    ·exact hfa j t (by omega) ht
   ·omega
   ·exact zu
   ·exactλw hw=>hw
  ·rw[hb]at hi
   repeat'(first|refine zgd ?_|fail)
   apply Yd;exact rfl;exact rfl
   exact .inr ⟨k,a,q,X,ha,hi,rfl,hq,rfl⟩
 ·repeat'(first|refine zgc ?_|(refine zge ?_ ?_<;>intro _<;>try exact zo)|fail)
  apply Yd;exact rfl;exact rfl
  rw[hi,Rm (by omega)]
  exact .inl ⟨rfl,rfl,rfl⟩
variable {B:Nat}{w0 w:World}{H:List HP}
theorem Ykg(hw:St B w0 H w):
 CX B w0 168 [.slice none 0 0,.func (.func 169) #[] #[]] w λv K=>v=.tuple #[]/\K=H:=by
 refine(AnyF.slices_SortFunc_none Tryz.sortCels none 0 (.func (.func 169) #[] #[]) w).mono ?_
 rintro e w' ⟨rfl,rfl⟩
 exact⟨_,_,rfl,hw,rfl,rfl⟩
theorem YdH(hw:St B w0 H w):
 CX B w0 170 [.slice none 0 0] w λv K=>v=.slice none 0 0/\K=H:=by
 refine Yc Tryz.func170 Tryz.ntmps170 rfl rfl hw ?_
 repeat'(first|refine zgb ?_|(refine zge ?_ ?_<;>intro _<;>try exact zo)|fail)
 apply Yd;exact rfl;exact rfl;exact⟨rfl,rfl⟩
theorem nilQ:QIn B w0 H none []:=⟨Rd.nil,λx h=>(by cases h),Tc _⟩
abbrev bld0(g:Nat)(n:NetM)(len off:Int):HP:=blk g (.cells #[.int .i64 n.nodes,.slice n.pA n.rows.length n.pcap,.int .i64 n.noise,.int .i64 n.thr,.slice n.lA n.links.length n.lcap,.slice n.mA n.margin.length n.mcap,.slice none 0 0,.int .i64 len,.int .i64 off,.slice none 0 0,.slice none 0 0,.slice none 0 0,.int .i64 0] 164 (0,0))
def mt(len off:Int):Sch:=⟨len,off,[]⟩
def newP(n:Net)(len off:Int):Option Pln×Int:=
 if Ym n≠0 then(none,1)else if len<1\/512<len\/off<1\/16<off then(none,2)else(some ⟨n,[],mt len off,[],XY (mt len off)⟩,0)
variable {n:Net}
theorem JK(h:Ym n=0):YA n.nodes []=(-1,0):=by
 have h0:=(YN h).n0
 have h1:=(YN h).n1
 unfold YA
 rw[Tf (show¬(n.nodes<2\/32<n.nodes) by omega),Tf (by decide)];rfl
theorem Yf4(h:Ym n=0):rqsE n []=(-1,0):=by
 unfold rqsE
 rw[Tf (λe=>e h),show Y1 []=[] from rfl,JK h,Tf (by decide)];rfl
variable {off:Int}
theorem Ux{len:Int}(h:Ym n=0)(hs:1<=len/\len<=512/\1<=off/\off<=16):YK n [] (mt len off)=([],(-1,0)):=by
 have hz:XU (mt len off)=true:=Ti hs
 have hw:Xs n [] (mt len off)=0:=by
  unfold Xs
  rw[Tf (λe=>e h),JK h,Tf (by decide),Tf (by rw[hz];decide),Tf (by simp),Tf (show¬512<(mt len off).cells.length from Rj _)]
 have hsc:(schE n (Y1 []) (mt len off)).2=0:=by
  unfold schE
  rw[show Y1 []=[] from rfl,Tf (λe=>e hw)];rfl
 unfold YK
 rw[Yf4 h,Tf (by decide),Tf (λe=>e hsc)];rfl
theorem Yq2{len:Int}(h:Ym n=0)(hs:1<=len/\len<=512/\1<=off/\off<=16):finE n [] (mt len off) 0=(some ⟨n,[],mt len off,[],XY (mt len off)⟩,0):=by
 have hf:Xw (mt len off)=true:=by
  have hz:XU (mt len off)=true:=Ti hs
  unfold Xw;rw[hz];rfl
 have hfr:Xg (mt len off)=(XY (mt len off),0):=by unfold Xg;rw[hf,Tf (by decide)]
 have he:Ycu n [] (mt len off) 0=0:=by
  unfold Ycu
  rw[Tf (by decide),Ux h hs,hfr];rfl
 unfold finE
 rw[he,Tf (by decide),Ux h hs,hfr]
theorem Ygj(n:NetM)(hck:Ym n.net=0)(hin:n.In B w0 H)(hw:St B w0 H w):
 CX B w0 81 [n.val,.slice none 0 0] w λv K=>v=.tuple #[.slice none 0 0,.int .i64 (-1),.int .i64 0]/\K=H:=by
 refine Yc Tryz.func81 Tryz.ntmps81 rfl rfl hw ?_
 have p1:=λ{H':List HP}{w:World}(hin:n.In B w0 H') (hw:St B w0 H' w)=>Ju n hin hw
 have p2:=λ{H':List HP}{w:World}(hw:St B w0 H' w)=>YZ n.nodes [] (Tc _) (A:=none) (cap:=0) Rd.nil hw
 rw[Ti hck]at p1
 rw[show YA n.nodes []=(-1,0) from JK hck]at p2
 unfold NetM.val at p1⊢
 (apply Y0;apply YL;apply Yy;exact rfl;exact rfl;intro g)
 repeat'(first|((first|apply Ya en39|apply Yb en39);exact za;exact rfl;exactλ_ hw=>(p1 hin.cons hw))|((first|apply Ya en78|apply Yb en78);exact za;exact rfl;exactλ_ hw=>(p2 hw))|refine zgd ?_|(refine zge ?_ ?_<;>intro _<;>try exact zo)|fail)
 refine Yf (λ_:Unit=>[(30,.int .i64 0),(29,.int .i64 0),(9,.slice none 0 0)]) (λ_=>H) (λ_=>True) (λ_=>0) () trivial ?_ ?_ ?_
 ·exact zu
 ·exact zk
 rintro⟨⟩-K hK
 clear hK
 repeat'(first|refine zgc ?_|(refine zge ?_ ?_<;>intro _<;>try exact zo)|fail)
 apply ZK;(iterate 4 exact rfl);exact⟨rfl,rfl⟩
theorem Yl4(n:NetM)(hck:Ym n.net=0)(len off:Int)(hs:1<=len/\len<=512/\1<=off/\off<=16)(ht:TabsB B w0)(hin:n.In B w0 H)(hw:St B w0 H w):
 CX B w0 163 [n.val,.slice none 0 0,.int .i64 len,.int .i64 off] w λv K=>v=.tuple #[.agg #[.int .i64 len,.int .i64 off,.slice none 0 0],.slice none 0 0,.int .i64 0]/\K=H:=by
 refine Yc Tryz.func163 Tryz.ntmps163 rfl rfl hw ?_
 have p1:=λ{H':List HP}{w:World}(hin:n.In B w0 H') (hw:St B w0 H' w)=>Y8 n hin hw
 have p2:=λ{H':List HP}{w:World}(hin:n.In B w0 H') (hw:St B w0 H' w)=>YaO n [] (A:=none) (cap:=0) ht hin nilQ hw
 rw[hck]at p1
 rw[RY,YeM (q:=[]) hck,show decide ((rqsE n.net []).2≠0)=false from by rw[Yf4 hck];rfl]at p2
 have hop:∀w,St B w0 [many H] w->St B w0 H w:=λw hw=>hw.perm (.openT H)
 have hin:=hin.mono hop
 unfold NetM.val at*
 refine YW [many H] (λw hw=>hw.perm (.closeT H)) ?_
 repeat'(first|(apply zg23;first|(refine zs52 ?_;intro _)|(refine zs53 ?_;intro _))|refine zgb ?_|(refine zgh ?_;intro _)|fail)
 rename_i g4 g6 g8
 first|apply Ya en68|apply Yb en68
 exact za
 exact rfl
 exactλ_ hw=>(p1 hin.cons.cons.cons hw)
 repeat'(first|refine zgc ?_|(refine zge ?_ ?_<;>intro _<;>try exact zo)|fail)
 first|apply Ya Yk3|apply Yb Yk3
 exact za
 exact rfl
 exactλ_ hw=>(p2 hin.cons.cons.cons hw)
 repeat'(first|(apply zg29;(apply Ys;exact za;exact rfl))|refine zgc ?_|(refine zgf ?_ ?_<;>intro _<;>try exact zo)|fail)
 first|apply Ya Yk4|apply Yb Yk4
 exact za
 exact rfl
 exactλ_ hw=>(WF (λ_=>true) [] 265 [.pointer (some ⟨g6,0,none⟩)] Yvb (Tc _) (A:=none) (cap:=0) Rd.nil (λa ha=>(by cases ha)) hw)
 rw[show([].any λ_:RqM=>true)=false from rfl]
 repeat'(first|refine zgd ?_|(refine zgh ?_;intro _)|fail)
 rename Nat=>g11
 refine Yf (λ_:Unit=>[(54,.int .i64 0),(53,.int .i64 0),(13,.slice none 0 0),(11,.pointer (some ⟨g11,0,none⟩)),(8,.pointer (some ⟨g8,0,none⟩))]) (λ_=>[blk g11 (.cells #[.int .i64 len,.int .i64 off,.slice none 0 0] 30 (0,0)),blk g8 (.cells #[.int .i64 0,.int .i64 0,.slice none 0 0] 30 (0,0)),many H]) (λ_=>True) (λ_=>0) () trivial ?_ ?_ ?_
 ·exact zu
 ·intro w hw
  have h5:St B w0 [blk g11 (.cells #[.int .i64 len,.int .i64 off,.slice none 0 0] 30 (0,0)),blk g8 (.cells (Value.agg #[.int .i64 0,.int .i64 0,.slice none 0 0]).cells 30 (0,0)),many H] w:=by
   revert w
   exact zk
  exact h5
 rintro⟨⟩-K hK
 clear hK
 repeat'(first|refine zgc ?_|(refine zge ?_ ?_<;>intro _<;>try exact zo)|fail)
 apply Yeh T (H2:=H);(iterate 4 exact rfl);exact zm;exact rfl;exact rfl
 ·intro w hw
  have h5:St B w0 [many H] w:=by
   revert w
   exact zk
  exact hop w h5
 exact⟨rfl,rfl⟩
theorem Ykm(n:NetM)(hck:Ym n.net=0)(len off:Int)(hs:1<=len/\len<=512/\1<=off/\off<=16)(ht:TabsB B w0)(hin:n.In B w0 H)(hw:St B w0 H w):
 CX B w0 85 [n.val,.slice none 0 0,.agg #[.int .i64 len,.int .i64 off,.slice none 0 0]] w λv K=>v=.tuple #[.agg #[.int .i64 len,.int .i64 off,.slice none 0 0],.int .i64 0]/\K=H:=by
 refine Yc Tryz.func85 Tryz.ntmps85 rfl rfl hw ?_
 have hop:∀w,St B w0 [many H] w->St B w0 H w:=λw hw=>hw.perm (.openT H)
 have hinM:∀{H':List HP},many H∈H'->n.In B w0 H':=λhm=>hin.mono λw hw=>hw.inM hm
 have p1:=λ{H':List HP}{w:World}(hin:n.In B w0 H') (hw:St B w0 H' w)=>Ya9 n [] ⟨len,off,none,0,[]⟩ (A:=none) (cap:=0) ht hin nilQ Rd.nil (Tc _) hw
 rw[RY,show(⟨len,off,none,0,[]⟩:SchM).sch=mt len off from rfl,Ux hck hs]at p1
 unfold NetM.val SchM.val at p1
 unfold NetM.val
 refine YW [many H] (λw hw=>hw.perm (.closeT H)) ?_
 repeat'(first|refine zgb ?_|(refine zgh ?_;intro _)|fail)
 rename_i g3 g5 g6
 first|apply Ya YkS|apply Yb YkS
 exact za
 exact rfl
 exactλ_ hw=>(p1 (hinM zm) hw)
 repeat'(first|refine zgd ?_|fail)
 refine Yf (λ_:Unit=>[(21,.int .i64 0),(20,.int .i64 0),(8,.slice none 0 0),(6,.pointer (some ⟨g6,0,none⟩)),(5,.pointer (some ⟨g5,0,none⟩))]) (λ_=>[blk g6 (.cells #[.int .i64 0,.int .i64 0,.slice none 0 0] 30 (0,0)),blk g5 (.cells #[.int .i64 len,.int .i64 off,.slice none 0 0] 30 (0,0)),many H]) (λ_=>True) (λ_=>0) () trivial ?_ ?_ ?_
 ·exact zu
 ·intro w hw
  have h5:St B w0 [blk g6 (.cells (Value.agg #[.int .i64 0,.int .i64 0,.slice none 0 0]).cells 30 (0,0)),blk g5 (.cells #[.int .i64 len,.int .i64 off,.slice none 0 0] 30 (0,0)),many H] w:=by
   revert w
   exact zk
  exact h5
 rintro⟨⟩-K hK
 clear hK
 repeat'(first|((first|apply Ya YrR|apply Yb YrR);exact za;exact rfl;exactλ_ hw=>(Ykg hw))|((first|apply Ya YrT|apply Yb YrT);exact za;exact rfl;exactλ_ hw=>(YdH hw))|refine zgd ?_|(refine zge ?_ ?_<;>intro _<;>try exact zo)|fail)
 apply Yp T (H2:=H);(iterate 3 exact rfl);exact zm;exact rfl;exact rfl
 ·intro w hw
  have h5:St B w0 [many H] w:=by
   revert w
   exact zk
  exact hop w h5
 exact⟨rfl,rfl⟩
theorem YjA(n:NetM)(hck:Ym n.net=0)(len off:Int)(hs:1<=len/\len<=512/\1<=off/\off<=16)(g:Nat)(ht:TabsB B w0)(hin:n.In B w0 H)(hw:St B w0 (bld0 g n 0 0::H) w):
 CX B w0 82 [.pointer (some ⟨g,0,none⟩),.int .i64 len,.int .i64 off] w λv K=>v=.tuple #[.slice none 0 0,.bool true]/\K=bld0 g n len off::H:=by
 refine Yc Tryz.func82 Tryz.ntmps82 rfl rfl hw ?_
 have hop:∀w,St B w0 [many H] w->St B w0 H w:=λw hw=>hw.perm (.openT H)
 have hin:=hin.mono hop
 have p1:=λ{H':List HP}{w:World}(hin:n.In B w0 H') (hw:St B w0 H' w)=>Yl4 n hck len off hs ht hin hw
 have p2:∀{H':List HP}{w:World},St B w0 (bld0 g n 0 0::H') w->CX B w0 84 [.pointer (some ⟨g,0,none⟩),.int .i64 0] w λv K=>v=.tuple #[]/\K=bld0 g n 0 0::H':=λhw=>YaN ⟨n,none,0,[],⟨0,0,none,0,[]⟩,none,0,[],none,0,[],0⟩ g 0 hw
 unfold NetM.val at p1
 refine YW (bld0 g n 0 0::[many H]) (λw hw=>hw.perm (.cons _ (.closeT H))) ?_
 iterate 6 (first|refine zga ?_|fail)
 apply Y0
 refine Zt (λg8:Nat=>[(8,.pointer (some ⟨g8,0,none⟩)),(9,.slice none 0 0),(10,.int .i64 0),(0,.pointer (some ⟨g,0,none⟩))])
  (λg8=>[blk g8 (.cells #[.int .i64 len,.int .i64 off,.slice none 0 0] 30 (0,0)),bld0 g n 0 0,many H]) ?_ ?_
 ·intro K hK
  repeat'(first|(apply Ye T;exact rfl;exact zm;exact rfl;exact zv;exact rfl;exact rfl)|fail)
  apply JR (.n1 0 (.n1 1 (.n1 2 (.n1 3 (.n1 4 (.n1 5 (.n1 6 (.n1 7 (.n1 8 (.n1 9 (.n1 10 (.n1 11 (.n2 12 (.n1 13 (.n1 14 (.n1 15 (.n1 16 (.n1 17 (.n1 18 (.n1 19 (.n1 20 .done)))))))) 17 (.n1 12 (.n1 13 (.n1 14 (.n1 15 (.n1 16 (.n1 18 (.n1 19 (.n1 20 .done))))))))))))))))))))) [] [true,true]
  kernel_rfl
  kernel_rfl
  exact zy
  exact rfl
  repeat'(first|(apply Ye T;exact rfl;exact zm;exact rfl;exact zv;exact rfl;exact rfl)|((first|apply Ya YrP|apply Yb YrP);exact za;exact rfl;exactλ_ hw=>(p1 (hin.mono zk) hw))|(apply Yj;try exact zl)|apply(zs91 ?_ ?_)|(apply Y4;try exact zl)|refine zgd ?_|(refine zgh ?_;intro _)|fail)
  all_goals(
   rename Nat=>gA
   apply hK gA
   ·exact zu
   ·exact zk)
 intro g8
 repeat'(first|refine zga ?_|fail)
 apply X6 [bld0 g n 0 0] _ en84
 exact za
 try exact zl
 exact zp
 exact rfl
 exactλ_ hw=>(p2 hw)
 rintro _ _ ⟨rfl,rfl⟩
 repeat'(first|refine zgd ?_|(refine zge ?_ ?_<;>intro _<;>try exact zo)|fail)
 apply Yg (bld0 g n len off::H)
 ·intro w hw
  have h5:St B w0 (bld0 g n len off::[many H]) w:=by
   revert w
   exact zk
  exact h5.perm (.cons _ (.openT H))
 apply Yo;(iterate 3 exact rfl)
 exact⟨rfl,rfl⟩
theorem YoW(n:NetM)(hck:Ym n.net=0)(len off:Int)(hs:1<=len/\len<=512/\1<=off/\off<=16)(ht:TabsB B w0)(hin:n.In B w0 H)(hw:St B w0 H w):
 CX B w0 30 [n.val,.slice none 0 0,.int .i64 len,.int .i64 off] w (YbK B w0 H (some ⟨n.net,[],mt len off,[],XY (mt len off)⟩,0)):=by
 refine Yc Tryz.func30 Tryz.ntmps30 rfl rfl hw ?_
 have p1:=λ{H':List HP}{w:World}(hin:n.In B w0 H') (hw:St B w0 H' w)=>Ju n hin hw
 have p2:=λ{H':List HP}{w:World}(hw:St B w0 H' w)=>YZ n.nodes [] (Tc _) (A:=none) (cap:=0) Rd.nil hw
 have p3:=λ{H':List HP}{w:World}(hin:n.In B w0 H') (hw:St B w0 H' w)=>Ygj n hck hin hw
 have p5:=λ{H':List HP}{w:World}(hin:n.In B w0 H') (hw:St B w0 H' w)=>Ykm n hck len off hs ht hin hw
 have p6:∀(g:Nat) {H':List HP}{w:World},n.In B w0 H'->St B w0 (bld0 g n len off::H') w->CX B w0 86 [.pointer (some ⟨g,0,none⟩)] w (Yrx B w0 H' ⟨len,off,none,0,[]⟩ (some ⟨n.net,[],mt len off,[],XY (mt len off)⟩,0)):=λg {H' w} hin hw=>by
  have h:=OK ⟨n,none,0,[],⟨len,off,none,0,[]⟩,none,0,[],none,0,[],0⟩ g ht hin nilQ Rd.nil (Tc _) hw
  dsimp only at h
  rw[RY,show(⟨len,off,none,0,[]⟩:SchM).sch=mt len off from rfl,Yq2 hck hs]at h
  exact h
 rw[Ti hck]at p1
 rw[show YA n.nodes []=(-1,0) from JK hck]at p2
 have hinM:∀{H':List HP},many H∈H'->n.In B w0 H':=λhm=>hin.mono λw hw=>hw.inM hm
 unfold NetM.val at p1 p3 p5⊢
 refine YW [many H] (λw hw=>hw.perm (.closeT H)) ?_
 repeat'(first|(apply zg23;first|(refine zs52 ?_;intro _)|(refine zs53 ?_;intro _))|refine zgb ?_|(refine zgh ?_;intro _)|fail)
 rename_i g4 g6 g8
 first|apply Ya en39|apply Yb en39
 exact za
 exact rfl
 exactλ_ hw=>(p1 (hinM zm) hw)
 repeat'(first|refine zgd ?_|fail)
 first|apply Ya en78|apply Yb en78
 exact za
 exact rfl
 exactλ_ hw=>(p2 hw)
 repeat'(first|(apply zg29;(apply Ys;exact za;exact rfl))|refine zgc ?_|(refine zgf ?_ ?_<;>intro _<;>try exact zo)|fail)
 first|apply Ya en79|apply Yb en79
 exact za
 exact rfl
 exactλ_ hw=>(WE (λ_=>true) [] 80 [.pointer (some ⟨g6,0,none⟩)] en80 (Tc _) (A:=none) (cap:=0) Rd.nil (λa ha=>(by cases ha)) hw)
 rw[show([].any λ_:Flw=>true)=false from rfl]
 repeat'(first|refine zgc ?_|fail)
 first|apply Ya en81|apply Yb en81
 exact za
 exact rfl
 exactλ_ hw=>(p3 (hinM zm) hw)
 repeat'(first|refine zgd ?_|(refine zge ?_ ?_<;>intro _<;>try exact zo)|(refine zgh ?_;intro _)|fail)
 rename Nat=>g15
 apply X6 [bld0 g15 n 0 0] _ en82
 exact za
 try exact zl
 exact zp
 exact rfl
 exactλ_ hw=>(YjA n hck len off hs g15 ht (hinM zm) hw)
 rintro _ _ ⟨rfl,rfl⟩
 repeat'(first|(apply Ye T;exact rfl;exact zm;exact rfl;exact zv;exact rfl;exact rfl)|refine zgd ?_|(refine zge ?_ ?_<;>intro _<;>try exact zo)|fail)
 apply YW [bld0 g15 n len off,netA g4 n,blk g8 (.cells (Value.agg #[.int .i64 0,.slice none 0 0,.int .i64 0,.int .i64 0,.slice none 0 0,.slice none 0 0,.slice none 0 0,.int .i64 0,.int .i64 0,.slice none 0 0,.slice none 0 0,.slice none 0 0]).cells 35 (0,0)),many H]
 ·exact zk
 apply Uc [1,0,2,3,4,5,6,7,8,9,10,11,12,13,14,16,15,17,18,19] [0,1,16,20,21,22,23] [20,21,22,23] [true,true,true,true]
 kernel_rfl
 kernel_rfl
 exact zy
 (simp only[Yh,nthO];rfl)
 (simp only[Yh,nthO];rfl)
 repeat'(first|(apply Ye T;exact rfl;exact zm;exact rfl;exact zv;exact rfl;exact rfl)|refine zgd ?_|fail)
 first|apply Ya en85|apply Yb en85
 exact za
 exact rfl
 exactλ_ hw=>(p5 (hinM zm) hw)
 repeat'(first|(apply Ye T;exact rfl;exact zm;exact rfl;exact zv;exact rfl;exact rfl)|(apply Yj;try exact zl)|refine zgd ?_|fail)
 apply X6 [bld0 g15 n len off] _ en86
 exact za
 try exact zl
 exact zp
 exact rfl
 exactλ_ hw=>(p6 g15 (hinM zm) hw)
 rintro _ _ hO
 rcases hO with⟨h1,-⟩|⟨p,X,h1,rfl,hp,rfl⟩
 ·cases h1
 unfold PnM.val
 repeat'(first|refine zgc ?_|fail)
 apply Yp T (H2:=many X::H);(iterate 3 exact rfl);exact zm;exact rfl;exact rfl
 ·intro w hw
  have h5:St B w0 (many X::[many H]) w:=by
   revert w
   exact zk
  exact h5.perm (.cons _ (.openT H))
 exact .inr ⟨p,X,h1,rfl,hp [] Rd.nil,rfl⟩
theorem YoV(n:NetM)(len off:Int)(ht:TabsB B w0)(hin:n.In B w0 H)(hw:St B w0 H w):
 CX B w0 30 [n.val,.slice none 0 0,.int .i64 len,.int .i64 off] w (YbK B w0 H (newP n.net len off)):=by
 have p1:=λ{H':List HP}{w:World}(hin:n.In B w0 H') (hw:St B w0 H' w)=>Ju n hin hw
 have p2:=λ{H':List HP}{w:World}(hw:St B w0 H' w)=>YZ n.nodes [] (Tc _) (A:=none) (cap:=0) Rd.nil hw
 have hop:∀w,St B w0 [many H] w->St B w0 H w:=λw hw=>hw.perm (.openT H)
 have hinM:∀{H':List HP},many H∈H'->n.In B w0 H':=λhm=>hin.mono λw hw=>hw.inM hm
 unfold newP
 by_cases hck:Ym n.net=0
 rotate_left
 ·rw[Tm hck]
  rw[Tj hck]at p1
  refine Yc Tryz.func30 Tryz.ntmps30 rfl rfl hw ?_
  unfold NetM.val at p1⊢
  refine YW [many H] (λw hw=>hw.perm (.closeT H)) ?_
  repeat'(first|(apply zg23;first|(refine zs52 ?_;intro _)|(refine zs53 ?_;intro _))|refine zgb ?_|(refine zgh ?_;intro _)|fail)
  first|apply Ya en39|apply Yb en39
  exact za
  exact rfl
  exactλ_ hw=>(p1 (hinM zm) hw)
  repeat'(first|refine zgd ?_|fail)
  apply Yp T (H2:=H);(iterate 3 exact rfl);exact zm;exact rfl;exact rfl
  ·intro w hw
   have h5:St B w0 [many H] w:=by
    revert w
    exact zk
   exact hop w h5
  exact .inl ⟨rfl,rfl,rfl⟩
 rw[Tf (λe=>e hck)]
 by_cases hr:len<1\/512<len\/off<1\/16<off
 rotate_left
 ·rw[Tf hr]
  exact YoW n hck len off (by omega) ht hin hw
 rw[Tm hr]
 rw[Ti hck]at p1
 rw[show YA n.nodes []=(-1,0) from JK hck]at p2
 refine Yc Tryz.func30 Tryz.ntmps30 rfl rfl hw ?_
 unfold NetM.val at p1⊢
 refine YW [many H] (λw hw=>hw.perm (.closeT H)) ?_
 repeat'(first|((first|apply Ya en39|apply Yb en39);exact za;exact rfl;exactλ_ hw=>(p1 (hinM zm) hw))|((first|apply Ya en78|apply Yb en78);exact za;exact rfl;exactλ_ hw=>(p2 hw))|(apply zg23;first|(refine zs52 ?_;intro _)|(refine zs53 ?_;intro _))|refine zgd ?_|(refine zgf ?_ ?_<;>intro _<;>try exact zo)|(refine zgh ?_;intro _)|fail)
 all_goals try exact zo
 all_goals(
  apply Yp T (H2:=H);(iterate 3 exact rfl);exact zm;exact rfl;exact rfl
  ·intro w hw
   have h5:St B w0 [many H] w:=by
    revert w
    exact zk
   exact hop w h5
  exact .inl ⟨rfl,rfl,rfl⟩)
def newG(n:Net)(len off:Int):Option Gwy×Int:=
 match newP n len off with
 |(some p,_)=>(some ⟨p,[],[]⟩,0)
 |(none,e)=>(none,e)
theorem UX(n:Net)(len off:Int):(∃p,newP n len off=(some p,0))\/∃e,newP n len off=(none,e)/\e≠0:=by
 unfold newP
 split
 ·exact .inr ⟨_,rfl,by decide⟩
 split
 ·exact .inr ⟨_,rfl,by decide⟩
 ·exact .inl ⟨_,rfl⟩
theorem Ye3(n:NetM)(len off:Int)(ht:TabsB B w0)(hin:n.In B w0 H)(hw:St B w0 H w):
 CX B w0 20 [n.val,.int .i64 len,.int .i64 off] w (Qd B w0 H (newG n.net len off)):=by
 refine Yc Tryz.func20 Tryz.ntmps20 rfl rfl hw ?_
 have hop:∀w,St B w0 [many H] w->St B w0 H w:=λw hw=>hw.perm (.openT H)
 have hinM:∀{H':List HP},many H∈H'->n.In B w0 H':=λhm=>hin.mono λw hw=>hw.inM hm
 have p1:=λ{H':List HP}{w:World}(hin:n.In B w0 H') (hw:St B w0 H' w)=>YoV n len off ht hin hw
 unfold YbK PnM.val NetM.val at p1
 unfold NetM.val newG
 refine YW [many H] (λw hw=>hw.perm (.closeT H)) ?_
 rcases UX n.net len off with⟨P,hP⟩|⟨e,hP,he⟩
 ·rw[hP]at p1⊢
  dsimp only at p1⊢
  repeat'(first|refine zgb ?_|(refine zgh ?_;intro _)|fail)
  apply Yi _ en30
  exact za
  exact rfl
  exactλ_ hw=>(p1 (hinM zm) (hw))
  rintro _ _ (⟨h,-⟩|⟨p,X,hp,rfl,hpi,rfl⟩)
  ·cases h
  obtain rfl:P=p.pln:=Tz hp
  repeat'(first|(apply Ye T;exact rfl;exact zm;exact rfl;exact zv;exact rfl;exact rfl)|refine zgd ?_|(refine zge ?_ ?_<;>intro _<;>try exact zo)|(refine zgh ?_;intro _)|fail)
  apply Yp T (H2:=many X::H);(iterate 3 exact rfl);exact zm;exact rfl;exact rfl
  ·intro w hw
   have h5:St B w0 (many X::[many H]) w:=by
    revert w
    exact zk
   exact h5.perm (.cons _ (.openT H))
  exact .inr ⟨⟨p,none,0,[],none,0,[]⟩,X,rfl,rfl,⟨hpi,Rd.nil,Rd.nil,Tc _,Tc _,Tc _,Tc _⟩,rfl⟩
 ·rw[hP]at p1⊢
  dsimp only at p1⊢
  repeat'(first|refine zgb ?_|(refine zgh ?_;intro _)|fail)
  apply Yi _ en30
  exact za
  exact rfl
  exactλ_ hw=>(p1 (hinM zm) (hw))
  rintro _ _ (⟨-,rfl,rfl⟩|⟨p,X,h,-⟩)
  rotate_left
  ·cases h
  unfold zeroPnV
  repeat'(first|(apply Ye T;exact rfl;exact zm;exact rfl;exact zv;exact rfl;exact rfl)|refine zgd ?_|(refine zge ?_ ?_<;>intro _<;>try exact zo)|(refine zgh ?_;intro _)|fail)
  apply Yp T (H2:=H);(iterate 3 exact rfl);exact zm;exact rfl;exact rfl
  ·intro w hw
   have h5:St B w0 [many H] w:=by
    revert w
    exact zk
   exact hop w h5
  exact .inl ⟨rfl,rfl,rfl⟩
end Go.Proofs.YtjlgijpmnfabcaaGreatDoor
