/- Lemmas. -/
import Derived.Test.YtjommdkgfbhbdaaGreatDoorQ11
import Derived.Test.YtjommdkgfbhbdaaGreatDoorQ12
set_option maxRecDepth 100000
set_option maxHeartbeats 8000000
set_option linter.all false
namespace Go.Proofs.YtjommdkgfbhbdaaGreatDoor
open Go.RowKit Go.Eng Go.Nw Go.Rt
variable {B:Nat}{w0 w:World}{H:List HP}
theorem ClM.In.here{c:ClM}(h:c.In B w0 H)(hw:St B w0 H w):c.In w.heap.size w []:=
 ⟨h.rt.here hw,λr hr=>(h.rw_ r hr).here hw,h.bd.here hw,h.ws.here hw,h.st.here hw,λr hr=>(h.sw r hr).here hw,h.ln,h.rl,h.sl⟩
theorem CIn.here{c:List ClM}{A:Option Addr}(h:CIn B w0 H A c)(hw:St B w0 H w):CIn w.heap.size w [] A c:=⟨h.rd.here hw,λx hx=>(h.x x hx).here hw,h.ln⟩
variable {B:Nat}{w0 w:World}{H:List HP}
theorem Ybo(c d:ClM)(hc:c.In B w0 H)(hd:d.In B w0 H)(hw:St B w0 H w):
 CX B w0 145 [clV c,clV d] w λu K=>u=.bool (decide (c.clm=d.clm))/\K=H:=by
 refine Ya Tryz.func145 Tryz.ntmps145 rfl rfl hw ?_
 have hcl:=hc.ln
 have hdl:=hd.ln
 have p1:=λ{H':List HP}{w:World}(hc:c.In B w0 H') (hd:d.In B w0 H') (hw:St B w0 H' w)=>Wo c.rs d.rs (cap:=c.rcap) (cap2:=d.rcap) hcl.1 hdl.1 hc.rl hd.rl hc.rt hd.rt hc.rw_ hd.rw_ hw
 have p2:=λ{H':List HP}{w:World}(hc:c.In B w0 H') (hd:d.In B w0 H') (hw:St B w0 H' w)=>ZI c.bs d.bs (cap:=c.bcap) (cap2:=d.bcap) (by omega) (by omega) hc.bd hd.bd hw
 have p3:=λ{H':List HP}{w:World}(hc:c.In B w0 H') (hd:d.In B w0 H') (hw:St B w0 H' w)=>ZI c.ws d.ws (cap:=c.wcap) (cap2:=d.wcap) (by omega) (by omega) hc.ws hd.ws hw
 have hce:=@YoG c d
 unfold clV
 by_cases h1:c.flow=d.flow
 rotate_left
 ·rw[Tn (λh=>h1 (hce.1 h).1)]
  repeat'(first|refine zgc ?_|(refine zge ?_ ?_<;>intro _<;>try exact zo)|(refine zgh ?_;intro _)|fail)
  apply Yf H
  ·exact zc0
  exact zc3
 by_cases h2:c.rs.map (·.xs)=d.rs.map (·.xs)
 rotate_left
 ·rw[Tn (λh=>h2 (hce.1 h).2.1)]
  rw[Tn h2]at p1
  repeat'(first|refine zgc ?_|(refine zge ?_ ?_<;>intro _<;>try exact zo)|(refine zgh ?_;intro _)|fail)
  apply Yb YeF
  exact za
  exact rfl
  exactλ_ hw=>(p1 (hc.mono zc0) (hd.mono zc0) hw)
  repeat'(first|refine zgd ?_|fail)
  apply Yf H
  ·exact zc0
  exact zc3
 rw[Ti h2]at p1
 by_cases h3:c.bs=d.bs
 rotate_left
 ·rw[Tn (λh=>h3 (hce.1 h).2.2.1)]
  rw[Tn h3]at p2
  repeat'(first|refine zgc ?_|(refine zge ?_ ?_<;>intro _<;>try exact zo)|(refine zgh ?_;intro _)|fail)
  apply Yb YeF
  exact za
  exact rfl
  exactλ_ hw=>(p1 (hc.mono zc0) (hd.mono zc0) hw)
  repeat'(first|refine zgd ?_|fail)
  apply Yb VI
  exact za
  exact rfl
  exactλ_ hw=>(p2 (hc.mono zc0) (hd.mono zc0) hw)
  repeat'(first|refine zgd ?_|fail)
  apply Yf H
  ·exact zc0
  exact zc3
 rw[Ti h3]at p2
 by_cases h4:c.ws=d.ws
 rotate_left
 ·rw[Tn (λh=>h4 (hce.1 h).2.2.2.1)]
  rw[Tn h4]at p3
  repeat'(first|refine zgc ?_|(refine zge ?_ ?_<;>intro _<;>try exact zo)|(refine zgh ?_;intro _)|fail)
  apply Yb YeF
  exact za
  exact rfl
  exactλ_ hw=>(p1 (hc.mono zc0) (hd.mono zc0) hw)
  repeat'(first|refine zgd ?_|fail)
  apply Yb VI
  exact za
  exact rfl
  exactλ_ hw=>(p2 (hc.mono zc0) (hd.mono zc0) hw)
  repeat'(first|refine zgd ?_|fail)
  apply Yb VI
  exact za
  exact rfl
  exactλ_ hw=>(p3 (hc.mono zc0) (hd.mono zc0) hw)
  repeat'(first|refine zgd ?_|fail)
  apply Yf H
  ·exact zc0
  exact zc3
 rw[Ti h4]at p3
 have h5:decide (c.clm=d.clm)=decide (c.ss.map (·.xs)=d.ss.map (·.xs)):=decide_eq_decide.2 ⟨λh=>(hce.1 h).2.2.2.2,λh=>hce.2 ⟨h1,h2,h3,h4,h⟩⟩
 rw[h5]
 by_cases h6:c.ss.length=d.ss.length
 rotate_left
 ·rw[Tn (λe=>h6 (by have:=TA List.length e;rwa [Tu,Tu]at this))]
  repeat'(first|refine zgc ?_|(refine zge ?_ ?_<;>intro _<;>try exact zo)|(refine zgh ?_;intro _)|fail)
  apply Yb YeF
  exact za
  exact rfl
  exactλ_ hw=>(p1 (hc.mono zc0) (hd.mono zc0) hw)
  repeat'(first|refine zgd ?_|fail)
  apply Yb VI
  exact za
  exact rfl
  exactλ_ hw=>(p2 (hc.mono zc0) (hd.mono zc0) hw)
  repeat'(first|refine zgd ?_|fail)
  apply Yb VI
  exact za
  exact rfl
  exactλ_ hw=>(p3 (hc.mono zc0) (hd.mono zc0) hw)
  repeat'(first|refine zgd ?_|(refine zge ?_ ?_<;>intro _<;>try exact zo)|fail)
  apply Yf H
  ·exact zc0
  exact zc3
 repeat'(first|refine zgc ?_|(refine zge ?_ ?_<;>intro _<;>try exact zo)|(refine zgh ?_;intro _)|fail)
 apply Yb YeF
 exact za
 exact rfl
 exactλ_ hw=>(p1 (hc.mono zc0) (hd.mono zc0) hw)
 repeat'(first|refine zgd ?_|fail)
 apply Yb VI
 exact za
 exact rfl
 exactλ_ hw=>(p2 (hc.mono zc0) (hd.mono zc0) hw)
 repeat'(first|refine zgd ?_|fail)
 apply Yb VI
 exact za
 exact rfl
 exactλ_ hw=>(p3 (hc.mono zc0) (hd.mono zc0) hw)
 repeat'(first|refine zgd ?_|(refine zge ?_ ?_<;>intro _<;>try exact zo)|fail)
 rename_i g2 g3 _ _
 refine Ye (λk:Nat=>[(5,.int .i64 (k:Nat)),(3,.pointer (some ⟨g3,0,none⟩)),(2,.pointer (some ⟨g2,0,none⟩))]) (λ_=>clA g3 d::clA g2 c::H) (λk=>k<=c.ss.length/\(c.ss.take k).map (·.xs)=(d.ss.take k).map (·.xs)) (λk=>c.ss.length-k) 0 ⟨Td _,by simp⟩ ?_ (λw hw=>hw) ?_
 ·exact zc1
 rintro k ⟨hk,hz⟩ K hK
 have hcs:Rd B w0 (clA g3 d::clA g2 c::H) c.sA (c.ss.flatMap rowF):=hc.st.cons.cons
 have hds:Rd B w0 (clA g3 d::clA g2 c::H) d.sA (d.ss.flatMap rowF):=hd.st.cons.cons
 by_cases hlt:k<c.ss.length
 ·obtain⟨a,ha⟩:∃a,c.ss[k]? =some a:=⟨_,Ta hlt⟩
  obtain⟨b,hb⟩:∃b,d.ss[k]? =some b:=⟨_,Ta (by omega)⟩
  have ham:=Tc ha
  have hbm:=Tc hb
  have p4:=λ{H':List HP}{w:World}(hc:c.In B w0 H') (hd:d.In B w0 H') (hw:St B w0 H' w)=>ZI a.xs b.xs (cap:=a.cap) (cap2:=b.cap) (hc.sl a ham) (hd.sl b hbm) (hc.sw a ham) (hd.sw b hbm) hw
  by_cases he:a.xs=b.xs
  ·rw[Ti he]at p4
   repeat'(first|refine zgb ?_|(refine zge ?_ ?_<;>intro _<;>try exact zo)|fail)
   apply Y8 [0,1,2,3,4,5,6,7,8,9,10,11] []
   kernel_rfl
   kernel_rfl
   (simp only[Yd,nthO];rfl)
   exact rfl
   repeat'(first|refine zgd ?_|fail)
   apply Yb VI
   exact za
   exact rfl
   exactλ_ hw=>(p4 (hc.mono zc0) (hd.mono zc0) hw)
   repeat'(first|(apply Yh;(repeat(first|with_reducible exact Y7|(with_reducible apply Y0;(repeat(first|with_reducible exact YB|with_reducible apply YR))))))|refine zgd ?_|fail)
   ·show Perm H (H++[])
    exact zc37
   repeat'(first|fail)
   apply hK (k+1)
   ·exact Yuh
   ·omega
   ·exact zc1
   exact zc18
  ·rw[Tn he]at p4
   have hne:¬(c.ss.map (·.xs)=d.ss.map (·.xs)):=λe=>by
    have h1:(c.ss.map (·.xs))[k]? =(d.ss.map (·.xs))[k]? :=by rw[e]
    exact Yuv
   rw[Tn hne]
   clear hK
   repeat'(first|refine zgb ?_|(refine zge ?_ ?_<;>intro _<;>try exact zo)|fail)
   apply Y8 [0,1,2,3,4,5,6,7,8,9,10,11] []
   kernel_rfl
   kernel_rfl
   (simp only[Yd,nthO];rfl)
   exact rfl
   repeat'(first|refine zgd ?_|fail)
   apply Yb VI
   exact za
   exact rfl
   exactλ_ hw=>(p4 (hc.mono zc0) (hd.mono zc0) hw)
   repeat'(first|(apply Yh;(repeat(first|with_reducible exact Y7|(with_reducible apply Y0;(repeat(first|with_reducible exact YB|with_reducible apply YR))))))|refine zgd ?_|fail)
   ·show Perm H (H++[])
    exact zc37
   repeat'(first|fail)
   apply Yf H
   ·exact zc0
   exact zc3
 ·rw[TE (by omega),TE (by omega)]at hz
  rw[Ti hz]
  clear hK
  repeat'(first|refine zgc ?_|(refine zge ?_ ?_<;>intro _<;>try exact zo)|fail)
  apply Yf H
  ·exact zc0
  exact zc3
theorem WZ(c d:List ClM){A A2:Option Addr}{cap cap2:Nat}(hc:CIn B w0 H A c)(hd:CIn B w0 H A2 d)(hw:St B w0 H w):
 CX B w0 58 [.slice A c.length cap,.slice A2 d.length cap2] w λu K=>u=.bool (decide (c.map ClM.clm=d.map ClM.clm))/\K=H:=by
 refine Ya Tryz.func58 Tryz.ntmps58 rfl rfl hw ?_
 have hcl:=hc.ln
 have hdl:=hd.ln
 have hcr:=hc.rd
 have hdr:=hd.rd
 by_cases h6:c.length=d.length
 rotate_left
 ·rw[Tn (λe=>h6 (by have:=TA List.length e;grind))]
  repeat'(first|refine zgb ?_|(refine zge ?_ ?_<;>intro _<;>try exact zo)|fail)
  exact zc9
 repeat'(first|refine zgb ?_|(refine zge ?_ ?_<;>intro _<;>try exact zo)|fail)
 refine Ye (λk:Nat=>[(5,.int .i64 (k:Nat)),(0,.slice A c.length cap),(1,.slice A2 d.length cap2)]) (λ_=>H) (λk=>k<=c.length/\(c.take k).map ClM.clm=(d.take k).map ClM.clm) (λk=>c.length-k) 0 ⟨Td _,by simp⟩ ?_ (λw hw=>hw) ?_
 ·exact zc1
 rintro k ⟨hk,hz⟩ K hK
 by_cases hlt:k<c.length
 ·obtain⟨a,ha⟩:∃a,c[k]? =some a:=⟨_,Ta hlt⟩
  obtain⟨b,hb⟩:∃b,d[k]? =some b:=⟨_,Ta (by omega)⟩
  have hax:=hc.x a (Tc ha)
  have hbx:=hd.x b (Tc hb)
  have p2:=λ{H':List HP}{w:World}(hx:a.In B w0 H') (hy:b.In B w0 H') (hw:St B w0 H' w)=>Ybo a b hx hy hw
  by_cases he:a.clm=b.clm
  ·rw[Ti he]at p2
   repeat'(first|refine zgb ?_|(refine zge ?_ ?_<;>intro _<;>try exact zo)|fail)
   apply Y8 [0,1,2,3,4,5,6,7,8,9] []
   kernel_rfl
   kernel_rfl
   (simp only[Yd,nthO];rfl)
   exact rfl
   repeat'(first|refine zgd ?_|fail)
   apply Yb YsK
   exact za
   exact rfl
   exactλ_ hw=>(p2 hax hbx hw)
   repeat'(first|(apply Yh;(repeat(first|with_reducible exact Y7|(with_reducible apply Y0;(repeat(first|with_reducible exact YB|with_reducible apply YR))))))|refine zgd ?_|fail)
   ·show Perm H (H++[])
    exact zc37
   repeat'(first|fail)
   apply hK (k+1)
   ·exact Yuh
   ·omega
   ·exact zc1
   exact zc18
  ·rw[Tn he]at p2
   have hne:¬(c.map ClM.clm=d.map ClM.clm):=λe=>by
    have h1:(c.map ClM.clm)[k]? =(d.map ClM.clm)[k]? :=by rw[e]
    exact Yuv
   rw[Tn hne]
   clear hK
   repeat'(first|refine zgb ?_|(refine zge ?_ ?_<;>intro _<;>try exact zo)|fail)
   apply Y8 [0,1,2,3,4,5,6,7,8,9] []
   kernel_rfl
   kernel_rfl
   (simp only[Yd,nthO];rfl)
   exact rfl
   repeat'(first|refine zgd ?_|fail)
   apply Yb YsK
   exact za
   exact rfl
   exactλ_ hw=>(p2 hax hbx hw)
   repeat'(first|(apply Yh;(repeat(first|with_reducible exact Y7|(with_reducible apply Y0;(repeat(first|with_reducible exact YB|with_reducible apply YR))))))|refine zgd ?_|fail)
   ·show Perm H (H++[])
    exact zc37
   repeat'(first|fail)
   exact zc3
 ·rw[TE (by omega),TE (by omega)]at hz
  rw[Ti hz]
  repeat'(first|refine zgc ?_|(refine zge ?_ ?_<;>intro _<;>try exact zo)|fail)
  exact zc3
end Go.Proofs.YtjommdkgfbhbdaaGreatDoor
namespace Go.Eng
open Go.RowKit
section
variable {P:Program}{B:Nat}{w0:World}{Q:Exit->Act->World->Prop}{env:Env}{H:List HP}{m:Mode}{n:Shp}{ops:Array Oper}{rest:List Oper}{d:Nat}{ty:TypeId}{pos:String}{after:Array Edge}
theorem Yn8{tx:Array TypeId}{x y:Operand}{a b:Int}{k k':IntKind}(hx:evo env x=some (.int k a))(hy:evo env y=some (.int k' b))(hn:Nat.ble (d+1) n.k=true)(h:VL P m n B w0 ops Q rest ((d,.int k (if b<a then b else a))::env) H):
 VL P m n B w0 ops Q (⟨some d,.call ⟨.builtin .min,#[x,y],tx⟩,ty,pos,after,none⟩::rest) env H:=
 YO rfl rfl hn rfl (λf w ha _=>by simp[execOp,resolve,invoke,builtin,ha.eval hx,ha.eval hy,run_min_int2]) h
end
end Go.Eng
namespace Go.Proofs.YtjommdkgfbhbdaaGreatDoor
open Go.RowKit Go.Eng Go.Nw Go.Rt
def Jd(id:Int)(x:Clm):Bool:=decide (x.flow=id)&&decide (0<x.bounds.length)
variable {B cap:Nat}{w0 w:World}{H:List HP}
theorem YfS(x:ClM)(id:Int)(g:Nat)(hl:x.bs.length<=1000000000000)(hm:blk g (.cells #[.int .i64 id] 3 (0,0))∈H)(hw:St B w0 H w):
 CX B w0 205 [clV x,.pointer (some ⟨g,0,none⟩)] w λv K=>v=.bool (Jd id x.clm)/\K=H:=by
 refine Ya Tryz.func205 Tryz.ntmps205 rfl rfl hw ?_
 have e1:Jd id x.clm=(decide (x.flow=id)&&decide (0<x.bs.length)):=rfl
 unfold clV
 by_cases h1:x.flow=id
 ·by_cases h2:0<x.bs.length
  ·rw[e1,Ti h1,Ti h2]
   repeat'(first|apply(zs1 ?_)|apply(zs2 ?_)|(apply zg1;refine zs4 ?_)|(apply zg2;refine zs6 ?_)|(apply zg3;refine zs7 ?_)|(apply zg4;refine zs9 ?_)|(apply zg6;refine zs11 ?_)|(apply zg7;(refine zs15 ?_ ?_<;>intro _<;>try exact zo))|(apply(zs19 ?_ ?_)<;>intro _<;>try exact zo)|(apply zg23;(refine zs52 ?_;intro _))|apply(zs65 ?_)|apply(zs68 ?_)|apply(zs69 ?_)|apply(zs70 ?_)|apply(zs74 ?_)|fail)
   apply Yf H
   ·exact zk
   apply Yc;exact rfl;exact rfl;exact⟨rfl,rfl⟩
  ·rw[e1,Ti h1,Tn h2]
   repeat'(first|apply(zs1 ?_)|apply(zs2 ?_)|(apply zg1;refine zs4 ?_)|(apply zg2;refine zs6 ?_)|(apply zg3;refine zs7 ?_)|(apply zg4;refine zs9 ?_)|(apply zg6;refine zs11 ?_)|(apply zg7;(refine zs15 ?_ ?_<;>intro _<;>try exact zo))|(apply(zs19 ?_ ?_)<;>intro _<;>try exact zo)|(apply zg23;(refine zs52 ?_;intro _))|apply(zs65 ?_)|apply(zs68 ?_)|apply(zs69 ?_)|apply(zs70 ?_)|apply(zs74 ?_)|fail)
   apply Yf H
   ·exact zk
   apply Yc;exact rfl;exact rfl;exact⟨rfl,rfl⟩
 ·rw[e1,Tn h1]
  repeat'(first|apply(zs1 ?_)|apply(zs2 ?_)|(apply zg1;refine zs3 ?_)|(apply zg2;refine zs6 ?_)|(apply zg3;refine zs7 ?_)|(apply zg6;refine zs12 ?_)|(apply zg7;(refine zs15 ?_ ?_<;>intro _<;>try exact zo))|(apply zg23;(refine zs52 ?_;intro _))|apply(zs65 ?_)|apply(zs68 ?_)|apply(zs69 ?_)|apply(zs70 ?_)|apply(zs74 ?_)|fail)
  apply Yf H
  ·exact zk
  apply Yc;exact rfl;exact rfl;exact⟨rfl,rfl⟩
def idxC(P:Clm->Bool)(c:List Clm):Int:=match c.findIdx? P with|none=> -1|some i=>(i:Nat)
variable {P:Clm->Bool}{c:List Clm}
theorem YeT(h:∀x∈c,P x=false):idxC P c= -1:=by
 have:c.findIdx? P=none:=by rw[List.findIdx?_eq_none_iff];exact h
 unfold idxC;rw[this]
theorem Of{i:Nat}{x:Clm}(h0:∀y∈c.take i,P y=false)(hx:c[i]? =some x)(hp:P x=true):idxC P c=(i:Nat)/\c.find? P=some x:=by
 have hc:c=c.take i++(x::c.drop (i+1)):=by
  have hi:=(Tj.1 hx)
  obtain⟨hi,e⟩:=hi
  rw[<-e,Na,Rw]
 have hl:(c.take i).length=i:=by
  have hi:=(Tj.1 hx).1
  rw[TO];omega
 have h1:c.findIdx? P=some i:=by
  rw[hc,List.findIdx?_append]
  have:(c.take i).findIdx? P=none:=by rw[List.findIdx?_eq_none_iff];exact h0
  rw[this]
  simp[List.findIdx?_cons,hp,hl]
 refine⟨by unfold idxC;rw[h1],?_⟩
 rw[hc,List.find?_append]
 have:(c.take i).find? P=none:=by rw[List.find?_eq_none];exactλy hy=>by rw[h0 y hy];decide
 rw[this]
 simp[hp]
variable {A:Option Addr}
theorem Yhl(c:List ClM)(id:Int)(g:Nat)(hc:CIn B w0 H A c)(hm:blk g (.cells #[.int .i64 id] 3 (0,0))∈H)(hw:St B w0 H w):
 CX B w0 204 [.slice A c.length cap,.func (.func 205) #[] #[.pointer (some ⟨g,0,none⟩)]] w λv K=>v=.int .i64 (idxC (Jd id) (c.map ClM.clm))/\K=H:=by
 refine Ya Tryz.func204 Tryz.ntmps204 rfl rfl hw ?_
 have hcl:=hc.ln
 have hcr:=hc.rd
 repeat'(first|apply(zs1 ?_)|apply(zs2 ?_)|(apply zg4;refine zs9 ?_)|apply(zs65 ?_)|apply(zs68 ?_)|apply(zs69 ?_)|apply(zs70 ?_)|apply(zs73 ?_)|fail)
 refine Ye (λk:Nat=>[(8,.int .i64 (k:Nat)),(7,.int .i64 c.length),(6,.slice A c.length cap),(0,.slice A c.length cap),(1,.func (.func 205) #[] #[.pointer (some ⟨g,0,none⟩)])]) (λ_=>H) (λk=>k<=c.length/\∀y∈(c.map ClM.clm).take k,Jd id y=false) (λk=>c.length-k) 0 ⟨Td _,by simp⟩ ?_ (λw hw=>hw) ?_
 ·exact zu
 rintro k ⟨hk,hz⟩ K hK
 by_cases hlt:k<c.length
 ·obtain⟨x,hx⟩:∃x,c[k]? =some x:=⟨_,Ta hlt⟩
  have hxm:(c.map ClM.clm)[k]? =some x.clm:=by rw[TU,hx];rfl
  have hxi:=hc.x x (Tc hx)
  have p1:=λ{w:World}(hw:St B w0 H w)=>YfS x id g hxi.ln.2.1 hm hw
  cases hb:Jd id x.clm with
  |true=>
   rw[hb]at p1
   have hi:=(Of hz hxm hb).1
   rw[hi]
   clear hK
   repeat'(first|((apply Xr (cs:=[.pointer (some ⟨g,0,none⟩)]));exact rfl;exact Ys0;exact za;exact rfl;exactλ_ hw=>(p1 hw))|apply(zs1 ?_)|apply(zs2 ?_)|(apply zg3;refine zs61 ?_)|(apply zg5;refine zs57 ?_)|(apply(zs17 ?_ ?_)<;>intro _<;>try exact zo)|apply(zs65 ?_)|apply(zs68 ?_)|apply(zs69 ?_)|apply(zs70 ?_)|(apply zg27;refine zs71 ?_)|apply(zs73 ?_)|apply(zs74 ?_)|apply(zs76 ?_)|apply(zs77 ?_)|apply(zs78 ?_)|fail)
   apply Yc;exact rfl;exact rfl;exact⟨rfl,rfl⟩
  |false=>
   rw[hb]at p1
   repeat'(first|((apply Xr (cs:=[.pointer (some ⟨g,0,none⟩)]));exact rfl;exact Ys0;exact za;exact rfl;exactλ_ hw=>(p1 hw))|apply(zs1 ?_)|apply(zs2 ?_)|(apply zg3;refine zs61 ?_)|(apply zg5;refine zs57 ?_)|(apply(zs17 ?_ ?_)<;>intro _<;>try exact zo)|(apply zg13;refine zs30 ?_)|apply(zs65 ?_)|apply(zs68 ?_)|apply(zs69 ?_)|apply(zs70 ?_)|(apply zg27;first|refine zs71 ?_|refine zs72 ?_)|apply(zs73 ?_)|apply(zs76 ?_)|apply(zs79 ?_)|fail)
   apply hK (k+1)
   ·exact⟨by omega,λy hy=>by
     rw[TD,hxm,Rx]at hy
     rcases T9.1 hy with h|h
     ·exact hz y h
     ·rw[Ry.1 h];exact hb⟩
   ·omega
   ·exact zu
   ·exactλw hw=>hw
 ·rw[TE (by rw[Tu];omega)]at hz
  rw[YeT hz]
  repeat'(first|apply(zs2 ?_)|(apply(zs17 ?_ ?_)<;>intro _<;>try exact zo)|apply(zs65 ?_)|apply(zs68 ?_)|apply(zs69 ?_)|apply(zs70 ?_)|(apply zg27;refine zs72 ?_)|apply(zs74 ?_)|apply(zs75 ?_)|apply(zs80 ?_)|apply(zs81 ?_)|fail)
  apply Yc;exact rfl;exact rfl;exact⟨rfl,rfl⟩
theorem Yim{l:List Int}{k:Nat}{y:Int}(h0:1<=k)(h:l[k]? =some y):minI (l.take (k+1))=if y<minI (l.take k)then y else minI (l.take k):=by
 rw[TD,h,Rx]
 cases l with
 |nil=>cases h
 |cons a l=>
  obtain⟨k,rfl⟩:∃j,k=j+1:=⟨k-1,by omega⟩
  rw[List.take_succ_cons]
  show List.foldl (λx y=>if y<x then y else x) a (l.take k++[y])=_
  rw[List.foldl_append]
  rfl
theorem YnC(l:List Int)(hlen:l.length<=1000000000000)(h0:1<=l.length)(hr:Rd B w0 H A (l.flatMap numF))(hw:St B w0 H w):
 CX B w0 206 [.slice A l.length cap] w λv K=>v=.int .i64 (minI l)/\K=H:=by
 refine Ya Tryz.func206 Tryz.ntmps206 rfl rfl hw ?_
 obtain⟨a,ha⟩:∃a,l[0]? =some a:=⟨_,Ta (by omega)⟩
 have ha2:l[(0:Int).toNat]? =some a:=ha
 have hm1:minI (l.take 1)=a:=by
  cases l with
  |nil=>cases ha
  |cons b l=>exact Tz ha
 repeat'(first|apply(zs1 ?_)|apply(zs2 ?_)|(apply zg3;refine zs60 ?_)|(apply zg4;refine zs9 ?_)|(apply zg5;refine zs57 ?_)|(apply(zs17 ?_ ?_)<;>intro _<;>try exact zo)|apply(zs65 ?_)|apply(zs68 ?_)|apply(zs69 ?_)|apply(zs70 ?_)|(apply zg27;refine zs72 ?_)|apply(zs73 ?_)|apply(zs76 ?_)|fail)
 refine Ye (λk:Nat=>[(4,.int .i64 (k:Nat)),(3,.int .i64 (minI (l.take k))),(0,.slice A l.length cap)]) (λ_=>H) (λk=>1<=k/\k<=l.length) (λk=>l.length-k) 1 ⟨TS _,h0⟩ ?_ (λw hw=>hw) ?_
 ·rw[hm1]
  exact zu
 rintro k ⟨hk1,hk⟩ K hK
 by_cases hlt:k<l.length
 ·obtain⟨y,hy⟩:∃y,l[k]? =some y:=⟨_,Ta hlt⟩
  repeat'(first|(apply Yn8;(iterate 3 exact rfl))|apply(zs1 ?_)|apply(zs2 ?_)|(apply zg3;refine zs60 ?_)|(apply zg4;refine zs9 ?_)|(apply zg5;refine zs57 ?_)|(apply(zs17 ?_ ?_)<;>intro _<;>try exact zo)|(apply zg13;refine zs30 ?_)|apply(zs65 ?_)|apply(zs68 ?_)|apply(zs69 ?_)|apply(zs70 ?_)|(apply zg27;refine zs71 ?_)|apply(zs73 ?_)|apply(zs76 ?_)|apply(zs79 ?_)|fail)
  apply hK (k+1)
  ·exact⟨by omega,by omega⟩
  ·omega
  ·rw[Yim hk1 hy]
   exact zu
  ·exactλw hw=>hw
 ·rw[show l.take k=l from TE (by omega)]
  repeat'(first|apply(zs1 ?_)|apply(zs2 ?_)|(apply zg4;refine zs9 ?_)|(apply(zs17 ?_ ?_)<;>intro _<;>try exact zo)|apply(zs65 ?_)|apply(zs68 ?_)|apply(zs69 ?_)|apply(zs70 ?_)|(apply zg27;refine zs72 ?_)|apply(zs74 ?_)|apply(zs75 ?_)|apply(zs80 ?_)|apply(zs81 ?_)|fail)
  apply Yc;exact rfl;exact rfl;exact⟨rfl,rfl⟩
theorem Yhg(c:List ClM)(id:Int)(hc:CIn B w0 H A c)(hw:St B w0 H w):
 CX B w0 114 [.slice A c.length cap,.int .i64 id] w λv K=>v=.tuple #[.int .i64 (bndE (c.map ClM.clm) id).1,.bool (bndE (c.map ClM.clm) id).2]/\K=H:=by
 refine Ya Tryz.func114 Tryz.ntmps114 rfl rfl hw ?_
 have hcl:=hc.ln
 have hcr:=hc.rd
 repeat'(first|apply(zs1 ?_)|apply(zs2 ?_)|(apply zg23;(refine zs53 ?_;intro _))|apply(zs65 ?_)|apply(zs68 ?_)|apply(zs69 ?_)|apply(zs70 ?_)|(apply zg29;(apply Yu;exact za;exact rfl))|fail)
 rename_i g
 have p1:=λ{H':List HP}{w:World}(hc:CIn B w0 H' A c) (hm:blk g (.cells #[.int .i64 id] 3 (0,0))∈H') (hw:St B w0 H' w)=>Yhl c id g (cap:=cap) hc hm hw
 by_cases hex:∃i x,(c.map ClM.clm)[i]? =some x/\Jd id x=true/\∀y∈(c.map ClM.clm).take i,Jd id y=false
 ·obtain⟨i,x,hx,hb,hz⟩:=hex
  obtain⟨h1,h2⟩:=Of hz hx hb
  have hbe:bndE (c.map ClM.clm) id=(minI x.bounds,true):=by
   unfold bndE
   rw[show(c.map ClM.clm).find? (λx=>decide (x.flow=id)&&decide (0<x.bounds.length))=some x from h2]
  rw[TU]at hx
  obtain⟨y,hy,rfl⟩:∃y,c[i]? =some y/\y.clm=x:=by
   cases hc0:c[i]? with
   |none=>rw[hc0]at hx;cases hx
   |some y=>rw[hc0]at hx;exact⟨y,rfl,Tz hx⟩
  have hyi:=hc.x y (Tc hy)
  have hi:=(Tj.1 hy).1
  have hpos:1<=y.bs.length:=by
   unfold Jd at hb
   rw[Tq,Tm,Tm]at hb
   exact hb.2
  rw[h1]at p1
  rw[hbe]
  have p2:=λ{H':List HP}{w:World}(hr:Rd B w0 H' y.bA (y.bs.flatMap numF)) (hw:St B w0 H' w)=>YnC y.bs hyi.ln.2.1 hpos (cap:=y.bcap) hr hw
  have hcr2:Rd B w0 (blk g (.cells #[.int .i64 id] 3 (0,0))::H) A (c.flatMap clF):=hcr.cons
  apply Yb YsZ
  exact za
  exact rfl
  exactλ_ hw=>(p1 hc.cons (.head _) hw)
  repeat'(first|apply(zs1 ?_)|apply(zs2 ?_)|(apply zg2;refine zs58 ?_)|(apply zg3;refine zs59 ?_)|(apply zg5;refine zs57 ?_)|(apply(zs17 ?_ ?_)<;>intro _<;>try exact zo)|apply(zs65 ?_)|apply(zs68 ?_)|apply(zs69 ?_)|apply(zs70 ?_)|(apply zg27;refine zs72 ?_)|apply(zs76 ?_)|fail)
  apply Yb YwF
  exact za
  exact rfl
  exactλ_ hw=>(p2 hyi.bd.cons hw)
  repeat'(first|apply(zs2 ?_)|apply(zs65 ?_)|apply(zs68 ?_)|apply(zs74 ?_)|fail)
  apply Yf H
  ·exact zk
  apply YJ;(iterate 3 exact rfl);exact⟨rfl,rfl⟩
 ·have hall:∀y∈c.map ClM.clm,Jd id y=false:=by
   intro y hy
   cases hb:Jd id y with
   |false=>rfl
   |true=>
    exfalso
    have hsm:((c.map ClM.clm).find? (Jd id)).isSome=true:=by
     rw[List.find?_isSome];exact⟨y,hy,hb⟩
    have hsi:((c.map ClM.clm).findIdx? (Jd id)).isSome=true:=by
     rw[List.findIdx?_isSome,TM];exact⟨y,hy,hb⟩
    obtain⟨i,hi⟩:=SZ.1 hsi
    rw[List.findIdx?_eq_some_iff_getElem]at hi
    obtain⟨hlt,hpi,hno⟩:=hi
    refine hex ⟨i,_,Ta hlt,hpi,λz hz=>?_⟩
    obtain⟨j,hj⟩:=TL.1 hz
    rw[RL]at hj
    split at hj
    ·rename_i hji
     obtain⟨hj1,hj2⟩:=Tj.1 hj
     have:=hno j hji
     rw[hj2]at this
     simpa using this
    ·cases hj
  have hbe:bndE (c.map ClM.clm) id=(0,false):=by
   unfold bndE
   have:(c.map ClM.clm).find? (Jd id)=none:=by rw[List.find?_eq_none];exactλy hy=>by rw[hall y hy];decide
   rw[show(c.map ClM.clm).find? (λx=>decide (x.flow=id)&&decide (0<x.bounds.length))=none from this]
  rw[YeT hall]at p1
  rw[hbe]
  apply Yb YsZ
  exact za
  exact rfl
  exactλ_ hw=>(p1 hc.cons (.head _) hw)
  repeat'(first|apply(zs1 ?_)|apply(zs2 ?_)|(apply(zs17 ?_ ?_)<;>intro _<;>try exact zo)|apply(zs65 ?_)|apply(zs68 ?_)|apply(zs69 ?_)|apply(zs70 ?_)|(apply zg27;refine zs71 ?_)|apply(zs74 ?_)|apply(zs77 ?_)|fail)
  apply Yf H
  ·exact zk
  apply YJ;(iterate 3 exact rfl);exact⟨rfl,rfl⟩
theorem Yhk{n:Net}{q:List Rqs}{s:Sch}(h:(YD n q s).2.2=0):chkE n q s (YD n q s).1=(-1,0):=by
 simp_all [chkE,Xn]
structure AttM where
 slot:Int
 frame:Int
 c:Cel
 o:Int
structure StM where
 frame:Int
 since:Int->Option Int
 acked:Int->Int->Option Int
 done:Bool
structure PlM where
 st:List StM
 atts:List AttM
 dels:List (Int×Int×Int)
def perF(f:Flw):Int:=f.2.2.2.1
def phaF(f:Flw):Int:=f.2.2.2.2.1
def dstF(f:Flw):Int:=f.2.2.1
def Yvm(f:Flw)(k:Int):Int:=phaF f+k*perF f
def newS(f:Flw)(n k:Int):StM:=⟨k,λv=>if v=f.2.1 then some n else none,λ_ _=>none,false⟩
def relS(f:Flw)(n:Int)(x:StM):StM:=if n<phaF f then x else if(n-phaF f)/perF f=x.frame then x else newS f n ((n-phaF f)/perF f)
def canT(f:Flw)(x:StM)(c:Cel)(n:Int):Prop:=0<=x.frame/\(∃a,x.since (YM c)=some a/\a<=n)/\YM c≠dstF f/\∀t,x.acked (YM c) (toC c)=some t->n<=t
def Yx3(f:Flw)(x:StM)(c:Cel)(n o:Int):StM:=
 ⟨x.frame,if o=3\/(x.since (toC c)).isSome then x.since elseλv=>if v=toC c then some (n+1)else x.since v,
  if o=1/\x.acked (YM c) (toC c)=none thenλu v=>if u=YM c/\v=toC c then some n else x.acked u v else x.acked,
  x.done||(decide (o≠3)&&decide (toC c=dstF f))⟩
def delS(f:Flw)(x:StM)(c:Cel)(n o:Int):List (Int×Int×Int):=if o≠3/\toC c=dstF f/\x.done=false then [(f.1,x.frame,n)]else []
def YvT:StM:=⟨-1,λ_=>none,λ_ _=>none,false⟩
inductive Pl (l:List Flw) (s:Sch):Int->Nat->PlM->Prop
 |start:Pl l s 0 0 ⟨l.map λ_=>YvT,[],[]⟩
 |rel {n:Int}{p:PlM}(st:List StM):Pl l s n 0 p->st.length=l.length->(∀(i:Nat) f x,l[i]? =some f->p.st[i]? =some x->st[i]? =some (relS f n x))->Pl l s n 1 ⟨st,p.atts,p.dels⟩
 |skip {n:Int}{j:Nat}{p:PlM}{c:Cel}:Pl l s n (j+1) p->(atE s n)[j]? =some c->(∀(i:Nat) f x,l[i]? =some f->p.st[i]? =some x->f.1=Y6 c->¬canT f x c n)->Pl l s n (j+2) p
 |att {n:Int}{j i:Nat}{p:PlM}{c:Cel}{f:Flw}{x:StM}(o:Int):Pl l s n (j+1) p->(atE s n)[j]? =some c->l[i]? =some f->p.st[i]? =some x->f.1=Y6 c->canT f x c n->
  Pl l s n (j+2) ⟨p.st.set i (Yx3 f x c n o),p.atts++[⟨n,x.frame,c,o⟩],p.dels++delS f x c n o⟩
 |next {n:Int}{p:PlM}(ds:List (Int×Int×Int)):Pl l s n ((atE s n).length+1) p->ds.Perm p.dels->Pl l s (n+1) 0 ⟨p.st,p.atts,ds⟩
def onK(id k u v:Int)(a:AttM):Bool:=decide (Y6 a.c=id/\a.frame=k/\YM a.c=u/\toC a.c=v)
def keyL(atts:List AttM)(id k u v:Int):List AttM:=atts.filter (onK id k u v)
def cntL(s:Sch)(q:Cel->Bool):Nat->Int->Nat
 |0,_=>0
 |m+1,a=>((atE s a).filter q).length+cntL s q m (a+1)
def YlC(s:Sch)(q:Cel->Bool)(b:Option Int)(a0 n:Int)(j:Nat):Nat:=
 match b with
 |some b=>cntL s q (b-1-a0).toNat a0
 |none=>cntL s q (n-a0).toNat a0+if a0<=n then(((atE s n).take j).filter q).length else 0
def Hop(s:Sch)(f:Flw)(k:Int)(atts:List AttM)(since:Int->Option Int)(n:Int)(j:Nat):Prop:=
 ∀u v a0,u≠dstF f->since u=some a0->∃K1,K1<+:keyL atts f.1 k u v/\(∀a∈K1,a.o=3)/\YlC s (onP f.1 u v) (since v) a0 n j<=K1.length
def Dlv(f:Flw)(k:Int)(dels:List (Int×Int×Int))(since:Int->Option Int):Prop:=
 (∀d∈dels,d.1=f.1->d.2.1=k->since (dstF f)=some (d.2.2+1))/\∀b,since (dstF f)=some b->(f.1,k,b-1)∈dels
structure Arch(s:Sch)(f:Flw)(k n:Int)(j:Nat)(p:PlM)(since:Int->Option Int):Prop where
 src:since f.2.1=some (Yvm f k)
 hop:Hop s f k p.atts since n j
 dlv:Dlv f k p.dels since
variable {s:Sch}{f:Flw}{k n a:Int}{j:Nat}{p:PlM}{since:Int->Option Int}
theorem Arch.mono{p':PlM}(h:Arch s f k n j p since)
 (ha:∀u v,keyL p.atts f.1 k u v<+:keyL p'.atts f.1 k u v) (hd:∀d,d.1=f.1->d.2.1=k->(d∈p'.dels↔d∈p.dels)):Arch s f k n j p' since:=by
 refine⟨h.src,λu v a0 hu hs=>?_,?_,?_⟩
 ·obtain⟨K1,h1,h2,h3⟩:=h.hop u v a0 hu hs
  grind
 ·intro d hm h1 h2
  exact h.dlv.1 d ((hd d h1 h2).1 hm) h1 h2
 ·intro b hb
  exact(hd (f.1,k,b-1) rfl rfl).2 (h.dlv.2 b hb)
theorem YkW{α:Type}{L:List α}{c:α}(h:L[j]? =some c):L.take (j+1)=L.take j++[c]:=zc78
variable {c:Cel}
theorem YmY{L:List Cel}(h:L[j]? =some c)(q:Cel->Bool):((L.take (j+1)).filter q).length=((L.take j).filter q).length+if q c then 1 else 0:=by
 rw[YkW h,SE,Tt]
 grind
theorem YpH{a0:Int}(h:(atE s n)[j]? =some c){q:Cel->Bool}(hq:q c=false)(b:Option Int):YlC s q b a0 n (j+1)=YlC s q b a0 n j:=by
 simp_all [YlC,YmY]
theorem Yr1{id u v:Int}:onP id u v c=true↔Y6 c=id/\YM c=u/\toC c=v:=by simp[onP]
theorem Arch.offs(h:Arch s f k n j p since)(hc:(atE s n)[j]? =some c)(hf:Y6 c≠f.1):Arch s f k n (j+1) p since:=by
 refine⟨h.src,λu v a0 hu hs=>?_,h.dlv⟩
 obtain⟨K1,h1,h2,h3⟩:=h.hop u v a0 hu hs
 grind [YpH,Yr1]
def Chain(d:Int):Int->List Lk->Prop
 |u,[]=>u=d
 |u,l::ls=>u=l.1/\u≠d/\Chain d l.2.1 ls
variable {x:List (Cel×Int)}
theorem Yot(h:∀z∈x,a<=z.2):a<=Y2 x a:=by
 unfold Y2
 grind
theorem Yhc{S:Int->Option (List Int)}{len per:Int}(hp:1<=per){r:Int×Int×List Int}:∀{fuel:Nat}{rel:Int}{b:Int×Int×List Int},Ji S len per fuel rel b=some r->
 b.1<=r.1/\∀i:Nat,i<fuel->rel+i*per<len->∃l,S (rel+i*per)=some l/\XR l-(rel+i*per)+1<=r.1
 |0,rel,b,h=>by
  obtain rfl:=Tz (show some b=some r from h)
  simp_all
 |fuel+1,rel,b,h=>by
  rw[Ji]at h
  split at h
  ·rename_i hle
   obtain rfl:=Tz h
   refine⟨RP _,λi _ hi=>?_⟩
   have:0<=(i:Int)*per:=Int.mul_nonneg (by omega) (by omega)
   omega
  ·cases hS:S rel with
   |none=>simp_all
   |some l=>
    rw[hS]at h
    obtain⟨h1,h2⟩:=Yhc hp h
    have h3:b.1<=r.1/\XR l-rel+1<=r.1:=by
     grind
    refine⟨h3.1,λi hi hlt=>?_⟩
    cases i with
    |zero=>simp_all
    |succ i=>
     grind
theorem Yc1(hx:x≠[]):XR (x.map Prod.snd)+1=Y2 x a:=by
 grind [XR,Y2,List.getLast?_eq_none_iff]
def slC(len:Int)(cs:List Cel)(a:Int):Nat:=(cs.filter λc=>decide (c.1=a.tmod len)).length
def cntS(len:Int)(cs:List Cel):Nat->Int->Nat
 |0,_=>0
 |m+1,a=>slC len cs a+cntS len cs m (a+1)
theorem YdB(len:Int)(c:Cel)(cs:List Cel)(a:Int):slC len (c::cs) a=(if c.1=a.tmod len then 1 else 0)+slC len cs a:=by
 unfold slC
 grind
theorem O2(len a:Int):∀(cs:List Cel) (k:Nat),(Xd len a cs k).length=min k (slC len cs a)
 |[],k=>by simp[Xd,slC]
 |c::cs,k=>by
  rw[YdB]
  unfold Xd
  by_cases h:c.1=a.tmod len
  ·by_cases hk:k=0
   ·simp_all [YnA]
   ·rw[To ⟨h,hk⟩,To h,Rf,O2 len a cs (k-1)];omega
  ·rw[Tf (λe=>h e.1),Tf h,O2 len a cs k];omega
theorem Yhn(len:Int)(cs:List Cel):∀(m k:Nat) (a:Int),cntS len cs (m+k) a=cntS len cs m a+cntS len cs k (a+m)
 |0,k,a=>by simp[cntS]
 |m+1,k,a=>by
  rw[show m+1+k=(m+k)+1 by omega,cntS,Yhn len cs m k (a+1),cntS]
  grind
variable {a b y:Int}
theorem YmO(len:Int)(cs:List Cel){z:Int}(h1:a<=b)(h2:b<=z):cntS len cs (z-b).toNat b<=cntS len cs (z-a).toNat a:=by
 obtain⟨x,hx⟩:∃x:Nat,b=a+x:=⟨(b-a).toNat,by omega⟩
 obtain⟨y,hy⟩:∃y:Nat,z=b+y:=⟨(z-b).toNat,by omega⟩
 rw[show(z-b).toNat=y by omega,show(z-a).toNat=x+y by omega,Yhn,hx]
 omega
theorem J9(x r:List (Cel×Int))(a:Int):Y2 (x++r) a=Y2 r (Y2 x a):=by
 grind [Y2]
theorem You{x:List (Cel×Int)}(h:Y2 x a<=y)(hb:b<=y):Y2 x b<=y:=by
 grind [Y2]
theorem YhY{len:Int}{cs:List Cel}:∀(f k:Nat) (a y:Int),a<=y->y<=a+f->k<=cntS len cs (y-a).toNat a->(hopP len cs f k a).length=k/\Y2 (hopP len cs f k a) a<=y
 |0,k,a,y,h1,h2,h3=>by
  obtain rfl:y=a:=by omega
  rw[show(y-y).toNat=0 by omega]at h3
  obtain rfl:k=0:=by grind [cntS]
  exact⟨rfl,h1⟩
 |f+1,k,a,y,h1,h2,h3=>by
  by_cases hk:k=0
  ·subst hk
   rw[YcS]
   exact⟨rfl,h1⟩
  have hlt:a<y:=by
   by_cases e:a=y
   ·simp_all [cntS]
   ·omega
  rw[show(y-a).toNat=(y-(a+1)).toNat+1 by omega,cntS]at h3
  have hs:=O2 len a cs k
  obtain⟨e1,e2⟩:=YhY (len:=len) (cs:=cs) f (k-(Xd len a cs k).length) (a+1) y (by omega) (by omega) (by omega)
  rw[hopP,Tt,e1,J9]
  refine⟨by omega,You e2 ?_⟩
  grind [Y2,UC]
def WayT(len:Int)(C:Lk->List Cel):List Lk->Int->Int->Prop
 |[],a,y=>a<=y
 |l::ls,a,y=>∃z,a<=z/\Y1 l<=cntS len (C l) (z-a).toNat a/\WayT len C ls z y
variable {C:Lk->List Cel}
theorem WayT.le{len:Int}:∀{ls:List Lk}{a y:Int},WayT len C ls a y->a<=y
 |[],_,_,h=>h
 |_::_,_,_,⟨_,h1,_,h3⟩=>NQ h1 h3.le
theorem YlS{len:Int}{C:Lk->List Cel}{endd:Int}:∀{ls:List Lk}{a a' y:Int},WayT len C ls a y->a'<=a->y<=endd->(runP len C endd ls a').length=XF ls/\Y2 (runP len C endd ls a') a'<=y
 |[],a,a',y,h,h1,_=>⟨rfl,NQ h1 h⟩
 |l::ls,a,a',y,⟨z,h1,h2,h3⟩,h4,h5=>by
  have hz:=h3.le
  obtain⟨e1,e2⟩:=YhY (len:=len) (cs:=C l) (endd-a').toNat (Y1 l) a' z (by omega) (by omega) (TX h2 (YmO len (C l) h4 h1))
  obtain⟨i1,i2⟩:=YlS (endd:=endd) h3 e2 h5
  simp_all [runP,J9,XF]
theorem Yat{len a:Int}{keep:Cel->Bool}:∀{cs:List Cel}{k:Nat},(∀p∈Xd len a cs k,keep p.1=true)->(Xd len a cs k).length<=slC len (cs.filter keep) a
 |[],k,_=>Td _
 |c::cs,k,h=>by
  unfold Xd at h⊢
  rw[S7]
  by_cases hc:c.1=a.tmod len/\k≠0
  ·rw[To hc]at h⊢
   have h1:=h (c,a) TN
   have h2:=Yat (len:=len) (a:=a) (keep:=keep) (cs:=cs) (k:=k-1) λp hp=>h p (TK _ hp)
   rw[To h1,YdB,To hc.1,Rf]
   omega
  ·rw[Tf hc]at h⊢
   have h2:=Yat (len:=len) (a:=a) (keep:=keep) (cs:=cs) (k:=k) h
   grind [YdB]
theorem YhZ{len:Int}{cs:List Cel}{keep:Cel->Bool}:∀{f k:Nat}{a:Int},(∀p∈hopP len cs f k a,keep p.1=true)->(hopP len cs f k a).length<=cntS len (cs.filter keep) (Y2 (hopP len cs f k a) a-a).toNat a
 |0,k,a,_=>Td _
 |f+1,k,a,h=>by
  rw[hopP]at h⊢
  have h1:=Yat (keep:=keep) (λp hp=>h p (SX _ hp))
  have h2:=YhZ (f:=f) (keep:=keep) (λp hp=>h p (RX _ hp))
  rw[Tt,J9]
  have hsl:∀z∈Xd len a cs k,z.2=a:=λz hz=>UC hz
  generalize hr:hopP len cs f (k-(Xd len a cs k).length) (a+1)=r at h2
  generalize hg:Xd len a cs k=g at h1 hsl
  have hlo:∀z∈r,a+1<=z.2:=λz hz=>by rw[<-hr]at hz;exact(Qs hz).1
  cases hrl:r.getLast? with
  |some z=>
   have hz:=hlo z (List.mem_of_getLast? hrl)
   have e1:∀b,Y2 r b=z.2+1:=by grind [Y2]
   rw[e1]at h2⊢
   rw[show(z.2+1-a).toNat=(z.2+1-(a+1)).toNat+1 by omega,cntS]
   omega
  |none=>
   obtain rfl:=List.getLast?_eq_none_iff.1 hrl
   rw[show Y2 [] (Y2 g a)=Y2 g a from rfl]
   cases hgl:g.getLast? with
   |some z=>
    have hz:=hsl z (List.mem_of_getLast? hgl)
    have e1:Y2 g a=a+1:=by unfold Y2;rw[hgl];simp only[];omega
    rw[e1,show(a+1-a).toNat=0+1 by omega,cntS]
    simp only[RV]
    omega
   |none=>
    obtain rfl:=List.getLast?_eq_none_iff.1 hgl
    exact Ybg
theorem YiQ{len:Int}{C:Lk->List Cel}{endd:Int}{keep:Cel->Bool}:∀{ls:List Lk}{a:Int},(runP len C endd ls a).length=XF ls->(∀p∈runP len C endd ls a,keep p.1=true)->WayT len (λl=>(C l).filter keep) ls a (Y2 (runP len C endd ls a) a)
 |[],a,_,_=>RP _
 |l::ls,a,h,hk=>by
  have h0:XF (l::ls)=Y1 l+XF ls:=by grind [XF]
  have h1:=UW len (C l) (endd-a).toNat (Y1 l) a
  unfold runP at h hk⊢
  by_cases hs:(hopP len (C l) (endd-a).toNat (Y1 l) a).length<Y1 l
  ·grind
  rw[Tf hs]at h hk⊢
  rw[Tt]at h
  rw[J9]
  refine⟨Y2 (hopP len (C l) (endd-a).toNat (Y1 l) a) a,Yot λz hz=>(Qs hz).1,?_,YiQ (by omega) λp hp=>hk p (RX _ hp)⟩
  have:=YhZ (f:=(endd-a).toNat) (keep:=keep) λp hp=>hk p (SX _ hp)
  grind
theorem WayT.mono{len:Int}{D:Lk->List Cel}(h:∀l a,slC len (C l) a<=slC len (D l) a):∀{ls:List Lk}{a y:Int},WayT len C ls a y->WayT len D ls a y
 |[],_,_,hw=>hw
 |l::ls,a,y,⟨z,h1,h2,h3⟩=>by
  refine⟨z,h1,TX h2 ?_,h3.mono h⟩
  have:∀(m:Nat) (a:Int),cntS len (C l) m a<=cntS len (D l) m a:=λm=>by
   induction m with
   |zero=>exactλ_=>TS _
   |succ m ih=>grind [cntS]
  simp_all
theorem Ylh{S:Int->Option (List Int)}{len per d:Int}(hp:1<=per):∀{fuel:Nat}{rel:Int}{b:Int×Int×List Int},b.1<=d->(∀i:Nat,rel+i*per<len->∃l,S (rel+i*per)=some l/\XR l-(rel+i*per)+1<=d)->∃r,Ji S len per fuel rel b=some r/\r.1<=d
 |0,rel,b,hb,_=>⟨b,rfl,hb⟩
 |fuel+1,rel,b,hb,h=>by
  rw[Ji]
  by_cases hle:len<=rel
  ·simp_all
  rw[Tf hle]
  obtain⟨l,h1,h2⟩:=h 0 (by omega)
  have h1:S rel=some l:=by simp_all
  rw[h1]
  refine Ylh hp ?_ λi hi=>?_
  ·grind
  ·have e:rel+((i+1:Nat):Int)*per=rel+per+(i:Int)*per:=by
    grind
   have:=h (i+1) (by omega)
   simp_all
theorem YnR{n:Net}{s:Sch}{f:Flw}{r:List Int}{rel:Int}(hne:Yr n r≠[])(hloss:∀x∈Yr n r,0<=x.2.2)(hy:y<=rel+f.2.2.2.1)(h:WayT s.len (X6 s f.1) (Yr n r) rel y):
 ∃l,Zx n s f r rel=some l/\XR l-rel+1<=y-rel:=by
 obtain⟨h1,h2⟩:=YlS (endd:=rel+f.2.2.2.1) h (RP _) hy
 refine⟨(runP s.len (X6 s f.1) (rel+f.2.2.2.1) (Yr n r) rel).map Prod.snd,?_,?_⟩
 ·simp_all [Zx,YbK]
 ·have hn:1<=XF (Yr n r):=by
   cases hl:Yr n r with
   |nil=>simp_all
   |cons x xs=>
    grind [XF,Y1]
  have:=Yc1 (x:=runP s.len (X6 s f.1) (rel+f.2.2.2.1) (Yr n r) rel) (a:=rel) (λe=>by grind)
  omega
end Go.Proofs.YtjommdkgfbhbdaaGreatDoor
namespace Go.Eng
open Go.RowKit
end Go.Eng
namespace Go.Proofs.YtjommdkgfbhbdaaGreatDoor
open Go.RowKit Go.Eng Go.Nw Go.Rt
theorem VW(q:List RqM){A:Option Addr}{cap B:Nat}{w0:World}{H:List HP}{w:World}(hl:q.length<=1000000000000)(hr:Rd B w0 H A (q.flatMap rqF))(hw:St B w0 H w):
 CX B w0 70 [.slice A q.length cap] w λv K=>∃A2 cap2,v=.slice A2 (RqM.fl q).length cap2/\K=flws A2 cap2 (RqM.fl q)::H:=by
 refine Ya Tryz.func70 Tryz.ntmps70 rfl rfl hw ?_
 repeat'(first|(apply Yw T;exact rfl;exact rfl;intro g2)|apply(zs2 ?_)|apply(zs65 ?_)|apply(zs68 ?_)|apply(zs69 ?_)|apply(zs70 ?_)|apply(zs73 ?_)|fail)
 refine Ye (λz:FlM=>[(4,.int .i64 (z.i:Nat)),(3,.slice z.A (RqM.fl (q.take z.i)).length z.cap),(0,.slice A q.length cap)]) (λz=>flws z.A z.cap (RqM.fl (q.take z.i))::H) (λz=>z.i<=q.length) (λz=>q.length-z.i) ⟨0,some ⟨g2,0,none⟩,0⟩ (Td _) ?_ (λw hw=>hw) ?_
 ·exact zu
 rintro⟨i,A2,cap2⟩ hi K hK
 dsimp only at hi⊢
 have hlen:(RqM.fl (q.take i)).length=i:=by grind [Go.Proofs.YtjommdkgfbhbdaaGreatDoor.RqM.fl]
 have hr':=hr.cons (X:=flws A2 cap2 (RqM.fl (q.take i)))
 by_cases hlt:i<q.length
 ·obtain⟨x,hx⟩:∃x,q[i]? =some x:=⟨_,Ta hlt⟩
  have hst:RqM.fl (q.take (i+1))=RqM.fl (q.take i)++[x.f]:=by grind [Go.Proofs.YtjommdkgfbhbdaaGreatDoor.RqM.fl,TD]
  repeat'(first|(apply Vn T (vs:=[.int .i64 x.f.1,.int .i64 x.f.2.1,.int .i64 x.f.2.2.1,.int .i64 x.f.2.2.2.1,.int .i64 x.f.2.2.2.2.1,.int .i64 x.f.2.2.2.2.2]);exact rfl;exact hr';exact hx;exactλ_=>rfl;(iterate 6 exact rfl))|apply(zs1 ?_)|apply(zs2 ?_)|(apply zg2;refine zs58 ?_)|(apply zg4;refine zs9 ?_)|(apply zg5;refine zs57 ?_)|(apply(zs17 ?_ ?_)<;>intro _<;>try exact zo)|(apply zg13;refine zs30 ?_)|(apply zg21;(refine zs49 ?_;intro _ _))|(apply zg26;(refine zs56 ?_;intro _))|apply(zs65 ?_)|apply(zs68 ?_)|apply(zs69 ?_)|apply(zs70 ?_)|(apply zg27;refine zs71 ?_)|apply(zs73 ?_)|apply(zs76 ?_)|apply(zs79 ?_)|fail)
  rename_i A' cap'
  rw[Uo,<-hst,show(RqM.fl (q.take i)).length+1=(RqM.fl (q.take (i+1))).length from by rw[hst];simp]
  apply hK ⟨i+1,A',cap'⟩
  ·show i+1<=_
   omega
  ·dsimp only;omega
  ·exact zu
  ·exact zk
 ·obtain rfl:i=q.length:=by omega
  rw[TC]
  repeat'(first|apply(zs1 ?_)|apply(zs2 ?_)|(apply zg4;refine zs9 ?_)|(apply(zs17 ?_ ?_)<;>intro _<;>try exact zo)|apply(zs65 ?_)|apply(zs68 ?_)|apply(zs69 ?_)|apply(zs70 ?_)|(apply zg27;refine zs72 ?_)|apply(zs74 ?_)|apply(zs75 ?_)|apply(zs80 ?_)|apply(zs81 ?_)|fail)
  apply Yc;exact rfl;exact rfl
  exact⟨A2,cap2,rfl,rfl⟩
abbrev flwB(g:Nat)(f:Flw):HP:=blk g (.cells #[.int .i64 f.1,.int .i64 f.2.1,.int .i64 f.2.2.1,.int .i64 f.2.2.2.1,.int .i64 f.2.2.2.2.1,.int .i64 f.2.2.2.2.2] 45 (0,0))
def YsB(c:List Clm)(l:List Flw)(i:Nat):List Int:=((List.range i).filter λk=>admB c (Y4 l k)).map λk=>((k:Nat):Int)
def OC(n:Net)(s:Sch)(f:Flw)(a:Int)(r:List Int):Int:=match ZS n s f r with|none=>a|some b=>if a=0\/b.1<a then b.1 else a
theorem Ynd(n:Net)(s:Sch)(f:Flw)(l:List (List Int)):Ykh n s f l=if l.length=0 then(0,14)else
 if(Yz (λk=>wayE n s f (rtAt l k)) l.length 0).2≠0 then(0,(Yz (λk=>wayE n s f (rtAt l k)) l.length 0).2)
 else if l.foldl (OC n s f) 0=0 then(0,15)else(l.foldl (OC n s f) 0,0):=rfl
variable {f:Flw}{r:List Int}
theorem Yqp{n:Net}{s:Sch}(h:wayE n s f r=0):f.2.2.2.2.1<s.len:=by
 obtain⟨_,h2,h3,h4,_⟩:=Yau h
 have hsz:=TI (Xm.1 h2).sized
 unfold Xl at h3
 split at h3
 ·cases h3
 split at h3
 ·cases h3
 rename_i k1 k2
 have hd:f.2.2.2.1∣s.len:=Int.dvd_of_tmod_eq_zero h4
 have:=Int.le_of_dvd (by omega) hd
 omega
theorem Yhe{S:Int->Option (List Int)}{len per:Int}(hS:∀a l,S a=some l->1<=XR l-a+1):∀{k:Nat}{rel:Int}{b0 b:Int×Int×List Int},(1<=b0.1\/rel<len/\k≠0/\b0.1=0)->Ji S len per k rel b0=some b->1<=b.1
 |0,rel,b0,b,h0,h=>by
  grind [Ji]
 |k+1,rel,b0,b,h0,h=>by
  unfold Ji at h
  split at h
  ·grind
  cases hs:S rel with
  |none=>simp_all
  |some l=>
   rw[hs]at h
   refine Yhe hS (.inl ?_) h
   grind
theorem YmL{x:WayM}(hok:JR x)(hl:x.f.2.2.2.2.1<x.s.len){b:Int×Int×List Int}(h:ZS x.n.net x.s.sch x.f x.r=some b):1<=b.1:=by
 have h3:=hok.slen
 refine Yhe (len:=x.s.sch.len) (per:=x.f.2.2.2.1) (λa l hs=>?_) (.inr ⟨hl,?_,rfl⟩) h
 ·have:=YdD hok hs
  omega
 ·show x.s.len.toNat≠0
  omega
variable {n:NetM}{s:SchM}
theorem Ux(h:(YY n.net s.sch f r).2=0):∃b,ZS n.net s.sch f r=some b/\(YY n.net s.sch f r).1=b/\1<=b.1/\wayE n.net s.sch f r=0:=by
 obtain⟨h1,b,h2,h3⟩:=WY h
 exact⟨b,h2,by rw[h3],YmL (x:=⟨n,s,f,none,0,r⟩) (YbO h1) (Yqp h1) h2,h1⟩
theorem Ydc:∀(l:List Int) (a:Int),1<=a->(∀z∈l,1<=z)->1<=l.foldl (λx y=>if y<x then y else x) a
 |[],a,h,_=>h
 |z::l,a,h,hl=>by
  refine Ydc l _ ?_ λy hy=>hl y (TK _ hy)
  grind [TN]
theorem Yc2{n:NetM}{s:SchM}{f:Flw}:∀(l:List (List Int)) (a:Int),1<=a->(∀r∈l,(YY n.net s.sch f r).2=0)->l.foldl (OC n.net s.sch f) a=(l.map λr=>(YY n.net s.sch f r).1.1).foldl (λx y=>if y<x then y else x) a
 |[],a,_,_=>rfl
 |r::l,a,h,hl=>by
  obtain⟨b,h1,h2,h3,_⟩:=Ux (hl r TN)
  rw[SQ,RI,SQ,h2]
  have hs:OC n.net s.sch f a r=if b.1<a then b.1 else a:=by
   unfold OC
   grind
  rw[hs]
  refine Yc2 l _ ?_ λy hy=>hl y (TK _ hy)
  omega
variable {x:Rqs}
theorem Ypy(h0:1<=x.2.length)(h:∀r∈x.2,(YY n.net s.sch x.1 r).2=0):Ykh n.net s.sch x.1 x.2=(minI (clmE n.net s.sch x).bounds,0):=by
 rw[Ynd,Tf (by omega)]
 have hw:(Yz (λk=>wayE n.net s.sch x.1 (rtAt x.2 k)) x.2.length 0).2=0:=by grind [YF,Ux,YiN]
 obtain⟨f,l⟩:=x
 cases l with
 |nil=>simp_all
 |cons r l=>
  obtain⟨b,h1,h2,h3,_⟩:=Ux (h r TN)
  have h5:=Yc2 (n:=n) (s:=s) (f:=f) l b.1 h3 λy hy=>h y (TK _ hy)
  have h6:(r::l).foldl (OC n.net s.sch f) 0=minI (clmE n.net s.sch (f,r::l)).bounds:=by
   rw[SQ]
   have hs:OC n.net s.sch f 0 r=b.1:=by
    simp_all [OC]
   rw[hs,h5]
   show _=minI (((YY n.net s.sch f r).1.1)::(l.map λr=>(YY n.net s.sch f r).1.1))
   rw[h2];rfl
  have h7:1<=minI (clmE n.net s.sch (f,r::l)).bounds:=by
   rw[<-h6,SQ]
   have hs:OC n.net s.sch f 0 r=b.1:=by
    simp_all [OC]
   rw[hs,h5]
   refine Ydc _ _ h3 λz hz=>?_
   grind [Ux]
  grind
theorem Yaf{nodes:Int}{l:List Flw}(h:(Yt nodes l).2=0):∀{i j:Nat},i<j->j<l.length->(Y4 l i).1<(Y4 l j).1:=by
 have hstep:∀j,0<j->j<l.length->(Y4 l (j-1)).1<(Y4 l j).1:=λj h0 hj=>by
  unfold Yt at h
  split at h
  ·cases h
  split at h
  ·cases h
  have:=YF.1 h j (Td _) (by omega)
  grind [YV]
 intro i j hij hj
 induction j with
 |zero=>omega
 |succ j ih=>
  grind
variable {q:List Rqs}
theorem YcI{n:Net}{s:Sch}{nodes:Int}(hf:(Yt nodes (YG q)).2=0){P:Clm->Bool}{k:Nat}(hx:q[k]? =some x)(hp:P (clmE n s x)=true)(hid:∀c,P c=true->c.flow=x.1.1):(q.map (clmE n s)).find? P=some (clmE n s x):=by
 have hat:∀{i:Nat}{y:Rqs},q[i]? =some y->Y4 (YG q) i=y.1:=by grind [Y4,YG]
 refine(Of (c:=q.map (clmE n s)) (i:=k) ?_ ?_ hp).2
 ·intro y hy
  obtain⟨j,hj⟩:=TL.1 hy
  rw[RL]at hj
  split at hj
  ·rename_i hjk
   obtain⟨z,hz,rfl⟩:∃z,q[j]? =some z/\clmE n s z=y:=by
    simp_all
   cases hb:P (clmE n s z)with
   |false=>rfl
   |true=>
    have h1:=hid _ hb
    have h2:=Yaf hf hjk (by grind [YG])
    rw[hat hz,hat hx]at h2
    have h3:(clmE n s z).flow=z.1.1:=rfl
    omega
  simp_all
 simp_all
theorem max_le:∀(l:List Int) (a m:Int),a<=m->(∀z∈l,z<=m)->l.foldl (λx y=>if x<y then y else x) a<=m
 |[],_,_,h,_=>h
 |z::l,a,m,h,hl=>by
  refine max_le l _ m ?_ λy hy=>hl y (TK _ hy)
  grind [TN]
theorem YrV{l:List Int}{m:Int}(hne:1<=l.length)(h:∀z∈l,z<=m):maxI l<=m:=by
 cases l with
 |nil=>simp_all
 |cons a l=>exact max_le l a m (h a TN) λz hz=>h z (TK _ hz)
structure SvM(n:NetM)(s:SchM)(q:List Rqs):Prop where
 adm:(YsB (q.map (clmE n.net s.sch)) (YG q) q.length).length=q.length
 bnd:∀x∈q,bndE (q.map (clmE n.net s.sch)) x.1.1=(minI (clmE n.net s.sch x).bounds,true)
 lst:∀x∈q,Ykh n.net s.sch x.1 x.2=(minI (clmE n.net s.sch x).bounds,0)
theorem Ynz(h:(YD n.net q s.sch).2.2=0):SvM n s q:=by
 obtain⟨h1,h2⟩:=ZD.1 h
 have hf:(Yt n.net.nodes (YG q)).2=0:=(J1 (Z5.1 h1).whole).2.1
 have hx:∀x∈q,(1<=x.2.length)/\∀r∈x.2,(YY n.net s.sch x.1 r).2=0/\(YY n.net s.sch x.1 r).1.1<=x.1.2.2.2.2.2:=λx hx=>by
  have hw:=h2 x hx
  unfold Yba at hw
  rw[Tq,Tm]at hw
  have hl:=hw.2
  simp only[RO]at hl
  exact⟨by omega,λr hr=>YbD hl hr⟩
 have hbl:∀x:Rqs,(clmE n.net s.sch x).bounds.length=x.2.length:=λx=>by
  show(x.2.map _).length=_
  simp_all
 refine⟨?_,λx hxm=>?_,λx hxm=>Ypy (hx x hxm).1 λr hr=>((hx x hxm).2 r hr).1⟩
 ·unfold YsB
  have hall:(List.range q.length).filter (λk=>admB (q.map (clmE n.net s.sch)) (Y4 (YG q) k))=List.range q.length:=by
   rw[List.filter_eq_self]
   intro k hk
   have hk:=Rq.1 hk
   have hxk:=Vk hk
   have hfk:Y4 (YG q) k=(rqAt q k).1:=by
    unfold Y4 YG
    rw[TB,TU,hxk];rfl
   have hc:=YcI (n:=n.net) (s:=s.sch) hf (P:=λc=>decide (c.flow=(rqAt q k).1.1)) hxk (Ti rfl) (λc hc=>TI hc)
   rw[hfk]
   unfold admB
   rw[hc]
   have hm:=hx _ (QO hk)
   rw[Tq,Tm,Tm]
   refine⟨by rw[hbl];omega,YrV (by rw[hbl];omega) λz hz=>?_⟩
   obtain⟨r,hr,rfl⟩:=TG.1 (show z∈(rqAt q k).2.map λr=>(YY n.net s.sch (rqAt q k).1 r).1.1 from hz)
   exact(hm.2 r hr).2
  grind
 ·obtain⟨k,hk,rfl⟩:=Ydb hxm
  have hc:=YcI (n:=n.net) (s:=s.sch) hf (P:=λc=>decide (c.flow=(rqAt q k).1.1)&&decide (0<c.bounds.length)) (Vk hk) (by
   rw[Tq,Tm,Tm]
   exact⟨rfl,by rw[hbl];have:=(hx _ (QO hk)).1;omega⟩) (λc hc=>by
   rw[Tq,Tm]at hc
   exact hc.1)
  unfold bndE
  rw[hc]
structure Sm(n:Net)(l:List Flw)(s:Sch):Prop where
 ck:Yo n=0
 fl:(Yt n.nodes l).2=0
 per:∀f∈l,s.len.tmod f.2.2.2.1=0
 sized:Zf s=true
 formed:∀c∈s.cells,XA s c=true
 ord:Ord s.cells
 good:∀c∈s.cells,YZ n (YM c) (toC c)=true/\0<=Zr l (Y6 c)
 once:s.cells.Pairwise λa b=>a.1=b.1->YE a b=false
 clear:∀c∈s.cells,Vp n s.cells c=true
variable {n:Net}{s:Sch}
theorem Sem.sm{l:List Flw}(h:Sem n l s):Sm n l s:=⟨h.ck,h.fl,h.per,h.frm.sized,h.frm.formed,h.frm.ord,h.good,h.once,h.clear⟩
variable {l:List Cel}
theorem Yfo{node:Int}{m:List Cel}(h:l.Perm m):Go.Proofs.YtjommdkgfbhbdaaGreatDoor.sumC n node l=Go.Proofs.YtjommdkgfbhbdaaGreatDoor.sumC n node m:=by
 induction h with
 |nil=>rfl
 |cons a _ ih=>simp_all [Zv]
 |swap a b l=>rw[Zv,Zv,Zv,Zv];omega
 |trans _ _ h1 h2=>omega
variable {slot o a b:Int}
theorem YhL(h:fitE n l slot o a b=true)(id:Int):(∀d∈l,d.1=slot->YE d (slot,o,a,b,id)=false)/\Jn n (l.filter (atP slot o)++[(slot,o,a,b,id)])=true:=by
 unfold fitE at h
 rw[Tq]at h
 obtain⟨h1,h2⟩:=h
 refine⟨λd hd e=>?_,?_⟩
 ·rw[RO,RG]at h1
  have:=h1 d hd
  rw[Ti e,RN,Bool.not_eq_true]at this
  rw[<-this]
  exact(W3 (c:=(slot,o,a,b,id)) (c':=(0,0,a,b,0)) rfl rfl).2
 ·rw[<-h2,YcP (c':=(slot,o,a,b,id)) rfl rfl,YcP (c:=(0,0,a,b,0)) (c':=(slot,o,a,b,id)) rfl rfl]
theorem YrD(h:fitE n l slot o a b=true)(id:Int):(slot,o,a,b,id)∉l:=λhm=>by
 have:=(YhL h id).1 _ hm rfl
 grind [YE]
theorem YhX{m d:Int}(h:Zk n m d=true):XM n m d=true:=by
 simp_all [Zk]
theorem Sm.ins{l:List Flw}(h:Sm n l s){id:Int}(hs:0<=slot/\slot<s.len)(ho:0<=o/\o<s.off)(hg:YZ n a b=true)(hid:0<=Zr l id)(hib:0<=id/\id<256)(hfit:fitE n s.cells slot o a b=true):
 Sm n l ⟨s.len,s.off,insC s.cells (slot,o,a,b,id)⟩:=by
 have hok:=YP h.ck
 have hgn:=Xu hok hg
 have hn:=hok.n1
 obtain⟨ht,hgl⟩:=YhL hfit id
 have hnew:=YrD hfit id
 have hperm:=Yh4 s.cells (slot,o,a,b,id)
 refine⟨h.ck,h.fl,h.per,h.sized,λc hc=>?_,YrT h.ord hnew,λc hc=>?_,?_,λc hc=>?_⟩
 ·rcases Oi.1 hc with rfl|hc
  ·grind [XA,XB,insE]
  ·exact h.formed c hc
 ·rcases Oi.1 hc with rfl|hc
  ·exact⟨hg,hid⟩
  ·exact h.good c hc
 ·refine(hperm.pairwise_iff (λ{x y} hxy e=>by rw[Z9];simp_all)).2 (.cons (λd hd e=>?_) h.once)
  rw[Z9]
  grind
 ·by_cases hp:c.1=slot/\c.2.1=o
  ·have hX:(s.cells.filter (atP slot o)++[(slot,o,a,b,id)]).Nodup:=by
    rw[NJ]
    refine⟨(Yan h.ord).sublist SK,by simp,λx hx y hy e=>?_⟩
    rw[Ry.1 hy]at e
    subst e
    exact hnew (RB.1 hx).1
   generalize hXe:s.cells.filter (atP slot o)++[(slot,o,a,b,id)]=X at hX hgl
   have hcX:c∈X:=by
    rw[<-hXe]
    rcases Oi.1 hc with rfl|hc
    ·simp
    ·exact SX _ (RB.2 ⟨hc,Ti hp⟩)
   obtain⟨j,hj⟩:=TL.1 hcX
   have hjl:=(Tj.1 hj).1
   have hd:∀node,Yy n X j node X.length=Ug n (insC s.cells (slot,o,a,b,id)) c node:=λnode=>by
    rw[Ycr hX hj node _ (TS _),TC]
    refine Yfo ?_
    have e1:(insC s.cells (slot,o,a,b,id)).filter (λd=>Xg c d&&decide (d≠c))=((insC s.cells (slot,o,a,b,id)).filter (Xg c)).filter λd=>decide (d≠c):=by
     rw[SH]
     exact SV λx _=>Bool.and_comm _ _
    rw[e1]
    refine List.Perm.filter _ ?_
    have e2:Xg c=atP slot o:=by
     obtain⟨rfl,rfl⟩:=hp
     rfl
    rw[e2,<-hXe]
    refine List.Perm.trans ?_ (hperm.filter _).symm
    rw[S7,To (show atP slot o (slot,o,a,b,id)=true from Ti ⟨rfl,rfl⟩)]
    exact Nk
   unfold Jn at hgl
   rw[Tq]at hgl
   have hpf:=Rh.1 hgl.2 j (Rq.2 hjl)
   simp_all [celL,ZB,Vp,YhX]
  ·have hcs:c∈s.cells:=by
    rcases Oi.1 hc with rfl|hc
    ·exact absurd ⟨rfl,rfl⟩ hp
    ·exact hc
   have hd:∀node,Ug n (insC s.cells (slot,o,a,b,id)) c node=Ug n s.cells c node:=λnode=>by
    unfold Ug
    refine(Yfo (hperm.filter _)).trans ?_
    rw[S7,Tf]
    rw[Tq]
    rintro⟨h1,-⟩
    exact hp (by have:=TI h1;exact⟨this.1.symm,this.2.symm⟩)
   have:=h.clear c hcs
   unfold Vp at this⊢
   rw[hd,hd]
   exact this
structure Grow(id:Int)(s t:Sch):Prop where
 len:t.len=s.len
 off:t.off=s.off
 sub:∀c∈s.cells,c∈t.cells
 oth:∀p:Cel->Bool,(∀c,Y6 c=id->p c=false)->t.cells.filter p=s.cells.filter p
theorem Grow.refl(id:Int)(s:Sch):Grow id s s:=⟨rfl,rfl,λ_ h=>h,λ_ _=>rfl⟩
variable {id a b:Int}{s t u:Sch}
theorem Grow.trans(h:Grow id s t)(k:Grow id t u):Grow id s u:=⟨k.len.trans h.len,k.off.trans h.off,λc hc=>k.sub c (h.sub c hc),λp hp=>(k.oth p hp).trans (h.oth p hp)⟩
structure LkOk(n:Net)(l:List Flw)(a b id:Int):Prop where
 g:YZ n a b=true
 f:0<=Zr l id
 i:0<=id/\id<256
theorem YiY{n:Net}{l:List Flw}{slot:Int}(h:Sm n l s)(hk:LkOk n l a b id)(hs:0<=slot/\slot<s.len)(ht:Js n s a b id slot=some t):Sm n l t/\Grow id s t/\hasC t.cells slot a b id=true:=by
 unfold Js at ht
 by_cases hh:hasC s.cells slot a b id=true
 ·rw[To hh]at ht
  obtain rfl:=Tz ht
  exact⟨h,.refl _ _,hh⟩
 rw[Tf hh]at ht
 cases hf:(List.range s.off.toNat).find? λo:Nat=>fitE n s.cells slot o a b with
 |none=>simp_all
 |some o=>
  rw[hf]at ht
  obtain rfl:=Tz ht
  have h1:=List.find?_some hf
  have h2:=Rq.1 (List.mem_of_find?_eq_some hf)
  refine⟨h.ins hs (by omega) hk.g hk.f hk.i h1,⟨rfl,rfl,λc hc=>Oi.2 (.inr hc),λp hp=>?_⟩,?_⟩
  ·unfold insC
   rw[SE,S7,Tf (by rw[hp _ rfl];decide),<-SE,Rw]
  ·exact TM.2 ⟨(slot,(o:Int),a,b,id),Oi.2 (.inl rfl),Ti ⟨rfl,rfl,rfl,rfl⟩⟩
structure Sup(t u:Sch):Prop where
 len:u.len=t.len
 sub:∀c∈t.cells,c∈u.cells
theorem Grow.sup(h:Grow id s t)(k:Sup t u):Sup s u:=⟨k.len.trans h.len,λc hc=>k.sub c (h.sub c hc)⟩
theorem YrF{loss z:Int}(h:hasC u.cells (z.tmod u.len) a b id=true):1<=slC u.len (X6 u id (a,b,loss)) z:=by
 obtain⟨d,hd,h1⟩:=TM.1 h
 have h1:=TI h1
 refine List.length_pos_of_mem (a:=d) (RB.2 ⟨RB.2 ⟨hd,Ti ⟨h1.2.2.2,h1.2.1,h1.2.2.1⟩⟩,Ti h1.1⟩)
theorem Yf2{n:Net}{l:List Flw}{a b id:Int}(hk:LkOk n l a b id)(loss:Int):∀(f k:Nat) {s t:Sch}{z y:Int},Sm n l s->0<=z->1<=s.len->hopA n a b id f k s z=some (t,y)->
 Sm n l t/\Grow id s t/\(z<=y/\y<=z+f)/\∀u,Sup t u->k<=cntS u.len (X6 u id (a,b,loss)) (y-z).toNat z
 |0,0,s,t,z,y,h,_,_,e=>by
  exact Yt7
 |f+1,0,s,t,z,y,h,_,_,e=>by
  exact Yt7
 |0,k+1,s,t,z,y,h,_,_,e=>by cases e
 |f+1,k+1,s,t,z,y,h,hz,hl,e=>by
  rw[hopA]at e
  have hm:0<=z.tmod s.len/\z.tmod s.len<s.len:=by
   rw[Rb hz]
   exact⟨Int.emod_nonneg _ (by omega),Int.emod_lt_of_pos _ (by omega)⟩
  cases hs:Js n s a b id (z.tmod s.len)with
  |none=>
   rw[hs]at e
   obtain⟨h1,h2,h3,h4⟩:=Yf2 hk loss f (k+1) h (show 0<=z+1 by omega) hl e
   refine⟨h1,h2,by omega,λu hu=>?_⟩
   have:=h4 u hu
   exact YuO
  |some t1=>
   rw[hs]at e
   obtain⟨g1,g2,g3⟩:=YiY h hk hm hs
   obtain⟨h1,h2,h3,h4⟩:=Yf2 hk loss f k g1 (show 0<=z+1 by omega) (by rw[g2.len];exact hl) e
   refine⟨h1,g2.trans h2,by omega,λu hu=>?_⟩
   have:=h4 u hu
   have hsu:=(g2.trans h2).sup hu
   have h5:1<=slC u.len (X6 u id (a,b,loss)) z:=YrF (by
    obtain⟨d,hd,h6⟩:=TM.1 g3
    refine TM.2 ⟨d,(h2.sup hu).sub d hd,?_⟩
    rw[hsu.len];exact h6)
   exact YuO
theorem YlK{n:Net}{l:List Flw}{id endd:Int}:∀(ls:List Lk) {s t:Sch}{z:Int},(∀x∈ls,LkOk n l x.1 x.2.1 id)->Sm n l s->0<=z->z<=endd->1<=s.len->relA n id endd ls s z=some t->
 Sm n l t/\Grow id s t/\∀u,Sup t u->∃y,y<=endd/\WayT u.len (X6 u id) ls z y
 |[],s,t,z,_,h,_,hze,_,e=>by
  obtain rfl:=Tz (show some s=some t from e)
  exact⟨h,.refl _ _,λu _=>⟨z,hze,RP _⟩⟩
 |x::ls,s,t,z,hk,h,hz,hze,hl,e=>by
  rw[relA]at e
  cases hs:hopA n x.1 x.2.1 id (endd-z).toNat (Y1 x) s z with
  |none=>simp_all
  |some w=>
   obtain⟨t1,y1⟩:=w
   rw[hs]at e
   obtain⟨g1,g2,g3,g4⟩:=Yf2 (hk x TN) x.2.2 _ _ h hz hl hs
   obtain⟨h1,h2,h3⟩:=YlK ls (λy hy=>hk y (TK _ hy)) g1 (by omega) (by omega) (by rw[g2.len];exact hl) e
   refine⟨h1,g2.trans h2,λu hu=>?_⟩
   obtain⟨y,k1,k2⟩:=h3 u hu
   exact⟨y,k1,y1,g3.1,g4 u (h2.sup hu),k2⟩
variable {r:List Int}
theorem Yqn:W4 r=false↔r.Nodup:=by
 unfold W4
 rw[RG]
 constructor
 ·intro h
  refine TT.2 λi j hi hj hij e=>?_
  have h1:=h j (Rq.2 hj)
  apply h1
  rw[List.contains_iff_mem,TB,Ta hj,Option.getD_some,<-e]
  refine TL.2 ⟨i,?_⟩
  simp_all
 grind [TL,TT]
theorem Ycc{n:Net}{b:Int}{r:List Int}(hl:r.getD (r.length-1) 0=b)(hnd:r.Nodup)(hk:∀i,i+1<r.length->(XN n r i).1=r.getD i 0/\(XN n r i).2.1=r.getD (i+1) 0):∀(m i:Nat),i+m+1=r.length->
 Chain b (r.getD i 0) ((List.range' i m).map (XN n r))
 |0,i,h=>by
  show r.getD i 0=b
  grind
 |m+1,i,h=>by
  obtain⟨h1,h2⟩:=hk i (by omega)
  refine⟨h1.symm,λe=>?_,?_⟩
  ·rw[<-hl]at e
   rw[TB,TB,Ta (show i<r.length by omega),Ta (show r.length-1<r.length by omega)]at e
   exact TT.1 hnd i (r.length-1) (by omega) (by omega) (by omega) (Tz (by simp_all))
  ·rw[h2]
   exact Ycc hl hnd hk m (i+1) (by omega)
theorem WO{n:Net}{a b:Int}(h:Xw n a b r=0):Chain b a (Yr n r)/\(∀x∈Yr n r,0<=x.2.2)/\Yr n r≠[]/\r.Nodup/\
 ∀i,i+1<r.length->(XN n r i).1=r.getD i 0/\(XN n r i).2.1=r.getD (i+1) 0:=by
 have h':=h
 unfold Xw at h
 by_cases h0:Zq n a b=0
 rotate_left
 ·omega
 rw[Tf (λe=>e h0)]at h
 obtain⟨hlen,-,⟨hs,ht⟩,htw,-⟩:=Qn h
 obtain⟨hck,-,hg⟩:=JC h'
 have hok:=YP hck
 have hnd:=Yqn.1 htw
 have hk:∀i,i+1<r.length->(XN n r i).1=r.getD i 0/\(XN n r i).2.1=r.getD (i+1) 0:=λi hi=>WJ (Vi (hg i hi))
 refine⟨?_,λx hx=>?_,?_,hnd,hk⟩
 ·grind [Ycc,Yr,List.range_eq_range']
 ·obtain⟨i,hi,rfl⟩:=TG.1 hx
  exact(YbE hok (r.getD i 0) (r.getD (i+1) 0)).1
 ·intro e
  have:=TA List.length e
  grind [Yr]
def posQ(q:List Rqs)(id:Int):Nat:=(q.takeWhile λy=>decide (y.1.1<id)).length
def insQ(q:List Rqs)(x:Rqs):List Rqs:=q.take (posQ q x.1.1)++x::q.drop (posQ q x.1.1)
variable {q:List Rqs}{x:Rqs}
theorem Qy{y:Rqs}:y∈insQ q x↔y=x\/y∈q:=by
 have h:y∈q↔y∈q.take (posQ q x.1.1)\/y∈q.drop (posQ q x.1.1):=by grind [Rw]
 grind [insQ]
variable {l:List Flw}{f:Flw}
theorem Ul{nodes:Int}(h:(Yt nodes l).2=0)(hf:f∈l):Xl nodes f=0:=by
 obtain⟨j,hj,rfl⟩:=List.mem_iff_getElem.1 hf
 unfold Yt at h
 split at h
 ·cases h
 split at h
 ·cases h
 have:=YF.1 h j (Td _) (by omega)
 unfold YV at this
 split at this
 all_goals simp_all [Y4]
theorem X4{nodes:Int}(hf:Xl nodes f=0):(0<=f.1/\f.1<256)/\(1<=f.2.2.2.1/\f.2.2.2.1<=512)/\(0<=f.2.2.2.2.1/\f.2.2.2.2.1<f.2.2.2.1)/\f.2.1≠f.2.2.1/\(1<=f.2.2.2.2.2/\f.2.2.2.2.2<=f.2.2.2.1):=by
 unfold Xl at hf
 omega
theorem Uk{id:Int}:0<=Zr l id↔∃f∈l,f.1=id:=by
 unfold Zr
 rw[Vc _ _ _ (RP 0),TM]
 simp_all
variable {n:Net}{t s:Sch}{r:List Int}
theorem YkJ(hw:wayE n t f r=0)(h:∀i:Nat,f.2.2.2.2.1+i*f.2.2.2.1<t.len->∃y,y<=f.2.2.2.2.1+i*f.2.2.2.1+f.2.2.2.2.2/\WayT t.len (X6 t f.1) (Yr n r) (f.2.2.2.2.1+i*f.2.2.2.1) y):
 (YY n t f r).2=0/\(YY n t f r).1.1<=f.2.2.2.2.2:=by
 obtain⟨-,-,hf,-,hck⟩:=Yau hw
 obtain⟨-,hp,h0,-,hd⟩:=X4 hf
 obtain⟨-,hloss,hne,-,-⟩:=WO hck
 obtain⟨b,hb,hbd⟩:=Ylh (S:=Zx n t f r) (len:=t.len) (per:=f.2.2.2.1) (d:=f.2.2.2.2.2) hp.1 (fuel:=t.len.toNat) (rel:=f.2.2.2.2.1) (b:=(0,0,[])) (by omega) (λi hi=>by
  obtain⟨y,h1,h2⟩:=h i hi
  obtain⟨l,h3,h4⟩:=YnR hne hloss (by omega) h2
  grind)
 have hbe:ZS n t f r=some b:=hb
 unfold YY
 simp_all
theorem V4(h:(rqsE n q).2=0):Yo n=0/\(Yt n.nodes (YG q)).2=0/\∀x∈q,rtsE n x=0:=by
 unfold rqsE at h
 by_cases h1:Yo n=0
 rotate_left
 ·simp_all
 by_cases h2:(Yt n.nodes (YG q)).2=0
 rotate_left
 ·simp_all
 refine⟨h1,h2,λx hx=>?_⟩
 obtain⟨i,hi,rfl⟩:=Ydb hx
 simp_all [YF]
theorem U9(h:rtsE n x=0):∀r∈x.2,Xw n x.1.2.1 x.1.2.2.1 r=0:=by
 intro r hr
 unfold rtsE at h
 split at h
 ·cases h
 split at h
 ·cases h
 split at h
 ·omega
 rename_i h3
 obtain⟨k,hk⟩:=TL.1 hr
 have hkl:=(Tj.1 hk).1
 have:=YF.1 (TQ.1 h3) k (Td _) (by omega)
 grind [rtAt]
theorem Ykl{a b:Int}(h:Xw n a b r=0):∀x∈Yr n r,YZ n x.1 x.2.1=true:=by
 obtain⟨-,-,-,-,hk⟩:=WO h
 obtain⟨-,-,hg⟩:=JC h
 grind [Yr]
theorem O1{len a:Int}:∀{cs:List Cel}{k:Nat}{p:Cel×Int},p∈Xd len a cs k->p.1∈cs
 |[],k,p,h=>by cases h
 |c::cs,k,p,h=>by
  unfold Xd at h
  split at h
  ·rcases Rr.1 h with rfl|h
   ·simp_all
   ·exact TK _ (O1 h)
  ·exact TK _ (O1 h)
theorem Oe{len:Int}{cs:List Cel}:∀{f k:Nat}{a:Int}{p:Cel×Int},p∈hopP len cs f k a->p.1∈cs
 |0,k,a,p,h=>by cases h
 |f+1,k,a,p,h=>by
  rcases T9.1 h with h|h
  ·exact O1 h
  ·exact Oe h
theorem Yfg{s:Sch}{id len endd:Int}:∀{ls:List Lk}{a:Int}{p:Cel×Int},p∈runP len (X6 s id) endd ls a->p.1∈s.cells
 |[],a,p,h=>by cases h
 |l::ls,a,p,h=>by
  unfold runP at h
  split at h
  ·exact(RB.1 (Oe h)).1
  ·rcases T9.1 h with h|h
   ·exact(RB.1 (Oe h)).1
   ·exact Yfg h
theorem YkV{l m:List Cel}(hnd:m.Nodup)(h:l.Sublist m):l=m.filter λc=>decide (c∈l):=by
 induction h with
 |slnil=>rfl
 |@cons l m a h ih=>
  grind
 |@cons_cons l m a h ih=>
  have h3:m.filter (λc=>decide (c∈a::l))=m.filter (λc=>decide (c∈l)):=by grind [SV]
  grind
def Yx5(n:Net)(s:Sch)(f:Flw)(r:List Int)(c:Cel):Bool:=(List.range s.len.toNat).any λi=>decide (f.2.2.2.2.1+i*f.2.2.2.1<s.len)&&(runP s.len (X6 s f.1) (f.2.2.2.2.1+i*f.2.2.2.1+f.2.2.2.1) (Yr n r) (f.2.2.2.2.1+i*f.2.2.2.1)).any λp=>decide (p.1=c)
def YtE(n:Net)(s:Sch)(x:Rqs)(c:Cel):Bool:=x.2.any λr=>Yx5 n s x.1 r c
theorem YkH(h:(YY n s f r).2=0){i:Nat}(hi:f.2.2.2.2.1+i*f.2.2.2.1<s.len):
 (runP s.len (X6 s f.1) (f.2.2.2.2.1+i*f.2.2.2.1+f.2.2.2.1) (Yr n r) (f.2.2.2.2.1+i*f.2.2.2.1)).length=XF (Yr n r)/\
 Y2 (runP s.len (X6 s f.1) (f.2.2.2.2.1+i*f.2.2.2.1+f.2.2.2.1) (Yr n r) (f.2.2.2.2.1+i*f.2.2.2.1)) (f.2.2.2.2.1+i*f.2.2.2.1)<=f.2.2.2.2.1+i*f.2.2.2.1+(YY n s f r).1.1:=by
 obtain⟨hw,b,hb,he⟩:=WY h
 obtain⟨-,-,hf,-,hck⟩:=Yau hw
 obtain⟨-,hp,h0,-,hd⟩:=X4 hf
 obtain⟨-,hloss,hne,-,-⟩:=WO hck
 have hii:(i:Int)<=i*f.2.2.2.1:=by
  have:=SI hp.1 (show(0:Int)<=i by omega)
  rw[Int.mul_one]at this
  exact this
 obtain⟨-,h2⟩:=Yhc hp.1 (show Ji (Zx n s f r) s.len f.2.2.2.1 s.len.toNat f.2.2.2.2.1 (0,0,[])=some b from hb)
 obtain⟨l,h3,h4⟩:=h2 i (by omega) hi
 unfold Zx at h3
 rw[YbK]at h3
 split at h3
 ·cases h3
 rename_i hfull
 obtain rfl:=Tz h3
 have hrl:=QP s.len (X6 s f.1) (f.2.2.2.2.1+i*f.2.2.2.1+f.2.2.2.1) (Yr n r) (f.2.2.2.2.1+i*f.2.2.2.1)
 have hn:1<=XF (Yr n r):=by
  cases hl:Yr n r with
  |nil=>exact absurd hl hne
  |cons x xs=>
   have:=hloss x (by rw[hl];simp)
   unfold XF
   rw[RI,List.sum_cons]
   unfold Y1
   omega
 have hla:=Yc1 (x:=runP s.len (X6 s f.1) (f.2.2.2.2.1+i*f.2.2.2.1+f.2.2.2.1) (Yr n r) (f.2.2.2.2.1+i*f.2.2.2.1)) (a:=f.2.2.2.2.1+i*f.2.2.2.1) (λe=>by rw[e]at hfull;simp only[RV]at hfull;omega)
 rw[he]
 refine⟨by omega,?_⟩
 show _<=_+b.1
 omega
theorem Yib{q':List Rqs}(hc:(YD n q s).2.2=0)(hq:∀x∈q',x∈q)(hfl:(Yt n.nodes (YG q')).2=0)(hlen:t.len=s.len)(hoff:t.off=s.off)(hsub:t.cells.Sublist s.cells)(hcf:∀c∈t.cells,∃x∈q',x.1.1=Y6 c)
 (hu:∀x∈q',∀c∈s.cells,YtE n s x c=true->c∈t.cells):(YD n q' t).2.2=0:=by
 obtain⟨h1,h2⟩:=ZD.1 hc
 have hsem:=We.1 (Z5.1 h1)
 have hsem2:=hsem.sub hlen hoff hsub
 have hsem3:Sem n (YG q') t:=by
  refine⟨hsem2.ck,hfl,λf hf=>?_,hsem2.frm,λc hcm=>⟨(hsem2.good c hcm).1,?_⟩,hsem2.once,hsem2.clear⟩
  ·obtain⟨y,hy,rfl⟩:=TG.1 hf
   exact hsem2.per _ (TG.2 ⟨y,hq y hy,rfl⟩)
  ·obtain⟨x,hx,e⟩:=hcf c hcm
   exact Uk.2 ⟨x.1,TG.2 ⟨x,hx,rfl⟩,e⟩
 have hft:=Xm.2 hsem2.frm
 have hnd:=Yan hsem.frm.ord
 refine ZD.2 ⟨Z5.2 (We.2 hsem3),λx hx=>?_⟩
 have hw:=h2 x (hq x hx)
 unfold Yba at hw⊢
 rw[Tq]at hw⊢
 refine⟨hw.1,?_⟩
 have hlate:=hw.2
 simp only[RO]at hlate
 unfold ZE
 rw[RO,RG]
 intro r hr
 obtain⟨k1,k2⟩:=YbD hlate hr
 obtain⟨hway,-⟩:=WY k1
 obtain⟨a1,a2,a3,a4,a5⟩:=Yau hway
 have hwayt:wayE n t x.1 r=0:=by
  unfold wayE
  rw[hft,Tf (by rintro(h|h|h);exact h a1;cases h;exact h a3),Tf (λe=>e (by rw[hlen];exact a4))]
  exact a5
 have:=YkJ hwayt λi hi=>by
  rw[hlen]at hi
  obtain⟨e1,e2⟩:=YkH k1 hi
  refine⟨_,NQ e2 (by omega),?_⟩
  have hkeep:=YiQ (keep:=λc=>decide (c∈t.cells)) e1 λp hp=>Ti (by
   have hps:p.1∈s.cells:=Yfg hp
   refine hu x hx p.1 hps ?_
   refine TM.2 ⟨r,hr,?_⟩
   have hii:(i:Int)<=i*x.1.2.2.2.1:=by
    have hp1:=(X4 a3).2.1.1
    have:=SI hp1 (show(0:Int)<=i by omega)
    rw[Int.mul_one]at this
    exact this
   have h0:=(X4 a3).2.2.1.1
   refine TM.2 ⟨i,Rq.2 (by omega),?_⟩
   rw[Ti hi,RN]
   exact TM.2 ⟨p,hp,Ti rfl⟩)
  rw[hlen]
  refine hkeep.mono λl a=>?_
  have hte:∀p:Cel->Bool,t.cells.filter p=(s.cells.filter λc=>decide (c∈t.cells)).filter p:=λp=>TA (List.filter p) (YkV hnd hsub)
  unfold slC X6
  rw[hte,SH,SH,SH,SH]
  refine Nat.le_of_eq (TA List.length (SV λc _=>?_))
  cases(decide (c∈t.cells))<;>simp
 unfold badR
 rw[Tm]
 omega
open Go.RowKit Go.Eng Go.Nw
variable {B cap:Nat}{w0 w:World}{H:List HP}
theorem NetM.In.inM{K:List HP}{n:NetM}(h:n.In B w0 H)(hm:Eng.many H∈K):n.In B w0 K:=
 ⟨h.pw.inM hm,λr hr=>(h.rw_ r hr).inM hm,h.lk.inM hm,h.mg.inM hm,h.s1,h.s2,h.s3,h.s4⟩
theorem YgB(a b:Cel)(hw:St B w0 H w):
 CX B w0 431 [celV a,celV b] w λv K=>v=.bool (YE a b)/\K=H:=by
 refine Ya Tryz.func431 Tryz.ntmps431 rfl rfl hw ?_
 have htc:YE a b=true↔(a.2.2.1=b.2.2.1\/a.2.2.1=b.2.2.2.1\/a.2.2.2.1=b.2.2.1\/a.2.2.2.1=b.2.2.2.1):=by unfold YE YM toC;simp_all
 obtain⟨z,hz⟩:∃z,YE a b=z:=⟨_,rfl⟩
 rw[hz]at htc⊢
 repeat'(first|apply(zs1 ?_)|apply(zs2 ?_)|(apply zg1;first|refine zs3 ?_|refine zs4 ?_)|(apply zg2;refine zs6 ?_)|(apply zg3;refine zs7 ?_)|(apply zg6;first|refine zs11 ?_|refine zs12 ?_)|(apply zg7;(refine zs15 ?_ ?_<;>intro _<;>try exact zo))|(apply zg23;(refine zs52 ?_;intro _))|apply(zs65 ?_)|apply(zs68 ?_)|apply(zs69 ?_)|apply(zs70 ?_)|apply(zs74 ?_)|fail)
 all_goals(
  apply Yf H
  ·exact zk
  apply Yc;exact rfl;exact rfl
  cases z<;>simp at htc<;>first|exact⟨rfl,rfl⟩|(exfalso;omega))
def VJ(_:Net)(l:List Cel)(i:Nat)(c:Cel)(k:Nat):Bool:=(List.range k).any λj=>decide (j≠i)&&YE c (celL l j)
theorem YaP(n:NetM)(l:List Cel)(i:Nat)(gn gl gi:Nat)(A:Option Addr)(cap:Nat)(lk node:Int)(hok:Ok n.net)(hnode:0<=node/\node<n.nodes)(hlk:0<=lk/\lk.toNat<n.net.links.length)(hlen:l.length<=1000)(hin:n.In B w0 H)(hr:Rd B w0 H A (l.flatMap celF))
 (h1:netN gn n∈H) (h2:blk gl (.cells #[.slice A l.length cap] 31 (0,0))∈H) (h3:blk gi (.cells #[.int .i64 i] 3 (0,0))∈H) (hw:St B w0 H w):
 CX B w0 432 [.int .i64 lk,.int .i64 node,.pointer (some ⟨gn,0,none⟩),.pointer (some ⟨gl,0,none⟩),.pointer (some ⟨gi,0,none⟩)] w λv K=>v=.bool (Zk n.net (mar n.net lk.toNat) (Yy n.net l i node l.length))/\K=H:=by
 refine Ya Tryz.func432 Tryz.ntmps432 rfl rfl hw ?_
 have hmg:=hin.mg
 have hs4:=hin.s4
 have hml:n.margin.length=n.net.links.length:=hok.k1
 have hm1:n.margin[lk.toNat]? =some (mar n.net lk.toNat):=zc33
 have p1:=λ{w:World}(hw:St B w0 H w)=>Yct n l i node hok hnode hlen (cap:=cap) hin hr hw
 obtain⟨d,hd⟩:∃d,Yy n.net l i node l.length=d:=⟨_,rfl⟩
 rw[hd]at p1⊢
 have p2:=λ{w:World}(hw:St B w0 H w)=>OM n (mar n.net lk.toNat) d hin hw
 unfold netN at h1
 repeat'(first|apply(zs2 ?_)|apply(zs65 ?_)|apply(zs68 ?_)|apply(zs69 ?_)|apply(zs70 ?_)|fail)
 apply Y8 [0,1,2,3,4,5,6,7,8,9,10,11,12] []
 kernel_rfl
 kernel_rfl
 (simp only[Yd,nthO];rfl)
 exact rfl
 repeat'(first|apply(zs1 ?_)|(apply zg2;refine zs6 ?_)|(apply zg3;first|refine zs7 ?_|refine zs8 ?_|refine zs60 ?_)|(apply zg5;refine zs57 ?_)|apply(zs87 ?_)|fail)
 apply Yb Yts
 exact za
 exact rfl
 exactλ_ hw=>(p1 hw)
 repeat'(first|apply(zs65 ?_)|apply(zs87 ?_)|(apply Yh;(repeat(first|with_reducible exact Y7|(with_reducible apply Y0;(repeat(first|with_reducible exact YB|with_reducible apply YR))))))|fail)
 ·show Perm H (H++[])
  exact zc37
 repeat'(first|fail)
 apply Yb YeJ
 exact za
 exact rfl
 exactλ_ hw=>(p2 hw)
 repeat'(first|apply(zs2 ?_)|apply(zs65 ?_)|(apply Jg;exact zp)|apply(zs68 ?_)|apply(zs74 ?_)|(apply Yh;(repeat(first|with_reducible exact Y7|(with_reducible apply Y0;(repeat(first|with_reducible exact YB|with_reducible apply YR))))))|apply(zs93 ?_)|apply(zs94 ?_)|fail)
 ·show Perm H (H++[])
  exact zc37
 repeat'(first|fail)
 exact zc9
variable {A:Option Addr}
theorem YhH(n:NetM)(l:List Cel)(i:Nat)(hck:Yo n.net=0)(hi:i<l.length)(hlen:l.length<=1000)(hin:n.In B w0 H)(hr:Rd B w0 H A (l.flatMap celF))(hw:St B w0 H w):
 CX B w0 429 [n.val,.slice A l.length cap,.int .i64 i] w λv K=>v=.bool (ZB n.net l i)/\K=H:=by
 refine Ya Tryz.func429 Tryz.ntmps429 rfl rfl hw ?_
 have hok:=YP hck
 have hget:l[i]? =some (celL l i):=by unfold celL;rw[TB,Ta hi];rfl
 obtain⟨c,hc⟩:∃c,celL l i=c:=⟨_,rfl⟩
 rw[hc]at hget
 have p1:=λ{H':List HP}{w:World}(hin:n.In B w0 H') (hw:St B w0 H' w)=>Zl n c.2.2.1 c.2.2.2.1 hin hw
 have p2:=λ{H':List HP}{w:World}(hin:n.In B w0 H') (hw:St B w0 H' w)=>Zl n c.2.2.2.1 c.2.2.1 hin hw
 have hix:∀u v:Int,Zb n.net u v=Yv n.net u v:=λu v=>by unfold Zb;rw[Tf (by omega)]
 have hus:=Yi8 hck c.2.2.1 c.2.2.2.1
 have p3:=λ{H':List HP}{w:World}(hin:n.In B w0 H') (hw:St B w0 H' w)=>VF n (Zb n.net c.2.2.1 c.2.2.2.1) hin hw
 rw[hus]at p3
 have hP:ZB n.net l i=(!(YZ n.net c.2.2.1 c.2.2.2.1)||VJ n.net l i c l.length||(!(Zk n.net (mar n.net (Yv n.net c.2.2.1 c.2.2.2.1).toNat) (Yy n.net l i c.2.2.2.1 l.length))||!(Zk n.net (mar n.net (Yv n.net c.2.2.2.1 c.2.2.1).toNat) (Yy n.net l i c.2.2.1 l.length)))):=by
  unfold ZB VJ
  rw[hc,show JK n.net (Zb n.net (YM c) (toC c))=YZ n.net c.2.2.1 c.2.2.2.1 from hus]
  rfl
 rw[hP]
 by_cases hg:YZ n.net c.2.2.1 c.2.2.2.1=true
 rotate_left
 ·have hg:YZ n.net c.2.2.1 c.2.2.2.1=false:=by simpa using hg
  rw[hg]at p3⊢
  repeat'(first|apply(zs2 ?_)|(apply zg3;first|refine zs7 ?_|refine zs61 ?_)|(apply zg5;refine zs57 ?_)|(apply zg22;refine zs51 ?_)|(apply zg23;first|(refine zs52 ?_;intro _)|(refine zs53 ?_;intro _))|(apply zg24;(refine zs54 ?_;intro _))|apply(zs65 ?_)|apply(zs68 ?_)|apply(zs69 ?_)|apply(zs70 ?_)|fail)
  rename_i gn gl gi gc
  apply YC [0,1,2,3,4,6,7,8,9,10,5,11,12,13] [] [true,false,false,true]
  kernel_rfl
  kernel_rfl
  exact zy
  (simp only[Yd,nthO];rfl)
  exact rfl
  repeat'(first|(apply zg2;refine zs6 ?_)|(apply zg3;first|refine zs7 ?_|refine zs8 ?_)|apply(zs87 ?_)|fail)
  apply Yb Jy
  exact za
  exact rfl
  exactλ_ hw=>(p1 zc36 hw)
  repeat'(first|apply(zs65 ?_)|apply(zs87 ?_)|(apply Yh;(repeat(first|with_reducible exact Y7|(with_reducible apply Y0;(repeat(first|with_reducible exact YB|with_reducible apply YR))))))|fail)
  apply Yb Jy
  exact za
  exact rfl
  exactλ_ hw=>(p2 zc36 hw)
  repeat'(first|apply(zs1 ?_)|apply(zs2 ?_)|(apply zg3;refine zs8 ?_)|apply(zs65 ?_)|(apply Jg;exact zp)|apply(zs68 ?_)|apply(zs69 ?_)|apply(zs70 ?_)|(apply Yh;(repeat(first|with_reducible exact Y7|(with_reducible apply Y0;(repeat(first|with_reducible exact YB|with_reducible apply YR))))))|apply(zs93 ?_)|apply(zs94 ?_)|fail)
  apply Yb Qm
  exact za
  exact rfl
  exactλ_ hw=>(p3 zc36 hw)
  repeat'(first|apply(zs2 ?_)|(apply zg20;refine zs48 ?_)|apply(zs65 ?_)|apply(zs68 ?_)|apply(zs69 ?_)|apply(zs70 ?_)|(apply zg27;refine zs71 ?_)|apply(zs74 ?_)|apply(zs77 ?_)|fail)
  apply Yf H
  ·exact zc0
  exact zc3
 rw[hg]at p3⊢
 obtain⟨⟨f0,f1⟩,⟨t0,t1⟩,_,k1,k2⟩:(0<=c.2.2.1/\c.2.2.1<n.net.nodes)/\(0<=c.2.2.2.1/\c.2.2.2.1<n.net.nodes)/\c.2.2.1≠c.2.2.2.1/\0<=Yv n.net c.2.2.1 c.2.2.2.1/\0<=Yv n.net c.2.2.2.1 c.2.2.1:=Xu hok hg
 have x1:=XP k1
 have x2:=XP k2
 rw[hix]at p1 p2 p3
 obtain⟨i1,hi1⟩:∃z,Yv n.net c.2.2.1 c.2.2.2.1=z:=⟨_,rfl⟩
 obtain⟨i2,hi2⟩:∃z,Yv n.net c.2.2.2.1 c.2.2.1=z:=⟨_,rfl⟩
 rw[hi1]at p1 p3 k1 x1⊢
 rw[hi2]at p2 k2 x2⊢
 have q1:=λ{H':List HP}{w:World}(gn gl gi:Nat) (hin:n.In B w0 H') (hr:Rd B w0 H' A (l.flatMap celF)) (h1:netN gn n∈H') (h2:blk gl (.cells #[.slice A l.length cap] 31 (0,0))∈H') (h3:blk gi (.cells #[.int .i64 i] 3 (0,0))∈H') (hw:St B w0 H' w)=>YaP n l i gn gl gi A cap i1 c.2.2.2.1 hok ⟨t0,t1⟩ ⟨k1,x1⟩ hlen hin hr h1 h2 h3 hw
 have q2:=λ{H':List HP}{w:World}(gn gl gi:Nat) (hin:n.In B w0 H') (hr:Rd B w0 H' A (l.flatMap celF)) (h1:netN gn n∈H') (h2:blk gl (.cells #[.slice A l.length cap] 31 (0,0))∈H') (h3:blk gi (.cells #[.int .i64 i] 3 (0,0))∈H') (hw:St B w0 H' w)=>YaP n l i gn gl gi A cap i2 c.2.2.1 hok ⟨f0,f1⟩ ⟨k2,x2⟩ hlen hin hr h1 h2 h3 hw
 obtain⟨b1,hb1⟩:∃b,Zk n.net (mar n.net i1.toNat) (Yy n.net l i c.2.2.2.1 l.length)=b:=⟨_,rfl⟩
 obtain⟨b2,hb2⟩:∃b,Zk n.net (mar n.net i2.toNat) (Yy n.net l i c.2.2.1 l.length)=b:=⟨_,rfl⟩
 rw[hb1]at q1⊢
 rw[hb2]at q2⊢
 repeat'(first|apply(zs2 ?_)|(apply zg3;first|refine zs7 ?_|refine zs61 ?_)|(apply zg5;refine zs57 ?_)|(apply zg22;refine zs51 ?_)|(apply zg23;first|(refine zs52 ?_;intro _)|(refine zs53 ?_;intro _))|(apply zg24;(refine zs54 ?_;intro _))|apply(zs65 ?_)|apply(zs68 ?_)|apply(zs69 ?_)|apply(zs70 ?_)|fail)
 rename_i gn gl gi gc
 apply YC [0,1,2,3,4,6,7,8,9,10,5,11,12,13] [] [true,false,false,true]
 kernel_rfl
 kernel_rfl
 exact zy
 (simp only[Yd,nthO];rfl)
 exact rfl
 repeat'(first|(apply zg2;refine zs6 ?_)|(apply zg3;first|refine zs7 ?_|refine zs8 ?_)|apply(zs87 ?_)|fail)
 apply Yb Jy
 exact za
 exact rfl
 exactλ_ hw=>(p1 zc36 hw)
 repeat'(first|apply(zs65 ?_)|apply(zs87 ?_)|(apply Yh;(repeat(first|with_reducible exact Y7|(with_reducible apply Y0;(repeat(first|with_reducible exact YB|with_reducible apply YR))))))|fail)
 apply Yb Jy
 exact za
 exact rfl
 exactλ_ hw=>(p2 zc36 hw)
 repeat'(first|apply(zs1 ?_)|apply(zs2 ?_)|(apply zg3;refine zs8 ?_)|apply(zs65 ?_)|(apply Jg;exact zp)|apply(zs68 ?_)|apply(zs69 ?_)|apply(zs70 ?_)|(apply Yh;(repeat(first|with_reducible exact Y7|(with_reducible apply Y0;(repeat(first|with_reducible exact YB|with_reducible apply YR))))))|apply(zs93 ?_)|apply(zs94 ?_)|fail)
 apply Yb Qm
 exact za
 exact rfl
 exactλ_ hw=>(p3 zc36 hw)
 repeat'(first|apply(zs1 ?_)|(apply zg3;refine zs7 ?_)|(apply zg4;refine zs9 ?_)|(apply zg20;refine zs47 ?_)|apply(zs65 ?_)|apply(zs68 ?_)|apply(zs69 ?_)|apply(zs70 ?_)|(apply zg27;refine zs72 ?_)|apply(zs73 ?_)|apply(zs76 ?_)|fail)
 refine Ye (λ(k:Nat)=>[(35,.int .i64 k),(34,.int .i64 l.length),(33,.slice A l.length cap),(3,.pointer (some ⟨gn,0,none⟩)),(4,.pointer (some ⟨gl,0,none⟩)),(5,.pointer (some ⟨gi,0,none⟩)),(7,.pointer (some ⟨gc,0,none⟩)),(8,.int .i64 i1),(9,.int .i64 i2)])
  (λ_=>blk gc (.cells #[.int .i64 c.1,.int .i64 c.2.1,.int .i64 c.2.2.1,.int .i64 c.2.2.2.1,.int .i64 c.2.2.2.2] 162 (0,0))::blk gi (.cells #[.int .i64 i] 3 (0,0))::blk gl (.cells #[.slice A l.length cap] 31 (0,0))::netN gn n::H) (λk=>k<=l.length/\VJ n.net l i c k=false) (λk=>l.length-k) 0 ⟨Td _,rfl⟩ ?_ ?_ ?_
 ·exact zc1
 ·unfold netN
  exact zc0
 rintro k ⟨hk,hno⟩ K hK
 have hrc:Rd B w0 (blk gc (.cells #[.int .i64 c.1,.int .i64 c.2.1,.int .i64 c.2.2.1,.int .i64 c.2.2.2.1,.int .i64 c.2.2.2.2] 162 (0,0))::blk gi (.cells #[.int .i64 i] 3 (0,0))::blk gl (.cells #[.slice A l.length cap] 31 (0,0))::netN gn n::H) A (l.flatMap celF):=hr.cons.cons.cons.cons
 by_cases hlt:k<l.length
 ·have hgk:l[k]? =some (celL l k):=YuD
  have hst:VJ n.net l i c (k+1)=(VJ n.net l i c k||(decide (k≠i)&&YE c (celL l k))):=by
   unfold VJ
   rw[RH,NG]
   simp
  obtain⟨d,hd⟩:∃d,celL l k=d:=⟨_,rfl⟩
  rw[hd]at hgk hst
  have p4:=λ{H':List HP}{w:World}(hw:St B w0 H' w)=>YgB c d hw
  unfold netN at hrc⊢
  obtain⟨t,ht⟩:∃t,YE c d=t:=⟨_,rfl⟩
  rw[ht]at p4 hst
  rw[hno,NF]at hst
  by_cases hki:k=i
  ·rw[Tn (λh=>h hki),NI]at hst
   repeat'(first|apply(zs1 ?_)|apply(zs2 ?_)|(apply zg1;refine zs3 ?_)|(apply zg3;first|refine zs7 ?_|refine zs61 ?_)|(apply zg5;refine zs57 ?_)|(apply zg6;refine zs12 ?_)|(apply zg8;(refine zs16 ?_ ?_<;>intro _<;>try exact zo))|(apply(zs17 ?_ ?_)<;>intro _<;>try exact zo)|(apply zg13;refine zs30 ?_)|(apply zg22;refine zs51 ?_)|(apply zg24;(refine zs54 ?_;intro _))|apply(zs65 ?_)|apply(zs68 ?_)|apply(zs69 ?_)|apply(zs70 ?_)|(apply zg27;first|refine zs71 ?_|refine zs72 ?_)|apply(zs73 ?_)|apply(zs76 ?_)|apply(zs79 ?_)|fail)
   apply hK (k+1)
   ·exact Ymc
   ·omega
   ·exact zc1
   ·unfold netN
    exact zc0
  rw[Ti hki,RN]at hst
  cases t with
  |false=>
   repeat'(first|((apply Yb Yty);exact za;exact rfl;exactλ_ hw=>(p4 hw))|apply(zs1 ?_)|apply(zs2 ?_)|(apply zg1;refine zs4 ?_)|(apply zg3;first|refine zs7 ?_|refine zs8 ?_|refine zs61 ?_)|(apply zg5;refine zs57 ?_)|(apply zg6;refine zs11 ?_)|(apply zg8;(refine zs16 ?_ ?_<;>intro _<;>try exact zo))|(apply(zs17 ?_ ?_)<;>intro _<;>try exact zo)|(apply zg13;refine zs30 ?_)|(apply zg22;refine zs51 ?_)|(apply zg24;(refine zs54 ?_;intro _))|apply(zs65 ?_)|apply(zs68 ?_)|apply(zs69 ?_)|apply(zs70 ?_)|(apply zg27;first|refine zs71 ?_|refine zs72 ?_)|apply(zs73 ?_)|apply(zs76 ?_)|apply(zs79 ?_)|fail)
   apply hK (k+1)
   ·exact Ymc
   ·omega
   ·exact zc1
   ·unfold netN
    exact zc0
  |true=>
   have hfa:VJ n.net l i c l.length=true:=by
    unfold VJ
    rw[TM]
    exact⟨k,Rq.2 hlt,by rw[hd,ht,Ti hki];rfl⟩
   rw[hfa]
   repeat'(first|((apply Yb Yty);exact za;exact rfl;exactλ_ hw=>(p4 hw))|apply(zs1 ?_)|apply(zs2 ?_)|(apply zg1;refine zs4 ?_)|(apply zg3;first|refine zs7 ?_|refine zs8 ?_|refine zs61 ?_)|(apply zg5;refine zs57 ?_)|(apply zg6;refine zs11 ?_)|(apply zg8;(refine zs16 ?_ ?_<;>intro _<;>try exact zo))|(apply(zs17 ?_ ?_)<;>intro _<;>try exact zo)|(apply zg22;refine zs51 ?_)|(apply zg24;(refine zs54 ?_;intro _))|apply(zs65 ?_)|apply(zs68 ?_)|apply(zs69 ?_)|apply(zs70 ?_)|(apply zg27;refine zs71 ?_)|apply(zs73 ?_)|apply(zs74 ?_)|apply(zs76 ?_)|apply(zs77 ?_)|apply(zs78 ?_)|fail)
   apply Yf H
   ·exact zc0
   exact zc3
 ·obtain rfl:k=l.length:=by omega
  rw[hno]
  clear hK
  unfold netN at hrc q1 q2⊢
  cases b1 with
  |false=>
   repeat'(first|apply(zs1 ?_)|apply(zs2 ?_)|(apply zg2;refine zs6 ?_)|(apply zg3;refine zs7 ?_)|(apply(zs17 ?_ ?_)<;>intro _<;>try exact zo)|apply(zs65 ?_)|apply(zs68 ?_)|apply(zs69 ?_)|apply(zs70 ?_)|(apply zg27;refine zs72 ?_)|apply(zs75 ?_)|apply(zs80 ?_)|apply(zs81 ?_)|(apply zg29;(apply Yu;exact za;exact rfl))|fail)
   apply Xr (cs:=[.pointer (some ⟨gn,0,none⟩),.pointer (some ⟨gl,0,none⟩),.pointer (some ⟨gi,0,none⟩)])
   exact rfl
   exact Yo8
   exact za
   exact rfl
   exactλ_ hw=>q1 gn gl gi zc36 hrc (by(focus exact zc2)) (by(focus exact zc2)) (by(focus exact zc2)) hw
   repeat'(first|apply(zs1 ?_)|apply(zs2 ?_)|(apply zg1;refine zs3 ?_)|(apply zg6;refine zs11 ?_)|(apply zg20;refine zs48 ?_)|apply(zs65 ?_)|apply(zs68 ?_)|apply(zs74 ?_)|fail)
   apply Yf H
   ·exact zc0
   exact zc3
  |true=>
   cases b2<;>(
    repeat'(first|apply(zs1 ?_)|apply(zs2 ?_)|(apply zg2;refine zs6 ?_)|(apply zg3;refine zs7 ?_)|(apply(zs17 ?_ ?_)<;>intro _<;>try exact zo)|apply(zs65 ?_)|apply(zs68 ?_)|apply(zs69 ?_)|apply(zs70 ?_)|(apply zg27;refine zs72 ?_)|apply(zs75 ?_)|apply(zs80 ?_)|apply(zs81 ?_)|(apply zg29;(apply Yu;exact za;exact rfl))|fail)
    apply Xr (cs:=[.pointer (some ⟨gn,0,none⟩),.pointer (some ⟨gl,0,none⟩),.pointer (some ⟨gi,0,none⟩)])
    exact rfl
    exact Yo8
    exact za
    exact rfl
    exactλ_ hw=>q1 gn gl gi (by repeat(first|exact hin|apply NetM.In.cons)) hrc zm zm zm hw
    repeat'(first|apply(zs1 ?_)|(apply zg1;refine zs4 ?_)|(apply zg2;refine zs6 ?_)|(apply zg3;refine zs7 ?_)|(apply zg20;refine zs47 ?_)|fail)
    apply Xr (cs:=[.pointer (some ⟨gn,0,none⟩),.pointer (some ⟨gl,0,none⟩),.pointer (some ⟨gi,0,none⟩)])
    exact rfl
    exact Yo8
    exact za
    exact rfl
    exactλ_ hw=>q2 gn gl gi (by repeat(first|exact hin|apply NetM.In.cons)) hrc zm zm zm hw
    repeat'(first|apply(zs2 ?_)|(apply zg1;refine zs4 ?_)|(apply zg6;refine zs12 ?_)|(apply zg20;first|refine zs47 ?_|refine zs48 ?_)|apply(zs65 ?_)|apply(zs68 ?_)|apply(zs74 ?_)|fail)
    apply Yf H
    ·exact zk
    apply Yc;exact rfl;exact rfl;exact⟨rfl,rfl⟩)
def JO(n:Net)(l:List Cel)(k:Nat):Bool:=(List.range k).any (ZB n l)
theorem YhK(n:NetM)(l:List Cel)(hck:Yo n.net=0)(hlen:l.length<=1000)(hin:n.In B w0 H)(hr:Rd B w0 H A (l.flatMap celF))(hw:St B w0 H w):
 CX B w0 422 [n.val,.slice A l.length cap] w λv K=>∃i:Int,v=.tuple #[.int .i64 i,.bool (JO n.net l l.length)]/\K=H:=by
 refine Ya Tryz.func422 Tryz.ntmps422 rfl rfl hw ?_
 have p1:=λ{H':List HP}{w:World}(hin:n.In B w0 H') (hw:St B w0 H' w)=>Xa n hin hw
 rw[hck]at p1
 (apply Y5;apply YL;apply Yx;exact rfl;exact rfl;intro g)
 repeat'(first|((apply Yb XQ);exact za;exact rfl;exactλ_ hw=>(p1 hin.cons hw))|apply(zs1 ?_)|apply(zs2 ?_)|(apply zg3;refine zs8 ?_)|(apply zg4;refine zs9 ?_)|(apply zg8;(refine zs16 ?_ ?_<;>intro _<;>try exact zo))|apply(zs65 ?_)|apply(zs68 ?_)|apply(zs69 ?_)|apply(zs70 ?_)|(apply zg27;refine zs72 ?_)|apply(zs73 ?_)|apply(zs76 ?_)|fail)
 refine Ye (λ(k:Nat)=>[(12,.int .i64 k),(11,.int .i64 l.length),(1,.slice A l.length cap),(2,.pointer (some ⟨g,0,none⟩))]) (λ_=>netN g n::H) (λk=>k<=l.length/\JO n.net l k=false) (λk=>l.length-k) 0 ⟨Td _,rfl⟩ ?_ (λw hw=>hw) ?_
 ·exact zc1
 rintro k ⟨hk,hno⟩ K hK
 unfold netN
 by_cases hlt:k<l.length
 ·have p2:=λ{H':List HP}{w:World}(hin:n.In B w0 H') (hr:Rd B w0 H' A (l.flatMap celF)) (hw:St B w0 H' w)=>YhH n l k hck hlt hlen (cap:=cap) hin hr hw
  have hst:JO n.net l (k+1)=(JO n.net l k||ZB n.net l k):=by
   grind [JO]
  rw[hno,NF]at hst
  cases hp:ZB n.net l k with
  |false=>
   rw[hp]at p2 hst
   repeat'(first|((apply Yb Ytx);exact za;exact rfl;exactλ_ hw=>(p2 hin.cons hr.cons hw))|apply(zs1 ?_)|apply(zs2 ?_)|(apply zg3;refine zs8 ?_)|(apply(zs17 ?_ ?_)<;>intro _<;>try exact zo)|(apply zg13;refine zs30 ?_)|apply(zs65 ?_)|apply(zs68 ?_)|apply(zs69 ?_)|apply(zs70 ?_)|(apply zg27;first|refine zs71 ?_|refine zs72 ?_)|apply(zs73 ?_)|apply(zs76 ?_)|apply(zs79 ?_)|fail)
   apply hK (k+1)
   ·exact Ymc
   ·omega
   ·exact zc1
   ·unfold netN
    exact zc0
  |true=>
   rw[hp]at p2
   have hfa:JO n.net l l.length=true:=by
    unfold JO
    rw[TM]
    exact⟨k,Rq.2 hlt,hp⟩
   rw[hfa]
   repeat'(first|((apply Yb Ytx);exact za;exact rfl;exactλ_ hw=>(p2 hin.cons hr.cons hw))|apply(zs1 ?_)|apply(zs2 ?_)|(apply zg3;refine zs8 ?_)|(apply(zs17 ?_ ?_)<;>intro _<;>try exact zo)|apply(zs65 ?_)|apply(zs68 ?_)|apply(zs69 ?_)|apply(zs70 ?_)|(apply zg27;refine zs71 ?_)|apply(zs73 ?_)|apply(zs74 ?_)|apply(zs76 ?_)|apply(zs77 ?_)|apply(zs78 ?_)|fail)
   apply Yf H
   ·exact zc0
   exact YqJ
 ·obtain rfl:k=l.length:=by omega
  rw[hno]
  repeat'(first|apply(zs2 ?_)|(apply(zs17 ?_ ?_)<;>intro _<;>try exact zo)|apply(zs65 ?_)|apply(zs68 ?_)|apply(zs69 ?_)|apply(zs70 ?_)|(apply zg27;refine zs72 ?_)|apply(zs74 ?_)|apply(zs75 ?_)|apply(zs80 ?_)|apply(zs81 ?_)|fail)
  apply Yf H
  ·exact zc0
  exact YqJ
theorem YhT{n:Net}{l:List Cel}(hck:Yo n=0):Jn n l=!(JO n l l.length):=by
 simp_all [Jn,JO,List.not_any_eq_all_not]
theorem Yka(n:NetM)(l:List Cel)(hck:Yo n.net=0)(hlen:l.length<=1000)(hin:n.In B w0 H)(hr:Rd B w0 H A (l.flatMap celF))(hw:St B w0 H w):
 CX B w0 408 [n.val,.slice A l.length cap] w λv K=>v=.bool (Jn n.net l)/\K=H:=by
 refine Ya Tryz.func408 Tryz.ntmps408 rfl rfl hw ?_
 have p1:=λ{H':List HP}{w:World}(hin:n.In B w0 H') (hw:St B w0 H' w)=>Xa n hin hw
 rw[hck]at p1
 rw[YhT hck]
 repeat'(first|apply(zs1 ?_)|apply(zs2 ?_)|(apply zg3;refine zs8 ?_)|(apply zg23;(refine zs52 ?_;intro _))|apply(zs65 ?_)|apply(zs68 ?_)|apply(zs69 ?_)|apply(zs70 ?_)|fail)
 apply Yg _ YxR
 exact za
 exact rfl
 exactλ_ hw=>(YhK n l hck hlen hin.cons hr.cons (hw))
 rintro _ _ ⟨i,rfl,rfl⟩
 cases JO n.net l l.length<;>(
  repeat'(first|((apply Yb XQ);exact za;exact rfl;exactλ_ hw=>(p1 hin.cons hw))|apply(zs1 ?_)|apply(zs2 ?_)|(apply zg1;refine zs4 ?_)|(apply zg3;refine zs8 ?_)|(apply zg6;refine zs11 ?_)|apply(zs13 ?_)|(apply zg7;(refine zs15 ?_ ?_<;>intro _<;>try exact zo))|(apply zg20;first|refine zs47 ?_|refine zs48 ?_)|apply(zs65 ?_)|apply(zs68 ?_)|apply(zs69 ?_)|apply(zs70 ?_)|apply(zs74 ?_)|fail)
  apply Yf H
  ·exact zk
  apply Yc;exact rfl;exact rfl;exact⟨rfl,rfl⟩)
end Go.Proofs.YtjommdkgfbhbdaaGreatDoor
