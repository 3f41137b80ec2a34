/- Lemmas. -/
import Derived.Test.YtjommdkgfbhbdaaGreatDoorQ10
set_option maxRecDepth 100000
set_option maxHeartbeats 8000000
set_option linter.all false
namespace Go.Proofs.YtjommdkgfbhbdaaGreatDoor
open Go.RowKit Go.Eng Go.Nw Go.Rt
def runW(x:WayM)(a:Int):List (Cel×Int):=runP x.s.len (XT x.s.sch x.f.1) (a+x.f.2.2.2.1) (Yp x.n.net x.r) a
def cntV(z:Cel×Int):List Value:=[celV z.1,.int .i64 z.2]
def YhD(x:WayM)(a:Int):List (List Value):=(runW x a).map cntV
structure CtM where
 c:Nat
 a:Int
 L:List HP
structure CuM where
 k:Nat
 slot:Int
 a:Int
 c:Nat
 L:List HP
structure CvM where
 j:Nat
 k:Nat
 a:Int
 c:Nat
 L:List HP
variable {α:Type}{c:Nat}
theorem YqB{W r:List α}{z:α}(hc:c<=W.length)(h:W=W.take c++z::r):W[c]? =some z/\c+1<=W.length/\W=W.take (c+1)++r:=by
 grind
theorem Yje{W:List α}(hc:c<=W.length)(h:W=W.take c++[]):c=W.length:=by
 grind
theorem QU(x:WayM)(at0:Int)(hok:Ve x)(hat:0<=at0/\at0<=1000000)(ga gw:Nat){B:Nat}{w0:World}{H:List HP}(hi:x.In B w0 H):
 Ycg Tryz.prog 291 [.pointer (some ⟨ga,0,none⟩),.pointer (some ⟨gw,0,none⟩)] (YhD x at0) B w0 (intB ga at0::wayB gw x::H):=by
 refine YmC Tryz.func291 Tryz.ntmps291 rfl rfl ?_
 intro l SS XX hy L0 h0
 have hper:=hok.per
 have hslen:=hok.slen
 obtain⟨W,hW⟩:∃W,runW x at0=W:=⟨_,rfl⟩
 have hxs:YhD x at0=W.map cntV:=by unfold YhD;rw[hW]
 rw[hxs]at hy⊢
 rw[To]
 obtain⟨endd,hend⟩:∃e,at0+x.f.2.2.2.1=e:=⟨_,rfl⟩
 unfold runW at hW
 rw[hend]at hW
 unfold intB at hy⊢
 iterate 3 (first|refine zga ?_|(refine zgh ?_;intro _)|fail)
 rename_i gy
 apply YoD
 apply YbZ
 apply Xc
 refine Zs (λz:Nat×Nat=>[(5,.pointer (some ⟨z.2,0,none⟩)),(4,.pointer (some ⟨z.1,0,none⟩)),(3,.pointer (some ⟨gy,0,none⟩)),(1,.pointer (some ⟨ga,0,none⟩)),(2,.pointer (some ⟨gw,0,none⟩))])
  (λz=>intB z.1 at0::many L0::intB z.2 endd::blk gy (.cells #[.func (.yield l) #[] #[]] 301 (0,0))::intB ga at0::wayB gw x::H) ?_ ?_
 ·intro K hK
  refine zX8 ?_
  apply Jb (.n1 0 (.n1 1 (.n1 2 (.n1 3 (.n1 4 (.n1 5 (.n2 6 (.n1 7 (.n1 8 .done)) 7 (.n1 6 (.n1 8 .done))))))))) [9] [false,false,true,true]
  kernel_rfl
  kernel_rfl
  exact zy
  (simp only[Yc,nthO];rfl)
  repeat'(first|(apply Yh;try exact zl)|apply(zs91 ?_ ?_)|(apply Xf;try exact zl)|refine zgd ?_|(refine zgh ?_;intro _)|fail)
  ·rename_i a b
   rw[hend]
   apply hK (a,b)
   ·exact zc1
   ·unfold intB
    dsimp only
    exact zc0
  ·rename_i a b
   rw[hend]
   apply hK (b,a)
   ·exact zc1
   ·unfold intB
    dsimp only
    exact zc0
 rintro⟨g4,g5⟩
 unfold intB
 dsimp only
 refine zX7 ?_
 apply Yg _ Ytc
 exact za
 exact rfl
 exactλ_ hw=>(Ydy x (hw))
 rintro _ _ ⟨g2,rfl,rfl⟩
 refine zX7 ?_
 have hiK:x.In B w0 (wayB g2 x::blk g5 (.cells #[.int .i64 endd] 3 (0,0))::blk gy (.cells #[.func (.yield l) #[] #[]] 301 (0,0))::blk ga (.cells #[.int .i64 at0] 3 (0,0))::wayB gw x::H):=hi.cons.cons.cons.cons.cons
 refine Zt (gf:=355) (lb:=[.pointer (some ⟨g2,0,none⟩)]) (xs:=JW x) (wayB g2 x::blk g5 (.cells #[.int .i64 endd] 3 (0,0))::blk gy (.cells #[.func (.yield l) #[] #[]] 301 (0,0))::blk ga (.cells #[.int .i64 at0] 3 (0,0))::wayB gw x::H) (λy:CtM=>[blk g4 (.cells #[.int .i64 y.a] 3 (0,0)),many y.L])
  (λk y=>y.c<=W.length/\W=W.take y.c++runP x.s.len (XT x.s.sch x.f.1) endd ((Yp x.n.net x.r).drop k) y.a/\SS y.c y.L/\at0<=y.a/\y.a<=endd)
  (λe K=>e=.ret/\∃a L,(SS W.length L\/XX L)/\K=[blk g4 (.cells #[.int .i64 a] 3 (0,0)),many L]) ⟨0,at0,L0⟩ rfl Ytk (Ybu x g2 hok hiK (.head _)) rfl ?_ (by kernel_rfl) (by kernel_rfl) ?_ ⟨Td _,by simpa using hW.symm,h0,SK _,by show at0<=endd;omega⟩ ?_ ?_ ?_
 ·intro args h
  obtain⟨k,hk⟩:=TP.1 h
  obtain⟨l,_,rfl⟩:=Wl hk
  rfl
 ·simp only[TA,TC]
  exact zc0
 ·rintro l2 k args R ⟨c,a,L⟩ hk ⟨hc,hWk,hS,ha0,ha1⟩
  obtain⟨lk,hlk,rfl⟩:=Wl hk
  have hbd:=Oc hok hlk
  dsimp only at hc hWk hS ha0 ha1
  dsimp only[Uz,List.cons_append,List.nil_append]
  unfold lkV
  refine zX67 ?_<;>intros
  rename_i gl
  apply JS (Yw Yo)
  intro R'
  refine zX10 ?_
  have hfew:=hok.few
  apply Yg _ Ywz
  exact za
  exact rfl
  exactλ_ hw=>(YjV x lk (by omega) (hi.mono zc0).s (hw))
  rintro _ _ ⟨A,cap,rfl,rfl⟩
  have hcsl:(XT x.s.sch x.f.1 lk).length<=512:=TX (Sl _ _) hfew
  have hdk:(Yp x.n.net x.r).drop k=lk::(Yp x.n.net x.r).drop (k+1):=by
   obtain⟨h1,h2⟩:=Tu.1 hlk
   rw[<-h2];exact Rm h1
  rw[hdk,Yqt]at hWk
  obtain⟨cs,hcs⟩:∃cs,XT x.s.sch x.f.1 lk=cs:=⟨_,rfl⟩
  obtain⟨ls,hls⟩:∃ls,(Yp x.n.net x.r).drop (k+1)=ls:=⟨_,rfl⟩
  obtain⟨C,hC⟩:∃C,XT x.s.sch x.f.1=C:=⟨_,rfl⟩
  rw[hcs,hls,hC]at hWk
  rw[hcs]at hcsl⊢
  rw[hC,hls]
  unfold cels
  refine zX7 ?_
  rw[show lk.2.2+1=((Y2 lk:Nat):Int) from by unfold Y2;omega]
  have hnl8:Y2 lk<=8:=by unfold Y2;omega
  refine Ye (λz:CuM=>[(9,.int .i64 z.slot),(7,.int .i64 (z.k:Nat)),(8,.slice A cs.length cap),(6,.pointer (some ⟨gl,0,none⟩)),(5,.pointer (some ⟨g5,0,none⟩)),(4,.pointer (some ⟨g4,0,none⟩)),(3,.pointer (some ⟨gy,0,none⟩)),(1,.pointer (some ⟨ga,0,none⟩)),(2,.pointer (some ⟨gw,0,none⟩))])
   (λz=>R'::blk g4 (.cells #[.int .i64 z.a] 3 (0,0))::many z.L::sl 162 5 A cs.length cap (cs.flatMap celF)::blk gl (.cells #[.int .i64 lk.1,.int .i64 lk.2.1,.int .i64 lk.2.2] 164 (0,0))::wayB g2 x::blk g5 (.cells #[.int .i64 endd] 3 (0,0))::blk gy (.cells #[.func (.yield l) #[] #[]] 301 (0,0))::blk ga (.cells #[.int .i64 at0] 3 (0,0))::wayB gw x::H)
   (λz=>z.c<=W.length/\W=W.take z.c++WO x.s.len C endd cs ls (endd-z.slot).toNat z.k z.slot z.a/\SS z.c z.L/\(at0<=z.a/\z.a<=endd)/\(at0<=z.slot/\z.slot<=endd)/\z.k<=8) (λz=>(endd-z.slot).toNat) ⟨Y2 lk,a,a,c,L⟩ ⟨hc,hWk,hS,⟨ha0,ha1⟩,⟨ha0,ha1⟩,hnl8⟩ ?_ ?_ ?_
  ·exact zc1
  ·exact zc0
  rintro⟨kk,slot,a,c,L⟩ ⟨hc,hWk,hS,⟨ha0,ha1⟩,⟨hs0,hs1⟩,hk8⟩ K hK
  dsimp only at hc hWk hS ha0 ha1 hs0 hs1 hk8⊢
  by_cases hk0:kk=0
  ·subst hk0
   rw[Yoa]at hWk
   clear hK
   refine zX0 ?_<;>intros
   apply Ug (CtM.mk c a L)
   ·exact⟨hc,hWk,hS,ha0,ha1⟩
   ·dsimp only[List.cons_append,List.nil_append]
    exact zc0
  by_cases hse:endd<=slot
  ·rw[show(endd-slot).toNat=0 by omega,YqA hk0]at hWk
   have hce:=Yje hc hWk
   rw[hce]at hS
   clear hK
   refine zX25 ?_<;>intros
   apply QE [blk g4 (.cells #[.int .i64 a] 3 (0,0)),many L]
   ·exact⟨rfl,a,L,.inl hS,rfl⟩
   ·dsimp only[List.cons_append,List.nil_append]
    exact zc0
  obtain⟨f,hf⟩:∃f,(endd-(slot+1)).toNat=f:=⟨_,rfl⟩
  have hf1:(endd-slot).toNat=f+1:=by omega
  have hmt:slot.tmod x.s.len=slot%x.s.len:=Rh (by omega)
  rw[hf1,<-Yqo]at hWk
  repeat'(first|refine zgb ?_|(refine zgf ?_ ?_<;>intro _<;>try exact zo)|fail)
  refine Ye (λy:CvM=>[(37,.int .i64 (y.j:Nat)),(36,.int .i64 cs.length),(35,.slice A cs.length cap),(9,.int .i64 slot),(7,.int .i64 (y.k:Nat)),(8,.slice A cs.length cap),(6,.pointer (some ⟨gl,0,none⟩)),(5,.pointer (some ⟨g5,0,none⟩)),(4,.pointer (some ⟨g4,0,none⟩)),(3,.pointer (some ⟨gy,0,none⟩)),(1,.pointer (some ⟨ga,0,none⟩)),(2,.pointer (some ⟨gw,0,none⟩))])
   (λy=>R'::blk g4 (.cells #[.int .i64 y.a] 3 (0,0))::many y.L::sl 162 5 A cs.length cap (cs.flatMap celF)::blk gl (.cells #[.int .i64 lk.1,.int .i64 lk.2.1,.int .i64 lk.2.2] 164 (0,0))::wayB g2 x::blk g5 (.cells #[.int .i64 endd] 3 (0,0))::blk gy (.cells #[.func (.yield l) #[] #[]] 301 (0,0))::blk ga (.cells #[.int .i64 at0] 3 (0,0))::wayB gw x::H)
   (λy=>y.j<=cs.length/\y.c<=W.length/\W=W.take y.c++O7 x.s.len C endd cs (cs.drop y.j) ls f y.k slot y.a/\SS y.c y.L/\(at0<=y.a/\y.a<=endd)/\y.k<=8) (λy=>cs.length-y.j) ⟨0,kk,a,c,L⟩ ⟨Td _,hc,hWk,hS,⟨ha0,ha1⟩,hk8⟩ ?_ ?_ ?_
  ·exact zc1
  ·exact zc0
  clear hWk hS hc hk0 hk8 ha0 ha1
  rintro⟨j,kk,a,c,L⟩ ⟨hj,hc,hWk,hS,⟨ha0,ha1⟩,hk8⟩ K2 hK2
  dsimp only at hj hc hWk hS ha0 ha1 hk8⊢
  by_cases hjl:j<cs.length
  rotate_left
  ·obtain rfl:j=cs.length:=by omega
   rw[SB,Yqp]at hWk
   clear hK2
   refine zX0 ?_<;>intros
   apply hK ⟨kk,slot+1,a,c,L⟩
   ·exact⟨hc,by rw[hf];exact hWk,hS,⟨ha0,ha1⟩,⟨by show at0<=slot+1;omega,by show slot+1<=endd;omega⟩,hk8⟩
   ·exact zc50
   ·exact zc1
   exact zc21
  obtain⟨d,hd⟩:∃d,cs[j]? =some d:=⟨_,Ta hjl⟩
  have hdj:cs.drop j=d::cs.drop (j+1):=by
   obtain⟨h1,h2⟩:=Tu.1 hd
   rw[<-h2];exact Rm h1
  rw[hdj]at hWk
  by_cases hcd:d.1=slot%x.s.len/\kk≠0
  ·obtain⟨hcd1,hcd2⟩:=hcd
   obtain⟨k3,rfl⟩:∃k3,kk=k3+1:=⟨kk-1,by omega⟩
   rw[Yqq (by rw[hmt];exact hcd1) hcd2,SX]at hWk
   obtain⟨hx,hc1,hW1⟩:=YqB hc hWk
   have hx:(W.map cntV)[c]? =some [celV d,.int .i64 slot]:=by rw[TN,hx];rfl
   repeat'(first|(refine YfU 3 57 rfl rfl rfl ?_)|refine zgd ?_|(refine zgf ?_ ?_<;>intro _<;>try exact zo)|(refine zgh ?_;intro _)|fail)
   first|(rename_i gc _ _;guard_hyp gc:Nat)|(rename_i gc _;guard_hyp gc:Nat)|(rename_i gc _ _ _;guard_hyp gc:Nat)
   rw[show((k3+1:Nat):Int)-1=(k3:Int) by omega]
   apply Yf (R'::blk gc (.cells #[.int .i64 d.1,.int .i64 d.2.1,.int .i64 d.2.2.1,.int .i64 d.2.2.2.1,.int .i64 d.2.2.2.2] 162 (0,0))::sl 162 5 A cs.length cap (cs.flatMap celF)::blk gl (.cells #[.int .i64 lk.1,.int .i64 lk.2.1,.int .i64 lk.2.2] 164 (0,0))::blk g4 (.cells #[.int .i64 (slot+1)] 3 (0,0))::wayB g2 x::blk g5 (.cells #[.int .i64 endd] 3 (0,0))::blk gy (.cells #[.func (.yield l) #[] #[]] 301 (0,0))::many L::blk ga (.cells #[.int .i64 at0] 3 (0,0))::wayB gw x::H)
   ·exact zc0
   have hY:=hy c _ hx [R',blk gc (.cells #[.int .i64 d.1,.int .i64 d.2.1,.int .i64 d.2.2.1,.int .i64 d.2.2.2.1,.int .i64 d.2.2.2.2] 162 (0,0)),sl 162 5 A cs.length cap (cs.flatMap celF),blk gl (.cells #[.int .i64 lk.1,.int .i64 lk.2.1,.int .i64 lk.2.2] 164 (0,0)),blk g4 (.cells #[.int .i64 (slot+1)] 3 (0,0)),wayB g2 x,blk g5 (.cells #[.int .i64 endd] 3 (0,0)),blk gy (.cells #[.func (.yield l) #[] #[]] 301 (0,0))] L hS
   apply YmQ _ _ (hy:=hY)
   ·exact YbI
   ·exact rfl
   ·exact YqP
   ·exact rfl
   ·exact zc54
   ·exact rfl
   ·rintro _ ⟨L',hS',rfl⟩
    dsimp only[List.cons_append,List.nil_append]
    refine zX10 ?_
    apply hK2 ⟨j+1,k3,slot+1,c+1,L'⟩
    ·exact⟨by exact Yjy,hc1,hW1,hS',⟨by show at0<=slot+1;omega,by show slot+1<=endd;omega⟩,by show k3<=8;omega⟩
    ·exact zc50
    ·exact zc1
    ·exact zc0
   ·rintro _ ⟨L',hX',rfl⟩
    dsimp only[List.cons_append,List.nil_append]
    refine zX3 ?_
    apply QE [blk g4 (.cells #[.int .i64 (slot+1)] 3 (0,0)),many L']
    ·exact⟨rfl,slot+1,L',.inr hX',rfl⟩
    ·dsimp only[List.cons_append,List.nil_append]
     exact zc0
  ·rw[Ysb (by rw[hmt];exact hcd)]at hWk
   repeat'(first|refine zgd ?_|(refine zgf ?_ ?_<;>intro _<;>try exact zo)|(refine zgh ?_;intro _)|fail)
   all_goals(
    apply hK2 ⟨j+1,kk,a,c,L⟩
    ·exact⟨by show j+1<=_;omega,hc,hWk,hS,⟨ha0,ha1⟩,hk8⟩
    ·dsimp only;omega
    ·exact zu
    ·exact zk)
 ·rintro D ⟨c,a,L⟩ ⟨hc,hWk,hS,ha0,ha1⟩
  dsimp only at hc hWk hS ha0 ha1
  have hle:(JW x).length=(Yp x.n.net x.r).length:=by unfold JW;exact YfR
  rw[hle,SB]at hWk
  have hce:=Yje hc hWk
  rw[hce]at hS
  dsimp only[List.cons_append,List.nil_append]
  refine zX10 ?_
  apply Yro
  apply ZZ Yo
  apply VQ_m
  apply Yf (many L::blk ga (.cells #[.int .i64 at0] 3 (0,0))::wayB gw x::H)
  ·exact zc0
  apply U9;exact rfl
  exact .inl ⟨L,hS,rfl⟩
 ·rintro D _ _ ⟨rfl,a,L,hSL,rfl⟩ _
  dsimp only[List.cons_append,List.nil_append]
  refine zX3 ?_
  apply ZZ Yo
  apply VQ_m
  apply Yf (many L::blk ga (.cells #[.int .i64 at0] 3 (0,0))::wayB gw x::H)
  ·exact zc0
  apply U9;exact rfl
  rcases hSL with h|h
  ·exact .inl ⟨L,h,rfl⟩
  ·exact .inr ⟨L,h,rfl⟩
end Go.Proofs.YtjommdkgfbhbdaaGreatDoor
namespace Go.Eng
open Go.RowKit
variable {B:Nat}{w0:World}{H:List HP}
theorem Ylq{P:Program}{env:Env}{n:Nat}(T:Tab P){fn:Func}{Φ:Value->List HP->Prop}{p g rt:Nat}{v:Value}{cs:Array Value}{tt:TypeId}{fr:Nat×Nat}(hr:fn.results=#[.cell p rt])(hp:get env p=some (.pointer (some ⟨g,0,none⟩)))
 (hm:Eng.blk g (.cells cs tt fr)∈H) (hv:nth cs.toList 0=some v) (ht:Eng.look T.sc rt=some ()) {H2:List HP}(hH:∀w,St B w0 H w->St B w0 H2 w) (h:Φ v H2):VQ ⟨n,[],none⟩ B w0 (bodyPost P fn (Post B w0 Φ)) .ret env H:=by
 refine⟨λa w ha hw=>bodyPost_ret (v:=v) ?_ ha.defers ⟨_,H2,rfl,hH w hw,h⟩⟩
 have hp':=ha.slot p _ hp
 rw[Ygv]at hv
 have hc:=Y7 (i:=0) (hw.blk hm).1
 simp[results,hr,Array.getD_eq_getD_getElem?,hp',asAddr,loadVar,Xj (T.scal ht).1,hc,hv]
end Go.Eng
namespace Go.Proofs.YtjommdkgfbhbdaaGreatDoor
open Go.RowKit Go.Eng Go.Nw
variable {s:Sch}{i B:Nat}
theorem Yoe(hi:i<s.cells.length)(h:∀j∈inI s (Yj s i).1 s.cells.length,j<i->Yx (Yj s i) (Yj s j)=false):Za s i=false:=by
 unfold Za
 rw[RE]
 intro j hj
 have hj:=TQ.1 hj
 rw[Tq,Tm]
 rintro⟨h1,h2⟩
 rw[h j (OL.2 ⟨by omega,h1⟩) hj]at h2
 cases h2
theorem YfN{j:Nat}(hji:j<i)(hs:(Yj s j).1=(Yj s i).1)(ht:Yx (Yj s i) (Yj s j)=true):Za s i=true:=by
 unfold Za
 grind
variable {w0:World}{H:List HP}
theorem Yk9(s:SchM)(i:Nat)(hi:i<s.cells.length)(hl:s.cells.length<=1000){w:World}(hr:Rd B w0 H s.A (s.cells.flatMap celF))(hw:St B w0 H w):
 CX B w0 263 [s.val,.int .i64 i] w λv K=>v=.bool (Za s.sch i)/\K=H:=by
 refine Zr Tryz.func263 Tryz.ntmps263 rfl rfl hw ?_
 have hget:s.cells[i]? =some (Yj s.sch i):=YM (s:=s.sch) hi
 obtain⟨c,hc⟩:∃c,Yj s.sch i=c:=⟨_,rfl⟩
 rw[hc]at hget
 refine zX78 ?_<;>intros
 rename_i gs gi gr gc
 apply Yg _ Ytg
 exact za
 exact rfl
 exactλ_ hw=>(Yic s c.1 (hw))
 rintro _ _ ⟨g1,g2,rfl,rfl⟩
 refine zX7 ?_
 have hr6:Rd B w0 (intB g2 c.1::schB g1 s::blk gc (.cells (celF c).toArray 162 (0,0))::blk gi (.cells #[.int .i64 i] 3 (0,0))::schB gs s::H) s.A (s.cells.flatMap celF):=hr.cons.cons.cons.cons.cons
 refine Zt (gf:=385) (lb:=[.pointer (some ⟨g1,0,none⟩),.pointer (some ⟨g2,0,none⟩)]) (xs:=inXs s.sch c.1) (intB g2 c.1::schB g1 s::blk gc (.cells (celF c).toArray 162 (0,0))::blk gi (.cells #[.int .i64 i] 3 (0,0))::schB gs s::H) (λ_:Unit=>[blk gr (.cells #[.bool false] 4 (0,0))])
  (λk _=>∀m j,m<k->(inI s.sch c.1 s.cells.length)[m]? =some j->j<i->Yx c (Yj s.sch j)=false) (λe K=>e=.ret/\Za s.sch i=true/\K=[blk gr (.cells #[.bool true] 4 (0,0))]) () rfl Ytm (Yib s c.1 g1 g2 hr6 (by omega) (.tail _ (.head _)) (.head _)) rfl ?_ (by kernel_rfl) (by kernel_rfl) ?_ (λm j h=>absurd h (TZ _)) ?_ ?_ ?_
 ·grind [TP,Q6]
 ·exactλw hw=>hw.perm (.trans (.cons _ (.cons _ (.swap _ _ _))) (.trans (.cons _ (.swap _ _ _)) (.swap _ _ _)))
 ·rintro l k args R ⟨⟩ hk hI
  obtain⟨j,hj,hlt,rfl⟩:=Q6 hk
  have hlt2:j<s.cells.length:=hlt
  dsimp only[Uz,List.cons_append,List.nil_append]
  have hgj:s.cells[j]? =some (Yj s.sch j):=YM (s:=s.sch) hlt
  have hjs:(Yj s.sch j).1=c.1:=(OL.1 (Tc hj)).2
  obtain⟨d,hd⟩:∃d,Yj s.sch j=d:=⟨_,rfl⟩
  rw[hd]at hgj
  have htc:Yx c d=true↔(c.2.2.1=d.2.2.1\/c.2.2.1=d.2.2.2.1\/c.2.2.2.1=d.2.2.1\/c.2.2.2.1=d.2.2.2.1):=by unfold Yx YF toC;rw[Tm]
  refine zX2 ?_
  apply JS Yo
  intro R'
  unfold intB schB
  have hr7:Rd B w0 (R'::blk gr (.cells #[.bool false] 4 (0,0))::intB g2 c.1::schB g1 s::blk gc (.cells (celF c).toArray 162 (0,0))::blk gi (.cells #[.int .i64 i] 3 (0,0))::schB gs s::H) s.A (s.cells.flatMap celF):=hr6.cons.cons
  unfold intB schB at hr7
  clear hr6
  repeat'(first|refine zgd ?_|(refine zgf ?_ ?_<;>intro _<;>try exact zo)|(refine zgh ?_;intro _)|fail)
  all_goals first
   |(refine QE [blk gr (.cells #[.bool true] 4 (0,0))] ⟨rfl,?_,rfl⟩ ?_
     ·exact YfN (j:=j) (by omega) (by rw[hc];exact hjs) (by rw[hc,hd];exact htc.2 (by omega))
     ·dsimp only[List.cons_append,List.nil_append]
      exact zk
     done)
   |(refine Ug () ?_ ?_
     ·intro m j2 hm hj2 hji
      rcases Rk.1 hm with h|h
      ·exact hI m j2 h hj2 hji
      ·subst h
       obtain rfl:=TJ (hj.symm.trans hj2)
       rw[hd]
       exact Sj.2 λh=>by have:=htc.1 h;omega
     ·dsimp only[List.cons_append,List.nil_append]
      exact zk
     done)
 ·rintro D ⟨⟩ hI
  have htw:Za s.sch i=false:=Yoe hi λj hj hji=>by
   rw[hc]at hj⊢
   obtain⟨m,hm⟩:=TP.1 hj
   refine hI m j ?_ hm hji
   rw[inXs,To]
   exact(Tu.1 hm).1
  rw[htw]
  dsimp only[List.cons_append,List.nil_append]
  unfold intB schB
  refine zX3 ?_
  apply ZZ Yo
  apply VQ_m
  apply Ylq T (H2:=H);exact rfl;exact rfl;(focus exact zc2);exact rfl;exact rfl;(intro w hw;refine hw.perm ?_;focus exact zc4);exact Qg
 ·rintro D e K ⟨rfl,htw,rfl⟩ hjmp
  rw[htw]
  dsimp only[List.cons_append,List.nil_append]
  unfold intB schB
  refine zX3 ?_
  apply ZZ Yo
  apply VQ_m
  apply Ylq T (H2:=H);exact rfl;exact rfl;(focus exact zc2);exact rfl;exact rfl;(intro w hw;refine hw.perm ?_;focus exact zc4);exact Qg
open Go.RowKit Go.Eng Go.Nw Go.Rt
variable {A A2:Option Addr}{cap cap2 B:Nat}{w0 w:World}{H:List HP}
theorem ZW(l m:List Int)(hlen:l.length<=1000000000000)(_hlen2:m.length<=1000000000000)(hr:Rd B w0 H A (l.flatMap numF))(hr2:Rd B w0 H A2 (m.flatMap numF))(hw:St B w0 H w):
 CX B w0 142 [.slice A l.length cap,.slice A2 m.length cap2] w λu K=>u=.bool (decide (l=m))/\K=H:=by
 refine Ya Tryz.func142 Tryz.ntmps142 rfl rfl hw ?_
 by_cases hll:l.length=m.length
 rotate_left
 ·exact zc8
 refine zX1 ?_<;>intros
 refine Ye (λ(k:Nat)=>[(5,.int .i64 k),(0,.slice A l.length cap),(1,.slice A2 m.length cap2)]) (λ_=>H) (λk=>k<=l.length/\l.take k=m.take k) (λk=>l.length-k) 0 ⟨Td _,by simp⟩ ?_ (λw hw=>hw) ?_
 ·exact zc1
 rintro k ⟨hk,hi⟩ K hK
 by_cases hlt:k<l.length
 ·obtain⟨a,ha⟩:∃a,l[k]? =some a:=⟨_,Ta hlt⟩
  obtain⟨b,hb⟩:∃b,m[k]? =some b:=⟨_,Ta (by omega)⟩
  by_cases hab:a=b
  ·refine zX50 ?_<;>intros
   apply hK (k+1)
   ·exact YqZ
   ·omega
   ·exact zc1
   exact zc21
  ·refine zX50 ?_<;>intros
   apply Yd;exact rfl;exact rfl
   exact⟨by rw[Ti λe=>by rw[e,hb]at ha;exact hab (TJ ha).symm],rfl⟩
 exact zc30
theorem YbV(l m:List RowM)(hlen:l.length<=1000000000000)(_hlen2:m.length<=1000000000000)(hl2:∀r∈l,r.xs.length<=1000000000000)(hm2:∀r∈m,r.xs.length<=1000000000000)(hr:Rd B w0 H A (l.flatMap rowF))(hr2:Rd B w0 H A2 (m.flatMap rowF))(hrl:∀r∈l,Rd B w0 H r.A (r.xs.flatMap numF))(hrm:∀r∈m,Rd B w0 H r.A (r.xs.flatMap numF))(hw:St B w0 H w):
 CX B w0 143 [.slice A l.length cap,.slice A2 m.length cap2] w λu K=>u=.bool (decide (l.map (·.xs)=m.map (·.xs)))/\K=H:=by
 refine Ya Tryz.func143 Tryz.ntmps143 rfl rfl hw ?_
 by_cases hll:l.length=m.length
 rotate_left
 ·exact zc18
 refine zX1 ?_<;>intros
 refine Ye (λ(k:Nat)=>[(5,.int .i64 k),(0,.slice A l.length cap),(1,.slice A2 m.length cap2)]) (λ_=>H) (λk=>k<=l.length/\(l.take k).map (·.xs)=(m.take k).map (·.xs)) (λk=>l.length-k) 0 ⟨Td _,by simp⟩ ?_ (λw hw=>hw) ?_
 ·exact zc1
 rintro k ⟨hk,hi⟩ K hK
 by_cases hlt:k<l.length
 ·obtain⟨a,ha⟩:∃a,l[k]? =some a:=⟨_,Ta hlt⟩
  obtain⟨b,hb⟩:∃b,m[k]? =some b:=⟨_,Ta (by omega)⟩
  have ham:=Tc ha
  have hbm:=Tc hb
  have hss:=λ{w:World}(hw:St B w0 H w)=>ZW a.xs b.xs (cap:=a.cap) (cap2:=b.cap) (hl2 a ham) (hm2 b hbm) (hrl a ham) (hrm b hbm) hw
  by_cases hab:a.xs=b.xs
  ·rw[Tf hab]at hss
   refine zX68 ?_<;>intros
   apply hK (k+1)
   ·exact zc58
   ·omega
   ·exact zc1
   exact zc21
  ·rw[Ti hab]at hss
   refine zX68 ?_<;>intros
   exact zc25
 exact zc30
def rowQ(r:RowM):HP:=ints r.A r.cap r.xs
structure RqM where
 f:Flw
 A:Option Addr
 cap:Nat
 rows:List RowM
def rqF(x:RqM):List Value:=[.int .i64 x.f.1,.int .i64 x.f.2.1,.int .i64 x.f.2.2.1,.int .i64 x.f.2.2.2.1,.int .i64 x.f.2.2.2.2.1,.int .i64 x.f.2.2.2.2.2,.slice x.A x.rows.length x.cap]
def rqV(x:RqM):Value:=.agg #[.int .i64 x.f.1,.int .i64 x.f.2.1,.int .i64 x.f.2.2.1,.int .i64 x.f.2.2.2.1,.int .i64 x.f.2.2.2.2.1,.int .i64 x.f.2.2.2.2.2,.slice x.A x.rows.length x.cap]
def RqM.rq(x:RqM):Rqs:=(x.f,x.rows.map (·.xs))
abbrev netA(g:Nat)(n:NetM):HP:=blk g (.cells #[.int .i64 n.nodes,.slice n.pA n.rows.length n.pcap,.int .i64 n.noise,.int .i64 n.thr,.slice n.lA n.links.length n.lcap,.slice n.mA n.margin.length n.mcap] 26 (0,0))
abbrev schA(g:Nat)(s:SchM):HP:=blk g (.cells #[.int .i64 s.len,.int .i64 s.off,.slice s.A s.cells.length s.cap] 33 (0,0))
abbrev rqA(g:Nat)(x:RqM):HP:=blk g (.cells #[.int .i64 x.f.1,.int .i64 x.f.2.1,.int .i64 x.f.2.2.1,.int .i64 x.f.2.2.2.1,.int .i64 x.f.2.2.2.2.1,.int .i64 x.f.2.2.2.2.2,.slice x.A x.rows.length x.cap] 93 (0,0))
structure RqM.In(B:Nat)(w0:World)(H:List HP)(x:RqM):Prop where
 rt:Rd B w0 H x.A (x.rows.flatMap rowF)
 rw_:∀r∈x.rows,Rd B w0 H r.A (r.xs.flatMap numF)
 ln:x.rows.length<=1000000000000
 rl:∀r∈x.rows,r.xs.length<=1000000000000/\r.xs.length<=r.cap
variable {B:Nat}{w0:World}{H H':List HP}{x:RqM}
theorem RqM.In.mono(h:x.In B w0 H)(hH:∀w,St B w0 H' w->St B w0 H w):x.In B w0 H':=⟨h.rt.mono hH,λr hr=>(h.rw_ r hr).mono hH,h.ln,h.rl⟩
variable {X:HP}
theorem RqM.In.cons(h:x.In B w0 H):x.In B w0 (X::H):=h.mono λ_ hw=>hw.tail
structure QIn(B:Nat)(w0:World)(H:List HP)(A:Option Addr)(q:List RqM):Prop where
 rd:Rd B w0 H A (q.flatMap rqF)
 x:∀x∈q,x.In B w0 H
 ln:q.length<=1000000000000
variable {A:Option Addr}{q:List RqM}
theorem QIn.mono(h:QIn B w0 H A q)(hH:∀w,St B w0 H' w->St B w0 H w):QIn B w0 H' A q:=⟨h.rd.mono hH,λx hx=>(h.x x hx).mono hH,h.ln⟩
theorem QIn.cons(h:QIn B w0 H A q):QIn B w0 (X::H) A q:=h.mono λ_ hw=>hw.tail
structure ClM where
 flow:Int
 rA:Option Addr
 rcap:Nat
 rs:List RowM
 bA:Option Addr
 bcap:Nat
 bs:List Int
 wA:Option Addr
 wcap:Nat
 ws:List Int
 sA:Option Addr
 scap:Nat
 ss:List RowM
def clF(c:ClM):List Value:=[.int .i64 c.flow,.slice c.rA c.rs.length c.rcap,.slice c.bA c.bs.length c.bcap,.slice c.wA c.ws.length c.wcap,.slice c.sA c.ss.length c.scap]
def clV(c:ClM):Value:=.agg #[.int .i64 c.flow,.slice c.rA c.rs.length c.rcap,.slice c.bA c.bs.length c.bcap,.slice c.wA c.ws.length c.wcap,.slice c.sA c.ss.length c.scap]
def ClM.clm(c:ClM):Clm:=⟨c.flow,c.rs.map (·.xs),c.bs,c.ws,c.ss.map (·.xs)⟩
structure ClM.In(B:Nat)(w0:World)(H:List HP)(c:ClM):Prop where
 rt:Rd B w0 H c.rA (c.rs.flatMap rowF)
 rw_:∀r∈c.rs,Rd B w0 H r.A (r.xs.flatMap numF)
 bd:Rd B w0 H c.bA (c.bs.flatMap numF)
 ws:Rd B w0 H c.wA (c.ws.flatMap numF)
 st:Rd B w0 H c.sA (c.ss.flatMap rowF)
 sw:∀r∈c.ss,Rd B w0 H r.A (r.xs.flatMap numF)
 ln:c.rs.length<=1000000000000/\c.bs.length<=1000000000000/\c.ws.length<=1000000000000/\c.ss.length<=1000000000000
 rl:∀r∈c.rs,r.xs.length<=1000000000000
 sl:∀r∈c.ss,r.xs.length<=1000000000000
variable {c:ClM}
theorem ClM.In.mono(h:c.In B w0 H)(hH:∀w,St B w0 H' w->St B w0 H w):c.In B w0 H':=
 ⟨h.rt.mono hH,λr hr=>(h.rw_ r hr).mono hH,h.bd.mono hH,h.ws.mono hH,h.st.mono hH,λr hr=>(h.sw r hr).mono hH,h.ln,h.rl,h.sl⟩
theorem ClM.In.cons(h:c.In B w0 H):c.In B w0 (X::H):=h.mono λ_ hw=>hw.tail
structure CIn(B:Nat)(w0:World)(H:List HP)(A:Option Addr)(c:List ClM):Prop where
 rd:Rd B w0 H A (c.flatMap clF)
 x:∀x∈c,x.In B w0 H
 ln:c.length<=1000000000000
theorem CIn.mono{c:List ClM}(h:CIn B w0 H A c)(hH:∀w,St B w0 H' w->St B w0 H w):CIn B w0 H' A c:=⟨h.rd.mono hH,λx hx=>(h.x x hx).mono hH,h.ln⟩
theorem CIn.cons{c:List ClM}(h:CIn B w0 H A c):CIn B w0 (X::H) A c:=h.mono λ_ hw=>hw.tail
def clP(c:ClM):List HP:=[sl 127 1 c.rA c.rs.length c.rcap (c.rs.flatMap rowF),many (c.rs.map rowQ),nrs c.bA c.bcap c.bs,nrs c.wA c.wcap c.ws,sl 24 1 c.sA c.ss.length c.scap (c.ss.flatMap rowF),many (c.ss.map rowQ)]
def clQ(c:ClM):HP:=many (clP c)
def nilC(f:Int):ClM:=⟨f,none,0,[],none,0,[],none,0,[],none,0,[]⟩
theorem Yu3(hm:clQ c∈H)(hl:(c.rs.length<=1000000000000/\c.bs.length<=1000000000000/\c.ws.length<=1000000000000/\c.ss.length<=1000000000000)/\(∀r∈c.rs,r.xs.length<=1000000000000)/\∀r∈c.ss,r.xs.length<=1000000000000):c.In B w0 H:=by
 have hb:∀w,St B w0 H w->St B w0 (clP c) w:=λw hw=>hw.inM hm
 refine ClM.In.mono (H:=clP c) ?_ hb
 refine⟨.sl (.head _),λr hr=>?_,.sl (.tail _ (.tail _ (.head _))),.sl (.tail _ (.tail _ (.tail _ (.head _)))),.sl (.tail _ (.tail _ (.tail _ (.tail _ (.head _))))),λr hr=>?_,hl.1,hl.2.1,hl.2.2⟩
 ·exact Rd.many (L:=c.rs.map rowQ) (.tail _ (.head _)) (RJ hr)
 ·exact Rd.many (L:=c.ss.map rowQ) (.tail _ (.tail _ (.tail _ (.tail _ (.tail _ (.head _)))))) (RJ hr)
theorem Yab{w:World}(f:Int)(h:St B w0 H w):St B w0 (clQ (nilC f)::H) w:=by
 have h1:=(h.perm (.noMany H)).nilSlice 24 1
 have h2:=(((h1.nilSlice 3 1).nilSlice 3 1).perm (.noMany _)).nilSlice 127 1
 exact h2.perm (.close [_,_,_,_,_,_] H)
variable {B cap m:Nat}{w0 w:World}{H:List HP}
theorem Qj(n:NetM)(v:Int)(hw:St B w0 H w):
 CX B w0 388 [n.val,.int .i64 v] w λu K=>u=.bool (insE v n.net.nodes)/\K=H:=by
 have e1:n.net.nodes=n.nodes:=rfl
 refine Ya Tryz.func388 Tryz.ntmps388 rfl rfl hw ?_
 exact zc15
theorem Yj2(n:NetM)(c:Cel)(gn:Nat)(hm:blk gn (.cells #[.int .i64 n.nodes,.slice n.pA n.rows.length n.pcap,.int .i64 n.noise,.int .i64 n.thr,.slice n.lA n.links.length n.lcap,.slice n.mA n.margin.length n.mcap] 26 (0,0))∈H)(hw:St B w0 H w):
 CX B w0 387 [celV c,.pointer (some ⟨gn,0,none⟩)] w λv K=>v=.bool (Ux n.net c)/\K=H:=by
 refine Ya Tryz.func387 Tryz.ntmps387 rfl rfl hw ?_
 obtain⟨b,hb⟩:∃b,Ux n.net c=b:=⟨_,rfl⟩
 rw[hb]
 unfold Ux YF toC at hb
 repeat'(first|((apply YS Yps);exact za;exact rfl;exactλ_ hw=>(Qj n _ hw);all_goals(intro hB;(try simp only[Tm,Tv]at hB);try exact zo))|refine zgd ?_|(refine zgh ?_;intro _)|fail)
 all_goals(
  apply Yf H
  ·exact zk
  apply Yd;exact rfl;exact rfl
  refine⟨?_,rfl⟩
  rw[<-hb]
  simp[*])
variable {A:Option Addr}
theorem W0(p:Cel->Bool)(l:List Cel)(f:Nat)(cs:List Value)(hen:∀xs w,(callFunc f xs).run Tryz.prog w=.ok (.enter f xs) w)(hlen:l.length<=1000)(hr:Rd B w0 H A (l.flatMap celF))
 (hp:∀a∈l,∀w,St B w0 H w->Calls Tryz.prog f ([celV a]++cs).toArray w (Post B w0 λv K=>v=.bool (p a)/\K=H)) (hw:St B w0 H w):
 CX B w0 389 [.slice A l.length cap,.func (.func f) #[] cs.toArray] w λv K=>v=.bool (l.any p)/\K=H:=by
 refine Ya Tryz.func389 Tryz.ntmps389 rfl rfl hw ?_
 rw[<-Ydm]
 refine zX2 ?_
 apply Yb Ypk
 exact za
 exact rfl
 exactλ_ hw=>(Ydn p l f cs hen hlen hr hp hw)
 by_cases h0:0<=Ym p l 0
 ·exact zc16
 ·exact zc16
def WM(n:Net)(c:Cel)(node:Int)(m:Nat):Int:=(([c.2.2.1,c.2.2.2.1].take m).map λe=>powN n e node).sum
variable {n:Net}
theorem YnQ{c:Cel}{node e:Int}(h:[c.2.2.1,c.2.2.2.1][m]? =some e):WM n c node (m+1)=WM n c node m+powN n e node:=by
 grind [WM,TB]
theorem Yr8(hok:Ok n)(c:Cel)(node:Int)(h:m<=2):0<=WM n c node m/\WM n c node m<=137438953472:=by
 have h1:=JH hok c.2.2.1 node
 have h2:=JH hok c.2.2.2.1 node
 match m,h with
 |0,_=>simp[WM]
 |1,_=>grind [WM]
 |2,_=>simp[WM];omega
theorem YcV(n:NetM)(l:List Cel)(j:Nat)(node:Int)(hok:Ok n.net)(hnode:0<=node/\node<n.nodes)(hlen:l.length<=1000)(hin:n.In B w0 H)(hr:Rd B w0 H A (l.flatMap celF))(hw:St B w0 H w):
 CX B w0 390 [n.val,.slice A l.length cap,.int .i64 j,.int .i64 node] w λv K=>v=.int .i64 (Yu n.net l j node l.length)/\K=H:=by
 refine Ya Tryz.func390 Tryz.ntmps390 rfl rfl hw ?_
 have e1:n.net.nodes=n.nodes:=rfl
 refine zX73 ?_<;>intros
 rename_i gn
 refine Ye (λ(k:Nat)=>[(16,.int .i64 k),(15,.int .i64 l.length),(14,.slice A l.length cap),(9,.int .i64 (Yu n.net l j node k)),(4,.pointer (some ⟨gn,0,none⟩)),(2,.int .i64 j),(3,.int .i64 node)]) (λ_=>netN gn n::H) (λk=>k<=l.length) (λk=>l.length-k) 0 (Td _) ?_ (λw hw=>hw) ?_
 ·exact zc1
 rintro k hk K hK
 have hbd:=QV hok l j node k
 have hrc:=hr.cons (X:=netN gn n)
 by_cases hlt:k<l.length
 ·obtain⟨c,hc⟩:∃c,l[k]? =some c:=⟨_,Ta hlt⟩
  have hcl:celL l k=c:=by unfold celL;rw[Tz,hc];rfl
  have hst:Yu n.net l j node (k+1)=Yu n.net l j node k+if k=j then 0 else powN n.net c.2.2.1 node+powN n.net c.2.2.2.1 node:=by
   rw[Yu,hcl];rfl
  by_cases hkj:k=j
  ·rw[Tn hkj,NH]at hst
   refine zX79 ?_<;>intros
   apply hK (k+1)
   ·exact YfQ
   ·omega
   ·rw[hst]
    exact zc1
   ·exact zc0
  rw[Tj hkj]at hst
  refine zX79 ?_<;>intros
  rename_i gc _ ge
  refine Ye (λ(m:Nat)=>[(30,.int .i64 m),(29,.int .i64 ((2:Nat):Int)),(28,.slice (some ⟨ge,0,none⟩) ([c.2.2.1,c.2.2.2.1]:List Int).length 2),(9,.int .i64 (Yu n.net l j node k+WM n.net c node m)),(16,.int .i64 k),(15,.int .i64 l.length),(14,.slice A l.length cap),(4,.pointer (some ⟨gn,0,none⟩)),(2,.int .i64 j),(3,.int .i64 node)]) (λ_=>blk ge (.cells #[.int .i64 c.2.2.1,.int .i64 c.2.2.2.1] 3 (0,0))::netN gn n::H) (λm=>m<=2) (λm=>2-m) 0 (Td _) ?_ ?_ ?_
  ·rw[show WM n.net c node 0=0 from rfl,NH]
   exact zc1
  ·exact zc0
  rintro m hm K2 hK2
  have hpb:=Yr8 hok c node hm
  have hre:Rd B w0 (blk ge (.cells #[.int .i64 c.2.2.1,.int .i64 c.2.2.2.1] 3 (0,0))::netN gn n::H) (some ⟨ge,0,none⟩) (([c.2.2.1,c.2.2.2.1]:List Int).flatMap numF):=Rd.blk (cs:=#[.int .i64 c.2.2.1,.int .i64 c.2.2.2.1]) (.head _)
  clear hrc
  unfold netN at hre⊢
  by_cases hlt2:m<2
  ·obtain⟨e,he⟩:∃e,[c.2.2.1,c.2.2.2.1][m]? =some e:=⟨_,Ta hlt2⟩
   have hst2:=YnQ (n:=n.net) (node:=node) he
   have hcn:=λ{H':List HP}{w:World}(hw:St B w0 H' w)=>Qj n e hw
   have hl2:([c.2.2.1,c.2.2.2.1]:List Int).length=2:=rfl
   cases hie:insE e n.net.nodes with
   |false=>
    rw[hie]at hcn
    rw[show powN n.net e node=0 by unfold powN;rw[hie];simp,NH]at hst2
    refine zX80 ?_<;>intros
    apply hK2 (m+1)
    ·show m+1<=2
     omega
    ·omega
    ·rw[hst2]
     exact zc1
    ·unfold netN
     exact zc0
   |true=>
    rw[hie]at hcn
    have he2:0<=e/\e<n.net.nodes:=TT hie
    have hp0:(n.rows.length:Int)=n.net.nodes:=Yub
    obtain⟨r,hrw⟩:∃r,n.rows[e.toNat]? =some r:=⟨_,Ta (by omega)⟩
    have hrm:=Tc hrw
    have hrl:(r.xs.length:Int)=n.net.nodes:=hok.p1 r.xs (TD.2 ⟨r,hrm,rfl⟩)
    obtain⟨q,hq⟩:∃q,r.xs[node.toNat]? =some q:=⟨_,Ta (by omega)⟩
    have hpw:powN n.net e node=q:=by
     unfold powN
     rw[Tn ⟨hie,Tf (by omega)⟩]
     exact Yuz
    have hqb:=JH hok e node
    rw[hpw]at hqb hst2
    have hpd:=hin.pw
    have hrd:=hin.rw_ r hrm
    have hs1:=hin.s1
    have hs2:=hin.s2 r hrm
    refine zX80 ?_<;>intros
    apply hK2 (m+1)
    ·show m+1<=2
     omega
    ·omega
    ·rw[hst2]
     exact zc1
    ·unfold netN
     exact zc0
  ·obtain rfl:m=2:=by omega
   have hp2:Yu n.net l j node (k+1)=Yu n.net l j node k+WM n.net c node 2:=by
    rw[hst]
    simp[WM]
   refine zX0 ?_<;>intros
   apply hK (k+1)
   ·exact YfQ
   ·omega
   ·rw[hp2]
    exact zc1
   ·unfold netN
    exact zc0
 ·refine zX0 ?_<;>intros
  apply Yf H
  ·exact zc0
  apply Yd;exact rfl;exact rfl
  rw[show k=l.length by omega]
  exact Qg
theorem UQ(n:NetM)(l:List Cel)(j:Nat)(node:Int)(hck:Yl n.net=0)(hnode:0<=node/\node<n.nodes)(hj:j<l.length)(hlen:l.length<=1000)(hno:l.any (Ux n.net)=false)(hin:n.In B w0 H)(hr:Rd B w0 H A (l.flatMap celF))(hw:St B w0 H w):
 CX B w0 331 [n.val,.slice A l.length cap,.int .i64 j,.int .i64 node] w λv K=>v=.int .i64 (UO n.net l j node)/\K=H:=by
 refine Ya Tryz.func331 Tryz.ntmps331 rfl rfl hw ?_
 have e1:n.net.nodes=n.nodes:=rfl
 have hins:insE node n.net.nodes=true:=Tf hnode
 have hd:UO n.net l j node=Yu n.net l j node l.length:=by
  unfold UO
  rw[Tj (by rw[hck,hins,hno];simp;omega),Ry]
 rw[hd]
 have hchk:=λ{H':List HP}{w:World}(hin:n.In B w0 H') (hw:St B w0 H' w)=>Y4 n hin hw
 rw[hck]at hchk
 have hcn:=λ{H':List HP}{w:World}(hw:St B w0 H' w)=>Qj n node hw
 rw[hins]at hcn
 (apply Xc;apply YW;apply YR;exact rfl;exact rfl;intro g)
 have hct:=λ{H':List HP}{w:World}(hm:blk g (.cells #[.int .i64 n.nodes,.slice n.pA n.rows.length n.pcap,.int .i64 n.noise,.int .i64 n.thr,.slice n.lA n.links.length n.lcap,.slice n.mA n.margin.length n.mcap] 26 (0,0))∈H') (hr:Rd B w0 H' A (l.flatMap celF)) (hw:St B w0 H' w)=>W0 (Ux n.net) l 387 [.pointer (some ⟨g,0,none⟩)] Yw5 hlen (cap:=cap) hr (λc _ w hw=>Yj2 n c g hm hw) hw
 rw[hno]at hct
 repeat'(first|((apply Yb XM);exact za;exact rfl;exactλ_ hw=>(hchk hin.cons hw))|((apply Yb Yps);exact za;exact rfl;exactλ_ hw=>(hcn hw))|((apply Yb Yto);exact za;exact rfl;exactλ_ hw=>(hct zm hr.cons hw))|((apply Yb Ytp);exact za;exact rfl;exactλ_ hw=>(YcV n l j node (YO hck) hnode hlen hin.cons hr.cons hw))|(apply zg29;(apply Ys;exact za;exact rfl))|refine zgc ?_|(refine zgf ?_ ?_<;>intro _<;>try exact zo)|fail)
 apply Yf H
 ·exact zc0
 exact zc3
def relE(x:WayM)(a:Int):Int×List Int×Bool:=match Zx x.n.net x.s.sch x.f x.r a with
 |none=>(0,[],false)
 |some l=>(Zk l-a+1,l.map (λz=>z-a),true)
theorem OX(x:WayM)(a:Int):Zx x.n.net x.s.sch x.f x.r a=if(runW x a).length<Zq (Yp x.n.net x.r)then none else some ((runW x a).map Prod.snd):=YgQ _ _ _ _ _
variable {B:Nat}{w0 w:World}{H:List HP}
theorem Ybh(x:WayM)(a:Int)(hw:St B w0 H w):
 CX B w0 217 [x.val,.int .i64 a] w λv K=>∃ga gw,v=.func (.func 291) #[] #[.pointer (some ⟨ga,0,none⟩),.pointer (some ⟨gw,0,none⟩)]/\K=intB ga a::wayB gw x::H:=by
 refine Ya Tryz.func217 Tryz.ntmps217 rfl rfl hw ?_
 unfold WayM.val intB
 repeat'(first|(first|(refine zs52 ?_;intro _)|(refine zs53 ?_;intro _))|((apply Ys;exact za;exact rfl))|refine zga ?_|fail)
 exact zc84
structure NlM where
 A:Option Addr
 cap:Nat
 l:List Int
variable {x:WayM}
theorem Yix(hok:Ve x):1<=Zq (Yp x.n.net x.r):=by
 have hl:=hok.len
 have h0:=Wm (n:=x.n.net) (r:=x.r) (i:=0) (by omega)
 have hbd:=Oc hok h0
 have hne:(Yp x.n.net x.r)=XS x.n.net x.r 0::(Yp x.n.net x.r).tail:=by
  cases h:Yp x.n.net x.r with
  |nil=>simp_all
  |cons a t=>simp_all
 grind [Zq,Y2]
theorem YgK(x:WayM)(at0:Int)(hok:Ve x)(hat:0<=at0/\at0<=1000000)(hi:x.In B w0 H)(hw:St B w0 H w):
 CX B w0 354 [x.val,.int .i64 at0] w λv K=>∃A cap,v=.tuple #[.int .i64 (relE x at0).1,.slice A (relE x at0).2.1.length cap,.bool (relE x at0).2.2]/\K=nrs A cap (relE x at0).2.1::H:=by
 refine Zr Tryz.func354 Tryz.ntmps354 rfl rfl hw ?_
 have hper:=hok.per
 have hl9:=hok.len
 have hnp:=Yix hok
 have hnl:Zq (Yp x.n.net x.r)<=72:=by
  have h1:=Yaa hok (Yp x.n.net x.r).length
  rw[TI,JY]at h1
  omega
 have hRE:relE x at0=if(runW x at0).length<Zq (Yp x.n.net x.r)then(0,[],false)else(Zk ((runW x at0).map Prod.snd)-at0+1,((runW x at0).map Prod.snd).map (λz=>z-at0),true):=by
  unfold relE
  rw[OX]
  by_cases h:(runW x at0).length<Zq (Yp x.n.net x.r)
  ·rw[Tn h,Tn h]
  ·rw[Tj h,Tj h]
 have hWl:(runW x at0).length<=Zq (Yp x.n.net x.r):=Ycb _ _ _ _ _
 have hWs:∀z∈runW x at0,at0<=z.2/\z.2<at0+x.f.2.2.2.1:=λz hz=>Ycc (by omega) hz
 have hiter:=λ{ga gw:Nat}{H':List HP}(hi:x.In B w0 H')=>QU x at0 hok hat ga gw hi
 have hxs:YhD x at0=(runW x at0).map cntV:=rfl
 rw[hxs]at hiter
 obtain⟨W,hW⟩:∃W,runW x at0=W:=⟨_,rfl⟩
 obtain⟨nd,hnd⟩:∃nd,Zq (Yp x.n.net x.r)=nd:=⟨_,rfl⟩
 have hned:=λ{H':List HP}{w:World}(hi:x.In B w0 H') (hw:St B w0 H' w)=>Yiy x hok hi hw
 rw[hW,hnd]at hRE hWl
 rw[hW]at hWs hiter
 rw[hnd]at hnp hnl hned
 rw[hRE]
 unfold WayM.val
 unfold intB at hiter
 repeat'(first|(apply zg23;first|(refine zs52 ?_;intro _)|(refine zs53 ?_;intro _))|refine zgb ?_|(refine zgh ?_;intro _)|fail)
 rename_i g2 g3 gO
 apply Yg _ YsS
 exact za
 exact rfl
 exactλ_ hw=>(Ybh x at0 (hw))
 rintro _ _ ⟨ga,gw,rfl,rfl⟩
 unfold intB
 repeat'(first|refine zgb ?_|fail)
 refine Vc 3 1 ?_
 refine Zt (gf:=291) (lb:=[.pointer (some ⟨ga,0,none⟩),.pointer (some ⟨gw,0,none⟩)]) (xs:=W.map cntV) (blk ga (.cells #[.int .i64 at0] 3 (0,0))::wayB gw x::blk g3 (.cells #[.int .i64 at0] 3 (0,0))::wayB g2 x::H) (λy:NlM=>[blk gO (.cells #[.slice y.A y.l.length y.cap] 24 (0,0)),nrs y.A y.cap y.l]) (λi y=>y.l=(W.take i).map (λz=>z.2-at0)) (λ_ _=>False) ⟨none,0,[]⟩ rfl Ytb (hiter hi.cons.cons) rfl ?_ (by kernel_rfl) (by kernel_rfl) ?_ rfl ?_ ?_ (λ_ _ _ h=>h.elim)
 ·exact YuE
 ·simp only[TA,TC,Sr]
  intro w hw
  have h1:St B w0 (nrs none 0 []::blk ga (.cells #[.int .i64 at0] 3 (0,0))::wayB gw x::blk gO (.cells #[.slice none 0 0] 24 (0,0))::blk g3 (.cells #[.int .i64 at0] 3 (0,0))::wayB g2 x::H) w:=hw
  clear hw
  revert w
  exact zc0
 ·rintro l k args R ⟨A,cap,xs⟩ hk hI
  rw[TN]at hk
  obtain⟨⟨d,sl⟩,hz,rfl⟩:∃z,W[k]? =some z/\args=cntV z:=by
   cases h:W[k]? with
   |none=>rw[h]at hk;cases hk
   |some z=>exact YuF
  have hzb:=hWs _ (Tc hz)
  have hI:xs=(W.take k).map (λz=>z.2-at0):=hI
  have hxl:xs.length<=72:=by
   rw[hI,To,TU];omega
  dsimp only at hzb
  dsimp only[Uz,cntV,List.cons_append,List.nil_append]
  repeat'(first|refine zga ?_|fail)
  apply JS Yo
  intro R'
  repeat'(first|refine zgd ?_|(refine zgh ?_;intro _)|(refine zgi ?_;intro _ _)|fail)
  rename_i A' cap'
  apply Ug (NlM.mk A' cap' (xs++[sl-at0]))
  ·show xs++[sl-at0]=_
   rw[TB,hz,RN,Rf,hI];rfl
  ·dsimp only[List.cons_append,List.nil_append]
   rw[Vl,show xs.length+1=(xs++[sl-at0]).length by simp]
   exact zc0
 ·rintro D ⟨A,cap,xs⟩ hI
  have hI:xs=(W.take (W.map cntV).length).map (λz=>z.2-at0):=hI
  rw[To,TI]at hI
  have hxl:xs.length=W.length:=by rw[hI,To]
  dsimp only[List.cons_append,List.nil_append]
  have hll:((W.map Prod.snd).map (λz=>z-at0))=xs:=by rw[hI,List.map_map];rfl
  by_cases hlt:W.length<nd
  ·rw[Tn hlt]
   repeat'(first|refine zgc ?_|fail)
   apply YV [0,1,2,3,4] []
   kernel_rfl
   kernel_rfl
   (simp only[Yc,nthO];rfl)
   exact rfl
   repeat'(first|refine zgd ?_|fail)
   apply Yb Ytr
   exact za
   exact rfl
   exactλ_ hw=>(hned (hi.mono zc0) hw)
   repeat'(first|(apply Yh;(repeat(first|with_reducible exact YY|(with_reducible apply YN;(repeat(first|with_reducible exact Yo|with_reducible apply Yw))))))|refine zga ?_|fail)
   ·show Perm H (H++[])
    exact zc28
   repeat'(first|refine zgd ?_|(refine zge ?_ ?_<;>intro _<;>try exact zo)|fail)
   apply ZZ Yo
   apply VQ_m
   apply Yf (nrs none 0 []::H)
   ·intro w hw
    have h5:St B w0 H w:=by
     revert w
     exact zc0
    exact Yen
   apply J7;(iterate 4 exact rfl)
   exact⟨none,0,rfl,rfl⟩
  ·rw[Tj hlt,hll]
   obtain⟨z,hz⟩:∃z,W[W.length-1]? =some z:=⟨_,Ta (by omega)⟩
   have hzb:=hWs _ (Tc hz)
   have hx1:xs[((xs.length:Int)-1).toNat]? =some (z.2-at0):=by
    rw[show((xs.length:Int)-1).toNat=W.length-1 by omega,hI,TN,hz];rfl
   have hla:Zk (W.map Prod.snd)=z.2:=by
    unfold Zk
    rw[To,Tz,TN,hz];rfl
   rw[hla]
   repeat'(first|refine zgc ?_|fail)
   apply YV [0,1,2,3,4] []
   kernel_rfl
   kernel_rfl
   (simp only[Yc,nthO];rfl)
   exact rfl
   repeat'(first|refine zgd ?_|fail)
   apply Yb Ytr
   exact za
   exact rfl
   exactλ_ hw=>(hned (hi.mono zc0) hw)
   repeat'(first|(apply Yh;(repeat(first|with_reducible exact YY|(with_reducible apply YN;(repeat(first|with_reducible exact Yo|with_reducible apply Yw))))))|refine zga ?_|fail)
   ·show Perm H (H++[])
    exact zc28
   repeat'(first|refine zgd ?_|(refine zge ?_ ?_<;>intro _<;>try exact zo)|fail)
   apply ZZ Yo
   apply VQ_m
   apply Yf (nrs A cap xs::H)
   ·exact zc0
   apply J7;(iterate 4 exact rfl)
   exact⟨A,cap,rfl,rfl⟩
def Wc(R:Option (Int×Int×List Int)):Int×Int×List Int×Bool:=match R with
 |none=>(0,0,[],false)
 |some b=>(b.1,b.2.1,b.2.2,true)
def Z3(x:WayM):Int×Int×List Int×Bool:=Wc (JC x.n.net x.s.sch x.f x.r)
theorem Yja(hok:Ve x){a:Int}{l:List Int}(h:Zx x.n.net x.s.sch x.f x.r a=some l):1<=l.length/\a<=Zk l/\Zk l<a+x.f.2.2.2.1:=by
 have hper:=hok.per
 have hnp:=Yix hok
 rw[OX]at h
 split at h
 ·cases h
 obtain rfl:=TJ h
 rw[To]
 obtain⟨z,hz⟩:∃z,(runW x a)[(runW x a).length-1]? =some z:=⟨_,Ta (by omega)⟩
 have hzb:=Ycc (by omega) (Tc hz)
 have hla:Zk ((runW x a).map Prod.snd)=z.2:=by
  grind [Zk]
 omega
structure BdM where
 k:Nat
 rel:Int
 b:Int×Int×List Int
 A:Option Addr
 cap:Nat
theorem YjR(x:WayM)(hok:Ve x)(hi:x.In B w0 H)(hw:St B w0 H w):
 CX B w0 290 [x.val] w λv K=>∃A cap,v=.tuple #[.int .i64 (Z3 x).1,.int .i64 (Z3 x).2.1,.slice A (Z3 x).2.2.1.length cap,.bool (Z3 x).2.2.2]/\K=nrs A cap (Z3 x).2.2.1::H:=by
 refine Ya Tryz.func290 Tryz.ntmps290 rfl rfl hw ?_
 have hper:=hok.per
 have hph:=hok.ph
 have hsl:=hok.slen
 obtain⟨R,hR⟩:∃R,JC x.n.net x.s.sch x.f x.r=R:=⟨_,rfl⟩
 have hO:Z3 x=Wc R:=by unfold Z3;rw[hR]
 rw[hO]
 unfold JC at hR
 rw[show x.s.sch.len=x.s.len from rfl]at hR
 obtain⟨S,hS⟩:∃S,Zx x.n.net x.s.sch x.f x.r=S:=⟨_,rfl⟩
 rw[hS]at hR
 have hrl:=λ{H':List HP}{w:World}(a:Int) (ha:0<=a/\a<=1000000) (hi:x.In B w0 H') (hw:St B w0 H' w)=>YgK x a hok ha hi hw
 unfold WayM.val
 repeat'(first|refine zgb ?_|(refine zgh ?_;intro _)|fail)
 rename_i g
 refine Vc 3 1 ?_
 refine Ye (λz:BdM=>[(9,.int .i64 z.rel),(8,.slice z.A z.b.2.2.length z.cap),(7,.int .i64 z.b.2.1),(6,.int .i64 z.b.1),(1,.pointer (some ⟨g,0,none⟩))]) (λz=>nrs z.A z.cap z.b.2.2::wayB g x::H)
  (λz=>UI S x.s.len x.f.2.2.2.1 z.k z.rel z.b=R/\x.s.len-z.rel<=z.k/\0<=z.rel/\z.rel<=2000/\0<=z.b.1/\z.b.1<=2000) (λz=>z.k) ⟨x.s.len.toNat,x.f.2.2.2.2.1,(0,0,[]),none,0⟩ ⟨hR,by exact Yuy,hph.1,by show x.f.2.2.2.2.1<=2000;omega,SK _,by show(0:Int)<=2000;decide⟩ ?_ (λw hw=>hw) ?_
 ·exact zc1
 rintro⟨k,rel,⟨b1,b2,bl⟩,A,cap⟩ ⟨hb,hk,h0,h1,hb0,hb1⟩ K hK
 dsimp only at hb hk h0 h1 hb0 hb1⊢
 by_cases hge:x.s.len<=rel
 ·have hRe:R=some (b1,b2,bl):=by
   rw[<-hb]
   cases k with
   |zero=>rfl
   |succ k=>unfold UI;rw[Tn hge]
  rw[hRe]
  clear hK
  repeat'(first|refine zgc ?_|(refine zge ?_ ?_<;>intro _<;>try exact zo)|fail)
  apply Yf (nrs A cap bl::H)
  ·exact zc0
  exact Yt9
 obtain⟨k,rfl⟩:∃k',k=k'+1:=⟨k-1,by omega⟩
 unfold UI at hb
 rw[Tj hge]at hb
 have hrr:=λ{H':List HP}{w:World}(hi:x.In B w0 H') (hw:St B w0 H' w)=>hrl rel (by omega) hi hw
 unfold relE at hrr
 rw[hS]at hrr
 cases hSr:S rel with
 |none=>
  rw[hSr]at hb hrr
  dsimp only at hb hrr
  rw[<-hb]
  clear hK
  repeat'(first|refine zgb ?_|(refine zge ?_ ?_<;>intro _<;>try exact zo)|fail)
  apply Yg _ Ytj
  exact za
  exact rfl
  exactλ_ hw=>(hrr (hi.mono zc0) (hw))
  rintro _ _ ⟨A2,cap2,rfl,rfl⟩
  repeat'(first|refine zgd ?_|fail)
  apply Yf (nrs none 0 []::H)
  ·intro w hw
   have h5:St B w0 H w:=by
    revert w
    exact zc0
   exact Yen
  exact zc37
 |some l=>
  rw[hSr]at hb hrr
  dsimp only at hb hrr
  have hlb:0<=Zk l-rel+1/\Zk l-rel+1<=513:=by
   have:=Yja hok (a:=rel) (l:=l) (by rw[hS];exact hSr)
   omega
  obtain⟨m,hm⟩:∃m,Zk l-rel+1=m:=⟨_,rfl⟩
  rw[hm]at hb hrr hlb
  repeat'(first|refine zgb ?_|(refine zge ?_ ?_<;>intro _<;>try exact zo)|fail)
  apply Yg _ Ytj
  exact za
  exact rfl
  exactλ_ hw=>(hrr (hi.mono zc0) (hw))
  rintro _ _ ⟨A2,cap2,rfl,rfl⟩
  by_cases hgt:b1<m
  ·rw[Tn hgt]at hb
   repeat'(first|refine zgc ?_|(refine zge ?_ ?_<;>intro _<;>try exact zo)|fail)
   apply hK ⟨k,rel+x.f.2.2.2.1,(m,rel,l.map λz=>z-rel),A2,cap2⟩
   ·exact⟨hb,by exact YuC,by show 0<=rel+x.f.2.2.2.1;omega,by show rel+x.f.2.2.2.1<=2000;omega,hlb.1,by show m<=2000;omega⟩
   ·exact zc50
   ·exact zc1
   ·exact zc0
  ·rw[Tj hgt]at hb
   repeat'(first|refine zgc ?_|(refine zge ?_ ?_<;>intro _<;>try exact zo)|fail)
   apply hK ⟨k,rel+x.f.2.2.2.1,(b1,b2,bl),A,cap⟩
   ·exact zc83
   ·exact zc50
   ·exact zc1
   ·exact zc0
abbrev flws(A:Option Addr)(cap:Nat)(l:List Flw):HP:=sl 45 6 A l.length cap (l.flatMap flwF)
theorem Yfk(A:Option Addr)(cap:Nat)(l:List Flw)(f:Flw):sl 45 6 A (l.length+1) cap (l.flatMap flwF++#[.int .i64 f.1,.int .i64 f.2.1,.int .i64 f.2.2.1,.int .i64 f.2.2.2.1,.int .i64 f.2.2.2.2.1,.int .i64 f.2.2.2.2.2].toList)=flws A cap (l++[f]):=by simp[flws,List.flatMap_append,flwF]
structure FlM where
 i:Nat
 A:Option Addr
 cap:Nat
def RqM.fl(q:List RqM):List Flw:=q.map (·.f)
variable {A:Option Addr}{cap B:Nat}{w0 w:World}{H:List HP}
theorem Ybf(q:List RqM)(hl:q.length<=1000000000000)(hr:Rd B w0 H A (q.flatMap rqF))(hw:St B w0 H w):
 CX B w0 181 [.slice A q.length cap] w λv K=>∃A2 cap2,v=.slice A2 (RqM.fl q).length cap2/\K=flws A2 cap2 (RqM.fl q)::H:=by
 refine Ya Tryz.func181 Tryz.ntmps181 rfl rfl hw ?_
 repeat'(first|refine zgb ?_|fail)
 refine Vc 45 6 ?_
 refine Ye (λz:FlM=>[(8,.int .i64 (z.i:Nat)),(7,.int .i64 q.length),(6,.slice A q.length cap),(3,.slice z.A (RqM.fl (q.take z.i)).length z.cap)]) (λz=>flws z.A z.cap (RqM.fl (q.take z.i))::H) (λz=>z.i<=q.length) (λz=>q.length-z.i) ⟨0,none,0⟩ (Td _) ?_ (λw hw=>hw) ?_
 ·exact zu
 rintro⟨i,A2,cap2⟩ hi K hK
 dsimp only at hi⊢
 have hlen:(RqM.fl (q.take i)).length=i:=by grind [Go.Proofs.YtjommdkgfbhbdaaGreatDoor.RqM.fl]
 have hr':=hr.cons (X:=flws A2 cap2 (RqM.fl (q.take i)))
 by_cases hlt:i<q.length
 ·obtain⟨x,hx⟩:∃x,q[i]? =some x:=⟨_,Ta hlt⟩
  have hst:RqM.fl (q.take (i+1))=RqM.fl (q.take i)++[x.f]:=by grind [Go.Proofs.YtjommdkgfbhbdaaGreatDoor.RqM.fl,TB]
  repeat'(first|refine Yr T ?_|refine zgd ?_|(refine zge ?_ ?_<;>intro _<;>try exact zo)|(refine zgh ?_;intro _)|(refine zgi ?_;intro _ _)|fail)
  rename_i A' cap'
  rw[Yfk,<-hst,show(RqM.fl (q.take i)).length+1=(RqM.fl (q.take (i+1))).length from by rw[hst];simp]
  apply hK ⟨i+1,A',cap'⟩
  ·show i+1<=_
   omega
  ·dsimp only;omega
  ·exact zu
  ·exact zk
 ·obtain rfl:i=q.length:=by omega
  rw[TI]
  repeat'(first|refine zgc ?_|(refine zge ?_ ?_<;>intro _<;>try exact zo)|fail)
  apply Yd;exact rfl;exact rfl
  exact⟨A2,cap2,rfl,rfl⟩
variable {x:RqM}
theorem U4{k:Nat}{r:RowM}(h:x.rows[k]? =some r):rtAt x.rq.2 k=r.xs:=by
 have h2:x.rq.2[k]? =some r.xs:=by
  show(x.rows.map (·.xs))[k]? =_
  simp_all
 grind [Ya1]
theorem YaF(n:NetM)(x:RqM)(hin:n.In B w0 H)(hx:x.In B w0 H)(hw:St B w0 H w):
 CX B w0 260 [n.val,rqV x] w λv K=>v=.int .i64 (rtsE n.net x.rq)/\K=H:=by
 refine Ya Tryz.func260 Tryz.ntmps260 rfl rfl hw ?_
 have hln:x.rq.2.length=x.rows.length:=by unfold RqM.rq;exact YfR
 have hlx:=hx.ln
 have e1:x.rq.1=x.f:=rfl
 unfold rtsE
 rw[hln,e1]
 have p1:=λ{H':List HP}{w:World}(r:RowM) (hr:r∈x.rows) (hin:n.In B w0 H') (hx:x.In B w0 H') (hw:St B w0 H' w)=>Ycf n x.f.2.1 x.f.2.2.1 r.xs (cap:=r.cap) hin (hx.rw_ r hr) (TX (hx.rl r hr).1 (by decide)) (hx.rl r hr).2 hw
 unfold NetM.val rqV
 by_cases h0:x.rows.length=0
 ·rw[Tn h0]
  repeat'(first|refine zgb ?_|(refine zgf ?_ ?_<;>intro _<;>try exact zo)|(refine zgh ?_;intro _)|fail)
  apply Yf H
  ·exact zc0
  exact zc3
 rw[Tj h0]
 by_cases h2:2<x.rows.length
 ·rw[Tn h2]
  repeat'(first|refine zgb ?_|(refine zgf ?_ ?_<;>intro _<;>try exact zo)|(refine zgh ?_;intro _)|fail)
  apply Yf H
  ·exact zc0
  exact zc3
 rw[Tj h2]
 obtain⟨F,hF⟩:∃F,(λk=>Xu n.net x.f.2.1 x.f.2.2.1 (rtAt x.rq.2 k))=F:=⟨_,rfl⟩
 rw[hF]
 have hFv:∀{k:Nat}{r:RowM},x.rows[k]? =some r->F k=Xu n.net x.f.2.1 x.f.2.2.1 r.xs:=λh=>by rw[<-hF];show Xu _ _ _ _=_;rw[U4 h]
 repeat'(first|refine zgb ?_|(refine zgf ?_ ?_<;>intro _<;>try exact zo)|(refine zgh ?_;intro _)|fail)
 rename_i gn gx _ _
 refine Ye (λk:Nat=>[(19,.int .i64 (k:Nat)),(18,.int .i64 x.rows.length),(17,.slice x.A x.rows.length x.cap),(3,.pointer (some ⟨gx,0,none⟩)),(2,.pointer (some ⟨gn,0,none⟩))]) (λ_=>rqA gx x::netA gn n::H) (λk=>k<=x.rows.length/\∀j,0<=j->j<k->F j=0) (λk=>x.rows.length-k) 0 ⟨Td _,λj _ h=>absurd h (TZ _)⟩ ?_ (λw hw=>hw) ?_
 ·exact zc1
 rintro k ⟨hk,hz⟩ K hK
 have hrt:Rd B w0 (rqA gx x::netA gn n::H) x.A (x.rows.flatMap rowF):=hx.rt.cons.cons
 by_cases hlt:k<x.rows.length
 ·obtain⟨r,hr⟩:∃r,x.rows[k]? =some r:=⟨_,Ta hlt⟩
  have hFk:=hFv hr
  have p2:=λ{H':List HP}{w:World}(hin:n.In B w0 H') (hx:x.In B w0 H') (hw:St B w0 H' w)=>p1 r (Tc hr) hin hx hw
  rw[<-hFk]at p2
  by_cases hFz:F k=0
  ·rw[hFz]at p2
   repeat'(first|((apply Yb Ypo);exact za;exact rfl;exactλ_ hw=>(p2 (hin.mono zk) (hx.mono zk) hw))|refine zgd ?_|(refine zge ?_ ?_<;>intro _<;>try exact zo)|fail)
   apply hK (k+1)
   ·exact YtY
   ·omega
   ·exact zc1
   ·exact zc0
  ·have hfe:=Xh (f:=F) (r:=x.rows.length) (i0:=0) (i:=k) (λj h1 h2=>hz j h1 h2) (Td _) (by omega) hFz
   rw[hfe,Tn hFz]
   clear hK
   repeat'(first|((apply Yb Ypo);exact za;exact rfl;exactλ_ hw=>(p2 (hin.mono zk) (hx.mono zk) hw))|refine zgd ?_|(refine zge ?_ ?_<;>intro _<;>try exact zo)|fail)
   apply Yf H
   ·exact zc0
   exact zc3
 ·obtain rfl:k=x.rows.length:=by omega
  have hfe:=Xy (f:=F) (r:=x.rows.length) (i0:=0) λj h1 h2=>hz j h1 (by omega)
  rw[hfe,Tj (λe=>e rfl)]
  clear hK
  by_cases h3:x.rows.length=2
  rotate_left
  ·rw[Tj (λe=>h3 e.1)]
   repeat'(first|(apply zg28;refine zs84 ?_)|refine zgd ?_|(refine zgf ?_ ?_<;>intro _<;>try exact zo)|fail)
   apply Yf H
   ·exact zc0
   exact zc3
  obtain⟨r0,hr0⟩:∃r,x.rows[0]? =some r:=⟨_,Ta (by omega)⟩
  obtain⟨r1,hr1⟩:∃r,x.rows[1]? =some r:=⟨_,Ta (by omega)⟩
  rw[U4 hr0,U4 hr1]
  have p3:=λ{H':List HP}{w:World}(hx:x.In B w0 H') (hw:St B w0 H' w)=>Ybl r0.xs r1.xs (cap:=r0.cap) (cap2:=r1.cap) (TX (hx.rl r0 (Tc hr0)).1 (by decide)) (TX (hx.rl r1 (Tc hr1)).1 (by decide)) (hx.rw_ r0 (Tc hr0)) (hx.rw_ r1 (Tc hr1)) hw
  by_cases heq:r0.xs=r1.xs
  ·rw[Tn ⟨h3,heq⟩]
   rw[Tf heq]at p3
   repeat'(first|refine zgc ?_|(refine zge ?_ ?_<;>intro _<;>try exact zo)|fail)
   apply YV [0,1,2,3,4,5,6,7,8,9,10,11,12,13,14] []
   kernel_rfl
   kernel_rfl
   (simp only[Yc,nthO];rfl)
   exact rfl
   repeat'(first|refine zgd ?_|(refine zgf ?_ ?_<;>intro _<;>try exact zo)|fail)
   apply Yb Ypm
   exact za
   exact rfl
   exactλ_ hw=>(p3 (hx.mono zc0) hw)
   repeat'(first|(apply Yh;(repeat(first|with_reducible exact YY|(with_reducible apply YN;(repeat(first|with_reducible exact Yo|with_reducible apply Yw))))))|refine zgd ?_|fail)
   ·show Perm H (H++[])
    exact zc28
   repeat'(first|fail)
   apply Yf H
   ·exact zc0
   exact zc3
  ·rw[Tj (λe=>heq e.2)]
   rw[Ti heq]at p3
   repeat'(first|refine zgc ?_|(refine zge ?_ ?_<;>intro _<;>try exact zo)|fail)
   apply YV [0,1,2,3,4,5,6,7,8,9,10,11,12,13,14] []
   kernel_rfl
   kernel_rfl
   (simp only[Yc,nthO];rfl)
   exact rfl
   repeat'(first|refine zgd ?_|(refine zgf ?_ ?_<;>intro _<;>try exact zo)|fail)
   apply Yb Ypm
   exact za
   exact rfl
   exactλ_ hw=>(p3 (hx.mono zc0) hw)
   repeat'(first|(apply Yh;(repeat(first|with_reducible exact YY|(with_reducible apply YN;(repeat(first|with_reducible exact Yo|with_reducible apply Yw))))))|refine zgd ?_|fail)
   ·show Perm H (H++[])
    exact zc28
   repeat'(first|fail)
   apply Yf H
   ·exact zc0
   exact zc3
theorem Yfi(q:List RqM):RqM.fl q=Y8 (q.map RqM.rq):=by unfold RqM.fl Y8;rw[List.map_map];rfl
theorem Yam{q:List RqM}{i:Nat}(h:q[i]? =some x):rqAt (q.map RqM.rq) i=x.rq:=by
 have h2:(q.map RqM.rq)[i]? =some x.rq:=by simp_all
 grind [VK]
theorem YeH(n:NetM)(q:List RqM)(hin:n.In B w0 H)(hq:QIn B w0 H A q)(hw:St B w0 H w):
 CX B w0 179 [n.val,.slice A q.length cap] w λv K=>v=.tuple #[.int .i64 (rqsE n.net (q.map RqM.rq)).1,.int .i64 (rqsE n.net (q.map RqM.rq)).2]/\K=H:=by
 refine Ya Tryz.func179 Tryz.ntmps179 rfl rfl hw ?_
 have hql:=hq.ln
 have hqr:=hq.rd
 have p1:=λ{H':List HP}{w:World}(hin:n.In B w0 H') (hw:St B w0 H' w)=>Y4 n hin hw
 have p2:=λ{H':List HP}{w:World}(hq:QIn B w0 H' A q) (hw:St B w0 H' w)=>Ybf q (cap:=cap) hql hq.rd hw
 have p3:=λ{A2:Option Addr}{cap2:Nat}{H':List HP}{w:World}(hr:Rd B w0 H' A2 ((RqM.fl q).flatMap flwF)) (hw:St B w0 H' w)=>Xw n.nodes (RqM.fl q) Yms (cap:=cap2) hr hw
 unfold rqsE
 rw[<-Yfi,To]
 rw[show n.net.nodes=n.nodes from rfl]
 obtain⟨c,hc⟩:∃c,Yl n.net=c:=⟨_,rfl⟩
 obtain⟨⟨fi,fe⟩,hf⟩:∃f,YB n.nodes (RqM.fl q)=f:=⟨_,rfl⟩
 obtain⟨F,hF⟩:∃F,(λi=>rtsE n.net (rqAt (q.map RqM.rq) i))=F:=⟨_,rfl⟩
 rw[hc]at p1⊢
 rw[hf]at p3⊢
 rw[hF]
 dsimp only at p3⊢
 have hFv:∀{k:Nat}{x:RqM},q[k]? =some x->F k=rtsE n.net x.rq:=λh=>by rw[<-hF];show rtsE _ _=_;rw[Yam h]
 unfold NetM.val
 by_cases h0:c=0
 rotate_left
 ·rw[Tn h0]
  repeat'(first|((apply Yb XM);exact za;exact rfl;exactλ_ hw=>(p1 hin.cons hw))|refine zgb ?_|(refine zge ?_ ?_<;>intro _<;>try exact zo)|(refine zgh ?_;intro _)|fail)
  apply Yf H
  ·exact zc0
  exact zc5
 subst h0
 rw[Tj (λe=>e rfl)]
 by_cases h1:fe=0
 rotate_left
 ·rw[Tn h1]
  repeat'(first|((apply Yb XM);exact za;exact rfl;exactλ_ hw=>(p1 hin.cons hw))|refine zgb ?_|(refine zge ?_ ?_<;>intro _<;>try exact zo)|(refine zgh ?_;intro _)|fail)
  apply YA [0,1,2,3,4,5,6,7,8,9] [] [true]
  kernel_rfl
  kernel_rfl
  exact zy
  (simp only[Yc,nthO];rfl)
  exact rfl
  repeat'(first|refine zgd ?_|fail)
  apply Yg _ YlH
  exact za
  exact rfl
  exactλ_ hw=>(p2 (hq.mono zc0) (hw))
  rintro _ _ ⟨A2,cap2,rfl,rfl⟩
  repeat'(first|(apply Yh;(repeat(first|with_reducible exact YY|(with_reducible apply YN;(repeat(first|with_reducible exact Yo|with_reducible apply Yw))))))|refine zgd ?_|fail)
  apply Yb en39
  exact za
  exact rfl
  exactλ_ hw=>(p3 (Rd.sl (by(focus exact zc2))) hw)
  repeat'(first|(apply Yh;(repeat(first|with_reducible exact YY|(with_reducible apply YN;(repeat(first|with_reducible exact Yo|with_reducible apply Yw))))))|refine zgd ?_|(refine zge ?_ ?_<;>intro _<;>try exact zo)|fail)
  apply Yf H
  ·exact zc0
  exact zc5
 subst h1
 rw[Tj (λe=>e rfl)]
 repeat'(first|((apply Yb XM);exact za;exact rfl;exactλ_ hw=>(p1 hin.cons hw))|refine zgb ?_|(refine zge ?_ ?_<;>intro _<;>try exact zo)|(refine zgh ?_;intro _)|fail)
 first|(rename_i gn;guard_hyp gn:Nat)|(rename_i gn _;guard_hyp gn:Nat)|(rename_i gn _ _;guard_hyp gn:Nat)
 apply YA [0,1,2,3,4,5,6,7,8,9] [] [true]
 kernel_rfl
 kernel_rfl
 exact zy
 (simp only[Yc,nthO];rfl)
 exact rfl
 repeat'(first|refine zgd ?_|fail)
 apply Yg _ YlH
 exact za
 exact rfl
 exactλ_ hw=>(p2 (hq.mono zc0) (hw))
 rintro _ _ ⟨A2,cap2,rfl,rfl⟩
 repeat'(first|(apply Yh;(repeat(first|with_reducible exact YY|(with_reducible apply YN;(repeat(first|with_reducible exact Yo|with_reducible apply Yw))))))|refine zgd ?_|fail)
 apply Yb en39
 exact za
 exact rfl
 exactλ_ hw=>(p3 (Rd.sl (by(focus exact zc2))) hw)
 repeat'(first|(apply Yh;(repeat(first|with_reducible exact YY|(with_reducible apply YN;(repeat(first|with_reducible exact Yo|with_reducible apply Yw))))))|refine zgd ?_|(refine zge ?_ ?_<;>intro _<;>try exact zo)|fail)
 refine Ye (λk:Nat=>[(28,.int .i64 (k:Nat)),(27,.int .i64 q.length),(26,.slice A q.length cap),(2,.pointer (some ⟨gn,0,none⟩))]) (λ_=>netA gn n::H) (λk=>k<=q.length/\∀j,0<=j->j<k->F j=0) (λk=>q.length-k) 0 ⟨Td _,λj _ h=>absurd h (TZ _)⟩ ?_ ?_ ?_
 ·exact zc1
 ·exact zc0
 rintro k ⟨hk,hz⟩ K hK
 have hqr':Rd B w0 (netA gn n::H) A (q.flatMap rqF):=hqr.cons
 by_cases hlt:k<q.length
 ·obtain⟨x,hx⟩:∃x,q[k]? =some x:=⟨_,Ta hlt⟩
  have hFk:=hFv hx
  have hxi:=hq.x x (Tc hx)
  have p4:=λ{H':List HP}{w:World}(hin:n.In B w0 H') (hx:x.In B w0 H') (hw:St B w0 H' w)=>YaF n x hin hx hw
  rw[<-hFk]at p4
  by_cases hFz:F k=0
  ·rw[hFz]at p4
   repeat'(first|((apply Yb Ys6);exact za;exact rfl;exactλ_ hw=>(p4 (hin.mono zk) (hxi.mono zk) hw))|refine zgd ?_|(refine zge ?_ ?_<;>intro _<;>try exact zo)|(refine zgh ?_;intro _)|fail)
   apply hK (k+1)
   ·exact YtY
   ·omega
   ·exact zc1
   ·exact zc0
  ·have hfe:=Xh (f:=F) (r:=q.length) (i0:=0) (i:=k) (λj h1 h2=>hz j h1 h2) (Td _) (by omega) hFz
   rw[hfe]
   clear hK
   repeat'(first|((apply Yb Ys6);exact za;exact rfl;exactλ_ hw=>(p4 (hin.mono zk) (hxi.mono zk) hw))|refine zgd ?_|(refine zge ?_ ?_<;>intro _<;>try exact zo)|(refine zgh ?_;intro _)|fail)
   apply Yf H
   ·exact zc0
   exact zc5
 ·obtain rfl:k=q.length:=by omega
  have hfe:=Xy (f:=F) (r:=q.length) (i0:=0) λj h1 h2=>hz j h1 (by omega)
  rw[hfe]
  clear hK
  repeat'(first|refine zgc ?_|(refine zge ?_ ?_<;>intro _<;>try exact zo)|fail)
  apply Yf H
  ·exact zc0
  exact zc5
variable {s:Sch}{slot:Int}{j n:Nat}
theorem Ynw(h:(Yj s j).1=slot)(hj:j<n):∃R,inI s slot n=inI s slot j++j::R/\∀x∈R,j<x:=by
 obtain⟨m,rfl⟩:∃m,n=j+(m+1):=⟨n-j-1,by omega⟩
 have e:inI s slot (j+(m+1))=inI s slot j++((List.range (m+1)).map (j+·)).filter λi=>decide ((Yj s i).1=slot):=by
  grind [inI,List.range_add]
 rw[e,SE,Rx,Nx,Tn (by simp_all)]
 simp_all
theorem YpL{k:Nat}(h:(inI s slot n)[k]? =some j):(inI s slot n).take k=inI s slot j:=by
 have hm:=OL.1 (Tc h)
 obtain⟨R,hR,hRx⟩:=Ynw hm.2 hm.1
 rw[hR]at h⊢
 have hk:k=(inI s slot j).length:=by
  rcases NE k (inI s slot j).length with h1|h1|h1
  ·rw[List.getElem?_append_left h1]at h
   have:=(OL.1 (Tc h)).1
   omega
  ·exact h1
  ·rw[SD (by omega)]at h
   obtain⟨q,hq⟩:∃q,k-(inI s slot j).length=q+1:=⟨k-(inI s slot j).length-1,by omega⟩
   rw[hq,List.getElem?_cons_succ]at h
   have:=hRx j (Tc h)
   omega
 simp_all
theorem Ygk{α:Type}{p:α->Bool}{l:List α}{i:Nat}{x:α}(h:l[i]? =some x):(l.take (i+1)).filter p=(l.take i).filter p++if p x=true then [x]else []:=zc76
def Oi(s:Sch)(c:Cel)(l:List Nat):List Cel:=(l.filter λj=>decide ((Yj s j).2.1=c.2.1)).map (Yj s)
theorem YaW{s:Sch}{c:Cel}:∀{m:Nat},m<=s.cells.length->Oi s c (inI s c.1 m)=(s.cells.take m).filter (Y9 c)
 |0,_=>by simp[Oi,inI]
 |m+1,h=>by
  have ih:=YaW (s:=s) (c:=c) (m:=m) (by omega)
  have hg:=YM (s:=s) (i:=m) (by omega)
  rw[Ygk hg,<-ih]
  have hp:Y9 c (Yj s m)=true↔(Yj s m).1=c.1/\(Yj s m).2.1=c.2.1:=by simp_all [Y9]
  by_cases h1:(Yj s m).1=c.1
  ·rw[Yl1 h1]
   unfold Oi
   grind
  simp_all [YpK]
theorem YiJ(s:Sch)(c:Cel)(l:List Nat)(j:Nat):Oi s c (l++[j])=Oi s c l++if(Yj s j).2.1=c.2.1 then [Yj s j]else []:=by
 unfold Oi
 grind
structure DsM where
 A:Option Addr
 cap:Nat
 M:List Cel
 a:Int
theorem YcW(n:NetM)(s:SchM)(i:Nat)(hck:Yl n.net=0)(hgood:∀c∈s.cells,YX n.net (YF c) (toC c)=true)(hi:i<s.cells.length)(hl:s.cells.length<=1000){B:Nat}{w0:World}{H:List HP}{w:World}(hin:n.In B w0 H)(hr:Rd B w0 H s.A (s.cells.flatMap celF))(hw:St B w0 H w):
 CX B w0 264 [n.val,s.val,.int .i64 i] w λv K=>v=.bool (Z8 n.net s.sch i)/\K=H:=by
 refine Zr Tryz.func264 Tryz.ntmps264 rfl rfl hw ?_
 have hget:s.cells[i]? =some (Yj s.sch i):=YM (s:=s.sch) hi
 obtain⟨c,hc⟩:∃c,Yj s.sch i=c:=⟨_,rfl⟩
 rw[hc]at hget
 have hrm:Rd B w0 [many H] s.A (s.cells.flatMap celF):=hr.tail
 clear hr
 refine Y6 [many H] (λw hw=>hw.perm (.closeT H)) ?_
 refine zX78 ?_<;>intros
 rename_i gn gs gi g7 g8
 apply YA [0,1,2,3,4,5,6] [7] [false,false,true,true,false,true]
 kernel_rfl
 kernel_rfl
 exact zy
 (simp only[Yc,nthO];rfl)
 (simp only[Yc,nthO];rfl)
 refine zX3 ?_
 apply Yg _ Ytg
 exact za
 exact rfl
 exactλ_ hw=>(Yic s c.1 (hw))
 rintro _ _ ⟨g1,g2,rfl,rfl⟩
 refine zX3 ?_
 obtain⟨L,hL⟩:∃L,inI s.sch c.1 s.cells.length=L:=⟨_,rfl⟩
 have hiL:i∈L:=by
  rw[<-hL]
  exact OL.2 ⟨hi,by rw[hc]⟩
 have hr7:Rd B w0 (intB g2 c.1::schB g1 s::blk gi (.cells #[.int .i64 i] 3 (0,0))::schB gs s::netN gn n::[many H]) s.A (s.cells.flatMap celF):=hrm.cons.cons.cons.cons.cons
 rw[show(Value.slice none 0 0).cells=#[Value.slice none 0 0] from rfl]
 refine Vc 162 5 ?_
 refine Zt (gf:=385) (lb:=[.pointer (some ⟨g1,0,none⟩),.pointer (some ⟨g2,0,none⟩)]) (xs:=inXs s.sch c.1) (intB g2 c.1::schB g1 s::blk gi (.cells #[.int .i64 i] 3 (0,0))::schB gs s::netN gn n::[many H]) (λx:DsM=>[blk g7 (.cells #[.slice x.A x.M.length x.cap] 31 (0,0)),cels x.A x.cap x.M,blk g8 (.cells #[.int .i64 x.a] 3 (0,0))])
  (λk x=>x.M=Oi s.sch c (L.take k)/\x.a=if i∈L.take k then(YC s.sch i:Int)else 0) (λ_ _=>False) ⟨none,0,[],0⟩ rfl Ytm (Yib s c.1 g1 g2 hr7 (by omega) (.tail _ (.head _)) (.head _)) rfl ?_ (by kernel_rfl) (by kernel_rfl) ?_ ⟨by simp[Oi],by simp⟩ ?_ ?_ (λ_ _ _ h=>h.elim)
 ·intro args h
  obtain⟨k,hk⟩:=TP.1 h
  obtain⟨i,_,_,rfl⟩:=Q6 hk
  rfl
 ·unfold schB intB cels netN
  simp only[TA,TC,Sr,List.flatMap_nil]
  exact zc0
 ·rintro l k args R ⟨A,cap,M,a⟩ hk ⟨hM,ha⟩
  obtain⟨j,hj,hlt,rfl⟩:=Q6 hk
  have hlt2:j<s.cells.length:=hlt
  have hj:L[k]? =some j:=by rw[<-hL];exact hj
  dsimp only at hM ha⊢
  dsimp only[Uz,List.cons_append,List.nil_append]
  have hgj:s.cells[j]? =some (Yj s.sch j):=YM (s:=s.sch) hlt
  have htj:L.take k=inI s.sch c.1 j:=by
   rw[<-hL]at hj⊢
   exact YpL hj
  have htk:L.take (k+1)=L.take k++[j]:=by rw[TB,hj,RN]
  have hMf:M=(s.cells.take j).filter (Y9 c):=by
   rw[hM,htj]
   exact YaW (s:=s.sch) (by show j<=s.cells.length;omega)
  have hMl:M.length<=s.cells.length:=by
   rw[hMf]
   have h1:=Sl (Y9 c) (s.cells.take j)
   rw[TU]at h1
   omega
  have hps:=YiJ s.sch c (L.take k) j
  rw[<-htk,<-hM]at hps
  obtain⟨d,hd⟩:∃d,Yj s.sch j=d:=⟨_,rfl⟩
  rw[hd]at hgj hps
  refine zX2 ?_
  apply JS Yo
  intro R'
  unfold intB schB netN cels
  clear hr7
  by_cases hoff:d.2.1=c.2.1
  rotate_left
  ·have hij:i≠j:=by
    rintro rfl
    rw[hc]at hd
    subst hd
    exact hoff rfl
   refine zX50 ?_<;>intros
   all_goals(
    apply Ug ⟨A,cap,M,a⟩
    ·refine⟨?_,?_⟩
     ·show M=_
      rw[hps,Tj hoff,Rr]
     ·show a=_
      rw[ha,htk]
      simp[hij]
    ·dsimp only[List.cons_append,List.nil_append]
     exact zc0)
  by_cases hji:j=i
  ·obtain rfl:=hji
   obtain rfl:d=c:=hd.symm.trans hc
   have hsa:(M.length:Int)=(YC s.sch j:Int):=by
    rw[hMf]
    unfold YC
    rw[hc]
    rfl
   refine zX25 ?_<;>intros
   apply Yg2 [0,1,2,3,4,5,6] [7,8] [false,true,false,false,false,false,false,true,false,true]
   kernel_rfl
   kernel_rfl
   exact zy
   (simp only[Yc,nthO];rfl)
   (simp only[Yc,nthO];rfl)
   refine zX82 ?_<;>intros
   rename_i A9 cap9
   apply Ug ⟨A9,cap9,M++[d],(M.length:Int)⟩
   ·refine⟨?_,?_⟩
    ·show M++[d]=_
     rw[hps,Tn hoff]
    ·show(M.length:Int)=_
     rw[htk,Tn (by simp),hsa]
   ·dsimp only[List.cons_append,List.nil_append]
    intro w hw
    rw[JU,Yil M d]at hw
    unfold cels at hw
    revert w
    exact zc0
  ·have hji2:i≠j:=λe=>hji e.symm
   refine zX25 ?_<;>intros
   apply Yg2 [0,1,2,3,4,5,6] [7,8] [false,true,false,false,false,false,false,true,false,true]
   kernel_rfl
   kernel_rfl
   exact zy
   (simp only[Yc,nthO];rfl)
   (simp only[Yc,nthO];rfl)
   refine zX82 ?_<;>intros
   rename_i A9 cap9
   apply Ug ⟨A9,cap9,M++[d],a⟩
   ·refine⟨?_,?_⟩
    ·show M++[d]=_
     rw[hps,Tn hoff]
    ·show a=_
     rw[ha,htk]
     simp[hji2]
   ·dsimp only[List.cons_append,List.nil_append]
    intro w hw
    rw[JU,Yil M d]at hw
    unfold cels at hw
    revert w
    exact zc0
 ·rintro D ⟨A,cap,M,a⟩ ⟨hM,ha⟩
  have hLl:(inXs s.sch c.1).length=L.length:=by rw[inXs,To];exact TF List.length hL
  dsimp only at hM ha⊢
  rw[hLl,TI]at hM ha
  rw[Tn hiL]at ha
  subst ha
  have hMS:M=Yz s.sch i:=by
   rw[hM,<-hL]
   have h1:=YaW (s:=s.sch) (c:=c) (TK _)
   rw[TI]at h1
   rw[show s.cells.length=s.sch.cells.length from rfl,h1]
   unfold Yz
   rw[hc]
  have hMl:M.length<=1000:=by
   rw[hMS]
   have h1:=Sl (Y9 (Yj s.sch i)) s.sch.cells
   exact TX h1 hl
  have hgM:M[((YC s.sch i:Nat):Int).toNat]? =some c:=by rw[hMS,Ry,On (s:=s.sch) hi,hc]
  have hal:YC s.sch i<M.length:=(Tu.1 hgM).1
  have hok:=YO hck
  have hcm:c∈s.cells:=Tc hget
  have hgd:=hgood c hcm
  obtain⟨⟨f0,f1⟩,⟨t0,t1⟩,_,k1,k2⟩:(0<=c.2.2.1/\c.2.2.1<n.net.nodes)/\(0<=c.2.2.2.1/\c.2.2.2.1<n.net.nodes)/\c.2.2.1≠c.2.2.2.1/\0<=Yq n.net c.2.2.1 c.2.2.2.1/\0<=Yq n.net c.2.2.2.1 c.2.2.1:=Xo hok hgd
  have hno:M.any (Ux n.net)=false:=by
   rw[RE]
   intro x hx
   have hxm:x∈s.cells:=by
    rw[hMS]at hx
    exact(RU.1 hx).1
   obtain⟨h1,h2,_⟩:=Xo hok (hgood x hxm)
   unfold Ux
   rw[show insE (YF x) n.net.nodes=true from Tf h1,show insE (toC x) n.net.nodes=true from Tf h2]
   simp
  have hinm:n.In B w0 [many H]:=⟨hin.pw.tail,λr hr=>(hin.rw_ r hr).tail,hin.lk.tail,hin.mg.tail,hin.s1,hin.s2,hin.s3,hin.s4⟩
  have hmg:=hinm.mg
  have hs4:=hin.s4
  have hml:n.margin.length=n.net.links.length:=hok.k1
  have x1:=XV k1
  have x2:=XV k2
  have hix:∀u v:Int,Zj n.net u v=Yq n.net u v:=λu v=>by unfold Zj;rw[Tj (by omega)]
  have p1:=λ{H':List HP}{w:World}(hin:n.In B w0 H') (hw:St B w0 H' w)=>Zv n c.2.2.1 c.2.2.2.1 hin hw
  have p2:=λ{H':List HP}{w:World}(hin:n.In B w0 H') (hw:St B w0 H' w)=>Zv n c.2.2.2.1 c.2.2.1 hin hw
  rw[hix]at p1 p2
  obtain⟨i1,hi1⟩:∃z,Yq n.net c.2.2.1 c.2.2.2.1=z:=⟨_,rfl⟩
  obtain⟨i2,hi2⟩:∃z,Yq n.net c.2.2.2.1 c.2.2.1=z:=⟨_,rfl⟩
  rw[hi1]at p1 k1 x1
  rw[hi2]at p2 k2 x2
  have hm1:n.margin[i1.toNat]? =some (mar n.net i1.toNat):=zc31
  have hm2:n.margin[i2.toNat]? =some (mar n.net i2.toNat):=zc31
  have q1:=λ{H':List HP}{w:World}(hin:n.In B w0 H') (hr:Rd B w0 H' A (M.flatMap celF)) (hw:St B w0 H' w)=>UQ n M (YC s.sch i) c.2.2.2.1 hck ⟨t0,t1⟩ hal hMl hno (cap:=cap) hin hr hw
  have q2:=λ{H':List HP}{w:World}(hin:n.In B w0 H') (hr:Rd B w0 H' A (M.flatMap celF)) (hw:St B w0 H' w)=>UQ n M (YC s.sch i) c.2.2.1 hck ⟨f0,f1⟩ hal hMl hno (cap:=cap) hin hr hw
  have r1:=λ{H':List HP}{w:World}(hin:n.In B w0 H') (hw:St B w0 H' w)=>Qi n (mar n.net i1.toNat) (UO n.net M (YC s.sch i) c.2.2.2.1) hin hw
  have r2:=λ{H':List HP}{w:World}(hin:n.In B w0 H') (hw:St B w0 H' w)=>Qi n (mar n.net i2.toNat) (UO n.net M (YC s.sch i) c.2.2.1) hin hw
  have hres:Z8 n.net s.sch i=(!(Zu n.net (mar n.net i1.toNat) (UO n.net M (YC s.sch i) c.2.2.2.1))||!(Zu n.net (mar n.net i2.toNat) (UO n.net M (YC s.sch i) c.2.2.1))):=by
   unfold Z8
   rw[hc,<-hMS]
   unfold YF toC
   rw[hi1,hi2]
  obtain⟨b1,hb1⟩:∃b,Zu n.net (mar n.net i1.toNat) (UO n.net M (YC s.sch i) c.2.2.2.1)=b:=⟨_,rfl⟩
  obtain⟨b2,hb2⟩:∃b,Zu n.net (mar n.net i2.toNat) (UO n.net M (YC s.sch i) c.2.2.1)=b:=⟨_,rfl⟩
  rw[hb1]at r1 hres
  rw[hb2]at r2 hres
  rw[hres]
  dsimp only[List.cons_append,List.nil_append]
  unfold cels intB schB netN
  cases b1 with
  |false=>
   refine zX83 ?_<;>intros
   apply Yn Vg
   exact za
   exact rfl
   exactλ_ hw=>(p1 zc23 hw)
   refine zX7 ?_
   apply Yn Vg
   exact za
   exact rfl
   exactλ_ hw=>(p2 zc23 hw)
   refine zX84 ?_
   apply Yn YhN
   exact za
   exact rfl
   exactλ_ hw=>(q1 zc23 (Rd.sl (by(focus exact zc2))) hw)
   refine zX8 ?_
   apply Yn Yfe
   exact za
   exact rfl
   exactλ_ hw=>(r1 zc23 hw)
   refine zX3 ?_
   apply ZZ
   ·exact zc93
   apply VQ_m
   apply Yf H
   ·intro w hw
    have h5:St B w0 [many H] w:=by
     revert w
     exact zc0
    exact zc81
   exact zc3
  |true=>
   cases b2 with
   |false=>
    refine zX83 ?_<;>intros
    apply Yn Vg
    exact za
    exact rfl
    exactλ_ hw=>(p1 zc23 hw)
    refine zX7 ?_
    apply Yn Vg
    exact za
    exact rfl
    exactλ_ hw=>(p2 zc23 hw)
    refine zX84 ?_
    apply Yn YhN
    exact za
    exact rfl
    exactλ_ hw=>(q1 zc23 (Rd.sl (by(focus exact zc2))) hw)
    refine zX8 ?_
    apply Yn Yfe
    exact za
    exact rfl
    exactλ_ hw=>(r1 zc23 hw)
    refine zX3 ?_
    apply Yn YhN
    exact za
    exact rfl
    exactλ_ hw=>(q2 zc23 (Rd.sl (by(focus exact zc2))) hw)
    refine zX10 ?_
    apply Yn Yfe
    exact za
    exact rfl
    exactλ_ hw=>(r2 zc23 hw)
    refine zX3 ?_
    apply ZZ
    ·exact zc93
    apply VQ_m
    apply Yf H
    ·intro w hw
     have h5:St B w0 [many H] w:=by
      revert w
      exact zc0
     exact zc81
    exact zc3
   |true=>
    refine zX83 ?_<;>intros
    apply Yn Vg
    exact za
    exact rfl
    exactλ_ hw=>(p1 zc23 hw)
    refine zX7 ?_
    apply Yn Vg
    exact za
    exact rfl
    exactλ_ hw=>(p2 zc23 hw)
    refine zX84 ?_
    apply Yn YhN
    exact za
    exact rfl
    exactλ_ hw=>(q1 zc23 (Rd.sl (by(focus exact zc2))) hw)
    refine zX8 ?_
    apply Yn Yfe
    exact za
    exact rfl
    exactλ_ hw=>(r1 zc23 hw)
    refine zX3 ?_
    apply Yn YhN
    exact za
    exact rfl
    exactλ_ hw=>(q2 zc23 (Rd.sl (by(focus exact zc2))) hw)
    refine zX10 ?_
    apply Yn Yfe
    exact za
    exact rfl
    exactλ_ hw=>(r2 zc23 hw)
    refine zX3 ?_
    apply ZZ
    ·exact zc93
    apply VQ_m
    apply Yf H
    ·intro w hw
     have h5:St B w0 [many H] w:=by
      revert w
      exact zc0
     exact zc81
    exact zc3
theorem YdT(x:WayM){B:Nat}{w0:World}{H:List HP}{w:World}(ht:TabsB B w0)(hi:x.In B w0 H)(hw:St B w0 H w):
 CX B w0 216 [x.n.val,x.s.val,flwV x.f,.slice x.A x.r.length x.cap] w λv K=>∃A cap,v=.tuple #[.int .i64 (Y1 x.n.net x.s.sch x.f x.r).1.1,.int .i64 (Y1 x.n.net x.s.sch x.f x.r).1.2.1,.slice A (Y1 x.n.net x.s.sch x.f x.r).1.2.2.length cap,.int .i64 (Y1 x.n.net x.s.sch x.f x.r).2]/\K=nrs A cap (Y1 x.n.net x.s.sch x.f x.r).1.2.2::H:=by
 refine Ya Tryz.func216 Tryz.ntmps216 rfl rfl hw ?_
 have p1:=λ{H':List HP}{w:World}(hi:x.In B w0 H') (hw:St B w0 H' w)=>Yjm x ht hi hw
 obtain⟨R,hR⟩:∃R,Y1 x.n.net x.s.sch x.f x.r=R:=⟨_,rfl⟩
 rw[hR]
 unfold Y1 at hR
 obtain⟨e,he⟩:∃e,wayE x.n.net x.s.sch x.f x.r=e:=⟨_,rfl⟩
 rw[he]at p1 hR
 unfold NetM.val SchM.val flwV
 by_cases h0:e=0
 rotate_left
 ·rw[Tn h0]at hR
  subst hR
  refine zX71 ?_<;>intros
  apply Yf (nrs none 0 []::H)
  ·intro w hw
   have h5:St B w0 H w:=by
    revert w
    exact zc0
   exact Yen
  exact zc37
 subst h0
 rw[Tj (λh=>h rfl)]at hR
 have hok:=Ycd he
 have p2:=λ{H':List HP}{w:World}(hi:x.In B w0 H') (hw:St B w0 H' w)=>YjR x hok hi hw
 unfold Z3 at p2
 cases hb:JC x.n.net x.s.sch x.f x.r with
 |none=>
  rw[hb]at hR p2
  dsimp only[Wc]at hR p2
  subst hR
  refine zX71 ?_<;>intros
  apply Yg _ Yta
  exact za
  exact rfl
  exactλ_ hw=>(p2 (hi.mono zc0) (hw))
  rintro _ _ ⟨A2,cap2,rfl,rfl⟩
  refine zX3 ?_
  apply Yf (nrs none 0 []::H)
  ·intro w hw
   have h5:St B w0 H w:=by
    revert w
    exact zc0
   exact Yen
  exact zc37
 |some b=>
  rw[hb]at hR p2
  dsimp only[Wc]at hR p2
  subst hR
  refine zX71 ?_<;>intros
  apply Yg _ Yta
  exact za
  exact rfl
  exactλ_ hw=>(p2 (hi.mono zc0) (hw))
  rintro _ _ ⟨A2,cap2,rfl,rfl⟩
  refine zX10 ?_
  apply Yf (nrs A2 cap2 b.2.2::H)
  ·exact zc0
  exact Yt6
variable {A:Option Addr}{cap B:Nat}{w0 w:World}{H:List HP}
theorem WG(l:List Int)(hlen:l.length<=1000)(hr:Rd B w0 H A (l.flatMap numF))(hw:St B w0 H w):
 CX B w0 132 [.slice A l.length cap] w λv K=>∃A' cap',v=.slice A' l.length cap'/\K=sl 3 1 A' l.length cap' (l.flatMap numF)::H:=by
 cases A with
 |none=>
  have hl:l=[]:=by
   cases l with
   |nil=>rfl
   |cons x l=>
    exact zc46
  subst hl
  refine Ya Tryz.func132 Tryz.ntmps132 rfl rfl hw ?_
  exact zc22
 |some a=>
  refine Ya Tryz.func132 Tryz.ntmps132 rfl rfl hw ?_
  exact zc9
theorem WF(l:List Int)(hlen:l.length<=1000)(hr:Rd B w0 H A (l.flatMap numF))(hw:St B w0 H w):
 CX B w0 129 [.slice A l.length cap] w λv K=>∃A' cap',v=.slice A' l.length cap'/\K=sl 3 1 A' l.length cap' (l.flatMap numF)::H:=by
 cases A with
 |none=>
  have hl:l=[]:=by
   cases l with
   |nil=>rfl
   |cons x l=>
    exact zc46
  subst hl
  refine Ya Tryz.func129 Tryz.ntmps129 rfl rfl hw ?_
  exact zc22
 |some a=>
  refine Ya Tryz.func129 Tryz.ntmps129 rfl rfl hw ?_
  exact zc9
theorem YbR(l:List RowM)(hlen:l.length<=1000)(hr:Rd B w0 H A (l.flatMap rowF))(hw:St B w0 H w):
 CX B w0 130 [.slice A l.length cap] w λv K=>∃A' cap',v=.slice A' l.length cap'/\K=sl 24 1 A' l.length cap' (l.flatMap rowF)::H:=by
 cases A with
 |none=>
  have hl:l=[]:=by
   cases l with
   |nil=>rfl
   |cons x l=>
    exact zc46
  subst hl
  refine Ya Tryz.func130 Tryz.ntmps130 rfl rfl hw ?_
  refine zX6 ?_
  apply ZQ 24 1;exact zc59
 |some a=>
  refine Ya Tryz.func130 Tryz.ntmps130 rfl rfl hw ?_
  repeat'(first|(apply Js;(iterate 3 exact rfl))|(apply YK T;exact rfl;exact rfl;intro g2)|refine zgb ?_|fail)
  apply Xt T (f:=rowF) (l2:=l) (e:=24) (size:=1) (xs:=[]);(iterate 3 exact rfl);exact hr.cons;exact(λ_=>rfl);exact(λ_=>rfl);exact rfl;(intro _ _;exact zd);omega;intro A' cap'
  exact zc41
abbrev clA(g:Nat)(c:ClM):HP:=blk g (.cells #[.int .i64 c.flow,.slice c.rA c.rs.length c.rcap,.slice c.bA c.bs.length c.bcap,.slice c.wA c.ws.length c.wcap,.slice c.sA c.ss.length c.scap] 189 (0,0))
theorem Yal(e:Nat)(A:Option Addr)(cap:Nat)(l:List RowM)(r:RowM):sl e 1 A (l.length+1) cap (l.flatMap rowF++#[Value.slice r.A r.xs.length r.cap].toList)=sl e 1 A (l++[r]).length cap ((l++[r]).flatMap rowF):=by grind [rowF]
theorem VJ(f:RowM->HP)(l:List RowM)(r:RowM)(H:List HP):Perm (f r::many (l.map f)::H) (many ((l++[r]).map f)::H):=by
 have:=Perm.push (f r) (l.map f) [] H
 simp_all
theorem Yhw{S:Int->Option (List Int)}{len per:Int}{N:Nat}(hS:∀a l,S a=some l->l.length<=N):∀{k:Nat}{rel:Int}{b0 b:Int×Int×List Int},b0.2.2.length<=N->UI S len per k rel b0=some b->b.2.2.length<=N
 |0,rel,b0,b,h0,h=>by
  grind [UI]
 |k+1,rel,b0,b,h0,h=>by
  unfold UI at h
  split at h
  ·simp_all
  cases hs:S rel with
  |none=>simp_all
  |some l=>
   rw[hs]at h
   refine Yhw hS ?_ h
   grind
theorem Ym5{x:WayM}(hok:Ve x){b:Int×Int×List Int}(h:JC x.n.net x.s.sch x.f x.r=some b):b.2.2.length<=72:=by
 have hl:=hok.len
 refine Yhw (λa l hs=>?_) (Td _) h
 rw[OX]at hs
 split at hs
 ·cases hs
 have h1:(runW x a).length<=Zq (Yp x.n.net x.r):=Ycb _ _ _ _ _
 have h2:=Yaa hok (Yp x.n.net x.r).length
 grind [JY]
structure M8(xs:List Int) where
 A1:Option Addr
 c1:Nat
 r:RowM
 hr:r.xs=xs
 A3:Option Addr
 c3:Nat
structure CkM where
 i:Nat
 c:ClM
def ClM.lens(c:ClM):Prop:=(c.rs.length<=1000/\c.bs.length<=1000/\c.ws.length<=1000/\c.ss.length<=1000)/\(∀r∈c.rs,r.xs.length<=1000)/\∀r∈c.ss,r.xs.length<=1000
theorem YjZ(n:NetM)(s:SchM)(x:RqM)(ht:TabsB B w0)(hin:n.In B w0 H)(hrs:Rd B w0 H s.A (s.cells.flatMap celF))(hsl:s.cells.length<=1000000000000)(hx:x.In B w0 H)(hr9:x.rows.length<=9)(hw:St B w0 H w):
 CX B w0 182 [n.val,s.val,rqV x] w λv K=>∃c:ClM,v=.tuple #[clV c,.bool (!(ZK n.net s.sch x.rq))]/\(ZK n.net s.sch x.rq=false->c.clm=clmE n.net s.sch x.rq/\c.lens)/\K=clQ c::H:=by
 refine Ya Tryz.func182 Tryz.ntmps182 rfl rfl hw ?_
 have e1:x.rq.1=x.f:=rfl
 have p1:=λ{H':List HP}{w:World}(r:RowM) (hr:r∈x.rows) (hin:n.In B w0 H') (hrs:Rd B w0 H' s.A (s.cells.flatMap celF)) (hx:x.In B w0 H') (hw:St B w0 H' w)=>YdT ⟨n,s,x.f,r.A,r.cap,r.xs⟩ ht ⟨hin,hrs,hx.rw_ r hr,hsl,(hx.rl r hr).1,(hx.rl r hr).2⟩ hw
 unfold NetM.val SchM.val rqV
 refine zX26 ?_<;>intros
 rename_i g3 g4 g5 g6 g8
 have hln:x.rq.2=x.rows.map (·.xs):=rfl
 obtain⟨P,hP⟩:∃P,badR n.net s.sch x.f=P:=⟨_,rfl⟩
 have hla:ZK n.net s.sch x.rq=(x.rows.map (·.xs)).any P:=by unfold ZK;rw[hln,e1,hP]
 rw[hla]
 refine Ye (λz:CkM=>[(22,.int .i64 (z.i:Nat)),(21,.int .i64 x.rows.length),(20,.slice x.A x.rows.length x.cap),(8,.pointer (some ⟨g8,0,none⟩)),(6,.pointer (some ⟨g6,0,none⟩)),(5,.pointer (some ⟨g5,0,none⟩)),(4,.pointer (some ⟨g4,0,none⟩)),(3,.pointer (some ⟨g3,0,none⟩))]) (λz=>clA g8 z.c::clQ z.c::clA g6 (nilC 0)::rqA g5 x::schA g4 s::netA g3 n::H)
  (λz=>z.i<=x.rows.length/\z.c.clm=YcJ n.net s.sch x.rq ((x.rows.take z.i).map (·.xs))/\z.c.lens/\((x.rows.take z.i).map (·.xs)).any P=false) (λz=>x.rows.length-z.i) ⟨0,nilC x.f.1⟩ ⟨Td _,rfl,⟨by unfold nilC;simp,by unfold nilC;simp,by unfold nilC;simp⟩,by simp⟩ ?_ ?_ ?_
 ·exact zc1
 ·intro w hw
  have h1:=Yab x.f.1 hw
  have h2:St B w0 (clQ (nilC x.f.1)::clA g8 (nilC x.f.1)::clA g6 (nilC 0)::rqA g5 x::schA g4 s::netA g3 n::H) w:=h1
  clear hw h1
  revert w
  exact zc0
 rintro⟨i,c⟩ ⟨hi,hcm,hlen,hno⟩ K hK
 dsimp only at hi hcm hlen hno⊢
 have hrt:Rd B w0 (clA g8 c::clQ c::clA g6 (nilC 0)::rqA g5 x::schA g4 s::netA g3 n::H) x.A (x.rows.flatMap rowF):=hx.rt.cons.cons.cons.cons.cons.cons
 by_cases hlt:i<x.rows.length
 rotate_left
 ·obtain rfl:i=x.rows.length:=by omega
  rw[TI]at hcm hno
  rw[hno]
  clear hK
  refine zX0 ?_<;>intros
  apply Yy T (H2:=clQ c::H);(iterate 3 exact rfl);(focus exact zc2);exact rfl;exact rfl;(intro w hw;refine hw.perm ?_;focus exact zc4)
  exact⟨c,rfl,λ_=>⟨hcm,hlen⟩,rfl⟩
 obtain⟨r,hr⟩:∃r,x.rows[i]? =some r:=⟨_,Ta hlt⟩
 have hrm:=Tc hr
 have hri:=hx.rw_ r hrm
 have p2:=λ{H':List HP}{w:World}(hin:n.In B w0 H') (hrs:Rd B w0 H' s.A (s.cells.flatMap celF)) (hx:x.In B w0 H') (hw:St B w0 H' w)=>p1 r hrm hin hrs hx hw
 dsimp only at p2
 obtain⟨⟨⟨m,wst,sx⟩,e⟩,hRt⟩:∃z,Y1 n.net s.sch x.f r.xs=z:=⟨_,rfl⟩
 rw[hRt]at p2
 dsimp only at p2
 unfold flwV at p2
 refine zX72 ?_<;>intros
 apply Yg _ YsR
 exact za
 exact rfl
 exactλ_ hw=>(p2 (hin.mono zc0) (hrs.mono zc0) (hx.mono zc0) (hw))
 rintro _ _ ⟨A2,cap2,rfl,rfl⟩
 have hPr:P r.xs=decide (e≠0\/x.f.2.2.2.2.2<m):=by rw[<-hP];unfold badR;rw[hRt]
 by_cases hbad:e≠0\/x.f.2.2.2.2.2<m
 ·rw[Tf hbad]at hPr
  have hany:(x.rows.map (·.xs)).any P=true:=Rj.2 ⟨r.xs,RJ hrm,hPr⟩
  rw[hany]
  clear hK
  by_cases he0:e=0
  all_goals(
   repeat'(first|refine zgd ?_|(refine zge ?_ ?_<;>intro _<;>try exact zo)|fail)
   apply Yy T (H2:=clQ (nilC 0)::H);(iterate 3 exact rfl);exact zm;exact rfl;exact rfl
   ·intro w hw
    have h5:St B w0 H w:=by
     revert w
     exact zk
    exact Yab 0 h5
   exact⟨nilC 0,rfl,(λh=>by cases h),rfl⟩)
 rw[Ti hbad]at hPr
 have he0:e=0:=S5 λh=>hbad (.inl h)
 have hml:m<=x.f.2.2.2.2.2:=by omega
 subst he0
 obtain⟨hri9,hsx9⟩:r.xs.length<=9/\sx.length<=72:=zc52
 have hinv:∀(A1:Option Addr) (c1:Nat) (r8:RowM) (_:r8.xs=r.xs) (A3:Option Addr) (c3:Nat) (A4:Option Addr) (c4:Nat) (A5:Option Addr) (c5:Nat),(i+1<=x.rows.length/\(ClM.mk c.flow A1 c1 (c.rs++[r8]) A3 c3 (c.bs++[m]) A4 c4 (c.ws++[wst]) A5 c5 (c.ss++[⟨A2,cap2,sx⟩])).clm=YcJ n.net s.sch x.rq ((x.rows.take (i+1)).map (·.xs))/\(ClM.mk c.flow A1 c1 (c.rs++[r8]) A3 c3 (c.bs++[m]) A4 c4 (c.ws++[wst]) A5 c5 (c.ss++[⟨A2,cap2,sx⟩])).lens/\((x.rows.take (i+1)).map (·.xs)).any P=false):=zc12
 refine zX0 ?_<;>intros
 refine Y6 (nrs A2 cap2 sx::clA g8 c::sl 127 1 c.rA c.rs.length c.rcap (c.rs.flatMap rowF)::many (c.rs.map rowQ)::nrs c.bA c.bcap c.bs::nrs c.wA c.wcap c.ws::sl 24 1 c.sA c.ss.length c.scap (c.ss.flatMap rowF)::many (c.ss.map rowQ)::clA g6 (nilC 0)::rqA g5 x::schA g4 s::netA g3 n::H) (λw hw=>hw.perm (.cons _ (.cons _ (.open_ (clP c) _)))) ?_
 have hl1:=hlen.1
 refine Zs (λz:M8 r.xs=>[(22,.int .i64 (i:Nat)),(21,.int .i64 x.rows.length),(20,.slice x.A x.rows.length x.cap),(8,.pointer (some ⟨g8,0,none⟩)),(6,.pointer (some ⟨g6,0,none⟩)),(5,.pointer (some ⟨g5,0,none⟩)),(4,.pointer (some ⟨g4,0,none⟩)),(3,.pointer (some ⟨g3,0,none⟩)),(13,.slice A2 sx.length cap2),(12,.int .i64 wst)])
  (λz=>nrs A2 cap2 sx::blk g8 (.cells #[.int .i64 c.flow,.slice z.A1 (c.rs++[z.r]).length z.c1,.slice z.A3 (c.bs++[m]).length z.c3,.slice c.wA c.ws.length c.wcap,.slice c.sA c.ss.length c.scap] 189 (0,0))::sl 127 1 z.A1 (c.rs++[z.r]).length z.c1 ((c.rs++[z.r]).flatMap rowF)::many ((c.rs++[z.r]).map rowQ)::nrs z.A3 z.c3 (c.bs++[m])::nrs c.wA c.wcap c.ws::sl 24 1 c.sA c.ss.length c.scap (c.ss.flatMap rowF)::many (c.ss.map rowQ)::clA g6 (nilC 0)::rqA g5 x::schA g4 s::netA g3 n::H) ?_ ?_
 ·intro K8 hK8
  apply UC (.n1 0 (.n1 1 (.n1 2 (.n1 6 (.n1 7 (.n1 8 (.n2 3 (.n2 4 (.n2 5 (.n1 11 (.n1 9 (.n1 10 .done))) 9 (.n1 5 (.n1 11 (.n1 10 .done)))) 9 (.n1 4 (.n1 5 (.n1 11 (.n1 10 .done))))) 9 (.n1 3 (.n1 4 (.n1 5 (.n1 11 (.n1 10 .done)))))))))))) [12,13,14] [false,true]
  kernel_rfl
  kernel_rfl
  exact zy
  (simp only[Yc,nthO];rfl)
  repeat'(first|((apply Yg _ YsA);exact za;exact rfl;exactλ_ hw=>WG r.xs (by omega) (hri.mono zk) hw;rintro _ _ ⟨A8,cap8,rfl,rfl⟩)|(apply YeZ;(simp only[nthO];rfl);(simp only[nthO];rfl))|(apply YeY;(simp only[nthO];rfl))|(apply UE;try exact zl)|(apply Yh;try exact zl)|refine zgd ?_|(refine zgh ?_;intro _)|(refine zgi ?_;intro _ _)|fail)
  all_goals(
   first
    |(rename_i A1 c1 g A3 c3;guard_hyp g:Nat;guard_hyp A1:Option Addr)
    |(rename_i A1 c1 A3 c3;guard_hyp A1:Option Addr)
   refine hK8 ⟨A1,c1,⟨A8,cap8,r.xs⟩,rfl,A3,c3⟩ _ _ zu ?_
   intro w hw
   have q1:sl 127 1 A1 (c.rs.length+1) c1 (c.rs.flatMap rowF++#[Value.slice A8 r.xs.length cap8].toList)=sl 127 1 A1 (c.rs++[(⟨A8,cap8,r.xs⟩:RowM)]).length c1 ((c.rs++[(⟨A8,cap8,r.xs⟩:RowM)]).flatMap rowF):=Yal _ _ _ _ ⟨A8,cap8,r.xs⟩
   rw[q1,Vl,show c.rs.length+1=(c.rs++[(⟨A8,cap8,r.xs⟩:RowM)]).length by simp,show c.bs.length+1=(c.bs++[m]).length by simp]at hw
   have h5:St B w0 (nrs A2 cap2 sx::blk g8 (.cells #[.int .i64 c.flow,.slice A1 (c.rs++[(⟨A8,cap8,r.xs⟩:RowM)]).length c1,.slice A3 (c.bs++[m]).length c3,.slice c.wA c.ws.length c.wcap,.slice c.sA c.ss.length c.scap] 189 (0,0))::sl 127 1 A1 (c.rs++[(⟨A8,cap8,r.xs⟩:RowM)]).length c1 ((c.rs++[(⟨A8,cap8,r.xs⟩:RowM)]).flatMap rowF)::sl 3 1 A8 r.xs.length cap8 (r.xs.flatMap numF)::many (c.rs.map rowQ)::nrs A3 c3 (c.bs++[m])::nrs c.wA c.wcap c.ws::sl 24 1 c.sA c.ss.length c.scap (c.ss.flatMap rowF)::many (c.ss.map rowQ)::clA g6 (nilC 0)::rqA g5 x::schA g4 s::netA g3 n::H) w:=by
    clear q1
    revert w
    exact zk
   exact h5.perm (.cons _ (.cons _ (.cons _ (VJ rowQ c.rs ⟨A8,cap8,r.xs⟩ _)))))
 rintro⟨A1,c1,r8,hr8,A3,c3⟩
 dsimp only
 refine zX8 ?_
 apply UC (.n1 0 (.n1 1 (.n1 2 (.n1 5 (.n1 6 (.n1 7 (.n2 3 (.n2 4 (.n1 10 (.n1 8 (.n1 9 .done))) 8 (.n1 4 (.n1 10 (.n1 9 .done)))) 8 (.n1 3 (.n1 4 (.n1 10 (.n1 9 .done))))))))))) [11,12,13] [false,true]
 kernel_rfl
 kernel_rfl
 exact zy
 (simp only[Yc,nthO];rfl)
 repeat'(first|(apply YeZ;(simp only[nthO];rfl);(simp only[nthO];rfl))|(apply YeY;(simp only[nthO];rfl))|(apply UE;try exact zl)|(apply Yh;try exact zl)|refine zgd ?_|(refine zgh ?_;intro _)|(refine zgi ?_;intro _ _)|fail)
 all_goals(
  first
   |(rename_i A4 c4 g A5 c5;guard_hyp g:Nat;guard_hyp A4:Option Addr)
   |(rename_i A4 c4 A5 c5;guard_hyp A4:Option Addr)
  refine hK ⟨i+1,⟨c.flow,A1,c1,c.rs++[r8],A3,c3,c.bs++[m],A4,c4,c.ws++[wst],A5,c5,c.ss++[⟨A2,cap2,sx⟩]⟩⟩ ?_ ?_ _ _ zu ?_
  ·exact hinv A1 c1 r8 hr8 A3 c3 A4 c4 A5 c5
  ·dsimp only;omega
  intro w hw
  have q1:sl 24 1 A5 (c.ss.length+1) c5 (c.ss.flatMap rowF++#[Value.slice A2 sx.length cap2].toList)=sl 24 1 A5 (c.ss++[(⟨A2,cap2,sx⟩:RowM)]).length c5 ((c.ss++[(⟨A2,cap2,sx⟩:RowM)]).flatMap rowF):=Yal _ _ _ _ ⟨A2,cap2,sx⟩
  rw[q1,Vl,show c.ss.length+1=(c.ss++[(⟨A2,cap2,sx⟩:RowM)]).length by simp,show c.ws.length+1=(c.ws++[wst]).length by simp]at hw
  have h5:St B w0 (blk g8 (.cells #[.int .i64 c.flow,.slice A1 (c.rs++[r8]).length c1,.slice A3 (c.bs++[m]).length c3,.slice A4 (c.ws++[wst]).length c4,.slice A5 (c.ss++[(⟨A2,cap2,sx⟩:RowM)]).length c5] 189 (0,0))::sl 127 1 A1 (c.rs++[r8]).length c1 ((c.rs++[r8]).flatMap rowF)::many ((c.rs++[r8]).map rowQ)::nrs A3 c3 (c.bs++[m])::nrs A4 c4 (c.ws++[wst])::sl 24 1 A5 (c.ss++[(⟨A2,cap2,sx⟩:RowM)]).length c5 ((c.ss++[(⟨A2,cap2,sx⟩:RowM)]).flatMap rowF)::nrs A2 cap2 sx::many (c.ss.map rowQ)::clA g6 (nilC 0)::rqA g5 x::schA g4 s::netA g3 n::H) w:=by
   clear q1
   revert w
   exact zk
  have h6:=h5.perm (.cons _ (.cons _ (.cons _ (.cons _ (.cons _ (.cons _ (VJ rowQ c.ss ⟨A2,cap2,sx⟩ _)))))))
  exact h6.perm (.cons _ (.close [_,_,_,_,_,_] _)))
end Go.Proofs.YtjommdkgfbhbdaaGreatDoor
