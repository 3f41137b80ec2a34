/- Lemmas. -/
import Derived.Laws.CopyRow
import Derived.Test.YtjommdkgfbhbdaaGreatDoorQ2
import Derived.Test.YtjommdkgfbhbdaaGreatDoorQ3
set_option maxRecDepth 100000
set_option maxHeartbeats 8000000
set_option linter.all false
namespace Go.Eng
open Go.RowKit
section
variable {P:Program}{B:Nat}{w0:World}{H:List HP}
theorem OE{f:Nat}{xs:Array Value}{x y:Value}(e:x=y)(h:∀w,St B w0 H w->Calls P f xs w (Post B w0 λu K=>u=x/\K=H)){w:World}(hw:St B w0 H w):Calls P f xs w (Post B w0 λu K=>u=y/\K=H):=e▸h w hw
end
section
variable {P:Program}{n:Shp}{B:Nat}{w0:World}{ops:Array Oper}{Q:Exit->Act->World->Prop}{rest:List Oper}{env:Env}{H:List HP}{d:Nat}{ty:TypeId}{pos:String}{after:Array Edge}{x y:Operand}
theorem Yh2{α:Type}{f:α->List Value}(hq:∀a,(f a).length=1){v:Value}:∀(l:List α) (i:Nat) (a:α),f a=[v]->i<l.length->(l.flatMap f).set i v=(l.set i a).flatMap f
 |[],i,a,_,h=>by simp at h
 |b::l,0,a,hv,_=>by
  rw[Re,Nj,Re,hv]
  match hb:f b,hq b with
  |[u],_=>rfl
 |b::l,i+1,a,hv,h=>by
  rw[Re,List.set_cons_succ,Re]
  have h1:=hq b
  rw[SZ _ _ (by omega),h1,SX,Yh2 hq l i a hv (by simp_all)]
variable {t e:Nat}
theorem XI(T:Tab P){α:Type}{f:α->List Value}{l:List α}{i k cap:Nat}{a:α}{v:Value}{A:Option Addr}{K:List HP}(hx:evo env x=some (sptr A (i*1)))(hy:evo env y=some v)(h1:v.oneCell'=true)
 (hu:Upd (sl e 1 A k cap (l.flatMap f)) (sl e 1 A k cap ((l.set i a).flatMap f)) H K) (hv:f a=[v]) (hq:∀a,(f a).length=1) (ht:look T.sc t=some ()) (hi:i<l.length)
 (h:VL P none n B w0 ops Q rest env K):VL P none n B w0 ops Q (⟨none,.store t x y,ty,pos,after,none⟩::rest) env H:=by
 rw[RG]at hx
 refine WT (e:=e) (size:=1) (k:=k) (cap:=cap) T hx hy h1 ?_ ht (by rw[Xb hq,RG];exact hi) h
 rw[Yh2 hq l i a hv hi]
 exact hu
theorem YK(T:Tab P){size bytes:Nat}(ht:look T.sl t=some (e,size,bytes))(hn:Nat.ble (d+1) n.k=true)
 (h:∀g,VL P none n B w0 ops Q rest ((d,.slice (some ⟨g,0,none⟩) 0 0)::env) (sl e size (some ⟨g,0,none⟩) 0 0 []::H)):VL P none n B w0 ops Q (⟨some d,.buildSlice t 0 #[],ty,pos,after,none⟩::rest) env H:=by
 obtain⟨hut,inf,z',hinf,_⟩:=YG (T.slic ht)
 refine OZ (parts:=[]) (ps:=[]) (cs:=#[]) (e:=e) YfB (λw=>?_) hn λg=>Zh _ (λw hw=>hw.blk_sl (cs:=[]) (by simp) (by omega)) (h g)
 simp[Instr.buildSlice,run_underlying hut,sizeOf,typeInfo,hinf,Instr.fill,newRow]
 grind
variable {A:HP}{L M:List HP}
theorem YaV{L':List HP}(h:Rem A L L')(h2:Perm L' M):Perm L (A::M):=Perm.trans h (Perm.cons A h2)
theorem Perm.dropK(p:Perm L M):Perm (A::L) M:=.trans (.drop A L) p
end
section
variable {P:Program}{m:Mode}{n:Shp}{B:Nat}{w0:World}{ops:Array Oper}{Q:Exit->Act->World->Prop}{rest:List Oper}{env:Env}{H:List HP}{d:Nat}{ty:TypeId}{pos:String}{after:Array Edge}{x y:Operand}
theorem X0{α:Type}{f:α->List Value}{q:Nat}(hq:∀a,(f a).length=q):∀(l:List α) (k:Nat),(l.take k).flatMap f=(l.flatMap f).take (k*q)
 |[],k=>by simp
 |a::l,0=>by simp
 |a::l,k+1=>by
  have e1:(k+1)*q=q+k*q:=by grind
  have h1:(f a).take (q+k*q)=f a:=by grind
  rw[List.take_succ_cons,Re,Re,X0 hq l k,e1,SH,hq,h1,Nat.add_sub_cancel_left]
theorem UT{α:Type}{f:α->List Value}{q:Nat}(hq:∀a,(f a).length=q):∀(l:List α) (k:Nat),(l.drop k).flatMap f=(l.flatMap f).drop (k*q)
 |[],k=>by simp
 |a::l,0=>by simp
 |a::l,k+1=>by
  have e1:(k+1)*q=q+k*q:=by grind
  have h1:(f a).drop (q+k*q)=[]:=by simp_all
  rw[List.drop_succ_cons,Re,UT hq l k,e1,List.drop_append,hq,h1,Nat.add_sub_cancel_left,TC]
theorem Yh4{α:Type}{f:α->List Value}{q:Nat}(hq:∀a,(f a).length=q){v:Value}{o:Nat}(ho:o<q):∀(l:List α) (i:Nat) (b b':α),l[i]? =some b->f b'=(f b).set o v->(l.flatMap f).set (i*q+o) v=(l.set i b').flatMap f
 |[],i,b,b',h,_=>by simp at h
 |a::l,0,b,b',h,hv=>by
  simp_all
 |a::l,i+1,b,b',h,hv=>by
  have h1:=hq a
  rw[Re,List.set_cons_succ,Re,SZ _ _ (by grind),h1,<-Yh4 hq ho l i b b' (by simp_all) hv]
  grind
variable {α:Type}
theorem Yda{f:α->List Value}(h1:∀a,Ji (f a)=true)(l:List α):∀v∈l.flatMap f,v.oneCell'=true:=by
 grind [ZR]
def subA(A:Option Addr)(o cap size:Nat):Option Addr:=if cap=o then A else A.map λa=>a.add (o*size)
variable {q cap o k t e size bytes l h mm n' g k' c i:Nat}{A:Option Addr}
theorem Rd.sub{f:α->List Value}{l:List α}(hq:∀a,(f a).length=q)(hr:Rd B w0 H A (l.flatMap f))(hc:l.length<=cap):Rd B w0 H (subA A o cap q) (((l.drop o).take k).flatMap f):=by
 intro w hw j v hv
 rw[X0 hq,UT hq]at hv
 have hv2:((l.flatMap f).drop (o*q))[j]? =some v:=by
  grind
 rw[RS]at hv2
 obtain⟨g,oo,rfl,h2⟩:=hr w hw _ _ hv2
 unfold subA
 by_cases hco:cap=o
 ·have h3:=(Tu.1 hv2).1
  rw[Xb hq]at h3
  have h4:l.length*q<=o*q:=T8 q (by omega)
  omega
 ·exact⟨g,oo+o*q,by grind [Go.Addr.add_lit],by grind⟩
theorem Rd.take{f:α->List Value}{l:List α}(k:Nat)(hq:∀a,(f a).length=q)(hr:Rd B w0 H A (l.flatMap f)):Rd B w0 H A ((l.take k).flatMap f):=by
 intro w hw j v hv
 rw[X0 hq,SA]at hv
 by_cases hj:j<k*q
 ·rw[Tn hj]at hv;exact hr w hw j v hv
 simp_all
variable {w:World}{mx:Option Value}
theorem YkZ(T:Tab P){lo hi:Option Value}(ht:look T.sl t=some (e,size,bytes))(hb:(Instr.sliceBounds true k cap lo hi mx).run P w=.ok (l,h,mm) w):
 (Instr.slice t (.slice A k cap) lo hi mx).run P w=.ok (.slice (if mm=l then A else A.map (·.add (l*size))) (h-l) (mm-l)) w:=by
 obtain⟨hut,inf,z',hinf,_,_,hsi,_⟩:=YG (T.slic ht)
 simp[Instr.slice,run_underlying hut,hb,sizeOf,typeInfo,hinf,hsi]
theorem JK(T:Tab P){lo hi:Option Value}(ht:look T.sl t=some (e,size,bytes))(hb:(Instr.sliceBounds true k cap lo hi mx).run P w=.ok (l,h,mm) w):
 (Instr.sliceAt t (.slice A k cap) lo hi mx).run P w=.ok (.slice (if mm=l then A else A.map (·.add (l*size))) (h-l) (mm-l)) w:=by
 obtain⟨hut,_⟩:=YG (T.slic ht)
 simp[Instr.sliceAt,run_underlying hut,YkZ T (A:=A) ht hb]
variable {lo hi:Operand}{ki kj:IntKind}{z u:Int}
theorem ZP(T:Tab P)(hx:evo env x=some (.slice A k cap))(hl:evo env lo=some (.int ki z))(ht:look T.sl t=some (e,size,bytes))(hn:Nat.ble (d+1) n.k=true)(hb:0<=z/\z<=k)(hn':k-z.toNat=n')
 (h:VL P m n B w0 ops Q rest ((d,.slice (subA A z.toNat cap size) n' (cap-z.toNat))::env) H):VL P m n B w0 ops Q (⟨some d,.slice t x (some lo) none none,ty,pos,after,none⟩::rest) env H:=by
 subst hn'
 refine Yt rfl rfl hn rfl (λf w ha _=>?_) h
 have hb2:(Instr.sliceBounds true k cap (some (.int ki z)) none none).run P w=.ok (z.toNat,k,cap) w:=by simp[Instr.sliceBounds,Instr.sliceBound,asIntOf,hb]
 exact YtT
variable {xs:List Value}
theorem Ybd(T:Tab P)(hx:evo env x=some (.slice A k cap))(hl:evo env hi=some (.int ki z))(hm:sl e size A k cap xs∈H)(ht:look T.sl t=some (e,size,bytes))(hn:Nat.ble (d+1) n.k=true)(hb:0<=z/\z<=k)
 (h:VL P m n B w0 ops Q rest ((d,.slice A z.toNat cap)::env) H):VL P m n B w0 ops Q (⟨some d,.slice t x none (some hi) none,ty,pos,after,none⟩::rest) env H:=by
 refine Yt rfl rfl hn rfl (λf w ha hw=>?_) h
 have hown:=hw.sl hm
 have hkc:k<=cap:=zc89
 have hA:(if cap=0 then A else A.map (·.add (0*size)))=A:=by
  rcases hown.2 with⟨e1,e2⟩|⟨g,c,cur,e1,_⟩
  all_goals grind [Go.Addr.add_lit]
 have hb2:(Instr.sliceBounds true k cap none (some (.int ki z)) none).run P w=.ok (0,z.toNat,cap) w:=by
  have:z<=cap:=by omega
  exact zc65
 have hr:=JK T (A:=A) ht hb2
 exact Yt5
theorem ZO(T:Tab P){l:List α}(hx:evo env x=some (.slice A l.length cap))(hl:evo env hi=some (.int ki z))(ht:look T.sl t=some (e,size,bytes))(hn:Nat.ble (d+1) n.k=true)(hb:0<=z/\z<=l.length)(hc:l.length<=cap)(hn':z.toNat=n')
 (h:VL P m n B w0 ops Q rest ((d,.slice (subA A 0 cap size) n' cap)::env) H):VL P m n B w0 ops Q (⟨some d,.slice t x none (some hi) none,ty,pos,after,none⟩::rest) env H:=by
 subst hn'
 refine Yt rfl rfl hn rfl (λf w ha hw=>?_) h
 have hb2:(Instr.sliceBounds true l.length cap none (some (.int ki z)) none).run P w=.ok (0,z.toNat,cap) w:=by
  have:z<=cap:=by omega
  exact zc65
 exact YtT
theorem Yhl(T:Tab P)(hx:evo env x=some (.slice A k cap))(hl:evo env lo=some (.int ki z))(hh:evo env hi=some (.int kj u))(ht:look T.sl t=some (e,size,bytes))(hn:Nat.ble (d+1) n.k=true)(hb:0<=z/\z<=u/\u<=cap)(hn':u.toNat-z.toNat=n')
 (h:VL P m n B w0 ops Q rest ((d,.slice (subA A z.toNat cap size) n' (cap-z.toNat))::env) H):VL P m n B w0 ops Q (⟨some d,.slice t x (some lo) (some hi) none,ty,pos,after,none⟩::rest) env H:=by
 subst hn'
 refine Yt rfl rfl hn rfl (λf w ha _=>?_) h
 have hb2:(Instr.sliceBounds true k cap (some (.int ki z)) (some (.int kj u)) none).run P w=.ok (z.toNat,u.toNat,cap) w:=by
  have h1:0<=u:=by omega
  have h3:z<=max u 0:=by omega
  exact zc65
 have hr:=JK T (A:=A) ht hb2
 simp only[execOp,ha.eval hx,Ss,ha.eval hl,ha.eval hh,Option.map_none]
 simp[hr,subA]
theorem YmO(T:Tab P){mx:Operand}{kk:IntKind}{v:Int}(hx:evo env x=some (.slice A k cap))(hl:evo env lo=some (.int ki z))(hh:evo env hi=some (.int kj u))(hv:evo env mx=some (.int kk v))(ht:look T.sl t=some (e,size,bytes))(hn:Nat.ble (d+1) n.k=true)(hb:0<=z/\z<=u/\u<=v/\v<=cap)
 (h:VL P m n B w0 ops Q rest ((d,.slice (if v.toNat=z.toNat then A else A.map (·.add (z.toNat*size))) (u.toNat-z.toNat) (v.toNat-z.toNat))::env) H):VL P m n B w0 ops Q (⟨some d,.slice t x (some lo) (some hi) (some mx),ty,pos,after,none⟩::rest) env H:=by
 refine Yt rfl rfl hn rfl (λf w ha _=>?_) h
 have hb2:(Instr.sliceBounds true k cap (some (.int ki z)) (some (.int kj u)) (some (.int kk v))).run P w=.ok (z.toNat,u.toNat,v.toNat) w:=by
  have h1:0<=u:=by omega
  have h3:z<=max u 0:=by omega
  have h4:0<=v:=by omega
  have h6:u<=max v 0:=by omega
  exact zc65
 have hr:=JK T (A:=A) ht hb2
 simp only[execOp,ha.eval hx,Ss,ha.eval hl,ha.eval hh,ha.eval hv]
 simp[hr]
theorem Yap{b:Nat}{cs:Array Value}(h:b≠g):(w.setRow g cs).heap[b]? =w.heap[b]? :=by
 simp[World.setRow,Array.getElem?_modify,Ne.symm h]
variable {K:List HP}
theorem St.storeRow{xs' vs:List Value}{cur:Array Value}(hw:St B w0 H w)(hu:Upd (Eng.sl e size A k cap xs) (Eng.sl e size A k' cap xs') H K)(hA:A=some ⟨g,0,none⟩)
 (hb:w.heap[g]? =some (.cells cur e (0,0))) (hcur:cur.size=cap*size) (hk':k'<=cap) (hcm:cap<=maxLen) (hov:o+vs.length<=cur.size) (hx':(cur.toList.take o++vs++cur.toList.drop (o+vs.length)).take (k'*size)=xs') (hxl:xs'.length=k'*size):
 St B w0 K (w.setRow g (cur.toList.take o++vs++cur.toList.drop (o+vs.length)).toArray):=by
 refine hw.upd hu rfl rfl rfl (by simp_all) λS1 ⟨hown,hS⟩=>⟨⟨⟨hxl,.inr ⟨g,cap,_,by rw[hA],Td _,setRow_heap w g cur _ e _ hb,hk',hcm,?_,by omega⟩⟩,hS⟩,λb hb' _=>Yap λe=>hb' (by simp_all)⟩
 grind
theorem Jf(h:w.ownsRow 0 e size (.slice A k cap) k xs):(A=none/\k=0/\cap=0/\xs=[])\/∃g cur,A=some ⟨g,0,none⟩/\w.heap[g]? =some (.cells cur e (0,0))/\k<=cap/\cap<=maxLen/\cur.size=cap*size/\cur.toList.take (k*size)=xs/\xs.length=k*size:=by
 obtain⟨h1,h2⟩:=h
 rcases h2 with⟨e1,e2⟩|⟨g,c,cur,e1,_,e3,e4,e5,e6,e7⟩
 all_goals simp_all
theorem St.shrink(hw:St B w0 H w)(hk:k'<=k)(hu:Upd (Eng.sl e size A k cap xs) (Eng.sl e size A k' cap (xs.take (k'*size))) H K):St B w0 K w:=by
 refine hw.upd hu rfl rfl rfl (TK _) λS1 ⟨hown,hS⟩=>⟨⟨?_,hS⟩,λ_ _ _=>rfl⟩
 rcases Jf hown with⟨rfl,rfl,rfl,rfl⟩|⟨g,cur,rfl,h1,h2,h3,h4,h5,h6⟩
 ·simp_all
 ·have hm:k'*size<=k*size:=T8 _ hk
  refine⟨by simp_all,.inr ⟨g,cap,cur,rfl,Td _,h1,by omega,h3,h4,?_⟩⟩
  grind
theorem Xt(T:Tab P){f:α->List Value}{l2:List α}{A2:Option Addr}{K:Option Addr->Nat->List HP}
 (hx:evo env x=some (.slice A k cap)) (ht:look T.sl t=some (e,size,bytes)) (hy:evo env y=some (.slice A2 l2.length c)) (hr:Rd B w0 H A2 (l2.flatMap f)) (hq:∀a,(f a).length=size) (h1:∀a,Ji (f a)=true) (hn:Nat.ble (d+1) n.k=true)
 (hu:∀A' cap',Upd (sl e size A k cap xs) (sl e size A' (k+l2.length) cap' (xs++l2.flatMap f)) H (K A' cap')) (hby:(k+l2.length)*bytes<=140737488355328)
 (h:∀A' cap',VL P none n B w0 ops Q rest ((d,.slice A' (k+l2.length) cap')::env) (K A' cap')):
 VL P none n B w0 ops Q (⟨some d,.call ⟨.builtin .append,#[x,y],#[t,t]⟩,ty,pos,after,none⟩::rest) env H:=by
 obtain⟨hut,i,z,hi,hz,hzs,hsi,hbi,hs0,hb0⟩:=YG (T.slic ht)
 refine XA (λv K'=>∃A' cap',v=.slice A' (k+l2.length) cap'/\K'=K A' cap') rfl rfl hn (λa w ha hw=>?_) YqT
 have hmem:sl e size A k cap xs∈H:=YqY
 have hown:=hw.sl hmem
 have h63:k+l2.length<=maxLen:=by
  have:k+l2.length<=(k+l2.length)*bytes:=Nat.le_mul_of_pos_right _ hb0
  grind [maxLen]
 cases A2 with
 |none=>
  have hl0:l2=[]:=by
   cases l2 with
   |nil=>rfl
   |cons b l=>
    have hb:=hq b
    obtain⟨v,hv⟩:∃v,(f b)[0]? =some v:=⟨_,Ta (by omega)⟩
    obtain⟨g,o,e1,_⟩:=hr w hw 0 v (by grind)
    cases e1
  subst hl0
  have hkc:k<=cap:=by
   grind [Jf]
  refine⟨.slice A k cap,K A cap,w,?_,?_,A,cap,by simp,rfl⟩
  ·cases A with
   |none=>simp[execOp,resolve,invoke,builtin,ha.eval hx,ha.eval hy,Builtin.append_,run_underlying hut,sizeOf,typeInfo,hi,Builtin.lenOf,hkc,Builtin.firstCells]
   |some a0=>simp[execOp,resolve,invoke,builtin,ha.eval hx,ha.eval hy,Builtin.append_,run_underlying hut,sizeOf,typeInfo,hi,Builtin.lenOf,hkc,Builtin.firstCells,storeCells]
  ·have:=hu A cap
   simp only[Sr,SR,List.flatMap_nil,Rr]at this
   exact hw.upd this rfl rfl rfl (TK _) λS1 hS=>⟨hS,λ_ _ _=>rfl⟩
 |some a2=>
  obtain⟨v',w',hrun,hown',hgrow,_,hat⟩:=run_append_own_at (P:=P) w 0 t ty e i z size bytes hut hi hz hsi hbi hzs hs0 (.slice A k cap) k xs hown a2 l2.length c (l2.flatMap f) (Xb hq l2)
   (λj u hj=>by
    obtain⟨g,o,e1,e2⟩:=hr w hw j u hj
    injection e1 with e1
    rw[e1,Addr.add_lit];exact e2) (Yda h1 l2) h63 hby (Td _)
  have hshape:∃A' cap',v'=.slice A' (k+l2.length) cap':=by
   rcases hown'.2 with⟨e1,e2⟩|⟨g',c',_,e1,_⟩
   ·exact⟨none,0,by rw[e1,e2]⟩
   ·exact⟨_,_,e1⟩
  obtain⟨A',cap',rfl⟩:=hshape
  refine⟨_,K A' cap',w',by exact YqO,?_,A',cap',rfl,rfl⟩
  refine hw.updN (hu A' cap') hgrow.os hgrow.tape hgrow.output hgrow.size λS1 ⟨_,hS⟩=>⟨⟨λb=>Value.ownBlock (.slice A' (k+l2.length) cap')=some b,⟨hown',?_⟩,λb hb=>?_⟩,λb hb hlt=>hgrow.block b hlt (λe=>hb ?_)⟩
  ·rintro a rfl;rfl
  ·rcases hat with e|e
   ·rw[e]at hb
    cases A with
    |none=>cases hb
    |some a=>exact Yud
   ·rw[e]at hb
    right
    simp only[RX]at hb
    subst hb
    refine⟨TK _,?_⟩
    rcases Jf hown' with⟨rfl,_⟩|⟨g',cur',rfl,h5,_⟩
    ·simp[Value.ownBlock]at e
    ·simp only[Value.ownBlock,RX]at e
     rw[<-e]
     exact(Array.getElem?_eq_some_iff.1 h5).1
  ·cases A with
   |none=>simp[Value.ownBlock]at e
   |some a=>have:=hS a rfl;simp only[Value.ownBlock,RX]at e;rwa [e]
theorem Yck(T:Tab P)(T2:Tab2 P){z:Value}(hx:evo env x=some (.slice (subA A o cap size) mm c))(hm:sl e size A k cap xs∈H)(ht:look T.sl t=some (e,size,bytes))(hz:look T2.zt e=some z)(hz1:Ji z.cells.toList=true)(hb:k<=o/\o+mm<=cap)
 (h:VL P none n B w0 ops Q rest env H):VL P none n B w0 ops Q (⟨none,.call ⟨.builtin .clear,#[x],#[t]⟩,ty,pos,after,none⟩::rest) env H:=by
 obtain⟨hut,i,z',hi,hz',hzs,hsi,hbi,hs0,hb0⟩:=YG (T.slic ht)
 have hzz:z'=z:=by
  have h2:=Og T2.zt_ok hz
  grind [Yay]
 subst hzz
 refine YuX (v:=.tuple #[]) rfl rfl (λa w ha hw=>?_) h
 rcases Jf (hw.sl hm)with⟨rfl,rfl,rfl,rfl⟩|⟨g,cur,rfl,h1,h2,h3,h4,h5,h6⟩
 ·obtain rfl:mm=0:=by omega
  refine⟨w,?_,hw⟩
  have:subA none o 0 size=none:=by grind [subA]
  rw[this]at hx
  exact zc85
 ·by_cases hm0:mm=0
  ·subst hm0
   refine⟨w,?_,hw⟩
   cases hsa:subA (some ⟨g,0,none⟩) o cap size with
   |none=>rw[hsa]at hx;exact zc85
   |some b=>rw[hsa]at hx;exact zc85
  ·have hsa:subA (some ⟨g,0,none⟩) o cap size=some ⟨g,o*size,none⟩:=Yuk
   rw[hsa]at hx
   have hlen:(Builtin.zeroCells z'.cells mm).toList.length=mm*size:=by simp[Builtin.zeroCells,hzs]
   have hone:∀v∈(Builtin.zeroCells z'.cells mm).toList,v.oneCell'=true:=by
    intro v hv
    simp only[Builtin.zeroCells,Array.toList_map,TD]at hv
    obtain⟨j,_,rfl⟩:=hv
    have hlt:j%z'.cells.size<z'.cells.size:=Nat.mod_lt _ (by omega)
    rw[getElem!_pos z'.cells (j%z'.cells.size) hlt]
    exact ZR hz1 _ (by simp)
   have hov:o*size+(Builtin.zeroCells z'.cells mm).toList.length<=cur.size:=by
    rw[hlen,h4,<-SL];exact T8 _ hb.2
   have hrun:=run_storeCells_at (P:=P) g (o*size) e (Builtin.zeroCells z'.cells mm).toList 0 cur w h1 (by rw[SR];exact hov) hone
   rw[SR]at hrun
   obtain⟨L1,L2,hL⟩:∃L1 L2,H=L1++sl e size (some ⟨g,0,none⟩) k cap xs::L2:=List.append_of_mem hm
   refine⟨_,?_,hw.storeRow (k':=k) (xs':=xs) ⟨L1,L2,hL,hL⟩ rfl h1 h4 h2 h3 hov ?_ h6⟩
   ·have hzv:(zeroValue e).run P w=.ok z' w:=Yeo (by unfold Yay;rw[hi];exact hz') w
    obtain⟨m',rfl⟩:∃m',mm=m'+1:=⟨mm-1,by omega⟩
    simp[execOp,resolve,invoke,builtin,ha.eval hx,Builtin.clear_,run_underlying hut,hzv,hrun]
   ·have hko:k*size<=o*size:=T8 _ hb.1
    have hoc:o*size<=cur.toList.length:=by simp;omega
    rw[TV,List.take_append_of_le_length Yem,List.take_take,S8 hko]
    exact h5
theorem YfV(T:Tab P){j:Nat}(hx:evo env x=some (.slice A i cap))(hy:evo env y=some (.slice (subA A j cap size) mm c))(ht:look T.sl t=some (e,size,bytes))(hn:Nat.ble (d+1) n.k=true)
 (hu:Upd (sl e size A k cap xs) (sl e size A (i+mm) cap (xs.take (i*size)++xs.drop (j*size))) H K) (h1:∀v∈xs,v.oneCell'=true) (hb:i<=j/\j<=k/\mm=k-j/\0<k)
 (h:VL P none n B w0 ops Q rest ((d,.slice A (i+mm) cap)::env) K):
 VL P none n B w0 ops Q (⟨some d,.call ⟨.builtin .append,#[x,y],#[t,t]⟩,ty,pos,after,none⟩::rest) env H:=by
 obtain⟨hut,inf,z,hi,hz,hzs,hsi,hbi,hs0,hb0⟩:=YG (T.slic ht)
 refine XA (λv K'=>v=.slice A (i+mm) cap/\K'=K) rfl rfl hn (λa w ha hw=>?_) zc63
 have hmem:sl e size A k cap xs∈H:=Yjv
 rcases Jf (hw.sl hmem)with⟨rfl,e1,_⟩|⟨g,cur,rfl,g1,g2,g3,g4,g5,g6⟩
 ·omega
 have hdl:(xs.drop (j*size)).length=mm*size:=by rw[TY,g6,hb.2.2.1,Nat.sub_mul]
 have hij:i*size<=j*size:=T8 _ hb.1
 have hjk:j*size<=k*size:=T8 _ hb.2.1
 have hkc:k*size<=cap*size:=T8 _ g2
 have hov:i*size+(xs.drop (j*size)).length<=cur.size:=by rw[TY,g6,g4];omega
 have hrun:=run_storeCells_at (P:=P) g (i*size) e (xs.drop (j*size)) 0 cur w g1 (by rw[SR];exact hov) (λv hv=>h1 v (List.mem_of_mem_drop hv))
 rw[SR]at hrun
 refine⟨_,K,_,?_,hw.storeRow (k':=i+mm) (o:=i*size) (vs:=xs.drop (j*size)) hu rfl g1 g4 (by omega) g3 hov ?_ ?_,rfl,rfl⟩
 ·have hf:(Builtin.firstCells size mm (.slice (subA (some ⟨g,0,none⟩) j cap size) mm c)).run P w=.ok (xs.drop (j*size)).toArray w:=by
   by_cases hcj:cap=j
   ·have hm0:mm=0:=by omega
    have hnil:xs.drop (j*size)=[]:=RL (by rw[hdl,hm0];simp)
    unfold subA
    rw[Tn hcj,hnil]
    exact run_firstCells_some (P:=P) (w:=w) size mm _ mm c [] (by simp[hm0]) (by simp)
   ·unfold subA
    rw[Tj hcj,Ss,Addr.add_lit,Ri]
    refine run_firstCells_some (P:=P) (w:=w) size mm _ mm c _ hdl λq v hq=>?_
    rw[RS]at hq
    have h7:=(Tu.1 hq).1
    rw[Addr.add_lit]
    simp only[World.cell?,g1]
    rw[<-g5,SA]at hq
    by_cases hlt:j*size+q<k*size
    ·rw[Tn hlt]at hq
     simpa using hq
    ·rw[Tj hlt]at hq;cases hq
  have hneed:i+mm<=cap:=by omega
  have hadd:(⟨g,0,none⟩:Addr).add (i*size)=⟨g,i*size,none⟩:=by rw[Addr.add_lit,Ri]
  simp[execOp,resolve,invoke,builtin,ha.eval hx,ha.eval hy,Builtin.append_,run_underlying hut,sizeOf,typeInfo,hi,hsi,Builtin.lenOf,hneed,hf,hadd,hrun]
 all_goals grind [SL]
theorem VP(T:Tab P){f:α->List Value}{l:List α}{b b':α}{v:Value}(hx:evo env x=some (sptr A (i*q+o)))(hy:evo env y=some v)(h1:v.oneCell'=true)
 (hu:Upd (sl e q A k cap (l.flatMap f)) (sl e q A k cap ((l.set i b').flatMap f)) H K) (hb:l[i]? =some b) (hv:f b'=(f b).set o v) (hq:∀a,(f a).length=q) (ho:Nat.blt o q=true) (ht:look T.sc t=some ())
 (h:VL P none n B w0 ops Q rest env K):VL P none n B w0 ops Q (⟨none,.store t x y,ty,pos,after,none⟩::rest) env H:=by
 have ho':o<q:=by simp_all
 have hi:=(Tu.1 hb).1
 refine WT (xs:=l.flatMap f) (e:=e) (size:=q) (k:=k) (cap:=cap) T hx hy h1 ?_ ht ?_ h
 ·rw[Yh4 hq ho' l i b b' hb hv];exact hu
 ·rw[Xb hq]
  exact Yuw
end
open Go.RowKit Go.Proofs Go.Proofs.YtjommdkgfbhbdaaGreatDoor
section
variable {m:Mode}{n:Shp}{B:Nat}{w0:World}{ops:Array Oper}{Q:Exit->Act->World->Prop}{rest:List Oper}{env:Env}{H:List HP}{d:Nat}{ty:TypeId}{pos:String}{after:Array Edge}{xt yt:TypeId}{x y:Operand}{k:IntKind}{a b:Int}{s t:ByteArray}
variable {v z:Value}
theorem zs1{x:Operand}(h:VL Tryz.prog m n B w0 ops Q rest ((d,v)::env) H)(hx:evo env x=some v:=by exact rfl)(hn:Nat.ble (d+1) n.k=true:=by exact rfl):VL Tryz.prog m n B w0 ops Q (⟨some d,.move x,ty,pos,after,none⟩::rest) env H:=Yrh hx hn h
theorem zs2{x:Operand}(h:VL Tryz.prog m n B w0 ops Q rest ((d,v)::env) H)(hx:evo env x=some v:=by exact rfl)(hn:Nat.ble (d+1) n.k=true:=by exact rfl):VL Tryz.prog m n B w0 ops Q (⟨some d,.assign x,ty,pos,after,none⟩::rest) env H:=YmI hx hn h
variable {op:Op}{j f g i tx cap e size bytes q id:Nat}{oj o:Oper}
theorem zs3{m:Mode}{d:Nat}{ty:TypeId}{pos:String}{after:Array Edge}{s:Nat}{b:Bool}(h:VL Tryz.prog m n B w0 ops Q rest ((d,undef)::env) H)(hj:ops[j]? =some oj:=by exact rfl)(hs:oj.dst=some s:=by exact rfl)(hv:get env s=some v:=by exact rfl)(hne:notB v b=true:=by exact rfl)(hn:Nat.ble (d+1) n.k=true:=by exact rfl):VL Tryz.prog m n B w0 ops Q (⟨some d,op,ty,pos,after,some (j,b)⟩::rest) env H:=Yg7 hj hs hv hne hn h
theorem zs4{m:Mode}{dst:Option Tmp}{ty:TypeId}{pos:String}{after:Array Edge}{s:Nat}{b:Bool}(h:VL Tryz.prog m n B w0 ops Q (⟨dst,op,ty,pos,after,none⟩::rest) env H)(hj:ops[j]? =some oj:=by exact rfl)(hs:oj.dst=some s:=by exact rfl)(hv:get env s=some (.bool b):=by exact rfl):VL Tryz.prog m n B w0 ops Q (⟨dst,op,ty,pos,after,some (j,b)⟩::rest) env H:=YfY hj hs hv h
theorem zs5{x:Operand}{p:Addr}(h:VL Tryz.prog m n B w0 ops Q rest ((d,.pointer (some p))::env) H)(hx:evo env x=some (.pointer (some p)):=by exact rfl)(hn:Nat.ble (d+1) n.k=true:=by exact rfl):VL Tryz.prog m n B w0 ops Q (⟨some d,.nilCheck x,ty,pos,after,none⟩::rest) env H:=Yhe hx hn h
theorem zs6{s k:Nat}{x:Operand}(h:VL Tryz.prog m n B w0 ops Q rest ((d,.pointer (some ⟨g,i+k,none⟩))::env) H)(hx:evo env x=some (.pointer (some ⟨g,i,none⟩)):=by exact rfl)(hf:Of T.fo s f=some k:=by exact rfl)(hn:Nat.ble (d+1) n.k=true:=by exact rfl):VL Tryz.prog m n B w0 ops Q (⟨some d,.fieldAddr s x f,ty,pos,after,none⟩::rest) env H:=YfW T hx hf hn h
variable {cs:Array Value}{tt src dst:TypeId}{fr:Nat×Nat}
theorem zs7{t:Nat}{x:Operand}(h:VL Tryz.prog m n B w0 ops Q rest ((d,v)::env) H)(hx:evo env x=some (.pointer (some ⟨g,i,none⟩)):=by exact rfl)(hm:blk g (.cells cs tt fr)∈H:=by(exact zm;done))(hv:nth cs.toList i=some v:=by exact rfl)(ht:look T.sc t=some ():=by exact rfl)(hn:Nat.ble (d+1) n.k=true:=by exact rfl):VL Tryz.prog m n B w0 ops Q (⟨some d,.load t x,ty,pos,after,none⟩::rest) env H:=Yre T hx hm hv ht hn h
theorem zs8{t k:Nat}{x:Operand}(h:VL Tryz.prog m n B w0 ops Q rest ((d,.agg cs)::env) H)(hx:evo env x=some (.pointer (some ⟨g,0,none⟩)):=by exact rfl)(hm:blk g (.cells cs tt fr)∈H:=by(exact zm;done))(ht:look T.ag t=some k:=by exact rfl)(hk:cs.size=k:=by exact rfl)(hn:Nat.ble (d+1) n.k=true:=by exact rfl):VL Tryz.prog m n B w0 ops Q (⟨some d,.load t x,ty,pos,after,none⟩::rest) env H:=XL T hx hm ht hk hn h
variable {A:Option Addr}
theorem zs9{x:Operand}{k:Nat}{es:Nat×Nat×Nat}(h:VL Tryz.prog m n B w0 ops Q rest ((d,.int .i64 k)::env) H)(hx:evo env x=some (.slice A k cap):=by exact rfl)(ht:look T.sl tx=some es:=by exact rfl)(hn:Nat.ble (d+1) n.k=true:=by exact rfl):VL Tryz.prog m n B w0 ops Q (⟨some d,.call ⟨.builtin .len,#[x],#[tx]⟩,ty,pos,after,none⟩::rest) env H:=YuR T hx ht hn h
variable {xs cs':List Value}{ki yk:IntKind}
theorem zs10{t:Nat}{x y:Operand}{k:Nat}{i:Int}(h:VL Tryz.prog m n B w0 ops Q rest ((d,sptr A (i.toNat*size))::env) H)(hx:evo env x=some (.slice A k cap):=by exact rfl)(hm:sl e size A k cap xs∈H:=by(exact zm;done))(hy:evo env y=some (.int ki i):=by exact rfl)(ht:look T.sl t=some (e,size,bytes):=by exact rfl)(hn:Nat.ble (d+1) n.k=true:=by exact rfl)(hi:0<=i/\i<k:=by omega):VL Tryz.prog m n B w0 ops Q (⟨some d,.indexAddr t x y,ty,pos,after,none⟩::rest) env H:=Yg8 T hx hm hy ht hn hi h
variable {c:Operand}
theorem zs11{x y:Operand}(h:VL Tryz.prog m n B w0 ops Q rest ((d,v)::env) H)(hc:evo env c=some (.bool true):=by exact rfl)(hx:evo env x=some v:=by exact rfl)(hn:Nat.ble (d+1) n.k=true:=by exact rfl):VL Tryz.prog m n B w0 ops Q (⟨some d,.pick c x y,ty,pos,after,none⟩::rest) env H:=Yf1 hc hx hn h
theorem zs12{x y:Operand}(h:VL Tryz.prog m n B w0 ops Q rest ((d,v)::env) H)(hc:evo env c=some (.bool false):=by exact rfl)(hx:evo env y=some v:=by exact rfl)(hn:Nat.ble (d+1) n.k=true:=by exact rfl):VL Tryz.prog m n B w0 ops Q (⟨some d,.pick c x y,ty,pos,after,none⟩::rest) env H:=Yer hc hx hn h
theorem zs13{x:Operand}{vs:Array Value}(h:VL Tryz.prog m n B w0 ops Q rest ((d,v)::env) H)(hx:evo env x=some (.tuple vs):=by exact rfl)(hv:nth vs.toList i=some v:=by exact rfl)(hn:Nat.ble (d+1) n.k=true:=by exact rfl):VL Tryz.prog m n B w0 ops Q (⟨some d,.extract x i,ty,pos,after,none⟩::rest) env H:=YjF hx hv hn h
theorem zs14{tx:TypeId}(h:VL Tryz.prog m n B w0 ops Q rest ((d,.int .i64 s.size)::env) H)(hx:evo env x=some (.string s):=by exact rfl)(ht:look T.st tx=some ():=by exact rfl)(hn:Nat.ble (d+1) n.k=true:=by exact rfl):VL Tryz.prog m n B w0 ops Q (⟨some d,.call ⟨.builtin .len,#[x],#[tx]⟩,ty,pos,after,none⟩::rest) env H:=Yrm T hx ht hn h
theorem zs15(h1:a=b->VL Tryz.prog m n B w0 ops Q rest ((d,.bool true)::env) H)(h2:a≠b->VL Tryz.prog m n B w0 ops Q rest ((d,.bool false)::env) H)(hx:evo env x=some (.int k a):=by exact rfl)(hy:evo env y=some (.int k b):=by exact rfl)(hn:Nat.ble (d+1) n.k=true:=by exact rfl):VL Tryz.prog m n B w0 ops Q (⟨some d,.binOp .eql xt x y yt,ty,pos,after,none⟩::rest) env H:=YoC hx hy hn h1 h2
theorem zs16(h1:a≠b->VL Tryz.prog m n B w0 ops Q rest ((d,.bool true)::env) H)(h2:a=b->VL Tryz.prog m n B w0 ops Q rest ((d,.bool false)::env) H)(hx:evo env x=some (.int k a):=by exact rfl)(hy:evo env y=some (.int k b):=by exact rfl)(hn:Nat.ble (d+1) n.k=true:=by exact rfl):VL Tryz.prog m n B w0 ops Q (⟨some d,.binOp .neq xt x y yt,ty,pos,after,none⟩::rest) env H:=YuW hx hy hn h1 h2
theorem zs17(h1:a<b->VL Tryz.prog m n B w0 ops Q rest ((d,.bool true)::env) H)(h2:b<=a->VL Tryz.prog m n B w0 ops Q rest ((d,.bool false)::env) H)(hx:evo env x=some (.int k a):=by exact rfl)(hy:evo env y=some (.int k b):=by exact rfl)(hn:Nat.ble (d+1) n.k=true:=by exact rfl):VL Tryz.prog m n B w0 ops Q (⟨some d,.binOp .lss xt x y yt,ty,pos,after,none⟩::rest) env H:=YuT hx hy hn h1 h2
theorem zs18(h1:a<=b->VL Tryz.prog m n B w0 ops Q rest ((d,.bool true)::env) H)(h2:b<a->VL Tryz.prog m n B w0 ops Q rest ((d,.bool false)::env) H)(hx:evo env x=some (.int k a):=by exact rfl)(hy:evo env y=some (.int k b):=by exact rfl)(hn:Nat.ble (d+1) n.k=true:=by exact rfl):VL Tryz.prog m n B w0 ops Q (⟨some d,.binOp .leq xt x y yt,ty,pos,after,none⟩::rest) env H:=YuS hx hy hn h1 h2
theorem zs19(h1:b<a->VL Tryz.prog m n B w0 ops Q rest ((d,.bool true)::env) H)(h2:a<=b->VL Tryz.prog m n B w0 ops Q rest ((d,.bool false)::env) H)(hx:evo env x=some (.int k a):=by exact rfl)(hy:evo env y=some (.int k b):=by exact rfl)(hn:Nat.ble (d+1) n.k=true:=by exact rfl):VL Tryz.prog m n B w0 ops Q (⟨some d,.binOp .gtr xt x y yt,ty,pos,after,none⟩::rest) env H:=YuQ hx hy hn h1 h2
theorem zs20(h1:b<=a->VL Tryz.prog m n B w0 ops Q rest ((d,.bool true)::env) H)(h2:a<b->VL Tryz.prog m n B w0 ops Q rest ((d,.bool false)::env) H)(hx:evo env x=some (.int k a):=by exact rfl)(hy:evo env y=some (.int k b):=by exact rfl)(hn:Nat.ble (d+1) n.k=true:=by exact rfl):VL Tryz.prog m n B w0 ops Q (⟨some d,.binOp .geq xt x y yt,ty,pos,after,none⟩::rest) env H:=YuP hx hy hn h1 h2
theorem zs22{xt yt:TypeId}{x:Operand}{s:ByteArray}(h1:s≠⟨#[]⟩->1<=s.size->VL Tryz.prog m n B w0 ops Q rest ((d,.bool true)::env) H)(h2:s=⟨#[]⟩->s.size=0->VL Tryz.prog m n B w0 ops Q rest ((d,.bool false)::env) H)(hx:evo env x=some (.string s):=by exact rfl)(hn:Nat.ble (d+1) n.k=true:=by exact rfl):VL Tryz.prog m n B w0 ops Q (⟨some d,.binOp .neq xt x (.const (.string ⟨#[]⟩)) yt,ty,pos,after,none⟩::rest) env H:=YoL hx hn h1 h2
theorem zs23(h1:s=t->VL Tryz.prog m n B w0 ops Q rest ((d,.bool true)::env) H)(h2:s≠t->VL Tryz.prog m n B w0 ops Q rest ((d,.bool false)::env) H)(hx:evo env x=some (.string s):=by exact rfl)(hy:evo env y=some (.string t):=by exact rfl)(hn:Nat.ble (d+1) n.k=true:=by exact rfl):VL Tryz.prog m n B w0 ops Q (⟨some d,.binOp .eql xt x y yt,ty,pos,after,none⟩::rest) env H:=Ylp hx hy hn h1 h2
variable {tys:Array TypeId}
theorem zs25{x y:Operand}{k:IntKind}{a b:Int}(h1:b<a->VL Tryz.prog m n B w0 ops Q rest ((d,.int k b)::env) H)(h2:a<=b->VL Tryz.prog m n B w0 ops Q rest ((d,.int k a)::env) H)(hx:evo env x=some (.int k a):=by exact rfl)(hy:evo env y=some (.int k b):=by exact rfl)(hn:Nat.ble (d+1) n.k=true:=by exact rfl):VL Tryz.prog m n B w0 ops Q (⟨some d,.call ⟨.builtin .min,#[x,y],tys⟩,ty,pos,after,none⟩::rest) env H:=Yrg hx hy hn h1 h2
theorem zs29{t:Nat}{x y:Operand}{s:ByteArray}{k:IntKind}{i:Int}(h:∀b:UInt8,s[i.toNat]? =some b->VL Tryz.prog m n B w0 ops Q rest ((d,.int .u8 b.toNat)::env) H)(hx:evo env x=some (.string s):=by exact rfl)(hy:evo env y=some (.int k i):=by exact rfl)(ht:look T.st t=some ():=by exact rfl)(hn:Nat.ble (d+1) n.k=true:=by exact rfl)(hi:0<=i/\i<s.size:=by omega):VL Tryz.prog m n B w0 ops Q (⟨some d,.index t x y,ty,pos,after,none⟩::rest) env H:=QC T hx hy ht hn hi h
theorem zs30(h:VL Tryz.prog m n B w0 ops Q rest ((d,.int .i64 (a+b))::env) H)(hx:evo env x=some (.int .i64 a):=by exact rfl)(hy:evo env y=some (.int .i64 b):=by exact rfl)(hn:Nat.ble (d+1) n.k=true:=by exact rfl)(hb: -9223372036854775808<=a+b/\a+b<=9223372036854775807:=by omega):VL Tryz.prog m n B w0 ops Q (⟨some d,.binOp .add xt x y yt,ty,pos,after,none⟩::rest) env H:=YuN hx hy hn hb h
theorem zs31(h:VL Tryz.prog m n B w0 ops Q rest ((d,.int .i64 (a-b))::env) H)(hx:evo env x=some (.int .i64 a):=by exact rfl)(hy:evo env y=some (.int .i64 b):=by exact rfl)(hn:Nat.ble (d+1) n.k=true:=by exact rfl)(hb: -9223372036854775808<=a-b/\a-b<=9223372036854775807:=by omega):VL Tryz.prog m n B w0 ops Q (⟨some d,.binOp .sub xt x y yt,ty,pos,after,none⟩::rest) env H:=Yu0 hx hy hn hb h
theorem zs32(h:VL Tryz.prog m n B w0 ops Q rest ((d,.int .i64 (a*b))::env) H)(hx:evo env x=some (.int .i64 a):=by exact rfl)(hy:evo env y=some (.int .i64 b):=by exact rfl)(hn:Nat.ble (d+1) n.k=true:=by exact rfl)(hb: -9223372036854775808<=a*b/\a*b<=9223372036854775807:=by first|exact YpZ (by omega) (by omega) (by omega) (by omega)|exact YrV (by omega) (by omega) (by omega) (by omega)|omega):VL Tryz.prog m n B w0 ops Q (⟨some d,.binOp .mul xt x y yt,ty,pos,after,none⟩::rest) env H:=YuU hx hy hn hb h
theorem zs36(h:VL Tryz.prog m n B w0 ops Q rest ((d,.int .i64 (a/b))::env) H)(hx:evo env x=some (.int .i64 a):=by exact rfl)(hy:evo env y=some (.int .i64 b):=by exact rfl)(hn:Nat.ble (d+1) n.k=true:=by exact rfl)(hb:0<=a/\a<=9223372036854775807/\1<=b:=by omega):VL Tryz.prog m n B w0 ops Q (⟨some d,.binOp .quo xt x y yt,ty,pos,after,none⟩::rest) env H:=YuY hx hy hn hb h
theorem zs37(h:VL Tryz.prog m n B w0 ops Q rest ((d,.int k (a%b))::env) H)(hx:evo env x=some (.int k a):=by exact rfl)(hy:evo env y=some (.int k b):=by exact rfl)(hn:Nat.ble (d+1) n.k=true:=by exact rfl)(hb:0<=a/\1<=b:=by omega):VL Tryz.prog m n B w0 ops Q (⟨some d,.binOp .rem xt x y yt,ty,pos,after,none⟩::rest) env H:=YuZ hx hy hn hb h
theorem zs38{D:Int}(h:VL Tryz.prog m n B w0 ops Q rest ((d,.int k (a/D))::env) H)(hx:evo env x=some (.int k a):=by exact rfl)(hn:Nat.ble (d+1) n.k=true:=by exact rfl)(hb:0<=b/\b<=k.bits:=by(simp only[IntKind.bits];omega))(hD:(2:Int)^b.toNat=D:=by(simp only[Int.reduceToNat,Int.reducePow];rfl)):VL Tryz.prog m n B w0 ops Q (⟨some d,.binOp .shr xt x (.const (.int yk b)) yt,ty,pos,after,none⟩::rest) env H:=YoK hx hn hb hD h
theorem zs40(h:VL Tryz.prog m n B w0 ops Q rest ((d,.int k (k.wrap (a*2^b.toNat)))::env) H)(hx:evo env x=some (.int k a):=by exact rfl)(hy:evo env y=some (.int yk b):=by exact rfl)(hn:Nat.ble (d+1) n.k=true:=by exact rfl)(hb:0<=b/\b<=k.bits:=by(simp only[IntKind.bits];omega)):VL Tryz.prog m n B w0 ops Q (⟨some d,.binOp .shl xt x y yt,ty,pos,after,none⟩::rest) env H:=Ycr hx hy hn hb h
theorem zs41(h:VL Tryz.prog m n B w0 ops Q rest ((d,.int k (bits .and k a b))::env) H)(hx:evo env x=some (.int k a):=by exact rfl)(hy:evo env y=some (.int k b):=by exact rfl)(hn:Nat.ble (d+1) n.k=true:=by exact rfl):VL Tryz.prog m n B w0 ops Q (⟨some d,.binOp .and xt x y yt,ty,pos,after,none⟩::rest) env H:=YuO hx hy hn h
theorem zs44{j:IntKind}(h:VL Tryz.prog m n B w0 ops Q rest ((d,.int .i64 a)::env) H)(hx:evo env x=some (.int k a):=by exact rfl)(hs:look T.ik src=some j:=by exact rfl)(ht:look T.ik dst=some .i64:=by exact rfl)(hn:Nat.ble (d+1) n.k=true:=by exact rfl)(hb: -9223372036854775808<=a/\a<=9223372036854775807:=by omega):VL Tryz.prog m n B w0 ops Q (⟨some d,.convert src dst x,ty,pos,after,none⟩::rest) env H:=Ycn T hx hs ht hn hb h
theorem zs45{j:IntKind}(h:VL Tryz.prog m n B w0 ops Q rest ((d,.int .u64 a)::env) H)(hx:evo env x=some (.int k a):=by exact rfl)(hs:look T.ik src=some j:=by exact rfl)(ht:look T.ik dst=some .u64:=by exact rfl)(hn:Nat.ble (d+1) n.k=true:=by exact rfl)(hb:0<=a/\a<=18446744073709551615:=by omega):VL Tryz.prog m n B w0 ops Q (⟨some d,.convert src dst x,ty,pos,after,none⟩::rest) env H:=WQ T hx hs ht hn hb h
theorem zs46{j:IntKind}{kd:IntKind}(h:VL Tryz.prog m n B w0 ops Q rest ((d,.int kd (kd.wrap a))::env) H)(hx:evo env x=some (.int k a):=by exact rfl)(hs:look T.ik src=some j:=by exact rfl)(ht:look T.ik dst=some kd:=by exact rfl)(hn:Nat.ble (d+1) n.k=true:=by exact rfl):VL Tryz.prog m n B w0 ops Q (⟨some d,.convert src dst x,ty,pos,after,none⟩::rest) env H:=Jc T hx hs ht hn h
theorem zs47{x:Operand}{xt:TypeId}(h:VL Tryz.prog m n B w0 ops Q rest ((d,.bool false)::env) H)(hx:evo env x=some (.bool true):=by exact rfl)(hn:Nat.ble (d+1) n.k=true:=by exact rfl):VL Tryz.prog m n B w0 ops Q (⟨some d,.unOp .not xt x,ty,pos,after,none⟩::rest) env H:=Yhf hx hn h
theorem zs48{x:Operand}{xt:TypeId}(h:VL Tryz.prog m n B w0 ops Q rest ((d,.bool true)::env) H)(hx:evo env x=some (.bool false):=by exact rfl)(hn:Nat.ble (d+1) n.k=true:=by exact rfl):VL Tryz.prog m n B w0 ops Q (⟨some d,.unOp .not xt x,ty,pos,after,none⟩::rest) env H:=YfZ hx hn h
theorem zs49{t tt:Nat}{x y:Operand}{k:Nat}{mm c:Nat}{K:Option Addr->Nat->List HP}(h:∀A' cap',VL Tryz.prog none n B w0 ops Q rest ((d,.slice A' (k+mm) cap')::env) (K A' cap'))(hx:evo env x=some (.slice A k cap):=by exact rfl)(ht:look T.sl t=some (e,size,bytes):=by exact rfl)(hy:evo env y=some (.slice (some ⟨g,0,none⟩) mm c):=by exact rfl)(hb:blk g (.cells cs tt fr)∈H:=by(exact zm;done))(hk:cs.size=mm*size:=by exact rfl)(h1:Ji cs.toList=true:=by exact rfl)(hn:Nat.ble (d+1) n.k=true:=by exact rfl)(hu:∀A' cap',Upd (sl e size A k cap xs) (sl e size A' (k+mm) cap' (xs++cs.toList)) H (K A' cap'):=by((intro _ _;exact zd);done))(hby:(k+mm)*bytes<=140737488355328:=by omega):VL Tryz.prog none n B w0 ops Q (⟨some d,.call ⟨.builtin .append,#[x,y],#[t,t]⟩,ty,pos,after,none⟩::rest) env H:=YmH T hx ht hy hb hk h1 hn hu hby h
variable {K F:List HP}
theorem zs50{t:Nat}{cs:List Value}{x y:Operand}(h:VL Tryz.prog none n B w0 ops Q rest env K)(hx:evo env x=some (.pointer (some ⟨g,i,none⟩)):=by exact rfl)(hy:evo env y=some v:=by exact rfl)(h1:v.oneCell'=true:=by exact rfl)(hu:Upd (blk g (.cells cs.toArray tt (0,0))) (blk g (.cells cs'.toArray tt (0,0))) H K:=by(exact zd;done))(hs:YeW cs i v cs':=by(exact zt;done))(ht:look T.sc t=some ():=by exact rfl):VL Tryz.prog none n B w0 ops Q (⟨none,.store t x y,ty,pos,after,none⟩::rest) env H:=YoM T hx hy h1 hu hs ht h
theorem zs51{t k:Nat}{cs vs:List Value}{x y:Operand}(h:VL Tryz.prog none n B w0 ops Q rest env K)(hx:evo env x=some (.pointer (some ⟨g,i,none⟩)):=by exact rfl)(hy:evo env y=some (.agg vs.toArray):=by exact rfl)(h1:Ji vs=true:=by exact rfl)(hu:Upd (blk g (.cells cs.toArray tt (0,0))) (blk g (.cells cs'.toArray tt (0,0))) H K:=by(exact zd;done))(hs:PutAt cs i vs cs':=by((repeat(first|exact PutAt.nil|(apply PutAt.cons;exact zt)));done))(ht:look T.ag t=some k:=by exact rfl)(hk:vs.length=k:=by exact rfl):VL Tryz.prog none n B w0 ops Q (⟨none,.store t x y,ty,pos,after,none⟩::rest) env H:=QD T hx hy h1 hu hs ht hk h
theorem zs52{t:TypeId}{x:Operand}(h:∀g,VL Tryz.prog none n B w0 ops Q rest ((d,.pointer (some ⟨g,0,none⟩))::env) (blk g (.cells cs t (0,0))::H))(hx:evo env x=some (.agg cs):=by exact rfl)(hn:Nat.ble (d+1) n.k=true:=by exact rfl):VL Tryz.prog none n B w0 ops Q (⟨some d,.box t x,ty,pos,after,none⟩::rest) env H:=YR hx hn h
theorem zs53{t:TypeId}{x:Operand}(h:∀g,VL Tryz.prog none n B w0 ops Q rest ((d,.pointer (some ⟨g,0,none⟩))::env) (blk g (.cells #[v] t (0,0))::H))(hx:evo env x=some v:=by exact rfl)(h1:v.cells=#[v]:=by exact rfl)(hn:Nat.ble (d+1) n.k=true:=by exact rfl):VL Tryz.prog none n B w0 ops Q (⟨some d,.box t x,ty,pos,after,none⟩::rest) env H:=YjD hx h1 hn h
theorem zs54{t:TypeId}(h:∀g,VL Tryz.prog none n B w0 ops Q rest ((d,.pointer (some ⟨g,0,none⟩))::env) (blk g (.cells cs t (0,0))::H))(hz:look T2.zt t=some z:=by exact rfl)(hc:z.cells=cs:=by exact rfl)(hn:Nat.ble (d+1) n.k=true:=by exact rfl):VL Tryz.prog none n B w0 ops Q (⟨some d,.alloc t,ty,pos,after,none⟩::rest) env H:=YmF T2 hz hc hn h
variable {parts:List (Nat×Operand)}{ps:List (Nat×Value)}
theorem zs55{t:TypeId}{zc:Array Value}{pl:List (Nat×Nat)}{cs:List Value}(h:VL Tryz.prog m n B w0 ops Q rest ((d,.agg cs.toArray)::env) H)(hp:Wo env parts=some ps:=by exact rfl)(hz:look T2.zt t=some (.agg zc):=by exact rfl)(hl:look T2.bt t=some pl:=by exact rfl)(hf:fillL (pl[·]?) zc.toList ps=some cs:=by exact rfl)(hn:Nat.ble (d+1) n.k=true:=by exact rfl):VL Tryz.prog m n B w0 ops Q (⟨some d,.build t parts.toArray,ty,pos,after,none⟩::rest) env H:=YmJ T2 hp hz hl hf hn h
theorem zs56{t len:Nat}{zl cs:List Value}(h:∀g,VL Tryz.prog none n B w0 ops Q rest ((d,.slice (some ⟨g,0,none⟩) len len)::env) (blk g (.cells cs.toArray e (0,0))::H))(ht:look T.sl t=some (e,size,bytes):=by exact rfl)(hp:Wo env parts=some ps:=by exact rfl)(hz:look T2.zt e=some z:=by exact rfl)(hzc:z.cells=zl.toArray:=by exact rfl)(hf:fillL (λi=>some (i*size,size)) (repZ len zl) ps=some cs:=by exact rfl)(hn:Nat.ble (d+1) n.k=true:=by exact rfl)(hl:(Nat.blt 0 (len*size)&&Nat.beq zl.length size&&Nat.ble (len*size) 1000000)=true:=by exact rfl):VL Tryz.prog none n B w0 ops Q (⟨some d,.buildSlice t len parts.toArray,ty,pos,after,none⟩::rest) env H:=VN T T2 ht hp hz hzc hf hn hl h
variable {α:Type}
theorem zs57{f:α->List Value}{l:List α}{t:Nat}{x y:Operand}{i:Int}(h:VL Tryz.prog m n B w0 ops Q rest ((d,sptr A (i.toNat*size))::env) H)(hx:evo env x=some (.slice A l.length cap):=by exact rfl)(hy:evo env y=some (.int ki i):=by exact rfl)(hr:Rd B w0 H A (l.flatMap f):=by(exact zr;done))(ht:look T.sl t=some (e,size,bytes):=by exact rfl)(hq:∀a,(f a).length=size:=by exactλ_=>rfl)(h0:Nat.blt 0 size=true:=by exact rfl)(hn:Nat.ble (d+1) n.k=true:=by exact rfl)(hi:0<=i/\i<l.length:=by omega):VL Tryz.prog m n B w0 ops Q (⟨some d,.indexAddr t x y,ty,pos,after,none⟩::rest) env H:=Yba T hx hy hr ht hq h0 hn hi h
theorem zs58{f:α->List Value}{l:List α}{s fl k:Nat}{x:Operand}(h:VL Tryz.prog m n B w0 ops Q rest ((d,sptr A (i*q+k))::env) H)(hx:evo env x=some (sptr A (i*q)):=by exact rfl)(hr:Rd B w0 H A (l.flatMap f):=by(exact zr;done))(hq:∀a,(f a).length=q:=by exactλ_=>rfl)(h0:Nat.blt 0 q=true:=by exact rfl)(hf:Of T.fo s fl=some k:=by exact rfl)(hn:Nat.ble (d+1) n.k=true:=by exact rfl)(hi:i<l.length:=by omega):VL Tryz.prog m n B w0 ops Q (⟨some d,.fieldAddr s x fl,ty,pos,after,none⟩::rest) env H:=YfX T hx hr hq h0 hf hn hi h
theorem zs59{f:α->List Value}{l:List α}{t o:Nat}{b:α}{x:Operand}(h:VL Tryz.prog m n B w0 ops Q rest ((d,v)::env) H)(hx:evo env x=some (sptr A (i*q+o)):=by exact rfl)(hr:Rd B w0 H A (l.flatMap f):=by(exact zr;done))(hb:l[i]? =some b:=by assumption)(hq:∀a,(f a).length=q:=by exactλ_=>rfl)(ho:Nat.blt o q=true:=by exact rfl)(hv:nth (f b) o=some v:=by exact rfl)(ht:look T.sc t=some ():=by exact rfl)(hn:Nat.ble (d+1) n.k=true:=by exact rfl):VL Tryz.prog m n B w0 ops Q (⟨some d,.load t x,ty,pos,after,none⟩::rest) env H:=Ycp T hx hr hb hq ho hv ht hn h
theorem zs60{f:α->List Value}{l:List α}{t:Nat}{b:α}{x:Operand}(h:VL Tryz.prog m n B w0 ops Q rest ((d,v)::env) H)(hx:evo env x=some (sptr A (i*q)):=by exact rfl)(hr:Rd B w0 H A (l.flatMap f):=by(exact zr;done))(hb:l[i]? =some b:=by assumption)(hq:∀a,(f a).length=q:=by exactλ_=>rfl)(ho:Nat.blt 0 q=true:=by exact rfl)(hv:nth (f b) 0=some v:=by exact rfl)(ht:look T.sc t=some ():=by exact rfl)(hn:Nat.ble (d+1) n.k=true:=by exact rfl):VL Tryz.prog m n B w0 ops Q (⟨some d,.load t x,ty,pos,after,none⟩::rest) env H:=Yha T hx hr hb hq ho hv ht hn h
theorem zs61{f:α->List Value}{l:List α}{t:Nat}{b:α}{x:Operand}(h:VL Tryz.prog m n B w0 ops Q rest ((d,.agg (f b).toArray)::env) H)(hx:evo env x=some (sptr A (i*q)):=by exact rfl)(hr:Rd B w0 H A (l.flatMap f):=by(exact zr;done))(hb:l[i]? =some b:=by assumption)(hq:∀a,(f a).length=q:=by exactλ_=>rfl)(ho:Nat.blt 0 q=true:=by exact rfl)(ht:look T.ag t=some q:=by exact rfl)(hn:Nat.ble (d+1) n.k=true:=by exact rfl):VL Tryz.prog m n B w0 ops Q (⟨some d,.load t x,ty,pos,after,none⟩::rest) env H:=Yco T hx hr hb hq ho ht hn h
theorem zs62{x y:Operand}{k:IntKind}{a b:Int}(h1:a<b->VL Tryz.prog m n B w0 ops Q rest ((d,.int k b)::env) H)(h2:b<=a->VL Tryz.prog m n B w0 ops Q rest ((d,.int k a)::env) H)(hx:evo env x=some (.int k a):=by exact rfl)(hy:evo env y=some (.int k b):=by exact rfl)(hn:Nat.ble (d+1) n.k=true:=by exact rfl):VL Tryz.prog m n B w0 ops Q (⟨some d,.call ⟨.builtin .max,#[x,y],tys⟩,ty,pos,after,none⟩::rest) env H:=Yrf hx hy hn h1 h2
theorem zs65(h:VQ n B w0 Q .normal env H):VL Tryz.prog none n B w0 ops Q [] env H:=YoD h
theorem zs66(h:VQ n B w0 Q .normal env H):VL Tryz.prog (some none) n B w0 ops Q [] env H:=Yrj h
theorem zs68{y:Code}(h:VC Tryz.prog n B w0 y Q env H):VQ n B w0 (Exit.then (wpR Tryz.prog n.r y Q) Q) .normal env H:=YbZ h
theorem zs69{x y:Code}(h:VC Tryz.prog n B w0 x (Exit.then (wpR Tryz.prog n.r y Q) Q) env H):VC Tryz.prog n B w0 (.seq x y) Q env H:=Xc h
variable {l:List Oper}
theorem zs70(h:VL Tryz.prog none n B w0 l.toArray Q l env H):VC Tryz.prog n B w0 (.region id l.toArray false) Q env H:=YW h
theorem zs71{x y:Code}(h:VC Tryz.prog n B w0 x Q env H)(hc:evo env c=some (.bool true):=by exact rfl):VC Tryz.prog n B w0 (.cond c x y) Q env H:=YfS hc h
theorem zs72{x y:Code}(h:VC Tryz.prog n B w0 y Q env H)(hc:evo env c=some (.bool false):=by exact rfl):VC Tryz.prog n B w0 (.cond c x y) Q env H:=Yep hc h
theorem zs73{c:Code}(h:VC Tryz.prog n B w0 c (Exit.inBlock id Q) env H):VC Tryz.prog n B w0 (.block id c) Q env H:=Yg1 h
theorem zs74(h:VQ n B w0 Q .ret env H):VC Tryz.prog n B w0 .ret Q env H:=YuM h
theorem zs75(h:VQ n B w0 Q (.exit id) env H):VC Tryz.prog n B w0 (.exit id) Q env H:=Yq4 h
theorem zs76(h:VQ n B w0 Q .normal env H):VC Tryz.prog n B w0 .skip Q env H:=Yq5 h
theorem zs77{K:Act->World->Prop}(h:VQ n B w0 Q .ret env H):VQ n B w0 (Exit.then K Q) .ret env H:=Yhq h
theorem zs78(h:VQ n B w0 Q .ret env H):VQ n B w0 (Exit.inBlock id Q) .ret env H:=Yf5 h
theorem zs79(h:VQ n B w0 Q .normal env H):VQ n B w0 (Exit.inBlock id Q) .normal env H:=YbO h
theorem zs80{K:Act->World->Prop}(h:VQ n B w0 Q (.exit id) env H):VQ n B w0 (Exit.then K Q) (.exit id) env H:=Yf6 h
theorem zs81(h:VQ n B w0 Q .normal env H):VQ n B w0 (Exit.inBlock id Q) (.exit id) env H:=Yes h
theorem zs82{id':Nat}(h:VQ n B w0 Q (.exit id') env H)(hne:Nat.beq id' id=false:=by exact rfl):VQ n B w0 (Exit.inBlock id Q) (.exit id') env H:=Yct hne h
theorem zs83(h:VL Tryz.prog (some none) n B w0 l.toArray Q l env H)(hq:(l.all λo=>!eff o)=true:=by exact rfl)(hm:Tryz.prog.follows .mixedOrders=true:=by kernel_rfl)(hB:Region.lexB .any l.toArray=true:=by kernel_rfl):VC Tryz.prog n B w0 (.region id l.toArray true) Q env H:=Yos hq hm hB h
theorem zs84(h:VL Tryz.prog (some none) n B w0 l.toArray Q l env H)(hq:(l.all λo=>!effW o)=true:=by exact rfl)(hm:Tryz.prog.follows .mixedOrders=true:=by kernel_rfl)(hB:Region.lexB .any l.toArray=true:=by kernel_rfl):VC Tryz.prog n B w0 (.region id l.toArray true) Q env H:=Yor hq hm hB h
theorem zs87{HF:List HP}(h:VL Tryz.prog none n B w0 ops (Yg0 Tryz.prog B w0 ops Q H rest) [o] env HF)(he:eff o=true:=by exact rfl)(hg:o.guard=none:=by exact rfl)(happ:App H F HF:=by(exact zp;done)):VL Tryz.prog (some (some F)) n B w0 ops Q (o::rest) env H:=Yrc he hg happ h
theorem zs90{t:OT}(h:VL Tryz.prog (some (some F)) n B w0 ops (WP Tryz.prog B w0 ops l Q H t) [o] env H)(ho:nthO l i=o:=by(simp only[nthO];rfl)):VT Tryz.prog n B w0 ops l Q (.n1 i t) env H F:=YvH ho h
theorem zs91{t u:OT}{o':Oper}(h:VL Tryz.prog (some (some F)) n B w0 ops (WP Tryz.prog B w0 ops l Q H t) [o] env H)(h':VL Tryz.prog (some (some F)) n B w0 ops (WP Tryz.prog B w0 ops l Q H u) [o'] env H)(ho:nthO l i=o:=by(simp only[nthO];rfl))(ho':nthO l j=o':=by(simp only[nthO];rfl)):VT Tryz.prog n B w0 ops l Q (.n2 i t j u) env H F:=YvI ho ho' h h'
theorem zs93(h:VL Tryz.prog none n B w0 ops Q l env H):VQ n B w0 (Jp Tryz.prog ops Q l) .normal env H:=YoR h
theorem zs94(h:VQ n B w0 Q .normal env H):VQ n B w0 (Only Q) .normal env H:=Yrp h
theorem zg1{m:Mode}{d:Nat}{ty:TypeId}{pos:String}{after:Array Edge}{b:Bool}(h:VL Tryz.prog m n B w0 ops Q (⟨some d,op,ty,pos,after,some (j,b)⟩::rest) env H):VL Tryz.prog m n B w0 ops Q (⟨some d,op,ty,pos,after,some (j,b)⟩::rest) env H:=h
theorem zg2{s:Nat}{x:Operand}(h:VL Tryz.prog m n B w0 ops Q (⟨some d,.fieldAddr s x f,ty,pos,after,none⟩::rest) env H):VL Tryz.prog m n B w0 ops Q (⟨some d,.fieldAddr s x f,ty,pos,after,none⟩::rest) env H:=h
theorem zg3{t:Nat}{x:Operand}(h:VL Tryz.prog m n B w0 ops Q (⟨some d,.load t x,ty,pos,after,none⟩::rest) env H):VL Tryz.prog m n B w0 ops Q (⟨some d,.load t x,ty,pos,after,none⟩::rest) env H:=h
theorem zg4{x:Operand}(h:VL Tryz.prog m n B w0 ops Q (⟨some d,.call ⟨.builtin .len,#[x],#[tx]⟩,ty,pos,after,none⟩::rest) env H):VL Tryz.prog m n B w0 ops Q (⟨some d,.call ⟨.builtin .len,#[x],#[tx]⟩,ty,pos,after,none⟩::rest) env H:=h
theorem zg5{t:Nat}{x y:Operand}(h:VL Tryz.prog m n B w0 ops Q (⟨some d,.indexAddr t x y,ty,pos,after,none⟩::rest) env H):VL Tryz.prog m n B w0 ops Q (⟨some d,.indexAddr t x y,ty,pos,after,none⟩::rest) env H:=h
theorem zg6{x y:Operand}(h:VL Tryz.prog m n B w0 ops Q (⟨some d,.pick c x y,ty,pos,after,none⟩::rest) env H):VL Tryz.prog m n B w0 ops Q (⟨some d,.pick c x y,ty,pos,after,none⟩::rest) env H:=h
theorem zg7(h:VL Tryz.prog m n B w0 ops Q (⟨some d,.binOp .eql xt x y yt,ty,pos,after,none⟩::rest) env H):VL Tryz.prog m n B w0 ops Q (⟨some d,.binOp .eql xt x y yt,ty,pos,after,none⟩::rest) env H:=h
theorem zg8(h:VL Tryz.prog m n B w0 ops Q (⟨some d,.binOp .neq xt x y yt,ty,pos,after,none⟩::rest) env H):VL Tryz.prog m n B w0 ops Q (⟨some d,.binOp .neq xt x y yt,ty,pos,after,none⟩::rest) env H:=h
theorem zg12{t:Nat}{x y:Operand}(h:VL Tryz.prog m n B w0 ops Q (⟨some d,.index t x y,ty,pos,after,none⟩::rest) env H):VL Tryz.prog m n B w0 ops Q (⟨some d,.index t x y,ty,pos,after,none⟩::rest) env H:=h
theorem zg13(h:VL Tryz.prog m n B w0 ops Q (⟨some d,.binOp .add xt x y yt,ty,pos,after,none⟩::rest) env H):VL Tryz.prog m n B w0 ops Q (⟨some d,.binOp .add xt x y yt,ty,pos,after,none⟩::rest) env H:=h
theorem zg14(h:VL Tryz.prog m n B w0 ops Q (⟨some d,.binOp .sub xt x y yt,ty,pos,after,none⟩::rest) env H):VL Tryz.prog m n B w0 ops Q (⟨some d,.binOp .sub xt x y yt,ty,pos,after,none⟩::rest) env H:=h
theorem zg15(h:VL Tryz.prog m n B w0 ops Q (⟨some d,.binOp .mul xt x y yt,ty,pos,after,none⟩::rest) env H):VL Tryz.prog m n B w0 ops Q (⟨some d,.binOp .mul xt x y yt,ty,pos,after,none⟩::rest) env H:=h
theorem zg16(h:VL Tryz.prog m n B w0 ops Q (⟨some d,.binOp .quo xt x y yt,ty,pos,after,none⟩::rest) env H):VL Tryz.prog m n B w0 ops Q (⟨some d,.binOp .quo xt x y yt,ty,pos,after,none⟩::rest) env H:=h
theorem zg17(h:VL Tryz.prog m n B w0 ops Q (⟨some d,.binOp .rem xt x y yt,ty,pos,after,none⟩::rest) env H):VL Tryz.prog m n B w0 ops Q (⟨some d,.binOp .rem xt x y yt,ty,pos,after,none⟩::rest) env H:=h
theorem zg18(h:VL Tryz.prog m n B w0 ops Q (⟨some d,.binOp .shr xt x y yt,ty,pos,after,none⟩::rest) env H):VL Tryz.prog m n B w0 ops Q (⟨some d,.binOp .shr xt x y yt,ty,pos,after,none⟩::rest) env H:=h
theorem zg19(h:VL Tryz.prog m n B w0 ops Q (⟨some d,.convert src dst x,ty,pos,after,none⟩::rest) env H):VL Tryz.prog m n B w0 ops Q (⟨some d,.convert src dst x,ty,pos,after,none⟩::rest) env H:=h
theorem zg20{x:Operand}{xt:TypeId}(h:VL Tryz.prog m n B w0 ops Q (⟨some d,.unOp .not xt x,ty,pos,after,none⟩::rest) env H):VL Tryz.prog m n B w0 ops Q (⟨some d,.unOp .not xt x,ty,pos,after,none⟩::rest) env H:=h
theorem zg21{t:Nat}{x y:Operand}(h:VL Tryz.prog m n B w0 ops Q (⟨some d,.call ⟨.builtin .append,#[x,y],#[t,t]⟩,ty,pos,after,none⟩::rest) env H):VL Tryz.prog m n B w0 ops Q (⟨some d,.call ⟨.builtin .append,#[x,y],#[t,t]⟩,ty,pos,after,none⟩::rest) env H:=h
theorem zg22{t:Nat}{x y:Operand}(h:VL Tryz.prog m n B w0 ops Q (⟨none,.store t x y,ty,pos,after,none⟩::rest) env H):VL Tryz.prog m n B w0 ops Q (⟨none,.store t x y,ty,pos,after,none⟩::rest) env H:=h
theorem zg23{t:TypeId}{x:Operand}(h:VL Tryz.prog m n B w0 ops Q (⟨some d,.box t x,ty,pos,after,none⟩::rest) env H):VL Tryz.prog m n B w0 ops Q (⟨some d,.box t x,ty,pos,after,none⟩::rest) env H:=h
theorem zg24{t:TypeId}(h:VL Tryz.prog m n B w0 ops Q (⟨some d,.alloc t,ty,pos,after,none⟩::rest) env H):VL Tryz.prog m n B w0 ops Q (⟨some d,.alloc t,ty,pos,after,none⟩::rest) env H:=h
theorem zg25{t:TypeId}(h:VL Tryz.prog m n B w0 ops Q (⟨some d,.build t parts.toArray,ty,pos,after,none⟩::rest) env H):VL Tryz.prog m n B w0 ops Q (⟨some d,.build t parts.toArray,ty,pos,after,none⟩::rest) env H:=h
theorem zg26{t len:Nat}(h:VL Tryz.prog m n B w0 ops Q (⟨some d,.buildSlice t len parts.toArray,ty,pos,after,none⟩::rest) env H):VL Tryz.prog m n B w0 ops Q (⟨some d,.buildSlice t len parts.toArray,ty,pos,after,none⟩::rest) env H:=h
theorem zg27{x y:Code}(h:VC Tryz.prog n B w0 (.cond c x y) Q env H):VC Tryz.prog n B w0 (.cond c x y) Q env H:=h
theorem zg28(h:VC Tryz.prog n B w0 (.region id l.toArray true) Q env H):VC Tryz.prog n B w0 (.region id l.toArray true) Q env H:=h
theorem zg29{fn:Fn}{caps:List Operand}(h:VL Tryz.prog m n B w0 ops Q (⟨some d,.makeFunc fn #[] caps.toArray,ty,pos,after,none⟩::rest) env H):VL Tryz.prog m n B w0 ops Q (⟨some d,.makeFunc fn #[] caps.toArray,ty,pos,after,none⟩::rest) env H:=h
end
open Go.ChangeMaps (setBlock)
section
variable {P:Program}{m:Mode}{n:Shp}{B:Nat}{w0:World}{ops:Array Oper}{Q:Exit->Act->World->Prop}{rest:List Oper}{env:Env}{H:List HP}{d:Nat}{ty:TypeId}{pos:String}{after:Array Edge}{x y:Operand}
theorem YmK{t kt et g clock:Nat}{es:Ents}{u:Operand}{k:Int}{v:Value}{K:List HP}(hx:evo env x=some (.map (some g)))(hy:evo env y=some (.int .i64 k))(hv:evo env u=some v)(ht:mapT P t kt et=true)
 (hu:Upd (blk g (mobj es clock)) (blk g (mobj (es++[(k,v,clock)]) (clock+1))) H K) (hk:mget es k=none)
 (h:VL P none n B w0 ops Q rest env K):VL P none n B w0 ops Q (⟨none,.insert t x y u,ty,pos,after,none⟩::rest) env H:=zc29
def isSl(P:Program)(t:TypeId):Bool:=match P.underlying t with|some (.slice _)=>true|_=>false
theorem YnA{t:TypeId}(h:isSl P t=true):∃e,P.underlying t=some (.slice e):=by
 unfold isSl at h
 grind
theorem Js{xt yt:TypeId}{A:Option Addr}{k cap:Nat}(hx:evo env x=some (.slice A k cap))(hn:Nat.ble (d+1) n.k=true)(hu:isSl P xt=true)
 (h:VL P m n B w0 ops Q rest ((d,.bool A.isNone)::env) H):VL P m n B w0 ops Q (⟨some d,.binOp .eql xt x (.const (.slice none 0 0)) yt,ty,pos,after,none⟩::rest) env H:=by
 obtain⟨e,hu⟩:=YnA hu
 refine Y3 hx (y:=.const (.slice none 0 0)) rfl hn (λw=>by simp[eqGuard]) (λw=>?_) h
 simp only[binOp,Op.equal]
 rw[Sem.run_bind,show Op.maxDepth=9999+1 from rfl]
 unfold Op.equalIn
 cases A<;>simp[run_underlying hu]
theorem Yh3{α:Type}{f:α->List Value}{q:Nat}(hq:∀a,(f a).length=q):∀(l:List α) (i:Nat) (a:α),i<l.length->(l.flatMap f).take (i*q)++f a++(l.flatMap f).drop (i*q+q)=(l.set i a).flatMap f
 |[],i,a,h=>by simp at h
 |b::l,0,a,_=>by
  simp_all
 |b::l,i+1,a,h=>by
  have e1:(i+1)*q=q+i*q:=by grind
  have e2:q+i*q+q=q+(i*q+q):=by omega
  have ih:=Yh3 hq l i a (by simp_all)
  simp_all [List.take_append,List.drop_append,List.take_of_length_le,List.drop_eq_nil_of_le]
variable {t e k cap size:Nat}{A:Option Addr}
theorem ZD(T:Tab P){α:Type}{f:α->List Value}{l:List α}{i q:Nat}{a:α}{vs:List Value}{K:List HP}(hx:evo env x=some (sptr A (i*q)))(hy:evo env y=some (.agg vs.toArray))(hv:f a=vs)
 (hu:Upd (sl e q A k cap (l.flatMap f)) (sl e q A k cap ((l.set i a).flatMap f)) H K) (hq:∀a,(f a).length=q) (h1:Ji vs=true) (ht:look T.ag t=some q) (hq0:Nat.blt 0 q=true) (hi:i<l.length)
 (h:VL P none n B w0 ops Q rest env K):VL P none n B w0 ops Q (⟨none,.store t x y,ty,pos,after,none⟩::rest) env H:=by
 subst hv
 have hmem:sl e q A k cap (l.flatMap f)∈H:=Yjv
 have hq0':0<q:=by simp_all
 refine J6 rfl rfl (λac w ha hw=>?_) h
 have hown:=hw.sl hmem
 rcases Jf hown with⟨_,rfl,_,e4⟩|⟨g,cur,rfl,g1,g2,g3,g4,g5,g6⟩
 ·have:=TF List.length e4
  rw[Xb hq]at this
  have h5:0<l.length*q:=Nat.mul_pos (by omega) hq0'
  simp_all
 ·have hil:i*q+q<=l.length*q:=Yuw
  rw[Xb hq]at g6
  have hkc:k*q<=cap*q:=T8 _ g2
  have hov:i*q+(f a).length<=cur.size:=by grind
  have hrun:=run_storeCells_at (P:=P) g (i*q) e (f a) 0 cur w g1 (by omega) (ZR h1)
  rw[SR]at hrun
  refine⟨_,?_,hw.storeRow (k':=k) (o:=i*q) (vs:=f a) hu rfl g1 g4 g2 g3 hov ?_ ?_⟩
  ·rw[show sptr (some (⟨g,0,none⟩:Addr)) (i*q)=.pointer (some ⟨g,i*q,none⟩) by simp[sptr,Addr.add_lit]]at hx
   simp[execOp,ha.eval hx,ha.eval hy,Instr.storeAt,Instr.sureAddr,storeVar,Value.cells,Jl (UF (T.aggs ht)),hq,hrun]
  ·have hX:(cur.toList.take (i*q)++f a).length=i*q+q:=by grind
   rw[<-Yh3 hq l i a hi,<-g5,hq,SH,hX,TM (by omega),List.take_take,S8 (by omega),List.drop_take]
  grind [Xb,TE]
theorem Yeq(T:Tab P){bytes:Nat}{a:Addr}{ki:IntKind}{i:Int}(hx:evo env x=some (.slice (some a) k cap))(hy:evo env y=some (.int ki i))(ht:look T.sl t=some (e,size,bytes))(hn:Nat.ble (d+1) n.k=true)(hi:0<=i/\i<k)
 (h:VL P m n B w0 ops Q rest ((d,sptr (some a) (i.toNat*size))::env) H):VL P m n B w0 ops Q (⟨some d,.indexAddr t x y,ty,pos,after,none⟩::rest) env H:=by
 obtain⟨hut,inf,z',hinf,_,_,hsi,_⟩:=YG (T.slic ht)
 refine Yt rfl rfl hn rfl (λf w ha _=>?_) h
 exact zc61
theorem Yf3{l:List Oper}{xs:List Value}(hm:sl e size A k cap xs∈H)(hk:0<k)(h:∀g,A=some ⟨g,0,none⟩->VL P none n B w0 ops Q l env H):VL P none n B w0 ops Q l env H:=by
 refine⟨λa ha w hw=>?_⟩
 rcases Jf (hw.sl hm)with⟨_,e1,_⟩|⟨g,_,rfl,_⟩
 ·omega
 ·exact(h g rfl).run a ha w hw
end
section
variable {P:Program}{n:Shp}{B:Nat}{w0:World}{ops:Array Oper}{Q:Exit->Act->World->Prop}{rest:List Oper}{env:Env}{H:List HP}
def Vq(ops:Array Oper):List Nat->Array Bool->Bool
 |[],listed=>(Region.ready .any ops listed).isEmpty
 |i::rest,listed=>decide (Region.ready .any ops listed=[i])&&Vq ops rest (listed.setIfInBounds i true)
def YgC(ops:Array Oper)(last:List Nat):List Nat->Array Bool->Bool
 |[],listed=>Vq ops last listed
 |i::rest,listed=>
  (match ops[i]? with
   |some o=>if eff o then decide (Region.ready .any ops listed=[i])else(Region.ready .any ops listed).contains i&&Region.free .any ops listed i
   |none=>false)&&YgC ops last rest (listed.setIfInBounds i true)
def Ydt(ops:Array Oper)(last:List Nat):Bool:=
 last.all λj=>decide (j<ops.size)&&(List.range ops.size).all λi=>last.contains i||(match ops[i]? with|some o=>eff o|none=>false)||ancB ops ops.size j i
theorem V3{last:List Nat}(h:Ydt ops last=true):(∀j,last.contains j=true->∃o,ops[j]? =some o)/\∀i oi,ops[i]? =some oi->eff oi=false->last.contains i=false->∀j,last.contains j=true->∃f,ancB ops f j i=true:=by
 refine⟨λj hj=>?_,λi oi hi he hil j hj=>?_⟩
 ·have h1:=TL.1 h j (by simp_all)
  simp_all
 ·exact Ymo
theorem Vo{S:World->Prop}{last:List Nat}(l:List Oper)(hl:ops=l.toArray)(hef:∀j,last.contains j=true->∃o,ops[j]? =some o)(hlo:¬LetsOut Q):
 ∀(o2:List Nat) (listed:Array Bool) (a:Act) (w:World),(∀j∈o2,last.contains j=true)->Vq ops o2 listed=true->wpList P ops Q (Yc l o2) a w->Zl P ops Q S last o2.length listed a w
 |[],listed,a,w,_,hB,h=>⟨by grind [Vq],h⟩
 |i::rest,listed,a,w,hin,hB,h=>by
  simp only[Vq,Tq,Tm]at hB
  obtain⟨h1,h2⟩:=hB
  obtain⟨o,ho⟩:=hef i (hin i (by simp))
  have hget:nthO l i=o:=Xx hl ho
  simp only[Yc,hget]at h
  unfold wpList at h
  refine⟨λh0=>(by simp_all),λk hk=>?_⟩
  obtain rfl:k=i:=by simp_all
  unfold wpOp
  simp only[ho]
  by_cases hw:Region.wanted o (yielded ops a.tmps)=true
  ·rw[Tn hw]at h⊢
   rcases h with h|⟨_,h⟩
   ·exact .inl (Oper.wp_mono (λa' w' h'=>⟨λhf=>(by simp_all),Vo l hl hef hlo rest _ a' w' (λj hj=>hin j (by simp[hj])) h2 h'⟩) h)
   simp_all
  ·rw[Tj hw]at h⊢
   exact⟨λhf=>(by simp_all),Vo l hl hef hlo rest _ _ w (λj hj=>hin j (by simp[hj])) h2 h⟩
theorem Uo{S:World->Prop}{last:List Nat}(hs:Region.noSelect ops=true)(hQ:∀c (a:Act) (w:World),¬Q (.panic c) a w)(hlo:¬LetsOut Q)(l:List Oper)(hl:ops=l.toArray)(hlast:Ydt ops last=true):
 ∀(o1:List Nat) (listed:Array Bool) (a:Act) (w:World),Closed ops listed->(∀j∈o1,last.contains j=false)->YgC ops last o1 listed=true->S w->Yv P ops (Jp P ops Q (Yc l last)) S (Yc l o1) a w->
  Zl P ops Q S last (o1++last).length listed a w
 |[],listed,a,w,_,_,hB,_,h=>Vo l hl (V3 hlast).1 hlo last listed a w (λj hj=>by simp_all) hB h
 |i::rest,listed,a,w,hcl,hno,hB,hS,h=>by
  simp only[YgC,Tq]at hB
  obtain⟨h1,h2⟩:=hB
  have hno':∀j∈rest,last.contains j=false:=by simp_all
  cases ho:ops[i]? with
  |none=>simp_all
  |some o=>
   rw[ho]at h1
   have hget:nthO l i=o:=Xx hl ho
   simp only[Yc,hget]at h
   by_cases he:eff o=true
   ·simp only[he,Ni,Tm]at h1
    unfold Yv at h
    rw[Tn he]at h
    refine⟨λh0=>(by simp_all),λk hk=>?_⟩
    have hk':=hk
    rw[h1]at hk
    obtain rfl:k=i:=by simp_all
    unfold wpOp
    simp only[ho]
    by_cases hw:Region.wanted o (yielded ops a.tmps)=true
    ·rw[Tn hw]at h⊢
     refine .inl (Oper.wp_mono_noQ' (λc a w h=>by cases h) (Oper.wp_mono (λa' w' h'=>⟨λ_=>h'.1,Uo hs hQ hlo l hl hlast rest _ a' w' (hcl.set hk') hno' h2 h'.1 h'.2⟩) h))
    ·rw[Tj hw]at h⊢
     exact⟨λ_=>hS,Uo hs hQ hlo l hl hlast rest _ _ w (hcl.set hk') hno' h2 hS h⟩
   ·simp only[he]at h1
    simp only[RO,NC,Tq]at h1
    unfold Yv at h
    rw[Tj he]at h
    obtain⟨v,hy,h3⟩:=h
    have hr:i∈Region.ready .any ops listed:=by simp_all
    exact JN ho (Region.noSelect_spec hs) hQ ((V3 hlast).2 i o ho (by simp_all) (hno i (by simp))) (hno i (by simp)) _ listed a w hcl (Region.free_spec ho h1.2) hr hy hS (Uo hs hQ hlo l hl hlast rest _ _ w (hcl.set hr) hno' h2 hS h3)
theorem Yg2{id:Nat}{l:List Oper}(o1 last:List Nat)(mask:List Bool){Hc F:List HP}(hm:P.follows .mixedOrders=true)
 (hB:(Region.noSelect l.toArray&&decide ((o1++last).length=l.toArray.size)&&Ydt l.toArray last&&(o1.all λj=>!last.contains j)&&YgC l.toArray last o1 (Array.replicate l.toArray.size false))=true)
 (hsp:Split mask H Hc F) {l1 l2:List Oper}(hl1:Yc l o1=l1) (hl2:Yc l last=l2) (h:VL P (some (some F)) n B w0 l.toArray (Jp P l.toArray (Only Q) l2) l1 env Hc):VC P n B w0 (.region id l.toArray true) Q env H:=by
 simp only[Tq,Tm]at hB
 obtain⟨⟨⟨⟨h1,h2⟩,h3⟩,h4⟩,h5⟩:=hB
 refine⟨λa w ha hw=>ZX (Q:=Only Q) ?_ λe a w h=>by exact zc72⟩
 have hst:St B w0 (Hc++F) w.drew:=(hw.perm (XU hsp)).drew
 have hr:Yv P l.toArray (Jp P l.toArray (Only Q) l2) (St B w0 Hc) l1 a w.drew:=h.run a ha w.drew hst
 rw[<-hl1,<-hl2]at hr
 have:=Uo (S:=St B w0 Hc) h1 (λc a w h=>h) zc54 l rfl h3 o1 _ a w.drew (X5 _ _) (λj hj=>by simp_all) h5 hst.prefix_ hr
 exact Ymv
end
section
variable {P:Program}{m:Mode}{n:Shp}{B d:Nat}{w0:World}{ops:Array Oper}{Q:Exit->Act->World->Prop}{rest:List Oper}{env:Env}{H:List HP}{ty:TypeId}{pos:String}{after:Array Edge}
def Yac(P:Program)(t:TypeId):Bool:=match P.underlying t with|some (.interface _)=>false|some _=>true|none=>false
variable {t elem:TypeId}{x:Operand}{v v0 r:Value}
theorem U8(hx:evo env x=some v)(hu:Yac P t=true)(hn:Nat.ble (d+1) n.k=true)
 (h:VL P none n B w0 ops Q rest ((d,.iface t v)::env) H):VL P none n B w0 ops Q (⟨some d,.makeInterface t x,ty,pos,after,none⟩::rest) env H:=by
 refine YeX rfl rfl hn (λa w ha hw=>⟨w,?_,hw⟩) h
 unfold Yac at hu
 cases ht:P.underlying t with
 |none=>simp_all
 |some u=>
  rw[ht]at hu
  cases u<;>first|(cases hu;done)|simp[execOp,ha.eval hx,Instr.makeInterface,run_underlying ht]
theorem Ya9{xt:TypeId}(hx:evo env x=some (.iface t v))(hu:Yac P t=true)(hn:Nat.ble (d+1) n.k=true)
 (h:VL P none n B w0 ops Q rest ((d,.tuple #[v,.bool true])::env) H):VL P none n B w0 ops Q (⟨some d,.typeAssert x xt t true,ty,pos,after,none⟩::rest) env H:=by
 refine YeX rfl rfl hn (λa w ha hw=>⟨w,?_,hw⟩) h
 unfold Yac at hu
 cases ht:P.underlying t with
 |none=>simp_all
 |some u=>
  rw[ht]at hu
  cases u<;>first|(cases hu;done)|simp[execOp,ha.eval hx,Instr.typeAssert,run_underlying ht]
theorem Yiz(x t:TypeId)(a:Addr)(s u:String):Builtin.ssaWrapNilChk_ #[x] t #[.pointer (some a),strVal s,strVal u]=pure (.pointer (some a)):=rfl
variable {k f:Nat}{name:String}{a:Addr}{w:World}
theorem YdX{info:TypeInfo}{mm:Method}(hi:P.info? t=some info)(hf:info.methods.find? (λx=>x.name==name)=some mm)(hp:mm.path=#[])(hfu:mm.func=some (f,false))(hu:P.underlying t=some (.pointer elem)):
 (method (k+1) t (.pointer (some a)) name).run P w=((loadVar elem a).run P w).andThen λv w=>.ok (f,v) w:=by
 simp[method,typeInfo,hi,hf,hp,follow,hfu,receiverAt,Place.get,run_underlying hu,Yiz,asAddr]
def Ytz(P:Program)(t:TypeId)(name:String)(f:Nat)(elem:TypeId):Bool:=
 match P.info? t with
 |some info=>(match info.methods.find? (λx=>x.name==name)with|some mm=>mm.path==#[]&&mm.func==some (f,false)|none=>false)&&(match P.underlying t with|some (.pointer e)=>e==elem|_=>false)
 |none=>false
theorem Ya3(h:Ytz P t name f elem=true):
 (method (k+1) t (.pointer (some a)) name).run P w=((loadVar elem a).run P w).andThen λv w=>.ok (f,v) w:=by
 unfold Ytz at h
 cases hi:P.info? t with
 |none=>simp_all
 |some info=>
  rw[hi]at h
  simp only[Tq]at h
  obtain⟨h1,h2⟩:=h
  cases hf:info.methods.find? (λx=>x.name==name)with
  |none=>simp_all
  |some mm=>
   cases hu:P.underlying t with
   |none=>simp_all
   |some d=>
    rw[hu]at h2
    cases d<;>first|(cases h2;done)|skip
    simp_all [YdX]
variable {args:List Operand}{tys:Array TypeId}{vs:List Value}
theorem Jr(Φ:Value->List HP->Prop)(hx:evo env x=some (.iface t v0))
 (hm:∀w,St B w0 H w->(method (P.types.size+Made.depth) t v0 name).run P w=.ok (f,r) w)
 (hc:∀xs w,(callFunc f xs).run P w=.ok (.enter f xs) w) (hargs:Args env args vs) (hn:Nat.ble (d+1) n.k=true)
 (hcall:∀w,St B w0 H w->Calls P f (r::vs).toArray w (Post B w0 Φ))
 (h:∀v H',Φ v H'->VL P none n B w0 ops Q rest ((d,v)::env) H'):
 VL P none n B w0 ops Q (⟨some d,.call ⟨.invoke x name,args.toArray,tys⟩,ty,pos,after,none⟩::rest) env H:=by
 refine⟨λa ha w hw=>wpList_plain rfl λK hK=>?_⟩
 unfold Oper.wp
 have hmap:args.toArray.map a.eval=vs.toArray:=by grind [Uq]
 have hrun:(execOp a.eval ⟨some d,.call ⟨.invoke x name,args.toArray,tys⟩,ty,pos,after,none⟩).run P w=.ok (.enter f (r::vs).toArray) w:=by
  simp only[execOp,resolve,ha.eval hx,hmap,Sem.run_bind,Sem.run_pure,Result.andThen_ok,invoke]
  have e1:(#[Value.iface t v0]++vs.toArray)[0]? =some (.iface t v0):=by simp
  have e2:(#[Value.iface t v0]++vs.toArray).extract 1 (#[Value.iface t v0]++vs.toArray).size=vs.toArray:=by simp_all
  have e3:#[r]++vs.toArray=(r::vs).toArray:=by simp
  simp_all [callMethod]
 rw[hrun,Oper.upon_enter]
 exact zc51
theorem Xe(hx:evo env x=some (.iface t v0))
 (hm:∀w,St B w0 H w->(method (P.types.size+Made.depth) t v0 name).run P w=.ok (f,r) w)
 (hc:∀xs w,(callFunc f xs).run P w=.ok (.enter f xs) w) (hargs:Args env args vs) (hn:Nat.ble (d+1) n.k=true)
 (hcall:∀w,St B w0 H w->Calls P f (r::vs).toArray w (Post B w0 λu K=>u=v/\K=H))
 (h:VL P none n B w0 ops Q rest ((d,v)::env) H):
 VL P none n B w0 ops Q (⟨some d,.call ⟨.invoke x name,args.toArray,tys⟩,ty,pos,after,none⟩::rest) env H:=
 Jr _ hx hm hc hargs hn hcall zc63
end
section
variable {P:Program}{n:Shp}{B:Nat}{w0:World}{ops:Array Oper}{Q:Exit->Act->World->Prop}{rest:List Oper}{env:Env}{H:List HP}
variable {S:World->Prop}{last:List Nat}{i:Nat}{oi:Oper}{v:Value}
theorem YeU(hi:ops[i]? =some oi)(hsel:∀(j:Nat) (o:Oper) cs b,ops[j]? =some o->o.op≠.select cs b)
 (hQ:∀c (a:Act) (w:World),¬Q (.panic c) a w) (hil:last.contains i=true):
 ∀(fuel:Nat) (listed:Array Bool) (a:Act) (w:World),Closed ops listed->
  (∀j oj,ops[j]? =some oj->j≠i->listed.getD j true=false->(∀e∈oj.after,Region.binds .any e=true->e.on≠i)->oi.apart ops oj=true)->
  i∈Region.ready .any ops listed->YieldsIf P ops (λ_=>True) oi v a->
  Zl P ops Q S last fuel (listed.setIfInBounds i true) (a.put oi.dst v) w->Zl P ops Q S last (fuel+1) listed a w:=by
 intro fuel
 have hno:¬last.contains i=false:=by simp_all
 induction fuel with
 |zero=>
  intro listed a w _ _ hr hy H
  refine⟨λh=>(by simp_all),λj hj=>?_⟩
  by_cases hji:j=i
  ·exact YuB
  exact zc77
 |succ fuel ih=>
  intro listed a w hcl hfree hr hy H
  refine⟨λh=>(by grind),λj hj=>?_⟩
  by_cases hji:j=i
  ·exact YuB
  ·have h1:=H.2 j (ready_mono hj hji)
   obtain⟨hjun,oj,hoj,hall⟩:=mem_ready.1 hj
   have hun:=(mem_ready.1 hr).1
   have hun':listed.getD i false=false:=zc40
   have hnot:∀e∈oj.after,Region.binds .any e=true->e.on≠i:=by grind
   have h2:=wpOp_putIf hoj (hfree j oj hoj hji hjun hnot) (λcs b=>hsel i oi cs b hi) (λcs b=>hsel j oj cs b hoj) (λc a w h=>(hQ c _ w h).elim) hy h1
   have hfree':∀k ok,ops[k]? =some ok->k≠i->(listed.setIfInBounds j true).getD k true=false->
    (∀e∈ok.after,Region.binds .any e=true->e.on≠i)->oi.apart ops ok=true:=λk ok hk hki hu hno=>by
    exact zc26
   refine wpOp_mono (λa' w' h3=>⟨h3.2.1,ih (listed.setIfInBounds j true) a' w' (hcl.set hj) hfree' (ready_mono hr (NF hji)) h3.1 ?_⟩) h2
   exact zc67
theorem YeT(hi:ops[i]? =some oi)(hsel:∀(j:Nat) (o:Oper) cs b,ops[j]? =some o->o.op≠.select cs b)
 (hQ:∀c (a:Act) (w:World),¬Q (.panic c) a w) (hil:last.contains i=false):
 ∀(fuel:Nat) (listed:Array Bool) (a:Act) (w:World),Closed ops listed->(∀j,last.contains j=true->listed.getD j false=true\/∃f,ancB ops f j i=true)->
  (∀j oj,ops[j]? =some oj->j≠i->listed.getD j true=false->(∀e∈oj.after,Region.binds .any e=true->e.on≠i)->oi.apart ops oj=true)->
  i∈Region.ready .any ops listed->YieldsIf P ops S oi v a->S w->
  Zl P ops Q S last fuel (listed.setIfInBounds i true) (a.put oi.dst v) w->Zl P ops Q S last (fuel+1) listed a w:=by
 intro fuel
 induction fuel with
 |zero=>
  intro listed a w _ _ _ hr hy hS H
  refine⟨λh=>(by simp_all),λj hj=>?_⟩
  by_cases hji:j=i
  ·exact Ymp
  exact zc77
 |succ fuel ih=>
  intro listed a w hcl hlast hfree hr hy hS H
  refine⟨λh=>(by grind),λj hj=>?_⟩
  by_cases hji:j=i
  ·exact Ymp
  ·have h1:=H.2 j (ready_mono hj hji)
   obtain⟨hjun,oj,hoj,hall⟩:=mem_ready.1 hj
   have hun:=(mem_ready.1 hr).1
   have hun':listed.getD i false=false:=zc40
   have hnl:last.contains j=false:=by
    cases hc:last.contains j with
    |false=>rfl
    |true=>
     exact zc34
   have hnot:∀e∈oj.after,Region.binds .any e=true->e.on≠i:=by grind
   have h2:=wpOp_putIf hoj (hfree j oj hoj hji hjun hnot) (λcs b=>hsel i oi cs b hi) (λcs b=>hsel j oj cs b hoj) (λc a w h=>(hQ c _ w h).elim) hy h1
   have hfree':∀k ok,ops[k]? =some ok->k≠i->(listed.setIfInBounds j true).getD k true=false->
    (∀e∈ok.after,Region.binds .any e=true->e.on≠i)->oi.apart ops ok=true:=λk ok hk hki hu hno=>by
    exact zc26
   refine wpOp_mono (λa' w' h3=>⟨λ_=>h3.2.1 hnl,ih (listed.setIfInBounds j true) a' w' (hcl.set hj) (λk hk=>?_) hfree' (ready_mono hr (NF hji)) h3.1 (h3.2.1 hnl) ?_⟩) h2
   ·exact zc60
   ·exact zc67
def Ykp(o:Oper):Bool:=match o.op with|.move _=>true|.extract _ _=>true|_=>false
theorem YnK{o:Oper}{a:Act}{w:World}(hm:Ykp o=true)(hy:YieldsIf P ops S o v a)(hS:S w):YieldsIf P ops (λ_=>True) o v a:=by
 rcases hy with⟨h1,h2⟩|h
 ·refine .inl ⟨h1,λw' _=>?_⟩
  have h3:=h2 w hS
  unfold Ykp at hm
  cases hop:o.op<;>rw[hop]at hm<;>first|(cases hm;done)|skip
  ·grind [execOp,Go.Sem.run_pure]
  ·rename_i x k
   simp only[execOp,hop,Instr.extract]at h3⊢
   revert h3
   split
   ·rename_i vs _
    cases hk:vs[k]? with
    |none=>simp
    |some u=>simp
   simp_all
 ·exact .inr h
def YgB(ops:Array Oper)(last tail:List Nat):List Nat->Array Bool->Bool
 |[],listed=>Vq ops tail listed
 |i::rest,listed=>
  (match ops[i]? with
   |some o=>
    if last.contains i then Ykp o&&!eff o&&(Region.ready .any ops listed).contains i&&Region.free .any ops listed i
    else if eff o then decide (Region.ready .any ops listed=[i])
    else(Region.ready .any ops listed).contains i&&Region.free .any ops listed i&&last.all λj=>listed.getD j false||ancB ops ops.size j i
   |none=>false)&&YgB ops last tail rest (listed.setIfInBounds i true)
theorem Vh{S:World->Prop}{last tail:List Nat}(hs:Region.noSelect ops=true)(hQ:∀c (a:Act) (w:World),¬Q (.panic c) a w)(hlo:¬LetsOut Q)(l:List Oper)(hl:ops=l.toArray)(htl:∀j∈tail,last.contains j=true)(hex:∀j,last.contains j=true->∃o,ops[j]? =some o):
 ∀(o1:List Nat) (listed:Array Bool) (a:Act) (w:World),Closed ops listed->YgB ops last tail o1 listed=true->S w->Yv P ops (Jp P ops Q (Yc l tail)) S (Yc l o1) a w->
  Zl P ops Q S last (o1++tail).length listed a w
 |[],listed,a,w,_,hB,_,h=>Vo l hl hex hlo tail listed a w htl hB h
 |i::rest,listed,a,w,hcl,hB,hS,h=>by
  simp only[YgB,Tq]at hB
  obtain⟨h1,h2⟩:=hB
  cases ho:ops[i]? with
  |none=>simp_all
  |some o=>
   rw[ho]at h1
   have hget:nthO l i=o:=Xx hl ho
   simp only[Yc,hget]at h
   by_cases hla:last.contains i=true
   ·simp only[hla,Ni,Tq,R9]at h1
    obtain⟨⟨⟨h1,he⟩,h3⟩,h4⟩:=h1
    unfold Yv at h
    rw[Tj (by simp_all)]at h
    obtain⟨v,hy,h5⟩:=h
    have hr:i∈Region.ready .any ops listed:=by simp_all
    exact YeU ho (Region.noSelect_spec hs) hQ hla _ listed a w hcl (Region.free_spec ho h4) hr (YnK h1 hy hS) (Vh hs hQ hlo l hl htl hex rest _ _ w (hcl.set hr) h2 hS h5)
   ·have hla':last.contains i=false:=Sj.2 hla
    simp only[hla',RO,NC]at h1
    by_cases he:eff o=true
    ·simp only[he,Ni,Tm]at h1
     unfold Yv at h
     rw[Tn he]at h
     refine⟨λh0=>(by rw[h1]at h0;cases h0),λk hk=>?_⟩
     have hk':=hk
     rw[h1]at hk
     obtain rfl:k=i:=by simpa using hk
     unfold wpOp
     simp only[ho]
     by_cases hw:Region.wanted o (yielded ops a.tmps)=true
     ·rw[Tn hw]at h⊢
      refine .inl (Oper.wp_mono_noQ' (λc a w h=>by cases h) (Oper.wp_mono (λa' w' h'=>⟨λ_=>h'.1,Vh hs hQ hlo l hl htl hex rest _ a' w' (hcl.set hk') h2 h'.1 h'.2⟩) h))
     ·rw[Tj hw]at h⊢
      exact⟨λ_=>hS,Vh hs hQ hlo l hl htl hex rest _ _ w (hcl.set hk') h2 hS h⟩
    ·simp only[he,RO,NC,Tq]at h1
     obtain⟨⟨h3,h4⟩,h6⟩:=h1
     unfold Yv at h
     rw[Tj he]at h
     obtain⟨v,hy,h5⟩:=h
     have hr:i∈Region.ready .any ops listed:=by simpa using h3
     refine YeT ho (Region.noSelect_spec hs) hQ hla' _ listed a w hcl (λj hj=>?_) (Region.free_spec ho h4) hr hy hS (Vh hs hQ hlo l hl htl hex rest _ _ w (hcl.set hr) h2 hS h5)
     exact zc91
theorem UB{id:Nat}{l:List Oper}(o1 last tail:List Nat)(mask:List Bool){Hc F:List HP}(hm:P.follows .mixedOrders=true)
 (hB:(Region.noSelect l.toArray&&decide ((o1++tail).length=l.toArray.size)&&(tail.all λj=>last.contains j)&&(last.all λj=>decide (j<l.toArray.size))&&YgB l.toArray last tail o1 (Array.replicate l.toArray.size false))=true)
 (hsp:Split mask H Hc F) {l1 l2:List Oper}(hl1:Yc l o1=l1) (hl2:Yc l tail=l2) (h:VL P (some (some F)) n B w0 l.toArray (Jp P l.toArray (Only Q) l2) l1 env Hc):VC P n B w0 (.region id l.toArray true) Q env H:=by
 simp only[Tq,Tm]at hB
 obtain⟨⟨⟨⟨h1,h2⟩,h3⟩,h4⟩,h5⟩:=hB
 refine⟨λa w ha hw=>ZX (Q:=Only Q) ?_ λe a w h=>by exact zc72⟩
 have hst:St B w0 (Hc++F) w.drew:=(hw.perm (XU hsp)).drew
 have hr:Yv P l.toArray (Jp P l.toArray (Only Q) l2) (St B w0 Hc) l1 a w.drew:=h.run a ha w.drew hst
 rw[<-hl1,<-hl2]at hr
 have:=Vh (S:=St B w0 Hc) h1 (λc a w h=>h) zc54 l rfl (λj hj=>TL.1 h3 j hj) (λj hj=>⟨_,R7 (by
  simp_all)⟩) o1 _ a w.drew (X5 _ _) h5 hst.prefix_ hr
 exact Ymv
end
section
variable {P:Program}{m:Mode}{n:Shp}{B d:Nat}{w0:World}{ops:Array Oper}{Q:Exit->Act->World->Prop}{rest:List Oper}{env:Env}{H:List HP}{ty:TypeId}{pos:String}{after:Array Edge}
theorem Yi6{α:Type}(l cs:List α)(o k:Nat)(h:o+cs.length<=k)(hk:k<=l.length):(l.take o++cs++l.drop (o+cs.length)).take k=(l.take k).take o++cs++(l.take k).drop (o+cs.length):=by
 have hA:(l.take o++cs).length=o+cs.length:=by grind
 grind [SH,TM,List.drop_take]
variable {g o cap:Nat}
theorem Yn9(h:cap≠o):subA (some ⟨g,0,none⟩) o cap 1=some ⟨g,o,none⟩:=by
 simp_all [subA,Go.Addr.add_lit]
theorem Ylo(T:Tab P){t e bytes k kd cd mm c2:Nat}{x y:Operand}{A2:Option Addr}{xs ys:List Value}{K:List HP}(hx:evo env x=some (.slice (some ⟨g,o,none⟩) kd cd))(hy:evo env y=some (.slice A2 mm c2))(hr:Rd B w0 H A2 ys)
 (hu:Upd (sl e 1 (some ⟨g,0,none⟩) k cap xs) (sl e 1 (some ⟨g,0,none⟩) k cap (xs.take o++ys.take (min mm kd)++xs.drop (o+min mm kd))) H K) (ht:look T.sl t=some (e,1,bytes)) (hn:Nat.ble (d+1) n.k=true) (h1:∀v∈ys,v.oneCell'=true) (hb:o+kd<=k/\min mm kd<=ys.length/\0<min mm kd)
 (h:VL P none n B w0 ops Q rest ((d,.int .i64 (min mm kd:Nat))::env) K):
 VL P none n B w0 ops Q (⟨some d,.call ⟨.builtin .copy,#[x,y],#[t,t]⟩,ty,pos,after,none⟩::rest) env H:=by
 obtain⟨hut,inf,z,hi,hz,hzs,hsi,hbi,hs0,hb0⟩:=YG (T.slic ht)
 refine XA (λv K'=>v=.int .i64 (min mm kd:Nat)/\K'=K) rfl rfl hn (λa w ha hw=>?_) zc63
 have hmem:sl e 1 (some ⟨g,0,none⟩) k cap xs∈H:=Yjv
 rcases Jf (hw.sl hmem)with⟨e0,_⟩|⟨g',cur,e0,g1,g2,g3,g4,g5,g6⟩
 ·cases e0
 injection e0 with e0
 injection e0 with e0
 subst e0
 rw[RG]at g4 g5 g6
 have hcl:(ys.take (min mm kd)).length=min mm kd:=by simp_all
 have hsome:∃a2,A2=some a2/\∀j v,(ys.take (min mm kd))[j]? =some v->w.cell? (a2.add j)=some v:=by
  have h0:ys[0]? =some (ys[0]'(by omega)):=Ta (by omega)
  obtain⟨g2',o2,rfl,_⟩:=hr w hw 0 _ h0
  refine⟨_,rfl,λj v hj=>?_⟩
  rw[SA]at hj
  exact YtU
 obtain⟨a2,rfl,hsrc⟩:=hsome
 have hrun:=run_copy_row (P:=P) w t t ty e g o kd cd a2 mm c2 cur e (ys.take (min mm kd)) hut (by simp_all) g1 hcl hsrc (by omega) (λv hv=>h1 v (RY hv))
 refine⟨_,K,_,?_,hw.storeRow (k':=k) (o:=o) (vs:=ys.take (min mm kd)) hu rfl g1 (by omega) g2 g3 (by omega) ?_ ?_,rfl,rfl⟩
 ·simp only[execOp,resolve,invoke,builtin]
  have hmap:#[x,y].map a.eval=#[.slice (some ⟨g,o,none⟩) kd cd,.slice (some a2) mm c2]:=by simp[ha.eval hx,ha.eval hy]
  simp only[hmap,Sem.run_bind,Sem.run_pure,Result.andThen_ok]
  rw[hrun]
  simp[goInt,hcl]
 ·rw[hcl,RG,<-g5]
  have:=Yi6 cur.toList (ys.take (min mm kd)) o k (by rw[hcl];omega) (by rw[Array.length_toList];omega)
  rw[hcl]at this
  exact this
 grind
end
end Go.Eng
namespace Go.Proofs.YtjommdkgfbhbdaaGreatDoor
open Go.RowKit Go.Eng Go.Nw
structure RowM where
 A:Option Addr
 cap:Nat
 xs:List Int
structure NetM where
 nodes:Int
 pA:Option Addr
 pcap:Nat
 rows:List RowM
 noise:Int
 thr:Int
 lA:Option Addr
 lcap:Nat
 links:List Lk
 mA:Option Addr
 mcap:Nat
 margin:List Int
def NetM.net(n:NetM):Net:=⟨n.nodes,n.rows.map (·.xs),n.noise,n.thr,n.links,n.margin⟩
def NetM.val(n:NetM):Value:=.agg #[.int .i64 n.nodes,.slice n.pA n.rows.length n.pcap,.int .i64 n.noise,.int .i64 n.thr,.slice n.lA n.links.length n.lcap,.slice n.mA n.margin.length n.mcap]
def rowF(r:RowM):List Value:=[.slice r.A r.xs.length r.cap]
def numF(z:Int):List Value:=[.int .i64 z]
def lkF(l:Lk):List Value:=[.int .i64 l.1,.int .i64 l.2.1,.int .i64 l.2.2]
def lkV(l:Lk):Value:=.agg #[.int .i64 l.1,.int .i64 l.2.1,.int .i64 l.2.2]
structure NetM.In(B:Nat)(w0:World)(H:List HP)(n:NetM):Prop where
 pw:Rd B w0 H n.pA (n.rows.flatMap rowF)
 rw_:∀r∈n.rows,Rd B w0 H r.A (r.xs.flatMap numF)
 lk:Rd B w0 H n.lA (n.links.flatMap lkF)
 mg:Rd B w0 H n.mA (n.margin.flatMap numF)
 s1:n.rows.length<=9223372036854775807
 s2:∀r∈n.rows,r.xs.length<=9223372036854775807
 s3:n.links.length<=9223372036854775807
 s4:n.margin.length<=9223372036854775807
variable {B cap:Nat}{w0 w:World}{H:List HP}
theorem NetM.In.cons{n:NetM}{X:HP}(h:n.In B w0 H):n.In B w0 (X::H):=
 ⟨h.pw.cons,λr hr=>(h.rw_ r hr).cons,h.lk.cons,h.mg.cons,h.s1,h.s2,h.s3,h.s4⟩
variable {α:Type}{A:Option Addr}
theorem YeA(val:α->Value)(p:α->Bool)(l:List α)(f:Nat)(cs:List Value)(hen:∀xs w,(callFunc f xs).run Tryz.prog w=.ok (.enter f xs) w)(hlen:l.length<=9223372036854775807)(hr:Rd B w0 H A (l.flatMap λa=>[val a]))
 (hp:∀a∈l,∀w,St B w0 H w->Calls Tryz.prog f ([val a]++cs).toArray w (Post B w0 λv K=>v=.bool (p a)/\K=H)) (hw:St B w0 H w):
 CX B w0 394 [.slice A l.length cap,.func (.func f) #[] cs.toArray] w λv K=>v=.int .i64 (Ym p l 0)/\K=H:=by
 refine Ya Tryz.func394 Tryz.ntmps394 rfl rfl hw ?_
 refine zX7 ?_
 refine Ye (λ(k:Nat)=>[(8,.int .i64 k),(7,.int .i64 l.length),(0,.slice A l.length cap),(1,.func (.func f) #[] cs.toArray)]) (λ_=>H) (λk=>k<=l.length/\Ym p l 0=Ym p (l.drop k) k) (λk=>l.length-k) 0 ⟨Td _,by simp⟩ ?_ (λw hw=>hw) ?_
 ·exact zc1
 rintro k ⟨hk,hi⟩ K hK
 by_cases hlt:k<l.length
 ·obtain⟨a,ha⟩:∃a,l[k]? =some a:=⟨_,Ta hlt⟩
  have hpa:=hp a (Tc ha)
  rw[Z9 p l ha]at hi
  refine zX9 ?_<;>intros
  cases hpv:p a
  ·rw[hpv]at hi
   refine zX10 ?_
   apply hK (k+1)
   ·grind
   ·omega
   ·exact zc1
   exact zc21
  exact zc11
 exact zc6
theorem UM(val:α->Value)(p:α->Bool)(l:List α)(f:Nat)(cs:List Value)(hen:∀xs w,(callFunc f xs).run Tryz.prog w=.ok (.enter f xs) w)(hlen:l.length<=9223372036854775807)(hr:Rd B w0 H A (l.flatMap λa=>[val a]))
 (hp:∀a∈l,∀w,St B w0 H w->Calls Tryz.prog f ([val a]++cs).toArray w (Post B w0 λv K=>v=.bool (p a)/\K=H)) (hw:St B w0 H w):
 CX B w0 341 [.slice A l.length cap,.func (.func f) #[] cs.toArray] w λv K=>v=.bool (l.any p)/\K=H:=by
 refine Ya Tryz.func341 Tryz.ntmps341 rfl rfl hw ?_
 have hia:=Vz p l 0 (by omega)
 repeat'(first|((apply Yb Yw7);exact za;exact rfl;exactλ_ hw=>(YeA val p l f cs hen hlen hr hp hw))|refine zga ?_|(refine zgf ?_ ?_<;>intro _<;>try exact zo)|fail)
 all_goals(apply Yd;exact rfl;exact rfl)
 ·rename_i h;exact⟨by rw[hia.1 h],rfl⟩
 ·rename_i h
  have:¬l.any p=true:=λe=>by have:=hia.2 e;omega
  exact⟨by rw[Sj.2 this],rfl⟩
theorem YeB(val:α->Value)(p:α->Bool)(l:List α)(f:Nat)(cs:List Value)(hen:∀xs w,(callFunc f xs).run Tryz.prog w=.ok (.enter f xs) w)(hlen:l.length<=9223372036854775807)(hr:Rd B w0 H A (l.flatMap λa=>[val a]))
 (hp:∀a∈l,∀w,St B w0 H w->Calls Tryz.prog f ([val a]++cs).toArray w (Post B w0 λv K=>v=.bool (p a)/\K=H)) (hw:St B w0 H w):
 CX B w0 393 [.slice A l.length cap,.func (.func f) #[] cs.toArray] w λv K=>v=.int .i64 (Ym p l 0)/\K=H:=by
 refine Ya Tryz.func393 Tryz.ntmps393 rfl rfl hw ?_
 refine zX7 ?_
 refine Ye (λ(k:Nat)=>[(8,.int .i64 k),(7,.int .i64 l.length),(0,.slice A l.length cap),(1,.func (.func f) #[] cs.toArray)]) (λ_=>H) (λk=>k<=l.length/\Ym p l 0=Ym p (l.drop k) k) (λk=>l.length-k) 0 ⟨Td _,by simp⟩ ?_ (λw hw=>hw) ?_
 ·exact zc1
 rintro k ⟨hk,hi⟩ K hK
 by_cases hlt:k<l.length
 ·obtain⟨a,ha⟩:∃a,l[k]? =some a:=⟨_,Ta hlt⟩
  have hpa:=hp a (Tc ha)
  rw[Z9 p l ha]at hi
  refine zX9 ?_<;>intros
  cases hpv:p a
  ·rw[hpv]at hi
   refine zX10 ?_
   apply hK (k+1)
   ·grind
   ·omega
   ·exact zc1
   exact zc21
  exact zc11
 exact zc6
theorem UN(val:α->Value)(p:α->Bool)(l:List α)(f:Nat)(cs:List Value)(hen:∀xs w,(callFunc f xs).run Tryz.prog w=.ok (.enter f xs) w)(hlen:l.length<=9223372036854775807)(hr:Rd B w0 H A (l.flatMap λa=>[val a]))
 (hp:∀a∈l,∀w,St B w0 H w->Calls Tryz.prog f ([val a]++cs).toArray w (Post B w0 λv K=>v=.bool (p a)/\K=H)) (hw:St B w0 H w):
 CX B w0 337 [.slice A l.length cap,.func (.func f) #[] cs.toArray] w λv K=>v=.bool (l.any p)/\K=H:=by
 refine Ya Tryz.func337 Tryz.ntmps337 rfl rfl hw ?_
 have hia:=Vz p l 0 (by omega)
 repeat'(first|((apply Yb Yw6);exact za;exact rfl;exactλ_ hw=>(YeB val p l f cs hen hlen hr hp hw))|refine zga ?_|(refine zgf ?_ ?_<;>intro _<;>try exact zo)|fail)
 all_goals(apply Yd;exact rfl;exact rfl)
 ·rename_i h;exact⟨by rw[hia.1 h],rfl⟩
 ·rename_i h
  have:¬l.any p=true:=λe=>by have:=hia.2 e;omega
  exact⟨by rw[Sj.2 this],rfl⟩
theorem Ydq(val:α->Value)(p:α->Bool)(l:List α)(f:Nat)(cs:List Value)(hen:∀xs w,(callFunc f xs).run Tryz.prog w=.ok (.enter f xs) w)(hlen:l.length<=9223372036854775807)(hr:Rd B w0 H A (l.flatMap λa=>[val a]))
 (hp:∀a∈l,∀w,St B w0 H w->Calls Tryz.prog f ([val a]++cs).toArray w (Post B w0 λv K=>v=.bool (p a)/\K=H)) (hw:St B w0 H w):
 CX B w0 344 [.slice A l.length cap,.func (.func f) #[] cs.toArray] w λv K=>v=.int .i64 (Ym p l 0)/\K=H:=by
 refine Ya Tryz.func344 Tryz.ntmps344 rfl rfl hw ?_
 refine zX7 ?_
 refine Ye (λ(k:Nat)=>[(8,.int .i64 k),(7,.int .i64 l.length),(0,.slice A l.length cap),(1,.func (.func f) #[] cs.toArray)]) (λ_=>H) (λk=>k<=l.length/\Ym p l 0=Ym p (l.drop k) k) (λk=>l.length-k) 0 ⟨Td _,by simp⟩ ?_ (λw hw=>hw) ?_
 ·exact zc1
 rintro k ⟨hk,hi⟩ K hK
 by_cases hlt:k<l.length
 ·obtain⟨a,ha⟩:∃a,l[k]? =some a:=⟨_,Ta hlt⟩
  have hpa:=hp a (Tc ha)
  rw[Z9 p l ha]at hi
  refine zX9 ?_<;>intros
  cases hpv:p a
  ·rw[hpv]at hi
   refine zX10 ?_
   apply hK (k+1)
   ·grind
   ·omega
   ·exact zc1
   exact zc21
  exact zc11
 exact zc6
theorem QT(val:α->Value)(p:α->Bool)(l:List α)(f:Nat)(cs:List Value)(hen:∀xs w,(callFunc f xs).run Tryz.prog w=.ok (.enter f xs) w)(hlen:l.length<=9223372036854775807)(hr:Rd B w0 H A (l.flatMap λa=>[val a]))
 (hp:∀a∈l,∀w,St B w0 H w->Calls Tryz.prog f ([val a]++cs).toArray w (Post B w0 λv K=>v=.bool (p a)/\K=H)) (hw:St B w0 H w):
 CX B w0 283 [.slice A l.length cap,.func (.func f) #[] cs.toArray] w λv K=>v=.bool (l.any p)/\K=H:=by
 refine Ya Tryz.func283 Tryz.ntmps283 rfl rfl hw ?_
 have hia:=Vz p l 0 (by omega)
 repeat'(first|((apply Yb YwR);exact za;exact rfl;exactλ_ hw=>(Ydq val p l f cs hen hlen hr hp hw))|refine zga ?_|(refine zgf ?_ ?_<;>intro _<;>try exact zo)|fail)
 all_goals(apply Yd;exact rfl;exact rfl)
 ·rename_i h;exact⟨by rw[hia.1 h],rfl⟩
 ·rename_i h
  have:¬l.any p=true:=λe=>by have:=hia.2 e;omega
  exact⟨by rw[Sj.2 this],rfl⟩
theorem Ynz(x:Int)(hw:St B w0 H w):CX B w0 231 [.int .i64 x] w λv K=>v=.bool false/\K=H:=by
 refine Ya Tryz.func231 Tryz.ntmps231 rfl rfl hw ?_
 repeat'(first|((refine zs16 ?_ ?_<;>intro _<;>try(omega)))|refine zga ?_|fail)
 exact zc24
theorem WY(x y:Int)(hw:St B w0 H w):CX B w0 147 [.int .i64 x,.int .i64 y] w λv K=>v=.int .i64 (cmpI x y)/\K=H:=by
 refine Ya Tryz.func147 Tryz.ntmps147 rfl rfl hw ?_
 unfold cmpI
 repeat'(first|((apply Yb Ywh);exact za;exact rfl;exactλ_ hw=>(Ynz _ hw))|refine zgb ?_|(refine zge ?_ ?_<;>intro _<;>try exact zo)|fail)
 all_goals(((repeat apply Yi);apply Yd;exact rfl;exact rfl;refine⟨TF _ ?_,rfl⟩);(repeat(first|refine Xm (by omega) ?_|refine Xn (by omega) ?_));rfl)
end Go.Proofs.YtjommdkgfbhbdaaGreatDoor
