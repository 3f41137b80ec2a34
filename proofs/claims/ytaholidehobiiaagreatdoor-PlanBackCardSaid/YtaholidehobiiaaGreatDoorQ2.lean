/- Lemmas for the claim, part 2. -/
import Derived.Maps.AppendAt
import Derived.Laws.StructEq
import Derived.ChangeKeysEq
import Derived.MapKept
import Derived.Maps.RangeRun
import Derived.Test.YtaholidehobiiaaGreatDoorQ1
set_option maxRecDepth 100000
set_option maxHeartbeats 8000000
set_option linter.all false
namespace Go.Eng
open Go.RowKit
def YcU(P:Program)(t:TypeId):Bool:=
 match P.underlying t with
 |some (.struct _)|some (.array _ _)|none=>false
 |some _=>true
def aggT(P:Program)(t:TypeId):Option Nat:=
 match P.underlying t with
 |some (.struct _)|some (.array _ _)=>(P.info? t).map (·.size)
 |_=>none
def OG(P:Program)(s f:Nat):Option Nat:=
 match P.underlying s with
 |some (.struct fs)=>(fs[f]?).bind λfld=>(P.info? fld.type).bind λi=>if i.size=0 then none else some fld.offset
 |_=>none
def YeH(P:Program)(t:TypeId):Option (Nat×Nat×Nat):=
 match P.underlying t with
 |some (.slice e)=>(P.info? e).bind λi=>i.zero.bind λz=>if z.cells.size=i.size/\0<i.size/\0<i.bytes then some (e,i.size,i.bytes)else none
 |_=>none
def Ydg(P:Program)(t:TypeId):Option (Nat×Nat×Nat):=
 match P.underlying t with
 |some (.array n e)=>(P.info? e).map λi=>(n,e,i.size)
 |_=>none
def intT(P:Program)(t:TypeId):Option IntKind:=
 match P.underlying t with
 |some (.int k)=>some k
 |_=>none
def Yid(P:Program)(t:TypeId):Bool:=
 match P.underlying t with
 |some .string=>true
 |_=>false
def oneT(P:Program)(t:TypeId):Bool:=YcU P t&&((P.info? t).map (·.size))==some 1
def look{β:Type}:List (Nat×β)->Nat->Option β
 |[],_=>none
 |(s,v)::l,t=>if s=t then some v else look l t
theorem Vz{β:Type}:∀{l:List (Nat×β)}{t:Nat}{v:β},look l t=some v->(t,v)∈l
 |(s,u)::l,t,v,h=>by
  by_cases e:s=t
  ·simp_all [look]
  ·rw[look,Tf e]at h;exact TA _ (Vz h)
def OM:List (Nat×Nat×Nat)->Nat->Nat->Option Nat
 |[],_,_=>none
 |(s,f,v)::l,t,g=>if s=t then(if f=g then some v else OM l t g)else OM l t g
theorem Ybx:∀{l:List (Nat×Nat×Nat)}{t g v:Nat},OM l t g=some v->(t,g,v)∈l
 |(s,f,u)::l,t,g,v,h=>by
  by_cases e:s=t
  ·subst e
   rw[OM,Tn rfl]at h
   by_cases e':f=g
   ·simp_all
   ·rw[Tf e']at h;exact TA _ (Ybx h)
  ·rw[OM,Tf e]at h;exact TA _ (Ybx h)
structure Tab(P:Program) where
 sc:List (Nat×Unit)
 ag:List (Nat×Nat)
 fo:List (Nat×Nat×Nat)
 sl:List (Nat×(Nat×Nat×Nat))
 ar:List (Nat×(Nat×Nat×Nat))
 ik:List (Nat×IntKind)
 st:List (Nat×Unit)
 sc_ok:(sc.all λx=>oneT P x.1)=true
 ag_ok:(ag.all λx=>aggT P x.1==some x.2)=true
 fo_ok:(fo.all λx=>OG P x.1 x.2.1==some x.2.2)=true
 sl_ok:(sl.all λx=>YeH P x.1==some x.2)=true
 ar_ok:(ar.all λx=>Ydg P x.1==some x.2)=true
 ik_ok:(ik.all λx=>decide (intT P x.1=some x.2))=true
 st_ok:(st.all λx=>Yid P x.1)=true
section
variable {P:Program}(T:Tab P)
variable {t k s f e:Nat}
theorem Tab.scal(h:look T.sc t=some ()):YcU P t=true/\(P.info? t).map (·.size)=some 1:=by
 have:=TF.1 T.sc_ok _ (Vz h)
 grind [oneT]
theorem Tab.aggs(h:look T.ag t=some k):aggT P t=some k:=by simpa using TF.1 T.ag_ok _ (Vz h)
theorem Tab.offs(h:OM T.fo s f=some k):OG P s f=some k:=by simpa using TF.1 T.fo_ok _ (Ybx h)
theorem Tab.slic{b:Nat}(h:look T.sl t=some (e,k,b)):YeH P t=some (e,k,b):=by simpa using TF.1 T.sl_ok _ (Vz h)
theorem Tab.arra{m:Nat}(h:look T.ar t=some (m,e,k)):Ydg P t=some (m,e,k):=by simpa using TF.1 T.ar_ok _ (Vz h)
theorem Tab.strs(h:look T.st t=some ()):P.underlying t=some .string:=by
 have:=TF.1 T.st_ok _ (Vz h)
 grind [Yid]
theorem Tab.ints{k:IntKind}(h:look T.ik t=some k):intT P t=some k:=by simpa using TF.1 T.ik_ok _ (Vz h)
end
variable {P:Program}
theorem Ygk{t:TypeId}{k:IntKind}(h:intT P t=some k):P.underlying t=some (.int k):=by
 grind [intT]
theorem ZC{t:TypeId}(h:YcU P t=true)(w:World):(isAgg t).run P w=.ok false w:=by
 unfold YcU at h
 cases hu:P.underlying t with
 |none=>simp_all
 |some d=>rw[hu]at h;cases d<;>first|(simp[isAgg,run_underlying hu];done)|cases h
variable {k:Nat}
theorem Z8{t:TypeId}(h:aggT P t=some k)(w:World):(isAgg t).run P w=.ok true w:=by
 unfold aggT at h
 cases hu:P.underlying t with
 |none=>simp_all
 |some d=>rw[hu]at h;cases d<;>first|(simp[isAgg,run_underlying hu];done)|cases h
theorem Zw{t:TypeId}(h:(P.info? t).map (·.size)=some k)(w:World):(sizeOf t).run P w=.ok k w:=by
 cases hi:P.info? t with
 |none=>simp_all
 |some i=>simp_all [sizeOf,typeInfo]
theorem J7{t:TypeId}(h:aggT P t=some k):(P.info? t).map (·.size)=some k:=by
 grind [aggT]
def nth:List Value->Nat->Option Value
 |[],_=>none
 |v::_,0=>some v
 |_::l,i+1=>nth l i
theorem YlN:∀(l:List Value) (i:Nat),nth l i=l[i]?
 |[],i=>by simp[nth]
 |v::l,0=>by simp[nth]
 |v::l,i+1=>by simp[nth,YlN l i]
theorem YhG(cs:Array Value)(i:Nat):nth cs.toList i=cs[i]? :=by simp[YlN]
section
variable {P:Program}{m:Mode}{n:Shp}{B:Nat}{w0:World}{Q:Exit->Act->World->Prop}{env:Env}{H:List HP}{ops:Array Oper}{rest:List Oper}
variable {d:Nat}{ty:TypeId}{pos:String}{after:Array Edge}
variable {x c y:Operand}{v z:Value}
theorem Ys5(hx:evo env x=some v)(hn:Nat.ble (d+1) n.k=true)(h:VL P m n B w0 ops Q rest ((d,v)::env) H):
 VL P m n B w0 ops Q (⟨some d,.move x,ty,pos,after,none⟩::rest) env H:=
 YF rfl rfl hn rfl (λa w ha _=>by simp[execOp,ha.eval hx]) h
theorem Yof(hx:evo env x=some v)(hn:Nat.ble (d+1) n.k=true)(h:VL P m n B w0 ops Q rest ((d,v)::env) H):
 VL P m n B w0 ops Q (⟨some d,.assign x,ty,pos,after,none⟩::rest) env H:=
 YF rfl rfl hn rfl (λa w ha _=>by simp[execOp,ha.eval hx]) h
theorem Yha(hc:evo env c=some (.bool true))(hx:evo env x=some v)(hn:Nat.ble (d+1) n.k=true)(h:VL P m n B w0 ops Q rest ((d,v)::env) H):
 VL P m n B w0 ops Q (⟨some d,.pick c x y,ty,pos,after,none⟩::rest) env H:=
 YF rfl rfl hn rfl (λa w ha _=>by simp[execOp,ha.eval hx,ha.eval hc,asBool]) h
theorem Yfb(hc:evo env c=some (.bool false))(hx:evo env y=some v)(hn:Nat.ble (d+1) n.k=true)(h:VL P m n B w0 ops Q rest ((d,v)::env) H):
 VL P m n B w0 ops Q (⟨some d,.pick c x y,ty,pos,after,none⟩::rest) env H:=
 YF rfl rfl hn rfl (λa w ha _=>by simp[execOp,ha.eval hx,ha.eval hc,asBool]) h
theorem Yiz{p:Addr}(hx:evo env x=some (.pointer (some p)))(hn:Nat.ble (d+1) n.k=true)(h:VL P m n B w0 ops Q rest ((d,.pointer (some p))::env) H):
 VL P m n B w0 ops Q (⟨some d,.nilCheck x,ty,pos,after,none⟩::rest) env H:=
 YF rfl rfl hn rfl (λa w ha _=>by simp[execOp,ha.eval hx]) h
variable {i s f k g t:Nat}
theorem YkT{vs:Array Value}(hx:evo env x=some (.tuple vs))(hv:nth vs.toList i=some v)(hn:Nat.ble (d+1) n.k=true)(h:VL P m n B w0 ops Q rest ((d,v)::env) H):
 VL P m n B w0 ops Q (⟨some d,.extract x i,ty,pos,after,none⟩::rest) env H:=
 YF rfl rfl hn rfl (λa w ha _=>by rw[YhG]at hv;simp[execOp,ha.eval hx,Instr.extract,hv]) h
variable {xt tt:TypeId}
theorem Yqp{b:Bool}(hx:evo env x=some (.bool b))(hn:Nat.ble (d+1) n.k=true)(h:VL P m n B w0 ops Q rest ((d,.bool (!b))::env) H):
 VL P m n B w0 ops Q (⟨some d,.unOp .not xt x,ty,pos,after,none⟩::rest) env H:=
 YF rfl rfl hn rfl (λa w ha _=>by simp[execOp,ha.eval hx,Op.unary]) h
theorem YiA(hx:evo env x=some (.bool true))(hn:Nat.ble (d+1) n.k=true)(h:VL P m n B w0 ops Q rest ((d,.bool false)::env) H):
 VL P m n B w0 ops Q (⟨some d,.unOp .not xt x,ty,pos,after,none⟩::rest) env H:=Yqp hx hn h
theorem Yg7(hx:evo env x=some (.bool false))(hn:Nat.ble (d+1) n.k=true)(h:VL P m n B w0 ops Q rest ((d,.bool true)::env) H):
 VL P m n B w0 ops Q (⟨some d,.unOp .not xt x,ty,pos,after,none⟩::rest) env H:=Yqp hx hn h
theorem Xc{op:BinOp}{yt:TypeId}{u:Value}(hx:evo env x=some u)(hy:evo env y=some v)(hn:Nat.ble (d+1) n.k=true)
 (hg:∀w,(eqGuard op xt x y u v).run P w=.ok () w) (hb:∀w,(binOp op xt u v).run P w=.ok z w)
 (h:VL P m n B w0 ops Q rest ((d,z)::env) H):VL P m n B w0 ops Q (⟨some d,.binOp op xt x y yt,ty,pos,after,none⟩::rest) env H:=
 YF rfl rfl hn rfl (λa w ha _=>by simp[execOp,ha.eval hx,ha.eval hy,hg w,hb w]) h
section
variable {xt yt:TypeId}{x y:Operand}{k:IntKind}{a b:Int}
theorem Yqg(hx:evo env x=some (.int k a))(hy:evo env y=some (.int k b))(hn:Nat.ble (d+1) n.k=true)(h:VL P m n B w0 ops Q rest ((d,.int k (k.wrap (a+b)))::env) H):
 VL P m n B w0 ops Q (⟨some d,.binOp .add xt x y yt,ty,pos,after,none⟩::rest) env H:=Xc hx hy hn (λ_=>rfl) (λ_=>by rw[binOp_add];rfl) h
theorem Yqw(hx:evo env x=some (.int k a))(hy:evo env y=some (.int k b))(hn:Nat.ble (d+1) n.k=true)(h:VL P m n B w0 ops Q rest ((d,.int k (k.wrap (a-b)))::env) H):
 VL P m n B w0 ops Q (⟨some d,.binOp .sub xt x y yt,ty,pos,after,none⟩::rest) env H:=Xc hx hy hn (λ_=>rfl) (λ_=>by rw[binOp_sub];rfl) h
theorem Yqm(hx:evo env x=some (.int k a))(hy:evo env y=some (.int k b))(hn:Nat.ble (d+1) n.k=true)(h:VL P m n B w0 ops Q rest ((d,.int k (k.wrap (a*b)))::env) H):
 VL P m n B w0 ops Q (⟨some d,.binOp .mul xt x y yt,ty,pos,after,none⟩::rest) env H:=Xc hx hy hn (λ_=>rfl) (λ_=>by rw[binOp_mul];rfl) h
theorem Yv9(hx:evo env x=some (.int .i64 a))(hy:evo env y=some (.int .i64 b))(hn:Nat.ble (d+1) n.k=true)(hb: -9223372036854775808<=a+b/\a+b<=9223372036854775807)(h:VL P m n B w0 ops Q rest ((d,.int .i64 (a+b))::env) H):
 VL P m n B w0 ops Q (⟨some d,.binOp .add xt x y yt,ty,pos,after,none⟩::rest) env H:=by grind [Yqg,Go.IntWalk.i64_in]
theorem Ywn(hx:evo env x=some (.int .i64 a))(hy:evo env y=some (.int .i64 b))(hn:Nat.ble (d+1) n.k=true)(hb: -9223372036854775808<=a-b/\a-b<=9223372036854775807)(h:VL P m n B w0 ops Q rest ((d,.int .i64 (a-b))::env) H):
 VL P m n B w0 ops Q (⟨some d,.binOp .sub xt x y yt,ty,pos,after,none⟩::rest) env H:=by grind [Yqw,Go.IntWalk.i64_in]
theorem Ywg(hx:evo env x=some (.int .i64 a))(hy:evo env y=some (.int .i64 b))(hn:Nat.ble (d+1) n.k=true)(hb: -9223372036854775808<=a*b/\a*b<=9223372036854775807)(h:VL P m n B w0 ops Q rest ((d,.int .i64 (a*b))::env) H):
 VL P m n B w0 ops Q (⟨some d,.binOp .mul xt x y yt,ty,pos,after,none⟩::rest) env H:=Yqm hx hy hn (by rw[IntWalk.i64_in _ hb];exact h)
theorem YiE(hx:evo env x=some (.int k a))(hy:evo env y=some (.int k b))(hn:Nat.ble (d+1) n.k=true)(hb:b≠0)(h:VL P m n B w0 ops Q rest ((d,.int k (k.wrap (a.tdiv b)))::env) H):
 VL P m n B w0 ops Q (⟨some d,.binOp .quo xt x y yt,ty,pos,after,none⟩::rest) env H:=Xc hx hy hn (λ_=>rfl) (λ_=>by rw[binOp_quo];simp[Op.intDiv,hb]) h
theorem Yqt(hx:evo env x=some (.int k a))(hy:evo env y=some (.int k b))(hn:Nat.ble (d+1) n.k=true)(hb:b≠0)(h:VL P m n B w0 ops Q rest ((d,.int k (a.tmod b))::env) H):
 VL P m n B w0 ops Q (⟨some d,.binOp .rem xt x y yt,ty,pos,after,none⟩::rest) env H:=Xc hx hy hn (λ_=>rfl) (λ_=>by rw[binOp_rem];simp[Op.intDiv,hb]) h
theorem Ywj(hx:evo env x=some (.int .i64 a))(hy:evo env y=some (.int .i64 b))(hn:Nat.ble (d+1) n.k=true)(hb:0<=a/\a<=9223372036854775807/\1<=b)(h:VL P m n B w0 ops Q rest ((d,.int .i64 (a/b))::env) H):
 VL P m n B w0 ops Q (⟨some d,.binOp .quo xt x y yt,ty,pos,after,none⟩::rest) env H:=by
 refine YiE hx hy hn (by omega) ?_
 have h1:a/b<=a:=Int.ediv_le_self _ hb.1
 have h2:0<=a/b:=Int.ediv_nonneg hb.1 (by omega)
 rw[Int.tdiv_eq_ediv_of_nonneg hb.1,IntWalk.i64_in _ (by omega)]
 exact h
theorem Ywk(hx:evo env x=some (.int k a))(hy:evo env y=some (.int k b))(hn:Nat.ble (d+1) n.k=true)(hb:0<=a/\1<=b)(h:VL P m n B w0 ops Q rest ((d,.int k (a%b))::env) H):
 VL P m n B w0 ops Q (⟨some d,.binOp .rem xt x y yt,ty,pos,after,none⟩::rest) env H:=by
 refine Yqt hx hy hn (by omega) ?_
 rw[RE hb.1]
 exact h
theorem Ywf(hx:evo env x=some (.int k a))(hy:evo env y=some (.int k b))(hn:Nat.ble (d+1) n.k=true)(h1:a<b->VL P m n B w0 ops Q rest ((d,.bool true)::env) H)(h2:b<=a->VL P m n B w0 ops Q rest ((d,.bool false)::env) H):
 VL P m n B w0 ops Q (⟨some d,.binOp .lss xt x y yt,ty,pos,after,none⟩::rest) env H:=by
 by_cases hc:a<b
 ·exact Xc hx hy hn (λ_=>rfl) (λ_=>by rw[binOp_lss,Td hc];rfl) (h1 hc)
 ·exact Xc hx hy hn (λ_=>rfl) (λ_=>by rw[binOp_lss,Ti hc];rfl) (h2 (by omega))
theorem Ywe(hx:evo env x=some (.int k a))(hy:evo env y=some (.int k b))(hn:Nat.ble (d+1) n.k=true)(h1:a<=b->VL P m n B w0 ops Q rest ((d,.bool true)::env) H)(h2:b<a->VL P m n B w0 ops Q rest ((d,.bool false)::env) H):
 VL P m n B w0 ops Q (⟨some d,.binOp .leq xt x y yt,ty,pos,after,none⟩::rest) env H:=by
 by_cases hc:a<=b
 ·exact Xc hx hy hn (λ_=>rfl) (λ_=>by rw[binOp_leq,Td hc];rfl) (h1 hc)
 ·exact Xc hx hy hn (λ_=>rfl) (λ_=>by rw[binOp_leq,Ti hc];rfl) (h2 (by omega))
theorem Ywc(hx:evo env x=some (.int k a))(hy:evo env y=some (.int k b))(hn:Nat.ble (d+1) n.k=true)(h1:b<a->VL P m n B w0 ops Q rest ((d,.bool true)::env) H)(h2:a<=b->VL P m n B w0 ops Q rest ((d,.bool false)::env) H):
 VL P m n B w0 ops Q (⟨some d,.binOp .gtr xt x y yt,ty,pos,after,none⟩::rest) env H:=by
 by_cases hc:a>b
 ·exact Xc hx hy hn (λ_=>rfl) (λ_=>by rw[binOp_gtr,Td hc];rfl) (h1 hc)
 ·exact Xc hx hy hn (λ_=>rfl) (λ_=>by rw[binOp_gtr,Ti hc];rfl) (h2 (by omega))
theorem Ywb(hx:evo env x=some (.int k a))(hy:evo env y=some (.int k b))(hn:Nat.ble (d+1) n.k=true)(h1:b<=a->VL P m n B w0 ops Q rest ((d,.bool true)::env) H)(h2:a<b->VL P m n B w0 ops Q rest ((d,.bool false)::env) H):
 VL P m n B w0 ops Q (⟨some d,.binOp .geq xt x y yt,ty,pos,after,none⟩::rest) env H:=by
 by_cases hc:a≥b
 ·exact Xc hx hy hn (λ_=>rfl) (λ_=>by rw[binOp_geq,Td hc];rfl) (h1 hc)
 ·exact Xc hx hy hn (λ_=>rfl) (λ_=>by rw[binOp_geq,Ti hc];rfl) (h2 (by omega))
theorem Ywa(hx:evo env x=some (.int k a))(hy:evo env y=some (.int k b))(hn:Nat.ble (d+1) n.k=true)(h1:a=b->VL P m n B w0 ops Q rest ((d,.bool true)::env) H)(h2:a≠b->VL P m n B w0 ops Q rest ((d,.bool false)::env) H):
 VL P m n B w0 ops Q (⟨some d,.binOp .eql xt x y yt,ty,pos,after,none⟩::rest) env H:=by
 by_cases hc:a=b
 ·exact Xc hx hy hn (λ_=>rfl) (λ_=>by rw[binOp_eql,S5.2 hc];rfl) (h1 hc)
 ·exact Xc hx hy hn (λ_=>rfl) (λ_=>by rw[binOp_eql,beq_eq_false_iff_ne.2 hc];rfl) (h2 hc)
theorem Ywi(hx:evo env x=some (.int k a))(hy:evo env y=some (.int k b))(hn:Nat.ble (d+1) n.k=true)(h1:a≠b->VL P m n B w0 ops Q rest ((d,.bool true)::env) H)(h2:a=b->VL P m n B w0 ops Q rest ((d,.bool false)::env) H):
 VL P m n B w0 ops Q (⟨some d,.binOp .neq xt x y yt,ty,pos,after,none⟩::rest) env H:=by
 by_cases hc:a=b
 ·exact Xc hx hy hn (λ_=>rfl) (λ_=>by rw[binOp_neq];simp[hc]) (h2 hc)
 ·exact Xc hx hy hn (λ_=>rfl) (λ_=>by rw[binOp_neq];simp[hc]) (h1 hc)
variable {yk j:IntKind}
theorem Ywm(hx:evo env x=some (.int k a))(hy:evo env y=some (.int yk b))(hn:Nat.ble (d+1) n.k=true)(hb:0<=b/\b<=k.bits)(h:VL P m n B w0 ops Q rest ((d,.int k (a/2^b.toNat))::env) H):
 VL P m n B w0 ops Q (⟨some d,.binOp .shr xt x y yt,ty,pos,after,none⟩::rest) env H:=
 Xc hx hy hn (λ_=>rfl) (λ_=>by rw[binOp_shr,shift_shr _ _ _ _ hb.1 hb.2];rfl) h
theorem Ywl(hx:evo env x=some (.int k a))(hy:evo env y=some (.int yk b))(hn:Nat.ble (d+1) n.k=true)(hb:0<=b/\b<=k.bits)(h:VL P m n B w0 ops Q rest ((d,.int k (k.wrap (a*2^b.toNat)))::env) H):
 VL P m n B w0 ops Q (⟨some d,.binOp .shl xt x y yt,ty,pos,after,none⟩::rest) env H:=
 Xc hx hy hn (λ_=>rfl) (λ_=>by rw[binOp_shl,shift_shl _ _ _ _ hb.1 hb.2];rfl) h
theorem Yqu{D:Int}(hx:evo env x=some (.int k a))(hn:Nat.ble (d+1) n.k=true)(hb:0<=b/\b<=k.bits)(hD:(2:Int)^b.toNat=D)(h:VL P m n B w0 ops Q rest ((d,.int k (a/D))::env) H):
 VL P m n B w0 ops Q (⟨some d,.binOp .shr xt x (.const (.int yk b)) yt,ty,pos,after,none⟩::rest) env H:=
 Ywm hx (y:=.const (.int yk b)) rfl hn hb (by rw[hD];exact h)
theorem Ywo(hx:evo env x=some (.int k a))(hy:evo env y=some (.int k b))(hn:Nat.ble (d+1) n.k=true)(h:VL P m n B w0 ops Q rest ((d,.int k (bits .xor k a b))::env) H):
 VL P m n B w0 ops Q (⟨some d,.binOp .xor xt x y yt,ty,pos,after,none⟩::rest) env H:=Xc hx hy hn (λ_=>rfl) (λ_=>by rw[binOp_xor];rfl) h
variable {src dst:TypeId}
theorem YmD(T:Tab P)(hx:evo env x=some (.int k a))(hs:look T.ik src=some j){kd:IntKind}(ht:look T.ik dst=some kd)(hn:Nat.ble (d+1) n.k=true)(h:VL P m n B w0 ops Q rest ((d,.int kd (kd.wrap a))::env) H):
 VL P m n B w0 ops Q (⟨some d,.convert src dst x,ty,pos,after,none⟩::rest) env H:=by
 refine YF rfl rfl hn rfl (λf w ha _=>?_) h
 simp[execOp,ha.eval hx,convert,run_underlying (Ygk (T.ints hs)),run_underlying (Ygk (T.ints ht)),Conv.intToInt]
theorem YkS(T:Tab P)(hx:evo env x=some (.int k a))(hs:look T.ik src=some j)(ht:look T.ik dst=some .i64)(hn:Nat.ble (d+1) n.k=true)(hb: -9223372036854775808<=a/\a<=9223372036854775807)
 (h:VL P m n B w0 ops Q rest ((d,.int .i64 a)::env) H):VL P m n B w0 ops Q (⟨some d,.convert src dst x,ty,pos,after,none⟩::rest) env H:=
 YmD T hx hs ht hn (by rw[IntWalk.i64_in _ hb];exact h)
end
theorem Yau(s t:ByteArray):(s.toList==t.toList)=true↔s=t:=by
 rw[S5]
 constructor
 ·intro h
  rw[ByteArray.toList_eq,ByteArray.toList_eq]at h
  cases s;cases t
  simp at h
  rw[h]
 ·rintro rfl;rfl
section
variable {xt yt:TypeId}{x y:Operand}{s t:ByteArray}
theorem Ys9(hx:evo env x=some (.string s))(hy:evo env y=some (.string t))(hn:Nat.ble (d+1) n.k=true)(h1:s=t->VL P m n B w0 ops Q rest ((d,.bool true)::env) H)(h2:s≠t->VL P m n B w0 ops Q rest ((d,.bool false)::env) H):
 VL P m n B w0 ops Q (⟨some d,.binOp .eql xt x y yt,ty,pos,after,none⟩::rest) env H:=by
 by_cases hc:s=t
 ·exact Xc hx hy hn (λ_=>rfl) (λ_=>by simp[binOp,Op.stringOp,hc]) (h1 hc)
 ·refine Xc hx hy hn (λ_=>rfl) (λ_=>?_) (h2 hc)
  have:(s.toList==t.toList)=false:=by rw[NG];exactλe=>hc ((Yau s t).1 e)
  simp only[binOp,Op.stringOp,this];rfl
theorem Ys8(hx:evo env x=some (.string s))(hy:evo env y=some (.string t))(hn:Nat.ble (d+1) n.k=true)(hb:s.size+t.size<=9223372036854775807)(h:VL P m n B w0 ops Q rest ((d,.string (s++t))::env) H):
 VL P m n B w0 ops Q (⟨some d,.binOp .add xt x y yt,ty,pos,after,none⟩::rest) env H:=by
 refine Xc hx hy hn (λ_=>rfl) (λ_=>?_) h
 have:¬((s.size+t.size:Nat):Int)>IntKind.i64.max:=by rw[IntKind.max_i64];omega
 simp only[binOp,Op.stringOp,Tf this];rfl
theorem Yta(T:Tab P)(hx:evo env x=some (.string s)){tx:TypeId}(ht:look T.st tx=some ())(hn:Nat.ble (d+1) n.k=true)(h:VL P m n B w0 ops Q rest ((d,.int .i64 s.size)::env) H):
 VL P m n B w0 ops Q (⟨some d,.call ⟨.builtin .len,#[x],#[tx]⟩,ty,pos,after,none⟩::rest) env H:=
 YF rfl rfl hn rfl (λf w ha _=>by simp[execOp,resolve,invoke,builtin,ha.eval hx,Builtin.len_,run_underlying (T.strs ht),goInt]) h
end
theorem Yg4(T:Tab P)(hx:evo env x=some (.pointer (some ⟨g,i,none⟩)))(hf:OM T.fo s f=some k)(hn:Nat.ble (d+1) n.k=true)
 (h:VL P m n B w0 ops Q rest ((d,.pointer (some ⟨g,i+k,none⟩))::env) H):VL P m n B w0 ops Q (⟨some d,.fieldAddr s x f,ty,pos,after,none⟩::rest) env H:=by
 refine YF rfl rfl hn rfl (λa w ha _=>?_) h
 have h1:=T.offs hf
 unfold OG at h1
 split at h1
 ·rename_i fs hu
  cases hfl:fs[f]? with
  |none=>rw[hfl]at h1;cases h1
  |some fld=>
   rw[hfl]at h1
   simp only[Nk]at h1
   cases hi:P.info? fld.type with
   |none=>rw[hi]at h1;cases h1
   |some inf=>
    rw[hi]at h1
    simp only[Nk]at h1
    by_cases hz:inf.size=0
    ·rw[Tn hz]at h1;cases h1
    ·rw[Tf hz]at h1
     have h2:fld.offset=k:=by simpa using h1
     subst h2
     simp[execOp,ha.eval hx,Instr.fieldAt,run_underlying hu,hfl,Instr.sureAddr,fieldPlace,sizeOf,typeInfo,hi,hz,Addr.add_lit]
 ·cases h1
variable {cs:Array Value}{fr:Nat×Nat}
theorem Xp{w:World}{t:TypeId}(h:w.heap[g]? =some (.cells cs t fr)):w.cell? ⟨g,i,none⟩=cs[i]? :=by simp[World.cell?,h]
theorem Ys2(T:Tab P)(hx:evo env x=some (.pointer (some ⟨g,i,none⟩)))(hm:blk g (.cells cs tt fr)∈H)(hv:nth cs.toList i=some v)
 (ht:look T.sc t=some ()) (hn:Nat.ble (d+1) n.k=true) (h:VL P m n B w0 ops Q rest ((d,v)::env) H):VL P m n B w0 ops Q (⟨some d,.load t x,ty,pos,after,none⟩::rest) env H:=by
 refine YF rfl rfl hn rfl (λa w ha hw=>?_) h
 rw[YhG]at hv
 have hc:=Xp (i:=i) (hw.blk hm).1
 simp[execOp,ha.eval hx,Instr.loadAt,Instr.sureAddr,loadVar,ZC (T.scal ht).1,hc,hv]
theorem Yfa(T:Tab P)(hx:evo env x=some (.pointer (some ⟨g,0,none⟩)))(hm:blk g (.cells cs tt fr)∈H)
 (ht:look T.ag t=some k) (hk:cs.size=k) (hn:Nat.ble (d+1) n.k=true) (h:VL P m n B w0 ops Q rest ((d,.agg cs)::env) H):
 VL P m n B w0 ops Q (⟨some d,.load t x,ty,pos,after,none⟩::rest) env H:=by
 refine YF rfl rfl hn rfl (λa w ha hw=>?_) h
 have hb:=(hw.blk hm).1
 have hl:=run_loadCells_list (P:=P) w ⟨g,0,none⟩ cs.toList (λj v hj=>by rw[Addr.add_lit,Xp hb,RH];simpa using hj)
 rw[show cs.toList.length=k by simpa using hk]at hl
 simp[execOp,ha.eval hx,Instr.loadAt,Instr.sureAddr,loadVar,Z8 (T.aggs ht),Zw (J7 (T.aggs ht)),hl]
theorem Yiw(T:Tab P){vs:List Value}(hx:evo env x=some (.pointer (some ⟨g,i,none⟩)))(hm:blk g (.cells cs tt fr)∈H)
 (ht:look T.ag t=some k) (hk:vs.length=k) (hv:∀j v,vs[j]? =some v->cs[i+j]? =some v) (hn:Nat.ble (d+1) n.k=true) (h:VL P m n B w0 ops Q rest ((d,.agg vs.toArray)::env) H):
 VL P m n B w0 ops Q (⟨some d,.load t x,ty,pos,after,none⟩::rest) env H:=by
 refine YF rfl rfl hn rfl (λa w ha hw=>?_) h
 have hb:=(hw.blk hm).1
 have hl:=run_loadCells_list (P:=P) w ⟨g,i,none⟩ vs (λj v hj=>by rw[Addr.add_lit,Xp hb];exact hv j v hj)
 rw[hk]at hl
 simp[execOp,ha.eval hx,Instr.loadAt,Instr.sureAddr,loadVar,Z8 (T.aggs ht),Zw (J7 (T.aggs ht)),hl]
def YfC(l:List Value)(i:Nat)(v:Value)(l':List Value):Prop:=i<l.length/\l'=l.set i v
variable {l:List Value}
theorem YeD{x:Value}:YfC (x::l) 0 v (v::l):=⟨by simp,rfl⟩
theorem Yco{x:Value}{l':List Value}(h:YfC l i v l'):YfC (x::l) (i+1) v (x::l'):=⟨by have:=h.1;simp;omega,by rw[h.2];rfl⟩
theorem Yqv(T:Tab P){cs cs':List Value}{K:List HP}(hx:evo env x=some (.pointer (some ⟨g,i,none⟩)))(hy:evo env y=some v)(h1:v.oneCell'=true)
 (hu:Upd (blk g (.cells cs.toArray tt (0,0))) (blk g (.cells cs'.toArray tt (0,0))) H K) (hs:YfC cs i v cs')
 (ht:look T.sc t=some ()) (h:VL P none n B w0 ops Q rest env K):VL P none n B w0 ops Q (⟨none,.store t x y,ty,pos,after,none⟩::rest) env H:=by
 obtain⟨hi,rfl⟩:=hs
 have hu':Upd (blk g (.cells cs.toArray tt (0,0))) (blk g (.cells (cs.toArray.setIfInBounds i v) tt (0,0))) H K:=by rw[List.setIfInBounds_toArray];exact hu
 refine Vp rfl rfl (λa w ha hw=>⟨w.setCell ⟨g,i,none⟩ v,?_,hw.setCell hu'⟩) h
 have hb:w.heap[g]? =some (.cells cs.toArray tt (0,0)):=by
  obtain⟨L1,L2,rfl,_⟩:=hu
  exact(hw.blk (by simp)).1
 have hc:=Xp (i:=i) hb
 have hcs:v.cells=#[v]:=by cases v<;>first|rfl|simp[Value.oneCell']at h1
 have hz:w.frozen? ⟨g,i,none⟩=false:=by simp[World.frozen?,hb]
 have hv:(cs.toArray)[i]? =some cs[i]:=by simp[hi]
 rw[hv]at hc
 simp[execOp,ha.eval hx,ha.eval hy,Instr.storeAt,Instr.sureAddr,storeVar,hcs,Zw (T.scal ht).2,storeCells,run_store _ _ _ _ _ h1,Addr.add_zero',hc,hz]
theorem Yr{t:TypeId}(hx:evo env x=some (.agg cs))(hn:Nat.ble (d+1) n.k=true)
 (h:∀g,VL P none n B w0 ops Q rest ((d,.pointer (some ⟨g,0,none⟩))::env) (blk g (.cells cs t (0,0))::H)):VL P none n B w0 ops Q (⟨some d,.box t x,ty,pos,after,none⟩::rest) env H:=
 XO (λv K=>∃g,v=.pointer (some ⟨g,0,none⟩)/\K=blk g (.cells cs t (0,0))::H) rfl rfl hn
  (λa w ha hw=>⟨_,_,w.alloc (.cells cs t (0,0)),by simp[execOp,ha.eval hx,Instr.box,newVar,newRow,Value.cells],hw.alloc _,w.heap.size,rfl,rfl⟩)
  (by rintro _ _ ⟨g,rfl,rfl⟩;exact h g)
theorem YkR{t:TypeId}(hx:evo env x=some v)(h1:v.cells=#[v])(hn:Nat.ble (d+1) n.k=true)
 (h:∀g,VL P none n B w0 ops Q rest ((d,.pointer (some ⟨g,0,none⟩))::env) (blk g (.cells #[v] t (0,0))::H)):VL P none n B w0 ops Q (⟨some d,.box t x,ty,pos,after,none⟩::rest) env H:=
 XO (λv' K=>∃g,v'=.pointer (some ⟨g,0,none⟩)/\K=blk g (.cells #[v] t (0,0))::H) rfl rfl hn
  (λa w ha hw=>⟨_,_,w.alloc (.cells #[v] t (0,0)),by simp[execOp,ha.eval hx,Instr.box,newVar,newRow,h1],hw.alloc _,w.heap.size,rfl,rfl⟩)
  (by rintro _ _ ⟨g,rfl,rfl⟩;exact h g)
theorem Yqh{t:TypeId}(hz:∀w,(zeroValue t).run P w=.ok z w)(hc:z.cells=cs)(hn:Nat.ble (d+1) n.k=true)
 (h:∀g,VL P none n B w0 ops Q rest ((d,.pointer (some ⟨g,0,none⟩))::env) (blk g (.cells cs t (0,0))::H)):VL P none n B w0 ops Q (⟨some d,.alloc t,ty,pos,after,none⟩::rest) env H:=
 XO (λv' K=>∃g,v'=.pointer (some ⟨g,0,none⟩)/\K=blk g (.cells cs t (0,0))::H) rfl rfl hn
  (λa w _ hw=>⟨_,_,w.alloc (.cells cs t (0,0)),by simp[execOp,Instr.alloc,hz,newVar,newRow,hc],hw.alloc _,w.heap.size,rfl,rfl⟩)
  (by rintro _ _ ⟨g,rfl,rfl⟩;exact h g)
def YbN(env:Env):List (Nat×Operand)->List (Nat×Value)->Prop
 |[],[]=>True
 |x::l,v::vs=>x.1=v.1/\evo env x.2=some v.2/\YbN env l vs
 |_,_=>False
theorem YgB{env:Env}:YbN env [] []:=trivial
theorem YlX{env:Env}{l:List (Nat×Operand)}{vs:List (Nat×Value)}(h:evo env x=some v)(hl:YbN env l vs):YbN env ((i,x)::l) ((i,v)::vs):=⟨rfl,h,hl⟩
theorem Yby{n:Shp}{a:Act}{env:Env}(ha:Fits n a env):∀(l:List (Nat×Operand)) (us:List (Nat×Value)),YbN env l us->l.map (λp=>(p.1,a.eval p.2))=us
 |[],[],_=>rfl
 |[],_::_,h=>h.elim
 |_::_,[],h=>h.elim
 |x::l,u::us,h=>by rw[Rh,ha.eval h.2.1,Yby ha l us h.2.2,h.1]
theorem Yqi{t:TypeId}{parts:List (Nat×Operand)}{ps:List (Nat×Value)}(hp:YbN env parts ps)(hb:∀w,(Instr.build t ps.toArray).run P w=.ok v w)(hn:Nat.ble (d+1) n.k=true)
 (h:VL P m n B w0 ops Q rest ((d,v)::env) H):VL P m n B w0 ops Q (⟨some d,.build t parts.toArray,ty,pos,after,none⟩::rest) env H:=by
 refine YF rfl rfl hn rfl (λa w ha _=>?_) h
 have hm:(parts.toArray.map λ(i,x)=>(i,a.eval x))=ps.toArray:=by rw[NA];exact TE List.toArray (Yby ha _ _ hp)
 simp only[execOp,hm]
 simp[hb]
end
def sl(e size:Nat)(A:Option Addr)(k cap:Nat)(xs:List Value):HP:=
 ⟨λS w=>w.ownsRow 0 e size (.slice A k cap) k xs/\∀a,A=some a->S a.block,by
  rintro S w w' hs ⟨⟨h1,h2⟩,h3⟩
  refine⟨⟨h1,?_⟩,h3⟩
  rcases h2 with h2|⟨g,c,cur,e1,e2,e3,e4⟩
  ·exact .inl h2
  ·refine .inr ⟨g,c,cur,e1,e2,?_,e4⟩
   injection e1 with e1
   rw[hs g (h3 _ e1)]
   exact e3⟩
variable {e size B k cap j t bytes:Nat}
theorem YwM(S:Nat->Prop)(w:World):(sl e size none 0 0 []).holds S w:=⟨⟨by simp,.inl ⟨rfl,rfl⟩⟩,λa h=>by cases h⟩
variable {w0 w:World}{H:List HP}
theorem St.nilSlice(h:St B w0 H w)(e size:Nat):St B w0 (sl e size none 0 0 []::H) w:=
 ⟨h.below,h.le,λ_=>False,λb=>B<=b/\b<w.heap.size,λ_ hb=>hb.elim,λ_ hb=>hb,λ_ hb=>hb.elim,YwM _ _,h.sep⟩
variable {A:Option Addr}{xs:List Value}
theorem St.sl(h:St B w0 H w)(hm:Eng.sl e size A k cap xs∈H):
 w.ownsRow 0 e size (.slice A k cap) k xs:=by
 obtain⟨S,_,h2,_⟩:=h.at_ hm
 exact h2
variable {v:Value}
theorem Ya3(h:w.ownsRow 0 e size (.slice A k cap) k xs)(hv:xs[j]? =some v):
 ∃g,A=some ⟨g,0,none⟩/\w.cell? ⟨g,j,none⟩=some v/\∃cur,w.heap[g]? =some (.cells cur e (0,0))/\cur[j]? =some v:=by
 rcases h.2 with⟨e1,e2⟩|⟨g,c,cur,e1,_,e3,_,_,_,e4⟩
 ·exfalso
  have:=h.1
  rw[e2,N9]at this
  rw[Sj this]at hv
  cases hv
 ·injection e1 with e1
  have hc:cur[j]? =some v:=by
   rw[<-e4]at hv
   rw[SE]at hv
   split at hv
   ·simpa using hv
   ·cases hv
  exact⟨g,e1,by rw[Xp e3];exact hc,cur,e3,hc⟩
theorem YJ{P:Program}(h:YeH P t=some (e,size,bytes)):
 P.underlying t=some (.slice e)/\∃i z,P.info? e=some i/\i.zero=some z/\z.cells.size=size/\i.size=size/\i.bytes=bytes/\0<size/\0<bytes:=by
 unfold YeH at h
 split at h
 ·rename_i e' hu
  cases hi:P.info? e' with
  |none=>rw[hi]at h;cases h
  |some i=>
   rw[hi]at h
   simp only[Nk]at h
   cases hz:i.zero with
   |none=>rw[hz]at h;cases h
   |some z=>
    rw[hz]at h
    simp only[Nk]at h
    split at h
    ·rename_i hc
     simp only[Rw,Prod.mk.injEq]at h
     obtain⟨rfl,rfl,rfl⟩:=h
     exact⟨hu,i,z,hi,hz,hc.1,rfl,rfl,hc.2⟩
    ·cases h
 ·cases h
def Ju:List Value->Bool
 |[]=>true
 |v::l=>v.oneCell'&&Ju l
theorem Z0:∀{l:List Value},Ju l=true->∀u∈l,u.oneCell'=true
 |[],_,u,hu=>by cases hu
 |v::l,h,u,hu=>by
  simp only[Ju,Tq]at h
  rcases TL.1 hu with e|e
  ·rw[e];exact h.1
  ·exact Z0 h.2 u e
def sptr(A:Option Addr)(j:Nat):Value:=.pointer (A.map λa=>a.add j)
section
variable {P:Program}{m:Mode}{n:Shp}{B:Nat}{w0:World}{Q:Exit->Act->World->Prop}{env:Env}{H:List HP}{ops:Array Oper}{rest:List Oper}
variable {d:Nat}{ty:TypeId}{pos:String}{after:Array Edge}
variable {c:Code}
theorem Jy(e size:Nat)(h:VC P n B w0 c Q env (sl e size none 0 0 []::H)):VC P n B w0 c Q env H:=⟨λa w ha hw=>h.run a w ha (hw.nilSlice e size)⟩
variable {x y:Operand}{A:Option Addr}{k cap t e size bytes j:Nat}
theorem Ywd(T:Tab P){tx:Nat}{es:Nat×Nat×Nat}(hx:evo env x=some (.slice A k cap))(ht:look T.sl tx=some es)(hn:Nat.ble (d+1) n.k=true)(h:VL P m n B w0 ops Q rest ((d,.int .i64 k)::env) H):
 VL P m n B w0 ops Q (⟨some d,.call ⟨.builtin .len,#[x],#[tx]⟩,ty,pos,after,none⟩::rest) env H:=by
 obtain⟨e,size,bytes⟩:=es
 obtain⟨hu,_⟩:=YJ (T.slic ht)
 exact YF rfl rfl hn rfl (λf w ha _=>by simp[execOp,resolve,invoke,builtin,ha.eval hx,Builtin.len_,run_underlying hu,goInt]) h
variable {xs:List Value}{cs:Array Value}
theorem Yoe(T:Tab P){tt:Nat}{g mm c:Nat}{fr:Nat×Nat}{K:Option Addr->Nat->List HP}
 (hx:evo env x=some (.slice A k cap)) (ht:look T.sl t=some (e,size,bytes))
 (hy:evo env y=some (.slice (some ⟨g,0,none⟩) mm c)) (hb:blk g (.cells cs tt fr)∈H) (hk:cs.size=mm*size) (h1:Ju cs.toList=true) (hn:Nat.ble (d+1) n.k=true)
 (hu:∀A' cap',Upd (sl e size A k cap xs) (sl e size A' (k+mm) cap' (xs++cs.toList)) H (K A' cap')) (hby:(k+mm)*bytes<=140737488355328)
 (h:∀A' cap',VL P none n B w0 ops Q rest ((d,.slice A' (k+mm) cap')::env) (K A' cap')):
 VL P none n B w0 ops Q (⟨some d,.call ⟨.builtin .append,#[x,y],#[t,t]⟩,ty,pos,after,none⟩::rest) env H:=by
 obtain⟨hut,i,z,hi,hz,hzs,hsi,hbi,hs0,hb0⟩:=YJ (T.slic ht)
 refine XO (λv K'=>∃A' cap',v=.slice A' (k+mm) cap'/\K'=K A' cap') rfl rfl hn (λa w ha hw=>?_) (by rintro _ _ ⟨A',cap',rfl,rfl⟩;exact h A' cap')
 have hmem:sl e size A k cap xs∈H:=by
  obtain⟨L1,L2,rfl,_⟩:=hu none 0
  simp
 have hown:=hw.sl hmem
 have hblk:=(hw.blk hb).1
 have h63:k+mm<=maxLen:=by
  have:k+mm<=(k+mm)*bytes:=Nat.le_mul_of_pos_right _ hb0
  simp only[maxLen];omega
 obtain⟨v',w',hrun,hown',hgrow,_,hat⟩:=run_append_own_at (P:=P) w 0 t ty e i z size bytes hut hi hz hsi hbi hzs hs0 (.slice A k cap) k xs hown ⟨g,0,none⟩ mm c cs.toList (by simpa using hk)
  (λj u hj=>by rw[Addr.add_lit,Xp hblk,RH];simpa using hj) (Z0 h1) h63 hby (Tm _)
 have hshape:∃A' cap',v'=.slice A' (k+mm) cap':=by
  rcases hown'.2 with⟨e1,e2⟩|⟨g',c',_,e1,_⟩
  ·exact⟨none,0,by rw[e1,e2]⟩
  ·exact⟨_,_,e1⟩
 obtain⟨A',cap',rfl⟩:=hshape
 refine⟨_,K A' cap',w',by simp[execOp,resolve,invoke,builtin,ha.eval hx,ha.eval hy,hrun],?_,A',cap',rfl,rfl⟩
 refine hw.updN (hu A' cap') hgrow.os hgrow.tape hgrow.output hgrow.size λS1 ⟨_,hS⟩=>⟨⟨λb=>Value.ownBlock (.slice A' (k+mm) cap')=some b,⟨hown',?_⟩,λb hb=>?_⟩,λb hb hlt=>hgrow.block b hlt (λe=>hb ?_)⟩
 ·rintro a rfl;rfl
 ·rcases hat with e|e
  ·rw[e]at hb
   cases A with
   |none=>cases hb
   |some a=>left;have:=hS a rfl;simp only[Value.ownBlock,Rw]at hb;rwa [<-hb]
  ·rw[e]at hb
   right
   simp only[Rw]at hb
   subst hb
   refine⟨TJ _,?_⟩
   rcases hown'.2 with⟨e1,_⟩|⟨g',_,_,e1,_,e3,_⟩
   ·rw[e1]at e;cases e
   ·rw[e1]at e
    simp only[Value.ownBlock,Rw]at e
    subst e
    rcases Su w.heap.size w'.heap.size with h|h
    ·exact h
    ·rw[RA h]at e3;cases e3
 ·cases A with
  |none=>cases e
  |some a=>simp only[Value.ownBlock,Rw]at e;rw[e];exact hS a rfl
theorem Yiv(T:Tab P){ki:IntKind}{i:Int}(hx:evo env x=some (.slice A k cap))(hm:sl e size A k cap xs∈H)(hy:evo env y=some (.int ki i))
 (ht:look T.sl t=some (e,size,bytes)) (hn:Nat.ble (d+1) n.k=true) (hi:0<=i/\i<k) (h:VL P m n B w0 ops Q rest ((d,sptr A (i.toNat*size))::env) H):
 VL P m n B w0 ops Q (⟨some d,.indexAddr t x y,ty,pos,after,none⟩::rest) env H:=by
 obtain⟨hut,inf,z,hinf,_,_,hsi,_,_,_⟩:=YJ (T.slic ht)
 refine YF rfl rfl hn rfl (λa w ha hw=>?_) h
 have hown:=hw.sl hm
 rcases hown.2 with⟨_,e2⟩|⟨g,c,cur,e1,_⟩
 ·exfalso;omega
 ·injection e1 with e1
  subst e1
  simp[execOp,ha.eval hx,ha.eval hy,Instr.indexAt,asIntOf,run_underlying hut,hi,sizeOf,typeInfo,hinf,hsi,sptr]
variable {v:Value}
theorem YkU(T:Tab P)(hx:evo env x=some (sptr A j))(hm:sl e size A k cap xs∈H)(ht:look T.sc t=some ())(hn:Nat.ble (d+1) n.k=true)(hv:xs[j]? =some v)
 (h:VL P m n B w0 ops Q rest ((d,v)::env) H):VL P m n B w0 ops Q (⟨some d,.load t x,ty,pos,after,none⟩::rest) env H:=by
 refine YF rfl rfl hn rfl (λa w ha hw=>?_) h
 obtain⟨g,rfl,hc,_⟩:=Ya3 (hw.sl hm) hv
 simp[execOp,ha.eval hx,sptr,Instr.loadAt,Instr.sureAddr,loadVar,ZC (T.scal ht).1,Addr.add_lit,hc]
theorem YbQ(T:Tab P){K:List HP}(hx:evo env x=some (sptr A j))(hy:evo env y=some v)(h1:v.oneCell'=true)
 (hu:Upd (sl e size A k cap xs) (sl e size A k cap (xs.set j v)) H K) (ht:look T.sc t=some ()) (hj:j<xs.length)
 (h:VL P none n B w0 ops Q rest env K):VL P none n B w0 ops Q (⟨none,.store t x y,ty,pos,after,none⟩::rest) env H:=by
 have hmem:sl e size A k cap xs∈H:=by
  obtain⟨L1,L2,rfl,_⟩:=hu
  simp
 refine Vp rfl rfl (λa w ha hw=>?_) h
 obtain⟨g,rfl,hc,cur,hb,hcj⟩:=Ya3 (hw.sl hmem) (Ta hj)
 refine⟨w.setCell ⟨g,j,none⟩ v,?_,?_⟩
 ·have hcs:v.cells=#[v]:=by cases v<;>first|rfl|simp[Value.oneCell']at h1
  have hz:w.frozen? ⟨g,j,none⟩=false:=by simp[World.frozen?,hb]
  simp[execOp,ha.eval hx,ha.eval hy,sptr,Instr.storeAt,Instr.sureAddr,storeVar,hcs,Zw (T.scal ht).2,storeCells,run_store _ _ _ _ _ h1,Addr.add_lit,hc,hz]
 ·refine hw.upd hu rfl rfl rfl (by simp) λS1 ⟨hown,hS⟩=>⟨⟨⟨?_,?_⟩,hS⟩,λb hb' _=>Below.heap_setCell w _ v b (λe=>hb' (by rw[e];exact hS ⟨g,0,none⟩ rfl))⟩
  ·simpa using hown.1
  ·rcases hown.2 with⟨e1,_⟩|⟨g',c',cur',e1,e2,e3,e4,e5,e6,e7⟩
   ·cases e1
   ·injection e1 with e1 e8 e9
    injection e1 with e1
    injection e1 with e1
    subst e1
    refine .inr ⟨g,c',cur'.setIfInBounds j v,by rw[e9],e2,?_,e4,e5,by simpa using e6,?_⟩
    ·simp[World.setCell,Array.getElem?_modify,e3]
    ·rw[<-e7]
     simp only[Array.toList_setIfInBounds]
     rw[List.take_set]
theorem Ys4{k:IntKind}{a b:Int}{tys:Array TypeId}(hx:evo env x=some (.int k a))(hy:evo env y=some (.int k b))(hn:Nat.ble (d+1) n.k=true)(h1:b<a->VL P m n B w0 ops Q rest ((d,.int k b)::env) H)(h2:a<=b->VL P m n B w0 ops Q rest ((d,.int k a)::env) H):
 VL P m n B w0 ops Q (⟨some d,.call ⟨.builtin .min,#[x,y],tys⟩,ty,pos,after,none⟩::rest) env H:=by
 by_cases hc:b<a
 ·exact YF rfl rfl hn rfl (λf w ha _=>by simp[execOp,resolve,invoke,builtin,ha.eval hx,ha.eval hy,run_min_int2,hc]) (h1 hc)
 ·exact YF rfl rfl hn rfl (λf w ha _=>by simp[execOp,resolve,invoke,builtin,ha.eval hx,ha.eval hy,run_min_int2,hc]) (h2 (by omega))
theorem Qx{len:Nat}{parts:List (Nat×Operand)}{ps:List (Nat×Value)}(hp:YbN env parts ps)(hb:∀w,(Instr.buildSlice t len ps.toArray).run P w=.ok (.slice (some ⟨w.heap.size,0,none⟩) len len) (w.alloc (.cells cs e (0,0))))(hn:Nat.ble (d+1) n.k=true)
 (h:∀g,VL P none n B w0 ops Q rest ((d,.slice (some ⟨g,0,none⟩) len len)::env) (blk g (.cells cs e (0,0))::H)):VL P none n B w0 ops Q (⟨some d,.buildSlice t len parts.toArray,ty,pos,after,none⟩::rest) env H:=by
 refine XO (λv K=>∃g,v=.slice (some ⟨g,0,none⟩) len len/\K=blk g (.cells cs e (0,0))::H) rfl rfl hn (λa w ha hw=>?_) (by rintro _ _ ⟨g,rfl,rfl⟩;exact h g)
 have hm:(parts.toArray.map λ(i,x)=>(i,a.eval x))=ps.toArray:=by rw[NA];exact TE List.toArray (Yby ha _ _ hp)
 refine⟨_,_,w.alloc (.cells cs e (0,0)),?_,hw.alloc _,w.heap.size,rfl,rfl⟩
 simp only[execOp,hm]
 simp[hb]
theorem X9(e size:Nat){ex:Exit}(h:VQ n B w0 Q ex env (sl e size none 0 0 []::H)):VQ n B w0 Q ex env H:=⟨λa w ha hw=>h.run a w ha (hw.nilSlice e size)⟩
theorem Yix(T:Tab P){c:Int}{z:Value}(hx:evo env x=some (.int .i64 c))(hy:evo env y=some (.int .i64 c))(ht:look T.sl t=some (e,1,bytes))(hz:((P.info? e).bind (·.zero))=some z)(hz1:z.cells=#[z])(hn:Nat.ble (d+1) n.k=true)(hb:Nat.ble bytes 1000=true)(hc:0<=c/\c<=1000000)
 (h:∀g,VL P none n B w0 ops Q rest ((d,.slice (some ⟨g,0,none⟩) c.toNat c.toNat)::env) (sl e 1 (some ⟨g,0,none⟩) c.toNat c.toNat (List.replicate c.toNat z)::H)):VL P none n B w0 ops Q (⟨some d,.makeSlice t x y,ty,pos,after,none⟩::rest) env H:=by
 obtain⟨hu,i,z',hi,hz',_,hsi,hbi,_,_⟩:=YJ (T.slic ht)
 obtain rfl:z'=z:=by rw[hi]at hz;simp only[Nk,hz',Rw]at hz;exact hz
 have hb':=TX hb
 refine XO (λv K=>∃g,v=.slice (some ⟨g,0,none⟩) c.toNat c.toNat/\K=sl e 1 (some ⟨g,0,none⟩) c.toNat c.toNat (List.replicate c.toNat z')::H) rfl rfl hn (λa w ha hw=>?_) (by rintro _ _ ⟨g,rfl,rfl⟩;exact h g)
 have hbytes:(i.bytes:Int)*c<=281474976710656:=by
  have h1:(i.bytes:Int)*c<=1000*c:=SR (by omega) hc.1
  omega
 have hrun:=run_make (P:=P) w t e i z' hu hi hz' .i64 .i64 c c hc.1 (R7 _) hbytes (by omega)
 rw[hsi,Nz,hz1]at hrun
 refine⟨_,_,w.alloc (.cells (madeCells #[z'] c.toNat) e),by simp only[execOp,ha.eval hx,ha.eval hy,Sem.run_bind,hrun,Result.andThen_ok,Sem.run_pure],?_,w.heap.size,rfl,rfl⟩
 have h2:=hw.alloc (.cells (madeCells #[z'] c.toNat) e)
 refine h2.upd (Upd.here _) rfl rfl rfl (TJ _) λS1 ⟨h3,h4⟩=>⟨⟨⟨by simp,.inr ⟨w.heap.size,c.toNat,madeCells #[z'] c.toNat,rfl,Tm _,h4,TJ _,by simp only[maxLen];omega,by simp[size_madeCells],?_⟩⟩,λa ha=>by cases ha;exact h3⟩,λ_ _ _=>rfl⟩
 rw[toList_madeCells_one,Nz,T0 (by simp)]
variable {α β:Type}
theorem Yaj(E:α->β->Env)(HH:α->β->List HP)(I:α->β->Prop)(μ:α->β->Nat)(x0:α)(y0:β)(h0:I x0 y0)
 (he:∀t v,get (E x0 y0) t=some v->get env t=some v) (hH:∀w,St B w0 H w->St B w0 (HH x0 y0) w)
 (round:∀x y,I x y->∀K:Act->World->Prop,(∀x' y',I x' y'->μ x' y'<μ x y->∀env' H',(∀t v,get (E x' y') t=some v->get env' t=some v)->(∀w,St B w0 H' w->St B w0 (HH x' y') w)->VQ n B w0 (Exit.then K Q) .normal env' H')->
  VC P n B w0 c (Exit.then K Q) (E x y) (HH x y)):VC P n B w0 (.loop c) Q env H:=
 YgY (α:=α×β) (λp=>E p.1 p.2) (λp=>HH p.1 p.2) (λp=>I p.1 p.2) (λp=>μ p.1 p.2) (x0,y0) h0 he hH λp hp=>
  round p.1 p.2 hp _ λx' y' hI hμ _ _ he' hH'=>Yc7 (x',y') hI hμ he' hH'
theorem Yg(E:α->Env)(HH:α->List HP)(I:α->Prop)(μ:α->Nat)(x0:α)(h0:I x0)
 (he:∀t v,get (E x0) t=some v->get env t=some v) (hH:∀w,St B w0 H w->St B w0 (HH x0) w)
 (round:∀x,I x->∀K:Act->World->Prop,(∀x',I x'->μ x'<μ x->∀env' H',(∀t v,get (E x') t=some v->get env' t=some v)->(∀w,St B w0 H' w->St B w0 (HH x') w)->VQ n B w0 (Exit.then K Q) .normal env' H')->
  VC P n B w0 c (Exit.then K Q) (E x) (HH x)):VC P n B w0 (.loop c) Q env H:=
 YgY E HH I μ x0 h0 he hH λp hp=>round p hp _ λx' hI hμ _ _ he' hH'=>Yc7 x' hI hμ he' hH'
theorem Yqf{γ:Type}(E:α->β->γ->Env)(HH:α->β->γ->List HP)(I:α->β->γ->Prop)(μ:α->β->γ->Nat)(x0:α)(y0:β)(z0:γ)(h0:I x0 y0 z0)
 (he:∀t v,get (E x0 y0 z0) t=some v->get env t=some v) (hH:∀w,St B w0 H w->St B w0 (HH x0 y0 z0) w)
 (round:∀x y z,I x y z->∀K:Act->World->Prop,(∀x' y' z',I x' y' z'->μ x' y' z'<μ x y z->∀env' H',(∀t v,get (E x' y' z') t=some v->get env' t=some v)->(∀w,St B w0 H' w->St B w0 (HH x' y' z') w)->VQ n B w0 (Exit.then K Q) .normal env' H')->
  VC P n B w0 c (Exit.then K Q) (E x y z) (HH x y z)):VC P n B w0 (.loop c) Q env H:=
 YgY (α:=α×β×γ) (λp=>E p.1 p.2.1 p.2.2) (λp=>HH p.1 p.2.1 p.2.2) (λp=>I p.1 p.2.1 p.2.2) (λp=>μ p.1 p.2.1 p.2.2) (x0,y0,z0) h0 he hH λp hp=>
  round p.1 p.2.1 p.2.2 hp _ λx' y' z' hI hμ _ _ he' hH'=>Yc7 (x',y',z') hI hμ he' hH'
end
open Go.ChangeMaps (setBlock)
def Q4(P:Program)(t:TypeId):Option Value->Option Value->Bool
 |some (.int k _),some (.int k' _)=>decide (k=k')&&(match P.underlying t with|some (.int _)=>true|_=>false)
 |some (.string _),some (.string _)=>match P.underlying t with|some .string=>true|_=>false
 |some (.bool _),some (.bool _)=>match P.underlying t with|some .bool=>true|_=>false
 |_,_=>false
def Qc(P:Program)(t:TypeId)(xs ys:List Value):Bool:=
 match P.underlying t with
 |some (.struct fs)=>!P.stoodInHeld t&&(fs.toList.map (·.offset)==List.range xs.length)&&(xs.length==ys.length)&&fs.toList.all (λf=>f.name != "_" &&Q4 P f.type xs[f.offset]? ys[f.offset]?)
 |_=>false
section
variable {P:Program}
variable {t:TypeId}
theorem Yh0(w:World)(d:Nat){x y:Value}(h:Q4 P t (some x) (some y)=true):∃r:Bool,(Op.equalIn (d+1) t x y).run P w=.ok r w/\(r=true↔x=y):=by
 unfold Q4 at h
 split at h
 ·rename_i k a k' b e1 e2
  injection e1 with e1;injection e2 with e2
  subst e1;subst e2
  simp only[Tq,Tt]at h
  obtain⟨rfl,h⟩:=h
  split at h
  ·rename_i q hu
   exact⟨a==b,run_equalIn_int w d t k q a b hu,by simp⟩
  simp_all
 ·rename_i a b e1 e2
  injection e1 with e1;injection e2 with e2
  subst e1;subst e2
  split at h
  ·rename_i hu
   exact⟨a.toList==b.toList,run_equalIn_string w d t a b hu,by rw[Yau];simp⟩
  simp_all
 ·rename_i a b e1 e2
  injection e1 with e1;injection e2 with e2
  subst e1;subst e2
  split at h
  ·rename_i hu
   exact⟨a==b,run_equalIn_bool w d t a b hu,by simp⟩
  simp_all
 simp_all
theorem YlG{x y:Option Value}(h:Q4 P t x y=true):P.plainKey t=true/\∃a b,x=some a/\y=some b:=by
 unfold Q4 at h
 split at h
 ·exact YsG
 ·exact YsG
 ·exact YsG
 simp_all
theorem QM(w:World)(d:Nat)(xs ys:List Value):∀fs:List Field,(∀f∈fs,f.name≠ "_" /\Q4 P f.type xs[f.offset]? ys[f.offset]? =true)->
 ∃r:Bool,(Op.eqFields (d+1) xs.toArray ys.toArray fs).run P w=.ok r w/\(r=true↔∀f∈fs,xs[f.offset]? =ys[f.offset]?)
 |[],_=>⟨true,by simp[Op.eqFields],by simp⟩
 |f::fs,hall=>by
  obtain⟨hn,hl⟩:=hall f (by simp)
  obtain⟨hp,a,b,hx,hy⟩:=YlG hl
  rw[hx,hy]at hl
  obtain⟨r,hr,hiff⟩:=Yh0 w d hl
  obtain⟨r',hr',hiff'⟩:=QM w d xs ys fs (λg hg=>hall g (by simp[hg]))
  have p1:=run_part_plain (P:=P) (w:=w) hp (xs:=xs.toArray) (off:=f.offset) (v:=a) (by simp_all)
  have p2:=run_part_plain (P:=P) (w:=w) hp (xs:=ys.toArray) (off:=f.offset) (v:=b) (by simp_all)
  simp only[Op.eqFields,hn,ne_eq,not_false_eq_true,NF,Sem.run_bind,p1,p2,hr,Result.andThen_ok]
  cases r
  all_goals simp_all
variable {xs ys:List Value}
theorem Yez(w:World)(h:Qc P t xs ys=true):∃r:Bool,(Op.equal t (.agg xs.toArray) (.agg ys.toArray)).run P w=.ok r w/\(r=true↔xs=ys):=by
 unfold Qc at h
 split at h
 ·rename_i fs hu
  simp only[Tq,RS,S5,TF,bne_iff_ne,ne_eq]at h
  obtain⟨⟨⟨h1,h2⟩,h3⟩,h4⟩:=h
  have hfs:P.fieldsOf t=fs:=by simp[Program.fieldsOf,hu]
  obtain⟨r,hr,hiff⟩:=QM w 9998 xs ys fs.toList h4
  refine⟨r,?_,?_⟩
  ·grind [Go.Op.equal,Go.Op.maxDepth,run_equalIn_struct]
  ·constructor
   ·intro h
    apply Sv
    intro i
    by_cases hi:i<xs.length
    ·have:i∈fs.toList.map (·.offset):=by simp_all
     grind
    simp_all
   simp_all
 simp_all
end
section
variable {P:Program}{n:Shp}{B:Nat}{w0:World}{Q:Exit->Act->World->Prop}{env:Env}{H:List HP}{m:Mode}{ops:Array Oper}{rest:List Oper}{d:Nat}{ty:TypeId}{pos:String}{after:Array Edge}
variable {t xt yt:TypeId}{x y u:Operand}
theorem Jt(w:World){op:BinOp}{xs ys:Array Value}(hg:P.eqGuardType P.depth t=false):(eqGuard op t x y (.agg xs) (.agg ys)).run P w=.ok () w:=by
 simp_all [eqGuard]
variable {xs ys cs:List Value}
theorem YsX(hx:evo env x=some (.agg xs.toArray))(hy:evo env y=some (.agg ys.toArray))(hn:Nat.ble (d+1) n.k=true)(hg:P.eqGuardType P.depth xt=false)(hl:Qc P xt xs ys=true)
 (h1:xs=ys->VL P m n B w0 ops Q rest ((d,.bool true)::env) H) (h2:xs≠ys->VL P m n B w0 ops Q rest ((d,.bool false)::env) H):
 VL P m n B w0 ops Q (⟨some d,.binOp .eql xt x y yt,ty,pos,after,none⟩::rest) env H:=by
 by_cases hc:xs=ys
 ·refine Xc hx hy hn (λw=>Jt w hg) (λw=>?_) (h1 hc)
  exact zc65
 ·refine Xc hx hy hn (λw=>Jt w hg) (λw=>?_) (h2 hc)
  exact zc65
theorem Yg0(hx:evo env x=some (.agg xs.toArray))(hy:evo env y=some (.agg ys.toArray))(hn:Nat.ble (d+1) n.k=true)(hg:P.eqGuardType P.depth xt=false)(hl:Qc P xt xs ys=true)
 (h1:xs≠ys->VL P m n B w0 ops Q rest ((d,.bool true)::env) H) (h2:xs=ys->VL P m n B w0 ops Q rest ((d,.bool false)::env) H):
 VL P m n B w0 ops Q (⟨some d,.binOp .neq xt x y yt,ty,pos,after,none⟩::rest) env H:=by
 by_cases hc:xs=ys
 ·refine Xc hx hy hn (λw=>Jt w hg) (λw=>?_) (h2 hc)
  exact zc65
 ·refine Xc hx hy hn (λw=>Jt w hg) (λw=>?_) (h1 hc)
  exact zc65
theorem YbG(w:World)(k:Nat){e:TypeId}(a:Option Addr)(hu:P.underlying t=some (.pointer e)):(Op.equalIn (k+1) t (.pointer a) (.pointer none)).run P w=.ok a.isNone w:=by
 unfold Op.equalIn
 cases a<;>simp[run_underlying hu]
def Yrr(P:Program)(t:TypeId):Bool:=match P.underlying t with|some (.pointer _)=>true|_=>false
theorem YlD(h:Yrr P t=true):∃e,P.underlying t=some (.pointer e):=by
 unfold Yrr at h
 grind
theorem YiC{a:Option Addr}(hx:evo env x=some (.pointer a))(hn:Nat.ble (d+1) n.k=true)(hu:Yrr P xt=true)
 (h:VL P m n B w0 ops Q rest ((d,.bool a.isNone)::env) H):VL P m n B w0 ops Q (⟨some d,.binOp .eql xt x (.const (.pointer none)) yt,ty,pos,after,none⟩::rest) env H:=by
 obtain⟨e,hu⟩:=YlD hu
 refine Xc hx (y:=.const (.pointer none)) rfl hn (λw=>by simp[eqGuard]) (λw=>?_) h
 simp_all [binOp,Go.Op.equal,Go.Op.maxDepth,YbG]
theorem YiQ{t k e size:Nat}(h:Ydg P t=some (k,e,size)):∃i,P.underlying t=some (.array k e)/\P.info? e=some i/\i.size=size:=by
 unfold Ydg at h
 split at h
 ·rename_i k' e' hu
  cases hi:P.info? e' with
  |none=>simp_all
  |some i=>
   simp_all
 simp_all
abbrev Ents:=List (Int×Value×Nat)
def toE(e:Int×Value×Nat):MapEntry:=⟨.int .i64 e.1,e.2.1,e.2.2⟩
def mobj(es:Ents)(clock:Nat):Obj:=.map (es.map toE).toArray clock
def mget(es:Ents)(k:Int):Option Value:=(es.find? λe=>e.1==k).map (·.2.1)
def mapT(P:Program)(t kt et:TypeId):Bool:=(match P.underlying t with|some (.map a b)=>a==kt&&b==et|_=>false)&&(match P.underlying kt with|some (.int .i64)=>true|_=>false)
theorem Jg{kt et:TypeId}(h:mapT P t kt et=true):P.underlying t=some (.map kt et)/\P.underlying kt=some (.int .i64):=by
 unfold mapT at h
 grind
variable {es l1 l2:Ents}{k:Int}
theorem WO(i:Nat)(h:mget es k=none):Instr.findNow (.int .i64) (.int .i64 k) (es.map toE) i=some none:=by
 induction es generalizing i with
 |nil=>rfl
 |cons e es ih=>
  simp only[mget,N5]at h
  by_cases hk:e.1=k
  ·simp_all
  ·have hk':(e.1==k)=false:=by simp_all
   rw[hk']at h
   have:(k==e.1)=false:=by grind
   simp only[Rh,Instr.findNow,toE,Instr.sameNow,NF,this]
   exact ih (i+1) h
variable {v v0:Value}
theorem V0(i:Nat)(h:mget es k=some v):∃l1 b l2,es=l1++(k,v,b)::l2/\(∀e∈l1,e.1≠k)/\Instr.findNow (.int .i64) (.int .i64 k) (es.map toE) i=some (some (i+l1.length,v)):=by
 induction es generalizing i with
 |nil=>simp[mget]at h
 |cons e es ih=>
  simp only[mget,N5]at h
  by_cases hk:e.1=k
  ·have hk':(e.1==k)=true:=by simp_all
   rw[hk']at h
   simp only[Ss,Rw]at h
   refine⟨[],e.2.2,es,by grind,by simp,?_⟩
   have:(k==e.1)=true:=by simp_all
   simp_all [Go.Instr.findNow,toE,Go.Instr.sameNow]
  ·have hk':(e.1==k)=false:=by simpa using hk
   rw[hk']at h
   have:(k==e.1)=false:=by simpa usingλe=>hk e.symm
   obtain⟨l1,b,l2,e1,e2,e3⟩:=ih (i+1) h
   refine⟨e::l1,b,l2,by rw[e1];rfl,?_,?_⟩
   ·intro x hx
    rcases TL.1 hx with rfl|hx
    ·exact hk
    ·exact e2 x hx
   ·simp only[Rh,Instr.findNow,toE,Instr.sameNow,NF,this]
    rw[e3]
    simp;omega
variable {b g kt et clock r since:Nat}
theorem QX(hk:∀e∈l1,e.1≠k):Instr.findNow (.int .i64) (.int .i64 k) ((l1++(k,v0,b)::l2).map toE) 0=some (some (l1.length,v0)):=by
 have:∀i,Instr.findNow (.int .i64) (.int .i64 k) ((l1++(k,v0,b)::l2).map toE) i=some (some (i+l1.length,v0)):=by
  induction l1 with
  |nil=>simp[Instr.findNow,toE,Instr.sameNow]
  |cons e l ih=>
   grind [Go.Instr.findNow,Go.Instr.sameNow,toE]
 simp_all
variable {α:Type}
theorem Yeb(f:α->α)(xs:List α)(y:α)(zs:List α):(xs++y::zs).modify xs.length f=xs++f y::zs:=by
 induction xs with
 |nil=>rfl
 |cons x xs ih=>simp_all
theorem YoQ(xs:List α)(y:α)(zs:List α):(xs++y::zs).eraseIdx xs.length=xs++zs:=by
 grind
theorem Jh(w:World){kt:TypeId}(hk:P.underlying kt=some (.int .i64))(k:Int)(b:Bool):(Instr.checkKey b 10000 kt (.int .i64 k)).run P w=.ok () w:=by
 rw[show 10000=9999+1 from rfl]
 unfold Instr.checkKey
 simp[run_underlying hk]
variable {K:List HP}
theorem St.setBlock{w:World}{o o':Obj}(h:St B w0 H w)(u:Upd (Eng.blk g o) (Eng.blk g o') H K):St B w0 K (ChangeMaps.setBlock w g o'):=by
 refine h.upd u rfl rfl rfl (by simp[ChangeMaps.setBlock]) λS1 ⟨h1,h2⟩=>⟨⟨h1,?_⟩,λb hb _=>?_⟩
 all_goals grind [Go.ChangeMaps.setBlock]
theorem Yc4(hn:Nat.ble (d+1) n.k=true)(h:∀g,VL P none n B w0 ops Q rest ((d,.map (some g))::env) (blk g (mobj [] 0)::H)):VL P none n B w0 ops Q (⟨some d,.makeMap t none,ty,pos,after,none⟩::rest) env H:=
 XO (λv K=>∃g,v=.map (some g)/\K=blk g (mobj [] 0)::H) rfl rfl hn
  (λa w _ hw=>⟨_,_,w.alloc (mobj [] 0),by simp_all [execOp,Go.Instr.makeMap,mobj],hw.alloc _,w.heap.size,rfl,rfl⟩)
  YsO
theorem YkW{t:Nat}(hx:evo env x=some (.map (some g)))(hy:evo env y=some (.int .i64 k))(hm:blk g (mobj es clock)∈H)(ht:mapT P t kt et=true)(hn:Nat.ble (d+1) n.k=true)(hk:mget es k=some v)
 (h:VL P m n B w0 ops Q rest ((d,v)::env) H):VL P m n B w0 ops Q (⟨some d,.lookup t x y false,ty,pos,after,none⟩::rest) env H:=by
 obtain⟨h1,h2⟩:=Jg ht
 refine YF rfl rfl hn rfl (λa w ha hw=>?_) h
 have hb:=(hw.blk hm).1
 unfold mobj at hb
 obtain⟨l1,b,l2,_,_,e3⟩:=V0 0 hk
 simp[execOp,ha.eval hx,ha.eval hy,Instr.lookup,run_underlying h1,getObj,Sem.run,hb,Jh _ h2,MapKept.run_findKey h2 e3]
theorem YkV{t:Nat}{z:Value}(hx:evo env x=some (.map (some g)))(hy:evo env y=some (.int .i64 k))(hm:blk g (mobj es clock)∈H)(ht:mapT P t kt et=true)(hn:Nat.ble (d+1) n.k=true)(hk:mget es k=none)(hz:∀w,(zeroValue et).run P w=.ok z w)
 (h:VL P m n B w0 ops Q rest ((d,z)::env) H):VL P m n B w0 ops Q (⟨some d,.lookup t x y false,ty,pos,after,none⟩::rest) env H:=by
 obtain⟨h1,h2⟩:=Jg ht
 refine YF rfl rfl hn rfl (λa w ha hw=>?_) h
 have hb:=(hw.blk hm).1
 unfold mobj at hb
 simp[execOp,ha.eval hx,ha.eval hy,Instr.lookup,run_underlying h1,getObj,Sem.run,hb,Jh _ h2,MapKept.run_findKey h2 (WO 0 hk),hz]
theorem Yok{t:Nat}(hx:evo env x=some (.map (some g)))(hy:evo env y=some (.int .i64 k))(hv:evo env u=some v)(ht:mapT P t kt et=true)
 (hu:Upd (blk g (mobj es clock)) (blk g (mobj (es++[(k,v,clock)]) (clock+1))) H K) (hk:mget es k=none)
 (h:VL P none n B w0 ops Q rest env K):VL P none n B w0 ops Q (⟨none,.mapUpdate t x y u,ty,pos,after,none⟩::rest) env H:=by
 obtain⟨h1,h2⟩:=Jg ht
 refine Vp rfl rfl (λa w ha hw=>⟨setBlock w g (mobj (es++[(k,v,clock)]) (clock+1)),?_,hw.setBlock hu⟩) h
 have hb:w.heap[g]? =some (mobj es clock):=zc66
 have hb':=hb
 unfold mobj at hb
 simp[execOp,ha.eval hx,ha.eval hy,ha.eval hv,Instr.mapUpdate,run_underlying h1,getObj,Sem.run,hb,Jh _ h2,MapKept.run_findKey h2 (WO 0 hk),MapKept.run_setObj_map _ hb,setBlock,mobj,toE]
theorem Yol{t:Nat}(hx:evo env x=some (.map (some g)))(hy:evo env y=some (.int .i64 k))(hv:evo env u=some v)(ht:mapT P t kt et=true)
 (hu:Upd (blk g (mobj (l1++(k,v0,b)::l2) clock)) (blk g (mobj (l1++(k,v,b)::l2) clock)) H K) (hk:∀e∈l1,e.1≠k)
 (h:VL P none n B w0 ops Q rest env K):VL P none n B w0 ops Q (⟨none,.mapUpdate t x y u,ty,pos,after,none⟩::rest) env H:=by
 obtain⟨h1,h2⟩:=Jg ht
 refine Vp rfl rfl (λa w ha hw=>⟨setBlock w g (mobj (l1++(k,v,b)::l2) clock),?_,hw.setBlock hu⟩) h
 have hb:w.heap[g]? =some (mobj (l1++(k,v0,b)::l2) clock):=zc66
 have hf:=QX (l2:=l2) (v0:=v0) (b:=b) hk
 exact zc16
theorem Yqs{t:Nat}(hx:evo env x=some (.map (some g)))(hm:blk g (mobj es clock)∈H)(ht:mapT P t kt et=true)(hn:Nat.ble (d+1) n.k=true)
 (h:∀r,VL P none n B w0 ops Q rest ((d,.pointer (some ⟨r,0,none⟩))::env) (blk r (.mapIter (some g) clock #[] clock)::H)):VL P none n B w0 ops Q (⟨some d,.range t x,ty,pos,after,none⟩::rest) env H:=by
 obtain⟨h1,h2⟩:=Jg ht
 refine XO (λv K=>∃r,v=.pointer (some ⟨r,0,none⟩)/\K=blk r (.mapIter (some g) clock #[] clock)::H) rfl rfl hn (λa w ha hw=>?_) YsO
 have hb:=(hw.blk hm).1
 unfold mobj at hb
 refine⟨_,_,w.alloc (.mapIter (some g) clock #[] clock),?_,hw.alloc _,w.heap.size,rfl,rfl⟩
 simp[execOp,ha.eval hx,Instr.range,run_underlying h1,getObj,Sem.run,hb,newObj]
variable {seen:Array Nat}
theorem Ys6{c0:Nat}{K:Nat->List HP}(hx:evo env x=some (.pointer (some ⟨r,0,none⟩)))(hm:blk g (mobj es clock)∈H)(hn:Nat.ble (d+1) n.k=true)
 (hu:∀b,Upd (blk r (.mapIter (some g) since seen c0)) (blk r (.mapIter (some g) since (seen.push b) clock)) H (K b)) (hold:∀e∈es,e.2.2<since) (hsc:since<=c0)
 (h1:(∀e∈es,seen.contains e.2.2=true)->VL P none n B w0 ops Q rest ((d,.tuple #[.bool false])::env) H)
 (h2:∀e∈es,seen.contains e.2.2=false->VL P none n B w0 ops Q rest ((d,.tuple #[.bool true,.int .i64 e.1,e.2.1])::env) (K e.2.2)):
 VL P none n B w0 ops Q (⟨some d,.next x false,ty,pos,after,none⟩::rest) env H:=by
 refine XO (λv K'=>(v=.tuple #[.bool false]/\K'=H/\∀e∈es,seen.contains e.2.2=true)\/∃e∈es,seen.contains e.2.2=false/\v=.tuple #[.bool true,.int .i64 e.1,e.2.1]/\K'=K e.2.2) rfl rfl hn (λa w ha hw=>?_) (by
  rintro _ _ (⟨rfl,rfl,hs⟩|⟨e,he,hs,rfl,rfl⟩)
  ·exact h1 hs
  ·exact h2 e he hs)
 have hb:=(hw.blk hm).1
 have hr:w.heap[r]? =some (.mapIter (some g) since seen c0):=by
  obtain⟨L1,L2,e,_⟩:=hu 0
  exact(hw.blk (by simp_all)).1
 have hold':∀x∈((es.map toE).toArray).toList,x.born<since:=by
  intro x hx
  obtain⟨e,he,rfl⟩:=TC.1 hx
  exact hold e he
 have hx':(execOp a.eval ⟨some d,.next x false,ty,pos,after,none⟩).run P w=((Instr.next (.pointer (some ⟨r,0,none⟩)) false ty).run P w).andThen λv w'=>.ok (.value v) w':=by
  simp[execOp,ha.eval hx]
 rcases run_next_at (P:=P) w ty r g since c0 seen _ clock hr hb hold' hsc with⟨hz,hrun⟩|⟨e,he,w1,hw1,hrun⟩
 ·refine⟨_,H,w,by rw[hx',hrun];rfl,hw,.inl ⟨rfl,rfl,λe he=>?_⟩⟩
  cases hs:seen.contains e.2.2 with
  |true=>rfl
  |false=>
   have:toE e∈(leftOf (es.map toE).toArray seen).toList:=by
    simp only[leftOf,Array.toList_filter,Re,TC]
    exact⟨⟨e,he,rfl⟩,by rw[show(toE e).born=e.2.2 from rfl,hs];rfl⟩
   have h0:(leftOf (es.map toE).toArray seen).toList=[]:=by
    rw[Array.eq_empty_of_size_eq_zero hz]
   rw[h0]at this
   cases this
 ·have hmem:e∈es.map toE/\seen.contains e.born=false:=by
   have:=he
   simp only[leftOf,Array.toList_filter,Re]at this
   exact⟨this.1,by simpa using this.2⟩
  obtain⟨⟨e0,he0,rfl⟩,hs⟩:=(⟨TC.1 hmem.1,hmem.2⟩:(∃e0∈es,toE e0=e)/\_)
  have hw1':St B w0 H w1:=by
   rcases hw1 with rfl|rfl
   ·exact hw
   ·exact hw.drew
  exact⟨_,K e0.2.2,_,by rw[hx',hrun];rfl,hw1'.setBlock (hu _),.inr ⟨e0,he0,hs,rfl,rfl⟩⟩
theorem Yql{e:Int×Value×Nat}(hx:evo env x=some (.pointer (some ⟨r,0,none⟩)))(hm:blk g (mobj es clock)∈H)(hr:blk r (.mapIter (some g) since (seen.push e.2.2) clock)∈H)(hn:Nat.ble (d+1) n.k=true)
 (he:e∈es) (hnd:(es.map (·.2.2)).Nodup)
 (h:VL P none n B w0 ops Q rest ((d,.tuple #[.int .i64 e.1,e.2.1])::env) H):VL P none n B w0 ops Q (⟨some d,.entry x,ty,pos,after,none⟩::rest) env H:=by
 refine YfD rfl rfl hn (λa w ha hw=>⟨w,?_,hw⟩) h
 have hb:=(hw.blk hm).1
 have hrun:=run_entry_at (P:=P) w r g since seen _ clock (toE e) (hw.blk hr).1 hb (TC.2 ⟨e,he,rfl⟩) (by grind [toE])
 simp[execOp,ha.eval hx,hrun,toE]
theorem Yqr{o:Oper}{H':List HP}(hg:o.guard=none)(hd:o.dst=none)
 (hr:∀a w,Fits n a env->St B w0 H w->∃w',(execOp a.eval o).run P w=.ok (.value v) w'/\St B w0 H' w')
 (h:VL P none n B w0 ops Q rest env H'):VL P none n B w0 ops Q (o::rest) env H:=by
 refine⟨λa ha w hw=>wpList_plain hg λK hK=>?_⟩
 obtain⟨w',hrun,hst⟩:=hr a w ha hw
 unfold Oper.wp
 rw[hrun,Oper.upon_value,hd]
 exact hK _ _ (h.run _ ha _ hst)
theorem Yoh{t:Nat}(hx:evo env x=some (.map (some g)))(hy:evo env y=some (.int .i64 k))(ht:mapT P t kt et=true)
 (hu:Upd (blk g (mobj (l1++(k,v0,b)::l2) clock)) (blk g (mobj (l1++l2) clock)) H K) (hk:∀e∈l1,e.1≠k)
 (h:VL P none n B w0 ops Q rest env K):VL P none n B w0 ops Q (⟨none,.call ⟨.builtin .delete,#[x,y],#[t,kt]⟩,ty,pos,after,none⟩::rest) env H:=by
 obtain⟨h1,h2⟩:=Jg ht
 have hf:=QX (l2:=l2) (v0:=v0) (b:=b) hk
 have hsz:(l1++(k,v0,b)::l2).map toE=l1.map toE++toE (k,v0,b)::l2.map toE:=by simp
 have her:(List.map toE (l1++(k,v0,b)::l2)).eraseIdx l1.length=List.map toE (l1++l2):=by
  grind [YoQ]
 refine Yqr (v:=.tuple #[]) rfl rfl (λa w ha hw=>⟨setBlock w g (mobj (l1++l2) clock),?_,hw.setBlock hu⟩) h
 have hb:w.heap[g]? =some (mobj (l1++(k,v0,b)::l2) clock):=zc66
 unfold mobj at hb
 have hrun:(Builtin.delete_ #[t,kt] ty #[.map (some g),.int .i64 k]).run P w=.ok (.tuple #[]) (setBlock w g (mobj (l1++l2) clock)):=by
  unfold mobj
  clear hsz hu hk
  generalize List.map toE (l1++(k,v0,b)::l2)=L at hf her hb
  generalize List.map toE (l1++l2)=L2 at her
  simp[Builtin.delete_,run_underlying h1,getObj,Sem.run,hb,Jh _ h2,MapKept.run_findKey h2 hf,her,MapKept.run_setObj_map _ hb,setBlock]
 simp[execOp,resolve,ha.eval hx,ha.eval hy,invoke,builtin,hrun]
theorem Yw{fn:Fn}{caps:List Operand}(hc:Args env caps cs)(hn:Nat.ble (d+1) n.k=true)(h:VL P none n B w0 ops Q rest ((d,.func fn #[] cs.toArray)::env) H):
 VL P none n B w0 ops Q (⟨some d,.makeFunc fn #[] caps.toArray,ty,pos,after,none⟩::rest) env H:=by
 refine YfD rfl rfl hn (λa w ha hw=>⟨w,?_,hw⟩) h
 have hmap:caps.toArray.map a.eval=cs.toArray:=by grind [UT]
 simp[execOp,Instr.makeFunc,hmap]
theorem Yqj{f:Nat}{args:List Operand}{tys:Array TypeId}{vs:List Value}(Φ:Value->List HP->Prop)(hx:evo env x=some (.func (.func f) #[] cs.toArray))
 (hc:∀xs w,(callFunc f xs).run P w=.ok (.enter f xs) w) (hargs:Args env args vs) (hn:Nat.ble (d+1) n.k=true)
 (hcall:∀w,St B w0 H w->Calls P f (vs++cs).toArray w (Post B w0 Φ))
 (h:∀v H',Φ v H'->VL P none n B w0 ops Q rest ((d,v)::env) H'):
 VL P none n B w0 ops Q (⟨some d,.call ⟨.value x,args.toArray,tys⟩,ty,pos,after,none⟩::rest) env H:=by
 refine⟨λa ha w hw=>wpList_plain rfl λK hK=>?_⟩
 unfold Oper.wp
 have hmap:args.toArray.map a.eval=vs.toArray:=by grind [UT]
 have hrun:(execOp a.eval ⟨some d,.call ⟨.value x,args.toArray,tys⟩,ty,pos,after,none⟩).run P w=.ok (.enter f (vs++cs).toArray) w:=zc93
 rw[hrun,Oper.upon_enter]
 refine(hcall w hw).mono ?_
 rintro e w' ⟨v,H',rfl,hst,hΦ⟩
 exact hK _ _ ((h v H' hΦ).run _ (ha.put (TX hn) v) _ hst)
def many(L:List HP):HP:=⟨λS w=>sepL L S w,λh hs=>Ya2 hs h⟩
theorem YeC{M:List HP}{w:World}:∀{L:List HP}{S:Nat->Prop},sepL (L++M) S w->∃S1 S2:Nat->Prop,(∀b,S1 b->S b)/\(∀b,S2 b->S b)/\(∀b,S1 b->¬S2 b)/\sepL L S1 w/\sepL M S2 w
 |[],S,h=>⟨λ_=>False,S,λ_ hb=>hb.elim,λ_ hb=>hb,λ_ hb=>hb.elim,trivial,h⟩
 |A::L,S,h=>by
  obtain⟨T1,T2,h1,h2,h3,h4,h5⟩:=h
  obtain⟨U1,U2,k1,k2,k3,k4,k5⟩:=YeC h5
  refine⟨λb=>T1 b\/U1 b,U2,λb hb=>hb.elim (h1 b) (λhb=>h2 b (k1 b hb)),λb hb=>h2 b (k2 b hb),λb hb hc=>?_,⟨T1,U1,λb hb=>.inl hb,λb hb=>.inr hb,λb hb hc=>h3 b hb (k1 b hc),h4,k4⟩,k5⟩
  grind
theorem YgJ{M:List HP}{w:World}:∀{L:List HP}{S S1 S2:Nat->Prop},(∀b,S1 b->S b)->(∀b,S2 b->S b)->(∀b,S1 b->¬S2 b)->sepL L S1 w->sepL M S2 w->sepL (L++M) S w
 |[],_,_,_,_,h2,_,_,h=>V7 h h2
 |A::L,S,S1,S2,h1,h2,h3,h4,h5=>by
  obtain⟨T1,T2,k1,k2,k3,k4,k5⟩:=h4
  refine⟨T1,λb=>T2 b\/S2 b,λb hb=>h1 b (k1 b hb),λb hb=>hb.elim (λhb=>h1 b (k2 b hb)) (h2 b),λb hb hc=>?_,k4,YgJ (λb hb=>.inl hb) (λb hb=>.inr hb) (λb hb hc=>h3 b (k2 b hb) hc) k5 h5⟩
  simp_all
theorem Perm.open_(L M:List HP):Perm (many L::M) (L++M):=⟨λ_ _ ⟨_,_,h1,h2,h3,h4,h5⟩=>YgJ h1 h2 h3 h4 h5⟩
theorem Perm.close(L M:List HP):Perm (L++M) (many L::M):=⟨λ_ _ h=>YeC h⟩
theorem Perm.mid(A:HP):∀(L M:List HP),Perm (L++A::M) (A::(L++M))
 |[],_=>.refl _
 |B::L,M=>.trans (.cons B (.mid A L M)) (.swap B A (L++M))
theorem Perm.mid'(A:HP):∀(L M:List HP),Perm (A::(L++M)) (L++A::M)
 |[],_=>.refl _
 |B::L,M=>.trans (.swap A B (L++M)) (.cons B (.mid' A L M))
theorem Perm.drop(A:HP)(L:List HP):Perm (A::L) L:=⟨λ_ _ h=>YgK h⟩
theorem Perm.pull(A:HP)(L1 L2 M:List HP):Perm (many (L1++A::L2)::M) (A::many (L1++L2)::M):=by
 refine .trans (.open_ _ _) ?_
 rw[TY,TD]
 refine .trans (.mid A L1 (L2++M)) (.cons A ?_)
 rw[<-TY]
 exact .close _ _
theorem Perm.push(A:HP)(L1 L2 M:List HP):Perm (A::many (L1++L2)::M) (many (L1++A::L2)::M):=by
 refine .trans (.cons A (.open_ _ _)) ?_
 rw[TY]
 refine .trans (.mid' A L1 (L2++M)) ?_
 rw[<-TD,<-TY]
 exact .close _ _
theorem Perm.noMany(M:List HP):Perm M (many []::M):=.close [] M
end
end Go.Eng
