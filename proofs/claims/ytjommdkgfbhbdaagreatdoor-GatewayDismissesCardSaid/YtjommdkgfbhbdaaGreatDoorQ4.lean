/- Lemmas. -/
import Derived.Laws.CopyRow
import Derived.Test.YtjommdkgfbhbdaaGreatDoorQ2
import Derived.Test.YtjommdkgfbhbdaaGreatDoorQ3
set_option maxRecDepth 100000
set_option maxHeartbeats 8000000
set_option linter.all false
namespace Go.Eng
open Go.RowKit Go.Proofs Go.Proofs.YtjommdkgfbhbdaaGreatDoor
section
variable {m:Mode}{n:Shp}{B:Nat}{w0:World}{ops:Array Oper}{Q:Exit->Act->World->Prop}{rest:List Oper}{env:Env}{H:List HP}{d:Nat}{ty:TypeId}{pos:String}{after:Array Edge}{xt yt:TypeId}{x y:Operand}{k:IntKind}{a b:Int}{s t:ByteArray}
variable {v z:Value}
theorem zs1{x:Operand}(h:VL Tryz.prog m n B w0 ops Q rest ((d,v)::env) H)(hx:evo env x=some v:=by exact rfl)(hn:Nat.ble (d+1) n.k=true:=by exact rfl):VL Tryz.prog m n B w0 ops Q (⟨some d,.move x,ty,pos,after,none⟩::rest) env H:=Yre hx hn h
theorem zs2{x:Operand}(h:VL Tryz.prog m n B w0 ops Q rest ((d,v)::env) H)(hx:evo env x=some v:=by exact rfl)(hn:Nat.ble (d+1) n.k=true:=by exact rfl):VL Tryz.prog m n B w0 ops Q (⟨some d,.assign x,ty,pos,after,none⟩::rest) env H:=Ymm hx hn h
variable {op:Op}{j f g i tx cap e size bytes q id:Nat}{oj o:Oper}
theorem zs3{m:Mode}{d:Nat}{ty:TypeId}{pos:String}{after:Array Edge}{s:Nat}{b:Bool}(h:VL Tryz.prog m n B w0 ops Q rest ((d,undef)::env) H)(hj:ops[j]? =some oj:=by exact rfl)(hs:oj.dst=some s:=by exact rfl)(hv:get env s=some v:=by exact rfl)(hne:notB v b=true:=by exact rfl)(hn:Nat.ble (d+1) n.k=true:=by exact rfl):VL Tryz.prog m n B w0 ops Q (⟨some d,op,ty,pos,after,some (j,b)⟩::rest) env H:=YgR hj hs hv hne hn h
theorem zs4{m:Mode}{dst:Option Tmp}{ty:TypeId}{pos:String}{after:Array Edge}{s:Nat}{b:Bool}(h:VL Tryz.prog m n B w0 ops Q (⟨dst,op,ty,pos,after,none⟩::rest) env H)(hj:ops[j]? =some oj:=by exact rfl)(hs:oj.dst=some s:=by exact rfl)(hv:get env s=some (.bool b):=by exact rfl):VL Tryz.prog m n B w0 ops Q (⟨dst,op,ty,pos,after,some (j,b)⟩::rest) env H:=YfE hj hs hv h
theorem zs5{x:Operand}{p:Addr}(h:VL Tryz.prog m n B w0 ops Q rest ((d,.pointer (some p))::env) H)(hx:evo env x=some (.pointer (some p)):=by exact rfl)(hn:Nat.ble (d+1) n.k=true:=by exact rfl):VL Tryz.prog m n B w0 ops Q (⟨some d,.nilCheck x,ty,pos,after,none⟩::rest) env H:=YgX hx hn h
theorem zs6{s k:Nat}{x:Operand}(h:VL Tryz.prog m n B w0 ops Q rest ((d,.pointer (some ⟨g,i+k,none⟩))::env) H)(hx:evo env x=some (.pointer (some ⟨g,i,none⟩)):=by exact rfl)(hf:WR T.fo s f=some k:=by exact rfl)(hn:Nat.ble (d+1) n.k=true:=by exact rfl):VL Tryz.prog m n B w0 ops Q (⟨some d,.fieldAddr s x f,ty,pos,after,none⟩::rest) env H:=YfC T hx hf hn h
variable {cs:Array Value}{tt src dst:TypeId}{fr:Nat×Nat}
theorem zs7{t:Nat}{x:Operand}(h:VL Tryz.prog m n B w0 ops Q rest ((d,v)::env) H)(hx:evo env x=some (.pointer (some ⟨g,i,none⟩)):=by exact rfl)(hm:blk g (.cells cs tt fr)∈H:=by(exact zm;done))(hv:nth cs.toList i=some v:=by exact rfl)(ht:look T.sc t=some ():=by exact rfl)(hn:Nat.ble (d+1) n.k=true:=by exact rfl):VL Tryz.prog m n B w0 ops Q (⟨some d,.load t x,ty,pos,after,none⟩::rest) env H:=Yrb T hx hm hv ht hn h
theorem zs8{t k:Nat}{x:Operand}(h:VL Tryz.prog m n B w0 ops Q rest ((d,.agg cs)::env) H)(hx:evo env x=some (.pointer (some ⟨g,0,none⟩)):=by exact rfl)(hm:blk g (.cells cs tt fr)∈H:=by(exact zm;done))(ht:look T.ag t=some k:=by exact rfl)(hk:cs.size=k:=by exact rfl)(hn:Nat.ble (d+1) n.k=true:=by exact rfl):VL Tryz.prog m n B w0 ops Q (⟨some d,.load t x,ty,pos,after,none⟩::rest) env H:=YdY T hx hm ht hk hn h
variable {A:Option Addr}
theorem zs9{x:Operand}{k:Nat}{es:Nat×Nat×Nat}(h:VL Tryz.prog m n B w0 ops Q rest ((d,.int .i64 k)::env) H)(hx:evo env x=some (.slice A k cap):=by exact rfl)(ht:look T.sl tx=some es:=by exact rfl)(hn:Nat.ble (d+1) n.k=true:=by exact rfl):VL Tryz.prog m n B w0 ops Q (⟨some d,.call ⟨.builtin .len,#[x],#[tx]⟩,ty,pos,after,none⟩::rest) env H:=Yu6 T hx ht hn h
variable {xs cs':List Value}{ki yk:IntKind}
theorem zs10{t:Nat}{x y:Operand}{k:Nat}{i:Int}(h:VL Tryz.prog m n B w0 ops Q rest ((d,sptr A (i.toNat*size))::env) H)(hx:evo env x=some (.slice A k cap):=by exact rfl)(hm:sl e size A k cap xs∈H:=by(exact zm;done))(hy:evo env y=some (.int ki i):=by exact rfl)(ht:look T.sl t=some (e,size,bytes):=by exact rfl)(hn:Nat.ble (d+1) n.k=true:=by exact rfl)(hi:0<=i/\i<k:=by omega):VL Tryz.prog m n B w0 ops Q (⟨some d,.indexAddr t x y,ty,pos,after,none⟩::rest) env H:=YgS T hx hm hy ht hn hi h
variable {c:Operand}
theorem zs11{x y:Operand}(h:VL Tryz.prog m n B w0 ops Q rest ((d,v)::env) H)(hc:evo env c=some (.bool true):=by exact rfl)(hx:evo env x=some v:=by exact rfl)(hn:Nat.ble (d+1) n.k=true:=by exact rfl):VL Tryz.prog m n B w0 ops Q (⟨some d,.pick c x y,ty,pos,after,none⟩::rest) env H:=YfI hc hx hn h
theorem zs12{x y:Operand}(h:VL Tryz.prog m n B w0 ops Q rest ((d,v)::env) H)(hc:evo env c=some (.bool false):=by exact rfl)(hx:evo env y=some v:=by exact rfl)(hn:Nat.ble (d+1) n.k=true:=by exact rfl):VL Tryz.prog m n B w0 ops Q (⟨some d,.pick c x y,ty,pos,after,none⟩::rest) env H:=YdZ hc hx hn h
theorem zs13{x:Operand}{vs:Array Value}(h:VL Tryz.prog m n B w0 ops Q rest ((d,v)::env) H)(hx:evo env x=some (.tuple vs):=by exact rfl)(hv:nth vs.toList i=some v:=by exact rfl)(hn:Nat.ble (d+1) n.k=true:=by exact rfl):VL Tryz.prog m n B w0 ops Q (⟨some d,.extract x i,ty,pos,after,none⟩::rest) env H:=Yjv hx hv hn h
theorem zs14{tx:TypeId}(h:VL Tryz.prog m n B w0 ops Q rest ((d,.int .i64 s.size)::env) H)(hx:evo env x=some (.string s):=by exact rfl)(ht:look T.st tx=some ():=by exact rfl)(hn:Nat.ble (d+1) n.k=true:=by exact rfl):VL Tryz.prog m n B w0 ops Q (⟨some d,.call ⟨.builtin .len,#[x],#[tx]⟩,ty,pos,after,none⟩::rest) env H:=Yrj T hx ht hn h
theorem zs15(h1:a=b->VL Tryz.prog m n B w0 ops Q rest ((d,.bool true)::env) H)(h2:a≠b->VL Tryz.prog m n B w0 ops Q rest ((d,.bool false)::env) H)(hx:evo env x=some (.int k a):=by exact rfl)(hy:evo env y=some (.int k b):=by exact rfl)(hn:Nat.ble (d+1) n.k=true:=by exact rfl):VL Tryz.prog m n B w0 ops Q (⟨some d,.binOp .eql xt x y yt,ty,pos,after,none⟩::rest) env H:=Yn6 hx hy hn h1 h2
theorem zs16(h1:a≠b->VL Tryz.prog m n B w0 ops Q rest ((d,.bool true)::env) H)(h2:a=b->VL Tryz.prog m n B w0 ops Q rest ((d,.bool false)::env) H)(hx:evo env x=some (.int k a):=by exact rfl)(hy:evo env y=some (.int k b):=by exact rfl)(hn:Nat.ble (d+1) n.k=true:=by exact rfl):VL Tryz.prog m n B w0 ops Q (⟨some d,.binOp .neq xt x y yt,ty,pos,after,none⟩::rest) env H:=Yvb hx hy hn h1 h2
theorem zs17(h1:a<b->VL Tryz.prog m n B w0 ops Q rest ((d,.bool true)::env) H)(h2:b<=a->VL Tryz.prog m n B w0 ops Q rest ((d,.bool false)::env) H)(hx:evo env x=some (.int k a):=by exact rfl)(hy:evo env y=some (.int k b):=by exact rfl)(hn:Nat.ble (d+1) n.k=true:=by exact rfl):VL Tryz.prog m n B w0 ops Q (⟨some d,.binOp .lss xt x y yt,ty,pos,after,none⟩::rest) env H:=Yu8 hx hy hn h1 h2
theorem zs18(h1:a<=b->VL Tryz.prog m n B w0 ops Q rest ((d,.bool true)::env) H)(h2:b<a->VL Tryz.prog m n B w0 ops Q rest ((d,.bool false)::env) H)(hx:evo env x=some (.int k a):=by exact rfl)(hy:evo env y=some (.int k b):=by exact rfl)(hn:Nat.ble (d+1) n.k=true:=by exact rfl):VL Tryz.prog m n B w0 ops Q (⟨some d,.binOp .leq xt x y yt,ty,pos,after,none⟩::rest) env H:=Yu7 hx hy hn h1 h2
theorem zs19(h1:b<a->VL Tryz.prog m n B w0 ops Q rest ((d,.bool true)::env) H)(h2:a<=b->VL Tryz.prog m n B w0 ops Q rest ((d,.bool false)::env) H)(hx:evo env x=some (.int k a):=by exact rfl)(hy:evo env y=some (.int k b):=by exact rfl)(hn:Nat.ble (d+1) n.k=true:=by exact rfl):VL Tryz.prog m n B w0 ops Q (⟨some d,.binOp .gtr xt x y yt,ty,pos,after,none⟩::rest) env H:=Yu5 hx hy hn h1 h2
theorem zs20(h1:b<=a->VL Tryz.prog m n B w0 ops Q rest ((d,.bool true)::env) H)(h2:a<b->VL Tryz.prog m n B w0 ops Q rest ((d,.bool false)::env) H)(hx:evo env x=some (.int k a):=by exact rfl)(hy:evo env y=some (.int k b):=by exact rfl)(hn:Nat.ble (d+1) n.k=true:=by exact rfl):VL Tryz.prog m n B w0 ops Q (⟨some d,.binOp .geq xt x y yt,ty,pos,after,none⟩::rest) env H:=Yu4 hx hy hn h1 h2
variable {tys:Array TypeId}
theorem zs25{x y:Operand}{k:IntKind}{a b:Int}(h1:b<a->VL Tryz.prog m n B w0 ops Q rest ((d,.int k b)::env) H)(h2:a<=b->VL Tryz.prog m n B w0 ops Q rest ((d,.int k a)::env) H)(hx:evo env x=some (.int k a):=by exact rfl)(hy:evo env y=some (.int k b):=by exact rfl)(hn:Nat.ble (d+1) n.k=true:=by exact rfl):VL Tryz.prog m n B w0 ops Q (⟨some d,.call ⟨.builtin .min,#[x,y],tys⟩,ty,pos,after,none⟩::rest) env H:=Yld hx hy hn h1 h2
theorem zs30(h:VL Tryz.prog m n B w0 ops Q rest ((d,.int .i64 (a+b))::env) H)(hx:evo env x=some (.int .i64 a):=by exact rfl)(hy:evo env y=some (.int .i64 b):=by exact rfl)(hn:Nat.ble (d+1) n.k=true:=by exact rfl)(hb: -9223372036854775808<=a+b/\a+b<=9223372036854775807:=by omega):VL Tryz.prog m n B w0 ops Q (⟨some d,.binOp .add xt x y yt,ty,pos,after,none⟩::rest) env H:=Yu2 hx hy hn hb h
theorem zs31(h:VL Tryz.prog m n B w0 ops Q rest ((d,.int .i64 (a-b))::env) H)(hx:evo env x=some (.int .i64 a):=by exact rfl)(hy:evo env y=some (.int .i64 b):=by exact rfl)(hn:Nat.ble (d+1) n.k=true:=by exact rfl)(hb: -9223372036854775808<=a-b/\a-b<=9223372036854775807:=by omega):VL Tryz.prog m n B w0 ops Q (⟨some d,.binOp .sub xt x y yt,ty,pos,after,none⟩::rest) env H:=Yvh hx hy hn hb h
theorem zs32(h:VL Tryz.prog m n B w0 ops Q rest ((d,.int .i64 (a*b))::env) H)(hx:evo env x=some (.int .i64 a):=by exact rfl)(hy:evo env y=some (.int .i64 b):=by exact rfl)(hn:Nat.ble (d+1) n.k=true:=by exact rfl)(hb: -9223372036854775808<=a*b/\a*b<=9223372036854775807:=by first|exact YpF (by omega) (by omega) (by omega) (by omega)|exact YrY (by omega) (by omega) (by omega) (by omega)|omega):VL Tryz.prog m n B w0 ops Q (⟨some d,.binOp .mul xt x y yt,ty,pos,after,none⟩::rest) env H:=Yu9 hx hy hn hb h
theorem zs36(h:VL Tryz.prog m n B w0 ops Q rest ((d,.int .i64 (a/b))::env) H)(hx:evo env x=some (.int .i64 a):=by exact rfl)(hy:evo env y=some (.int .i64 b):=by exact rfl)(hn:Nat.ble (d+1) n.k=true:=by exact rfl)(hb:0<=a/\a<=9223372036854775807/\1<=b:=by omega):VL Tryz.prog m n B w0 ops Q (⟨some d,.binOp .quo xt x y yt,ty,pos,after,none⟩::rest) env H:=Yvd hx hy hn hb h
theorem zs37(h:VL Tryz.prog m n B w0 ops Q rest ((d,.int k (a%b))::env) H)(hx:evo env x=some (.int k a):=by exact rfl)(hy:evo env y=some (.int k b):=by exact rfl)(hn:Nat.ble (d+1) n.k=true:=by exact rfl)(hb:0<=a/\1<=b:=by omega):VL Tryz.prog m n B w0 ops Q (⟨some d,.binOp .rem xt x y yt,ty,pos,after,none⟩::rest) env H:=Yve hx hy hn hb h
theorem zs38{D:Int}(h:VL Tryz.prog m n B w0 ops Q rest ((d,.int k (a/D))::env) H)(hx:evo env x=some (.int k a):=by exact rfl)(hn:Nat.ble (d+1) n.k=true:=by exact rfl)(hb:0<=b/\b<=k.bits:=by(simp only[IntKind.bits];omega))(hD:(2:Int)^b.toNat=D:=by(simp only[Int.reduceToNat,Int.reducePow];rfl)):VL Tryz.prog m n B w0 ops Q (⟨some d,.binOp .shr xt x (.const (.int yk b)) yt,ty,pos,after,none⟩::rest) env H:=Yog hx hn hb hD h
theorem zs40(h:VL Tryz.prog m n B w0 ops Q rest ((d,.int k (k.wrap (a*2^b.toNat)))::env) H)(hx:evo env x=some (.int k a):=by exact rfl)(hy:evo env y=some (.int yk b):=by exact rfl)(hn:Nat.ble (d+1) n.k=true:=by exact rfl)(hb:0<=b/\b<=k.bits:=by(simp only[IntKind.bits];omega)):VL Tryz.prog m n B w0 ops Q (⟨some d,.binOp .shl xt x y yt,ty,pos,after,none⟩::rest) env H:=Yvf hx hy hn hb h
theorem zs41(h:VL Tryz.prog m n B w0 ops Q rest ((d,.int k (bits .and k a b))::env) H)(hx:evo env x=some (.int k a):=by exact rfl)(hy:evo env y=some (.int k b):=by exact rfl)(hn:Nat.ble (d+1) n.k=true:=by exact rfl):VL Tryz.prog m n B w0 ops Q (⟨some d,.binOp .and xt x y yt,ty,pos,after,none⟩::rest) env H:=Yu3 hx hy hn h
theorem zs44{j:IntKind}(h:VL Tryz.prog m n B w0 ops Q rest ((d,.int .i64 a)::env) H)(hx:evo env x=some (.int k a):=by exact rfl)(hs:look T.ik src=some j:=by exact rfl)(ht:look T.ik dst=some .i64:=by exact rfl)(hn:Nat.ble (d+1) n.k=true:=by exact rfl)(hb: -9223372036854775808<=a/\a<=9223372036854775807:=by omega):VL Tryz.prog m n B w0 ops Q (⟨some d,.convert src dst x,ty,pos,after,none⟩::rest) env H:=Yju T hx hs ht hn hb h
theorem zs45{j:IntKind}(h:VL Tryz.prog m n B w0 ops Q rest ((d,.int .u64 a)::env) H)(hx:evo env x=some (.int k a):=by exact rfl)(hs:look T.ik src=some j:=by exact rfl)(ht:look T.ik dst=some .u64:=by exact rfl)(hn:Nat.ble (d+1) n.k=true:=by exact rfl)(hb:0<=a/\a<=18446744073709551615:=by omega):VL Tryz.prog m n B w0 ops Q (⟨some d,.convert src dst x,ty,pos,after,none⟩::rest) env H:=YgP T hx hs ht hn hb h
theorem zs46{j:IntKind}{kd:IntKind}(h:VL Tryz.prog m n B w0 ops Q rest ((d,.int kd (kd.wrap a))::env) H)(hx:evo env x=some (.int k a):=by exact rfl)(hs:look T.ik src=some j:=by exact rfl)(ht:look T.ik dst=some kd:=by exact rfl)(hn:Nat.ble (d+1) n.k=true:=by exact rfl):VL Tryz.prog m n B w0 ops Q (⟨some d,.convert src dst x,ty,pos,after,none⟩::rest) env H:=YfB T hx hs ht hn h
theorem zs47{x:Operand}{xt:TypeId}(h:VL Tryz.prog m n B w0 ops Q rest ((d,.bool false)::env) H)(hx:evo env x=some (.bool true):=by exact rfl)(hn:Nat.ble (d+1) n.k=true:=by exact rfl):VL Tryz.prog m n B w0 ops Q (⟨some d,.unOp .not xt x,ty,pos,after,none⟩::rest) env H:=YgY hx hn h
theorem zs48{x:Operand}{xt:TypeId}(h:VL Tryz.prog m n B w0 ops Q rest ((d,.bool true)::env) H)(hx:evo env x=some (.bool false):=by exact rfl)(hn:Nat.ble (d+1) n.k=true:=by exact rfl):VL Tryz.prog m n B w0 ops Q (⟨some d,.unOp .not xt x,ty,pos,after,none⟩::rest) env H:=YfF hx hn h
theorem zs49{t tt:Nat}{x y:Operand}{k:Nat}{mm c:Nat}{K:Option Addr->Nat->List HP}(h:∀A' cap',VL Tryz.prog none n B w0 ops Q rest ((d,.slice A' (k+mm) cap')::env) (K A' cap'))(hx:evo env x=some (.slice A k cap):=by exact rfl)(ht:look T.sl t=some (e,size,bytes):=by exact rfl)(hy:evo env y=some (.slice (some ⟨g,0,none⟩) mm c):=by exact rfl)(hb:blk g (.cells cs tt fr)∈H:=by(exact zm;done))(hk:cs.size=mm*size:=by exact rfl)(h1:Z6 cs.toList=true:=by exact rfl)(hn:Nat.ble (d+1) n.k=true:=by exact rfl)(hu:∀A' cap',Upd (sl e size A k cap xs) (sl e size A' (k+mm) cap' (xs++cs.toList)) H (K A' cap'):=by((intro _ _;exact zd);done))(hby:(k+mm)*bytes<=140737488355328:=by omega):VL Tryz.prog none n B w0 ops Q (⟨some d,.call ⟨.builtin .append,#[x,y],#[t,t]⟩,ty,pos,after,none⟩::rest) env H:=Yml T hx ht hy hb hk h1 hn hu hby h
variable {K F:List HP}
theorem zs50{t:Nat}{cs:List Value}{x y:Operand}(h:VL Tryz.prog none n B w0 ops Q rest env K)(hx:evo env x=some (.pointer (some ⟨g,i,none⟩)):=by exact rfl)(hy:evo env y=some v:=by exact rfl)(h1:v.oneCell'=true:=by exact rfl)(hu:Upd (blk g (.cells cs.toArray tt (0,0))) (blk g (.cells cs'.toArray tt (0,0))) H K:=by(exact zd;done))(hs:Yeu cs i v cs':=by(exact zt;done))(ht:look T.sc t=some ():=by exact rfl):VL Tryz.prog none n B w0 ops Q (⟨none,.store t x y,ty,pos,after,none⟩::rest) env H:=Yoh T hx hy h1 hu hs ht h
theorem zs51{t k:Nat}{cs vs:List Value}{x y:Operand}(h:VL Tryz.prog none n B w0 ops Q rest env K)(hx:evo env x=some (.pointer (some ⟨g,i,none⟩)):=by exact rfl)(hy:evo env y=some (.agg vs.toArray):=by exact rfl)(h1:Z6 vs=true:=by exact rfl)(hu:Upd (blk g (.cells cs.toArray tt (0,0))) (blk g (.cells cs'.toArray tt (0,0))) H K:=by(exact zd;done))(hs:PutAt cs i vs cs':=by((repeat(first|exact PutAt.nil|(apply PutAt.cons;exact zt)));done))(ht:look T.ag t=some k:=by exact rfl)(hk:vs.length=k:=by exact rfl):VL Tryz.prog none n B w0 ops Q (⟨none,.store t x y,ty,pos,after,none⟩::rest) env H:=YfJ T hx hy h1 hu hs ht hk h
theorem zs52{t:TypeId}{x:Operand}(h:∀g,VL Tryz.prog none n B w0 ops Q rest ((d,.pointer (some ⟨g,0,none⟩))::env) (blk g (.cells cs t (0,0))::H))(hx:evo env x=some (.agg cs):=by exact rfl)(hn:Nat.ble (d+1) n.k=true:=by exact rfl):VL Tryz.prog none n B w0 ops Q (⟨some d,.box t x,ty,pos,after,none⟩::rest) env H:=Yx hx hn h
theorem zs53{t:TypeId}{x:Operand}(h:∀g,VL Tryz.prog none n B w0 ops Q rest ((d,.pointer (some ⟨g,0,none⟩))::env) (blk g (.cells #[v] t (0,0))::H))(hx:evo env x=some v:=by exact rfl)(h1:v.cells=#[v]:=by exact rfl)(hn:Nat.ble (d+1) n.k=true:=by exact rfl):VL Tryz.prog none n B w0 ops Q (⟨some d,.box t x,ty,pos,after,none⟩::rest) env H:=Yjr hx h1 hn h
theorem zs54{t:TypeId}(h:∀g,VL Tryz.prog none n B w0 ops Q rest ((d,.pointer (some ⟨g,0,none⟩))::env) (blk g (.cells cs t (0,0))::H))(hz:look T2.zt t=some z:=by exact rfl)(hc:z.cells=cs:=by exact rfl)(hn:Nat.ble (d+1) n.k=true:=by exact rfl):VL Tryz.prog none n B w0 ops Q (⟨some d,.alloc t,ty,pos,after,none⟩::rest) env H:=Ymj T2 hz hc hn h
variable {parts:List (Nat×Operand)}{ps:List (Nat×Value)}
theorem zs55{t:TypeId}{zc:Array Value}{pl:List (Nat×Nat)}{cs:List Value}(h:VL Tryz.prog m n B w0 ops Q rest ((d,.agg cs.toArray)::env) H)(hp:U4 env parts=some ps:=by exact rfl)(hz:look T2.zt t=some (.agg zc):=by exact rfl)(hl:look T2.bt t=some pl:=by exact rfl)(hf:fillL (pl[·]?) zc.toList ps=some cs:=by exact rfl)(hn:Nat.ble (d+1) n.k=true:=by exact rfl):VL Tryz.prog m n B w0 ops Q (⟨some d,.build t parts.toArray,ty,pos,after,none⟩::rest) env H:=Ymn T2 hp hz hl hf hn h
theorem zs56{t len:Nat}{zl cs:List Value}(h:∀g,VL Tryz.prog none n B w0 ops Q rest ((d,.slice (some ⟨g,0,none⟩) len len)::env) (blk g (.cells cs.toArray e (0,0))::H))(ht:look T.sl t=some (e,size,bytes):=by exact rfl)(hp:U4 env parts=some ps:=by exact rfl)(hz:look T2.zt e=some z:=by exact rfl)(hzc:z.cells=zl.toArray:=by exact rfl)(hf:fillL (λi=>some (i*size,size)) (repZ len zl) ps=some cs:=by exact rfl)(hn:Nat.ble (d+1) n.k=true:=by exact rfl)(hl:(Nat.blt 0 (len*size)&&Nat.beq zl.length size&&Nat.ble (len*size) 1000000)=true:=by exact rfl):VL Tryz.prog none n B w0 ops Q (⟨some d,.buildSlice t len parts.toArray,ty,pos,after,none⟩::rest) env H:=Vm T T2 ht hp hz hzc hf hn hl h
variable {α:Type}
theorem zs57{f:α->List Value}{l:List α}{t:Nat}{x y:Operand}{i:Int}(h:VL Tryz.prog m n B w0 ops Q rest ((d,sptr A (i.toNat*size))::env) H)(hx:evo env x=some (.slice A l.length cap):=by exact rfl)(hy:evo env y=some (.int ki i):=by exact rfl)(hr:Rd B w0 H A (l.flatMap f):=by(exact zr;done))(ht:look T.sl t=some (e,size,bytes):=by exact rfl)(hq:∀a,(f a).length=size:=by exactλ_=>rfl)(h0:Nat.blt 0 size=true:=by exact rfl)(hn:Nat.ble (d+1) n.k=true:=by exact rfl)(hi:0<=i/\i<l.length:=by omega):VL Tryz.prog m n B w0 ops Q (⟨some d,.indexAddr t x y,ty,pos,after,none⟩::rest) env H:=Wv T hx hy hr ht hq h0 hn hi h
theorem zs58{f:α->List Value}{l:List α}{s fl k:Nat}{x:Operand}(h:VL Tryz.prog m n B w0 ops Q rest ((d,sptr A (i*q+k))::env) H)(hx:evo env x=some (sptr A (i*q)):=by exact rfl)(hr:Rd B w0 H A (l.flatMap f):=by(exact zr;done))(hq:∀a,(f a).length=q:=by exactλ_=>rfl)(h0:Nat.blt 0 q=true:=by exact rfl)(hf:WR T.fo s fl=some k:=by exact rfl)(hn:Nat.ble (d+1) n.k=true:=by exact rfl)(hi:i<l.length:=by omega):VL Tryz.prog m n B w0 ops Q (⟨some d,.fieldAddr s x fl,ty,pos,after,none⟩::rest) env H:=YfD T hx hr hq h0 hf hn hi h
theorem zs59{f:α->List Value}{l:List α}{t o:Nat}{b:α}{x:Operand}(h:VL Tryz.prog m n B w0 ops Q rest ((d,v)::env) H)(hx:evo env x=some (sptr A (i*q+o)):=by exact rfl)(hr:Rd B w0 H A (l.flatMap f):=by(exact zr;done))(hb:l[i]? =some b:=by assumption)(hq:∀a,(f a).length=q:=by exactλ_=>rfl)(ho:Nat.blt o q=true:=by exact rfl)(hv:nth (f b) o=some v:=by exact rfl)(ht:look T.sc t=some ():=by exact rfl)(hn:Nat.ble (d+1) n.k=true:=by exact rfl):VL Tryz.prog m n B w0 ops Q (⟨some d,.load t x,ty,pos,after,none⟩::rest) env H:=YbW T hx hr hb hq ho hv ht hn h
theorem zs60{f:α->List Value}{l:List α}{t:Nat}{b:α}{x:Operand}(h:VL Tryz.prog m n B w0 ops Q rest ((d,v)::env) H)(hx:evo env x=some (sptr A (i*q)):=by exact rfl)(hr:Rd B w0 H A (l.flatMap f):=by(exact zr;done))(hb:l[i]? =some b:=by assumption)(hq:∀a,(f a).length=q:=by exactλ_=>rfl)(ho:Nat.blt 0 q=true:=by exact rfl)(hv:nth (f b) 0=some v:=by exact rfl)(ht:look T.sc t=some ():=by exact rfl)(hn:Nat.ble (d+1) n.k=true:=by exact rfl):VL Tryz.prog m n B w0 ops Q (⟨some d,.load t x,ty,pos,after,none⟩::rest) env H:=YgU T hx hr hb hq ho hv ht hn h
theorem zs61{f:α->List Value}{l:List α}{t:Nat}{b:α}{x:Operand}(h:VL Tryz.prog m n B w0 ops Q rest ((d,.agg (f b).toArray)::env) H)(hx:evo env x=some (sptr A (i*q)):=by exact rfl)(hr:Rd B w0 H A (l.flatMap f):=by(exact zr;done))(hb:l[i]? =some b:=by assumption)(hq:∀a,(f a).length=q:=by exactλ_=>rfl)(ho:Nat.blt 0 q=true:=by exact rfl)(ht:look T.ag t=some q:=by exact rfl)(hn:Nat.ble (d+1) n.k=true:=by exact rfl):VL Tryz.prog m n B w0 ops Q (⟨some d,.load t x,ty,pos,after,none⟩::rest) env H:=Ww T hx hr hb hq ho ht hn h
theorem zs62{x y:Operand}{k:IntKind}{a b:Int}(h1:a<b->VL Tryz.prog m n B w0 ops Q rest ((d,.int k b)::env) H)(h2:b<=a->VL Tryz.prog m n B w0 ops Q rest ((d,.int k a)::env) H)(hx:evo env x=some (.int k a):=by exact rfl)(hy:evo env y=some (.int k b):=by exact rfl)(hn:Nat.ble (d+1) n.k=true:=by exact rfl):VL Tryz.prog m n B w0 ops Q (⟨some d,.call ⟨.builtin .max,#[x,y],tys⟩,ty,pos,after,none⟩::rest) env H:=Ylc hx hy hn h1 h2
theorem zs65(h:VQ n B w0 Q .normal env H):VL Tryz.prog none n B w0 ops Q [] env H:=Yoa h
theorem zs66(h:VQ n B w0 Q .normal env H):VL Tryz.prog (some none) n B w0 ops Q [] env H:=Yrg h
theorem zs68{y:Code}(h:VC Tryz.prog n B w0 y Q env H):VQ n B w0 (Exit.then (wpR Tryz.prog n.r y Q) Q) .normal env H:=Ybu h
theorem zs69{x y:Code}(h:VC Tryz.prog n B w0 x (Exit.then (wpR Tryz.prog n.r y Q) Q) env H):VC Tryz.prog n B w0 (.seq x y) Q env H:=Y5 h
variable {l:List Oper}
theorem zs70(h:VL Tryz.prog none n B w0 l.toArray Q l env H):VC Tryz.prog n B w0 (.region id l.toArray false) Q env H:=YL h
theorem zs71{x y:Code}(h:VC Tryz.prog n B w0 x Q env H)(hc:evo env c=some (.bool true):=by exact rfl):VC Tryz.prog n B w0 (.cond c x y) Q env H:=Yfv hc h
theorem zs72{x y:Code}(h:VC Tryz.prog n B w0 y Q env H)(hc:evo env c=some (.bool false):=by exact rfl):VC Tryz.prog n B w0 (.cond c x y) Q env H:=YdW hc h
theorem zs73{c:Code}(h:VC Tryz.prog n B w0 c (Exit.inBlock id Q) env H):VC Tryz.prog n B w0 (.block id c) Q env H:=YgH h
theorem zs74(h:VQ n B w0 Q .ret env H):VC Tryz.prog n B w0 .ret Q env H:=Yu1 h
theorem zs75(h:VQ n B w0 Q (.exit id) env H):VC Tryz.prog n B w0 (.exit id) Q env H:=Yq4 h
theorem zs76(h:VQ n B w0 Q .normal env H):VC Tryz.prog n B w0 .skip Q env H:=Yq5 h
theorem zs77{K:Act->World->Prop}(h:VQ n B w0 Q .ret env H):VQ n B w0 (Exit.then K Q) .ret env H:=Yg5 h
theorem zs78(h:VQ n B w0 Q .ret env H):VQ n B w0 (Exit.inBlock id Q) .ret env H:=YfK h
theorem zs79(h:VQ n B w0 Q .normal env H):VQ n B w0 (Exit.inBlock id Q) .normal env H:=Ybh h
theorem zs80{K:Act->World->Prop}(h:VQ n B w0 Q (.exit id) env H):VQ n B w0 (Exit.then K Q) (.exit id) env H:=YfL h
theorem zs81(h:VQ n B w0 Q .normal env H):VQ n B w0 (Exit.inBlock id Q) (.exit id) env H:=Yd0 h
theorem zs82{id':Nat}(h:VQ n B w0 Q (.exit id') env H)(hne:Nat.beq id' id=false:=by exact rfl):VQ n B w0 (Exit.inBlock id Q) (.exit id') env H:=YbY hne h
theorem zs83(h:VL Tryz.prog (some none) n B w0 l.toArray Q l env H)(hq:(l.all λo=>!eff o)=true:=by exact rfl)(hm:Tryz.prog.follows .mixedOrders=true:=by kernel_rfl)(hB:Region.lexB .any l.toArray=true:=by kernel_rfl):VC Tryz.prog n B w0 (.region id l.toArray true) Q env H:=Yn0 hq hm hB h
theorem zs84(h:VL Tryz.prog (some none) n B w0 l.toArray Q l env H)(hq:(l.all λo=>!effW o)=true:=by exact rfl)(hm:Tryz.prog.follows .mixedOrders=true:=by kernel_rfl)(hB:Region.lexB .any l.toArray=true:=by kernel_rfl):VC Tryz.prog n B w0 (.region id l.toArray true) Q env H:=YnZ hq hm hB h
theorem zs87{HF:List HP}(h:VL Tryz.prog none n B w0 ops (YgF Tryz.prog B w0 ops Q H rest) [o] env HF)(he:eff o=true:=by exact rfl)(hg:o.guard=none:=by exact rfl)(happ:App H F HF:=by(exact zp;done)):VL Tryz.prog (some (some F)) n B w0 ops Q (o::rest) env H:=Yq9 he hg happ h
theorem zs90{t:OT}(h:VL Tryz.prog (some (some F)) n B w0 ops (Wr Tryz.prog B w0 ops l Q H t) [o] env H)(ho:nthO l i=o:=by(simp only[nthO];rfl)):VT Tryz.prog n B w0 ops l Q (.n1 i t) env H F:=YvX ho h
theorem zs91{t u:OT}{o':Oper}(h:VL Tryz.prog (some (some F)) n B w0 ops (Wr Tryz.prog B w0 ops l Q H t) [o] env H)(h':VL Tryz.prog (some (some F)) n B w0 ops (Wr Tryz.prog B w0 ops l Q H u) [o'] env H)(ho:nthO l i=o:=by(simp only[nthO];rfl))(ho':nthO l j=o':=by(simp only[nthO];rfl)):VT Tryz.prog n B w0 ops l Q (.n2 i t j u) env H F:=YvY ho ho' h h'
theorem zs93(h:VL Tryz.prog none n B w0 ops Q l env H):VQ n B w0 (Ja Tryz.prog ops Q l) .normal env H:=Yon h
theorem zs94(h:VQ n B w0 Q .normal env H):VQ n B w0 (Only Q) .normal env H:=Yrl h
theorem zg1{m:Mode}{d:Nat}{ty:TypeId}{pos:String}{after:Array Edge}{b:Bool}(h:VL Tryz.prog m n B w0 ops Q (⟨some d,op,ty,pos,after,some (j,b)⟩::rest) env H):VL Tryz.prog m n B w0 ops Q (⟨some d,op,ty,pos,after,some (j,b)⟩::rest) env H:=h
theorem zg2{s:Nat}{x:Operand}(h:VL Tryz.prog m n B w0 ops Q (⟨some d,.fieldAddr s x f,ty,pos,after,none⟩::rest) env H):VL Tryz.prog m n B w0 ops Q (⟨some d,.fieldAddr s x f,ty,pos,after,none⟩::rest) env H:=h
theorem zg3{t:Nat}{x:Operand}(h:VL Tryz.prog m n B w0 ops Q (⟨some d,.load t x,ty,pos,after,none⟩::rest) env H):VL Tryz.prog m n B w0 ops Q (⟨some d,.load t x,ty,pos,after,none⟩::rest) env H:=h
theorem zg4{x:Operand}(h:VL Tryz.prog m n B w0 ops Q (⟨some d,.call ⟨.builtin .len,#[x],#[tx]⟩,ty,pos,after,none⟩::rest) env H):VL Tryz.prog m n B w0 ops Q (⟨some d,.call ⟨.builtin .len,#[x],#[tx]⟩,ty,pos,after,none⟩::rest) env H:=h
theorem zg5{t:Nat}{x y:Operand}(h:VL Tryz.prog m n B w0 ops Q (⟨some d,.indexAddr t x y,ty,pos,after,none⟩::rest) env H):VL Tryz.prog m n B w0 ops Q (⟨some d,.indexAddr t x y,ty,pos,after,none⟩::rest) env H:=h
theorem zg6{x y:Operand}(h:VL Tryz.prog m n B w0 ops Q (⟨some d,.pick c x y,ty,pos,after,none⟩::rest) env H):VL Tryz.prog m n B w0 ops Q (⟨some d,.pick c x y,ty,pos,after,none⟩::rest) env H:=h
theorem zg7(h:VL Tryz.prog m n B w0 ops Q (⟨some d,.binOp .eql xt x y yt,ty,pos,after,none⟩::rest) env H):VL Tryz.prog m n B w0 ops Q (⟨some d,.binOp .eql xt x y yt,ty,pos,after,none⟩::rest) env H:=h
theorem zg8(h:VL Tryz.prog m n B w0 ops Q (⟨some d,.binOp .neq xt x y yt,ty,pos,after,none⟩::rest) env H):VL Tryz.prog m n B w0 ops Q (⟨some d,.binOp .neq xt x y yt,ty,pos,after,none⟩::rest) env H:=h
theorem zg13(h:VL Tryz.prog m n B w0 ops Q (⟨some d,.binOp .add xt x y yt,ty,pos,after,none⟩::rest) env H):VL Tryz.prog m n B w0 ops Q (⟨some d,.binOp .add xt x y yt,ty,pos,after,none⟩::rest) env H:=h
theorem zg14(h:VL Tryz.prog m n B w0 ops Q (⟨some d,.binOp .sub xt x y yt,ty,pos,after,none⟩::rest) env H):VL Tryz.prog m n B w0 ops Q (⟨some d,.binOp .sub xt x y yt,ty,pos,after,none⟩::rest) env H:=h
theorem zg15(h:VL Tryz.prog m n B w0 ops Q (⟨some d,.binOp .mul xt x y yt,ty,pos,after,none⟩::rest) env H):VL Tryz.prog m n B w0 ops Q (⟨some d,.binOp .mul xt x y yt,ty,pos,after,none⟩::rest) env H:=h
theorem zg16(h:VL Tryz.prog m n B w0 ops Q (⟨some d,.binOp .quo xt x y yt,ty,pos,after,none⟩::rest) env H):VL Tryz.prog m n B w0 ops Q (⟨some d,.binOp .quo xt x y yt,ty,pos,after,none⟩::rest) env H:=h
theorem zg17(h:VL Tryz.prog m n B w0 ops Q (⟨some d,.binOp .rem xt x y yt,ty,pos,after,none⟩::rest) env H):VL Tryz.prog m n B w0 ops Q (⟨some d,.binOp .rem xt x y yt,ty,pos,after,none⟩::rest) env H:=h
theorem zg18(h:VL Tryz.prog m n B w0 ops Q (⟨some d,.binOp .shr xt x y yt,ty,pos,after,none⟩::rest) env H):VL Tryz.prog m n B w0 ops Q (⟨some d,.binOp .shr xt x y yt,ty,pos,after,none⟩::rest) env H:=h
theorem zg19(h:VL Tryz.prog m n B w0 ops Q (⟨some d,.convert src dst x,ty,pos,after,none⟩::rest) env H):VL Tryz.prog m n B w0 ops Q (⟨some d,.convert src dst x,ty,pos,after,none⟩::rest) env H:=h
theorem zg20{x:Operand}{xt:TypeId}(h:VL Tryz.prog m n B w0 ops Q (⟨some d,.unOp .not xt x,ty,pos,after,none⟩::rest) env H):VL Tryz.prog m n B w0 ops Q (⟨some d,.unOp .not xt x,ty,pos,after,none⟩::rest) env H:=h
theorem zg21{t:Nat}{x y:Operand}(h:VL Tryz.prog m n B w0 ops Q (⟨some d,.call ⟨.builtin .append,#[x,y],#[t,t]⟩,ty,pos,after,none⟩::rest) env H):VL Tryz.prog m n B w0 ops Q (⟨some d,.call ⟨.builtin .append,#[x,y],#[t,t]⟩,ty,pos,after,none⟩::rest) env H:=h
theorem zg22{t:Nat}{x y:Operand}(h:VL Tryz.prog m n B w0 ops Q (⟨none,.store t x y,ty,pos,after,none⟩::rest) env H):VL Tryz.prog m n B w0 ops Q (⟨none,.store t x y,ty,pos,after,none⟩::rest) env H:=h
theorem zg23{t:TypeId}{x:Operand}(h:VL Tryz.prog m n B w0 ops Q (⟨some d,.box t x,ty,pos,after,none⟩::rest) env H):VL Tryz.prog m n B w0 ops Q (⟨some d,.box t x,ty,pos,after,none⟩::rest) env H:=h
theorem zg24{t:TypeId}(h:VL Tryz.prog m n B w0 ops Q (⟨some d,.alloc t,ty,pos,after,none⟩::rest) env H):VL Tryz.prog m n B w0 ops Q (⟨some d,.alloc t,ty,pos,after,none⟩::rest) env H:=h
theorem zg25{t:TypeId}(h:VL Tryz.prog m n B w0 ops Q (⟨some d,.build t parts.toArray,ty,pos,after,none⟩::rest) env H):VL Tryz.prog m n B w0 ops Q (⟨some d,.build t parts.toArray,ty,pos,after,none⟩::rest) env H:=h
theorem zg26{t len:Nat}(h:VL Tryz.prog m n B w0 ops Q (⟨some d,.buildSlice t len parts.toArray,ty,pos,after,none⟩::rest) env H):VL Tryz.prog m n B w0 ops Q (⟨some d,.buildSlice t len parts.toArray,ty,pos,after,none⟩::rest) env H:=h
theorem zg27{x y:Code}(h:VC Tryz.prog n B w0 (.cond c x y) Q env H):VC Tryz.prog n B w0 (.cond c x y) Q env H:=h
theorem zg28(h:VC Tryz.prog n B w0 (.region id l.toArray true) Q env H):VC Tryz.prog n B w0 (.region id l.toArray true) Q env H:=h
theorem zg29{fn:Fn}{caps:List Operand}(h:VL Tryz.prog m n B w0 ops Q (⟨some d,.makeFunc fn #[] caps.toArray,ty,pos,after,none⟩::rest) env H):VL Tryz.prog m n B w0 ops Q (⟨some d,.makeFunc fn #[] caps.toArray,ty,pos,after,none⟩::rest) env H:=h
end
open Go.RowKit
open Go.ChangeMaps (setBlock)
section
variable {P:Program}{m:Mode}{n:Shp}{B:Nat}{w0:World}{ops:Array Oper}{Q:Exit->Act->World->Prop}{rest:List Oper}{env:Env}{H:List HP}{d:Nat}{ty:TypeId}{pos:String}{after:Array Edge}{x y:Operand}
theorem Ymo{t kt et g clock:Nat}{es:Ents}{u:Operand}{k:Int}{v:Value}{K:List HP}(hx:evo env x=some (.map (some g)))(hy:evo env y=some (.int .i64 k))(hv:evo env u=some v)(ht:mapT P t kt et=true)
 (hu:Upd (blk g (mobj es clock)) (blk g (mobj (es++[(k,v,clock)]) (clock+1))) H K) (hk:mget es k=none)
 (h:VL P none n B w0 ops Q rest env K):VL P none n B w0 ops Q (⟨none,.insert t x y u,ty,pos,after,none⟩::rest) env H:=zc30
def isSl(P:Program)(t:TypeId):Bool:=match P.underlying t with|some (.slice _)=>true|_=>false
theorem Yna{t:TypeId}(h:isSl P t=true):∃e,P.underlying t=some (.slice e):=by
 unfold isSl at h
 grind
theorem ZN{xt yt:TypeId}{A:Option Addr}{k cap:Nat}(hx:evo env x=some (.slice A k cap))(hn:Nat.ble (d+1) n.k=true)(hu:isSl P xt=true)
 (h:VL P m n B w0 ops Q rest ((d,.bool A.isNone)::env) H):VL P m n B w0 ops Q (⟨some d,.binOp .eql xt x (.const (.slice none 0 0)) yt,ty,pos,after,none⟩::rest) env H:=by
 obtain⟨e,hu⟩:=Yna hu
 refine Xj hx (y:=.const (.slice none 0 0)) rfl hn (λw=>by simp[eqGuard]) (λw=>?_) h
 simp only[binOp,Op.equal]
 rw[Sem.run_bind,show Op.maxDepth=9999+1 from rfl]
 unfold Op.equalIn
 cases A<;>simp[run_underlying hu]
theorem YhO{α:Type}{f:α->List Value}{q:Nat}(hq:∀a,(f a).length=q):∀(l:List α) (i:Nat) (a:α),i<l.length->(l.flatMap f).take (i*q)++f a++(l.flatMap f).drop (i*q+q)=(l.set i a).flatMap f
 |[],i,a,h=>by simp at h
 |b::l,0,a,_=>by
  simp_all
 |b::l,i+1,a,h=>by
  have e1:(i+1)*q=q+i*q:=by grind
  have e2:q+i*q+q=q+(i*q+q):=by omega
  have ih:=YhO hq l i a (by simp_all)
  simp_all [List.take_append,List.drop_append,List.take_of_length_le,List.drop_eq_nil_of_le]
variable {t e k cap size:Nat}{A:Option Addr}
theorem JL(T:Tab P){α:Type}{f:α->List Value}{l:List α}{i q:Nat}{a:α}{vs:List Value}{K:List HP}(hx:evo env x=some (sptr A (i*q)))(hy:evo env y=some (.agg vs.toArray))(hv:f a=vs)
 (hu:Upd (sl e q A k cap (l.flatMap f)) (sl e q A k cap ((l.set i a).flatMap f)) H K) (hq:∀a,(f a).length=q) (h1:Z6 vs=true) (ht:look T.ag t=some q) (hq0:Nat.blt 0 q=true) (hi:i<l.length)
 (h:VL P none n B w0 ops Q rest env K):VL P none n B w0 ops Q (⟨none,.store t x y,ty,pos,after,none⟩::rest) env H:=by
 subst hv
 have hmem:sl e q A k cap (l.flatMap f)∈H:=Yji
 have hq0':0<q:=by simp_all
 refine UI rfl rfl (λac w ha hw=>?_) h
 have hown:=hw.sl hmem
 rcases ZQ hown with⟨_,rfl,_,e4⟩|⟨g,cur,rfl,g1,g2,g3,g4,g5,g6⟩
 ·have:=TA List.length e4
  rw[XJ hq]at this
  have h5:0<l.length*q:=Nat.mul_pos (by omega) hq0'
  simp_all
 ·have hil:i*q+q<=l.length*q:=YuN
  rw[XJ hq]at g6
  have hkc:k*q<=cap*q:=Ri _ g2
  have hov:i*q+(f a).length<=cur.size:=by grind
  have hrun:=run_storeCells_at (P:=P) g (i*q) e (f a) 0 cur w g1 (by omega) (ZC h1)
  rw[S9]at hrun
  refine⟨_,?_,hw.storeRow (k':=k) (o:=i*q) (vs:=f a) hu rfl g1 g4 g2 g3 hov ?_ ?_⟩
  ·rw[show sptr (some (⟨g,0,none⟩:Addr)) (i*q)=.pointer (some ⟨g,i*q,none⟩) by simp[sptr,Addr.add_lit]]at hx
   simp[execOp,ha.eval hx,ha.eval hy,Instr.storeAt,Instr.sureAddr,storeVar,Value.cells,Z8 (V8 (T.aggs ht)),hq,hrun]
  ·have hX:(cur.toList.take (i*q)++f a).length=i*q+q:=by grind
   rw[<-YhO hq l i a hi,<-g5,hq,SG,hX,TE (by omega),List.take_take,SA (by omega),List.drop_take]
  grind [XJ,T8]
theorem YdX(T:Tab P){bytes:Nat}{a:Addr}{ki:IntKind}{i:Int}(hx:evo env x=some (.slice (some a) k cap))(hy:evo env y=some (.int ki i))(ht:look T.sl t=some (e,size,bytes))(hn:Nat.ble (d+1) n.k=true)(hi:0<=i/\i<k)
 (h:VL P m n B w0 ops Q rest ((d,sptr (some a) (i.toNat*size))::env) H):VL P m n B w0 ops Q (⟨some d,.indexAddr t x y,ty,pos,after,none⟩::rest) env H:=by
 obtain⟨hut,inf,z',hinf,_,_,hsi,_⟩:=YN (T.slic ht)
 refine YO rfl rfl hn rfl (λf w ha _=>?_) h
 exact zc66
theorem Ybs{l:List Oper}{xs:List Value}(hm:sl e size A k cap xs∈H)(hk:0<k)(h:∀g,A=some ⟨g,0,none⟩->VL P none n B w0 ops Q l env H):VL P none n B w0 ops Q l env H:=by
 refine⟨λa ha w hw=>?_⟩
 rcases ZQ (hw.sl hm)with⟨_,e1,_⟩|⟨g,_,rfl,_⟩
 ·omega
 ·exact(h g rfl).run a ha w hw
end
section
variable {P:Program}{n:Shp}{B:Nat}{w0:World}{ops:Array Oper}{Q:Exit->Act->World->Prop}{rest:List Oper}{env:Env}{H:List HP}
def J2(ops:Array Oper):List Nat->Array Bool->Bool
 |[],listed=>(Region.ready .any ops listed).isEmpty
 |i::rest,listed=>decide (Region.ready .any ops listed=[i])&&J2 ops rest (listed.setIfInBounds i true)
def Yge(ops:Array Oper)(last:List Nat):List Nat->Array Bool->Bool
 |[],listed=>J2 ops last listed
 |i::rest,listed=>
  (match ops[i]? with
   |some o=>if eff o then decide (Region.ready .any ops listed=[i])else(Region.ready .any ops listed).contains i&&Region.free .any ops listed i
   |none=>false)&&Yge ops last rest (listed.setIfInBounds i true)
def Yc0(ops:Array Oper)(last:List Nat):Bool:=
 last.all λj=>decide (j<ops.size)&&(List.range ops.size).all λi=>last.contains i||(match ops[i]? with|some o=>eff o|none=>false)||ancB ops ops.size j i
theorem Vv{last:List Nat}(h:Yc0 ops last=true):(∀j,last.contains j=true->∃o,ops[j]? =some o)/\∀i oi,ops[i]? =some oi->eff oi=false->last.contains i=false->∀j,last.contains j=true->∃f,ancB ops f j i=true:=by
 refine⟨λj hj=>?_,λi oi hi he hil j hj=>?_⟩
 ·have h1:=Rh.1 h j (by simp_all)
  simp_all
 ·exact Yl0
theorem JZ{S:World->Prop}{last:List Nat}(l:List Oper)(hl:ops=l.toArray)(hef:∀j,last.contains j=true->∃o,ops[j]? =some o)(hlo:¬LetsOut Q):
 ∀(o2:List Nat) (listed:Array Bool) (a:Act) (w:World),(∀j∈o2,last.contains j=true)->J2 ops o2 listed=true->wpList P ops Q (Yd l o2) a w->Zg P ops Q S last o2.length listed a w
 |[],listed,a,w,_,hB,h=>⟨by grind [J2],h⟩
 |i::rest,listed,a,w,hin,hB,h=>by
  simp only[J2,Tq,Tm]at hB
  obtain⟨h1,h2⟩:=hB
  obtain⟨o,ho⟩:=hef i (hin i (by simp))
  have hget:nthO l i=o:=Xz hl ho
  simp only[Yd,hget]at h
  unfold wpList at h
  refine⟨λh0=>(by simp_all),λk hk=>?_⟩
  obtain rfl:k=i:=by simp_all
  unfold wpOp
  simp only[ho]
  by_cases hw:Region.wanted o (yielded ops a.tmps)=true
  ·rw[To hw]at h⊢
   rcases h with h|⟨_,h⟩
   ·exact .inl (Oper.wp_mono (λa' w' h'=>⟨λhf=>(by simp_all),JZ l hl hef hlo rest _ a' w' (λj hj=>hin j (by simp[hj])) h2 h'⟩) h)
   simp_all
  ·rw[Tf hw]at h⊢
   exact⟨λhf=>(by simp_all),JZ l hl hef hlo rest _ _ w (λj hj=>hin j (by simp[hj])) h2 h⟩
theorem VM{S:World->Prop}{last:List Nat}(hs:Region.noSelect ops=true)(hQ:∀c (a:Act) (w:World),¬Q (.panic c) a w)(hlo:¬LetsOut Q)(l:List Oper)(hl:ops=l.toArray)(hlast:Yc0 ops last=true):
 ∀(o1:List Nat) (listed:Array Bool) (a:Act) (w:World),Closed ops listed->(∀j∈o1,last.contains j=false)->Yge ops last o1 listed=true->S w->YA P ops (Ja P ops Q (Yd l last)) S (Yd l o1) a w->
  Zg P ops Q S last (o1++last).length listed a w
 |[],listed,a,w,_,_,hB,_,h=>JZ l hl (Vv hlast).1 hlo last listed a w (λj hj=>by simp_all) hB h
 |i::rest,listed,a,w,hcl,hno,hB,hS,h=>by
  simp only[Yge,Tq]at hB
  obtain⟨h1,h2⟩:=hB
  have hno':∀j∈rest,last.contains j=false:=by simp_all
  cases ho:ops[i]? with
  |none=>simp_all
  |some o=>
   rw[ho]at h1
   have hget:nthO l i=o:=Xz hl ho
   simp only[Yd,hget]at h
   by_cases he:eff o=true
   ·simp only[he,Nn,Tm]at h1
    unfold YA at h
    rw[To he]at h
    refine⟨λh0=>(by simp_all),λk hk=>?_⟩
    have hk':=hk
    rw[h1]at hk
    obtain rfl:k=i:=by simp_all
    unfold wpOp
    simp only[ho]
    by_cases hw:Region.wanted o (yielded ops a.tmps)=true
    ·rw[To hw]at h⊢
     refine .inl (Oper.wp_mono_noQ' (λc a w h=>by cases h) (Oper.wp_mono (λa' w' h'=>⟨λ_=>h'.1,VM hs hQ hlo l hl hlast rest _ a' w' (hcl.set hk') hno' h2 h'.1 h'.2⟩) h))
    ·rw[Tf hw]at h⊢
     exact⟨λ_=>hS,VM hs hQ hlo l hl hlast rest _ _ w (hcl.set hk') hno' h2 hS h⟩
   ·simp only[he]at h1
    simp only[Sl,NS,Tq]at h1
    unfold YA at h
    rw[Tf he]at h
    obtain⟨v,hy,h3⟩:=h
    have hr:i∈Region.ready .any ops listed:=by simp_all
    exact Jw ho (Region.noSelect_spec hs) hQ ((Vv hlast).2 i o ho (by simp_all) (hno i (by simp))) (hno i (by simp)) _ listed a w hcl (Region.free_spec ho h1.2) hr hy hS (VM hs hQ hlo l hl hlast rest _ _ w (hcl.set hr) hno' h2 hS h3)
theorem Ws{id:Nat}{l:List Oper}(o1 last:List Nat)(mask:List Bool){Hc F:List HP}(hm:P.follows .mixedOrders=true)
 (hB:(Region.noSelect l.toArray&&decide ((o1++last).length=l.toArray.size)&&Yc0 l.toArray last&&(o1.all λj=>!last.contains j)&&Yge l.toArray last o1 (Array.replicate l.toArray.size false))=true)
 (hsp:Split mask H Hc F) {l1 l2:List Oper}(hl1:Yd l o1=l1) (hl2:Yd l last=l2) (h:VL P (some (some F)) n B w0 l.toArray (Ja P l.toArray (Only Q) l2) l1 env Hc):VC P n B w0 (.region id l.toArray true) Q env H:=by
 simp only[Tq,Tm]at hB
 obtain⟨⟨⟨⟨h1,h2⟩,h3⟩,h4⟩,h5⟩:=hB
 refine⟨λa w ha hw=>ZZ (Q:=Only Q) ?_ λe a w h=>by exact zc81⟩
 have hst:St B w0 (Hc++F) w.drew:=(hw.perm (XO hsp)).drew
 have hr:YA P l.toArray (Ja P l.toArray (Only Q) l2) (St B w0 Hc) l1 a w.drew:=h.run a ha w.drew hst
 rw[<-hl1,<-hl2]at hr
 have:=VM (S:=St B w0 Hc) h1 (λc a w h=>h) zc59 l rfl h3 o1 _ a w.drew (XV _ _) (λj hj=>by simp_all) h5 hst.prefix_ hr
 exact Yl9
end
section
variable {P:Program}{m:Mode}{n:Shp}{B d:Nat}{w0:World}{ops:Array Oper}{Q:Exit->Act->World->Prop}{rest:List Oper}{env:Env}{H:List HP}{ty:TypeId}{pos:String}{after:Array Edge}
def QE(P:Program)(t:TypeId):Bool:=match P.underlying t with|some (.interface _)=>false|some _=>true|none=>false
variable {t elem:TypeId}{x:Operand}{v v0 r:Value}
theorem UH(hx:evo env x=some v)(hu:QE P t=true)(hn:Nat.ble (d+1) n.k=true)
 (h:VL P none n B w0 ops Q rest ((d,.iface t v)::env) H):VL P none n B w0 ops Q (⟨some d,.makeInterface t x,ty,pos,after,none⟩::rest) env H:=by
 refine Yev rfl rfl hn (λa w ha hw=>⟨w,?_,hw⟩) h
 unfold QE at hu
 cases ht:P.underlying t with
 |none=>simp_all
 |some u=>
  rw[ht]at hu
  cases u<;>first|(cases hu;done)|simp[execOp,ha.eval hx,Instr.makeInterface,run_underlying ht]
theorem Yay{xt:TypeId}(hx:evo env x=some (.iface t v))(hu:QE P t=true)(hn:Nat.ble (d+1) n.k=true)
 (h:VL P none n B w0 ops Q rest ((d,.tuple #[v,.bool true])::env) H):VL P none n B w0 ops Q (⟨some d,.typeAssert x xt t true,ty,pos,after,none⟩::rest) env H:=by
 refine Yev rfl rfl hn (λa w ha hw=>⟨w,?_,hw⟩) h
 unfold QE at hu
 cases ht:P.underlying t with
 |none=>simp_all
 |some u=>
  rw[ht]at hu
  cases u<;>first|(cases hu;done)|simp[execOp,ha.eval hx,Instr.typeAssert,run_underlying ht]
theorem Yir(x t:TypeId)(a:Addr)(s u:String):Builtin.ssaWrapNilChk_ #[x] t #[.pointer (some a),strVal s,strVal u]=pure (.pointer (some a)):=rfl
variable {k f:Nat}{name:String}{a:Addr}{w:World}
theorem Ydu{info:TypeInfo}{mm:Method}(hi:P.info? t=some info)(hf:info.methods.find? (λx=>x.name==name)=some mm)(hp:mm.path=#[])(hfu:mm.func=some (f,false))(hu:P.underlying t=some (.pointer elem)):
 (method (k+1) t (.pointer (some a)) name).run P w=((loadVar elem a).run P w).andThen λv w=>.ok (f,v) w:=by
 simp[method,typeInfo,hi,hf,hp,follow,hfu,receiverAt,Place.get,run_underlying hu,Yir,asAddr]
def YtC(P:Program)(t:TypeId)(name:String)(f:Nat)(elem:TypeId):Bool:=
 match P.info? t with
 |some info=>(match info.methods.find? (λx=>x.name==name)with|some mm=>mm.path==#[]&&mm.func==some (f,false)|none=>false)&&(match P.underlying t with|some (.pointer e)=>e==elem|_=>false)
 |none=>false
theorem Yas(h:YtC P t name f elem=true):
 (method (k+1) t (.pointer (some a)) name).run P w=((loadVar elem a).run P w).andThen λv w=>.ok (f,v) w:=by
 unfold YtC at h
 cases hi:P.info? t with
 |none=>simp_all
 |some info=>
  rw[hi]at h
  simp only[Tq]at h
  obtain⟨h1,h2⟩:=h
  cases hf:info.methods.find? (λx=>x.name==name)with
  |none=>simp_all
  |some mm=>
   cases hu:P.underlying t with
   |none=>simp_all
   |some d=>
    rw[hu]at h2
    cases d<;>first|(cases h2;done)|skip
    simp_all [Ydu]
variable {args:List Operand}{tys:Array TypeId}{vs:List Value}
theorem Jb(Φ:Value->List HP->Prop)(hx:evo env x=some (.iface t v0))
 (hm:∀w,St B w0 H w->(method (P.types.size+Made.depth) t v0 name).run P w=.ok (f,r) w)
 (hc:∀xs w,(callFunc f xs).run P w=.ok (.enter f xs) w) (hargs:Args env args vs) (hn:Nat.ble (d+1) n.k=true)
 (hcall:∀w,St B w0 H w->Calls P f (r::vs).toArray w (Post B w0 Φ))
 (h:∀v H',Φ v H'->VL P none n B w0 ops Q rest ((d,v)::env) H'):
 VL P none n B w0 ops Q (⟨some d,.call ⟨.invoke x name,args.toArray,tys⟩,ty,pos,after,none⟩::rest) env H:=by
 refine⟨λa ha w hw=>wpList_plain rfl λK hK=>?_⟩
 unfold Oper.wp
 have hmap:args.toArray.map a.eval=vs.toArray:=by grind [VP]
 have hrun:(execOp a.eval ⟨some d,.call ⟨.invoke x name,args.toArray,tys⟩,ty,pos,after,none⟩).run P w=.ok (.enter f (r::vs).toArray) w:=by
  simp only[execOp,resolve,ha.eval hx,hmap,Sem.run_bind,Sem.run_pure,Result.andThen_ok,invoke]
  have e1:(#[Value.iface t v0]++vs.toArray)[0]? =some (.iface t v0):=by simp
  have e2:(#[Value.iface t v0]++vs.toArray).extract 1 (#[Value.iface t v0]++vs.toArray).size=vs.toArray:=by simp_all
  have e3:#[r]++vs.toArray=(r::vs).toArray:=by simp
  simp_all [callMethod]
 rw[hrun,Oper.upon_enter]
 exact zc56
theorem Xk(hx:evo env x=some (.iface t v0))
 (hm:∀w,St B w0 H w->(method (P.types.size+Made.depth) t v0 name).run P w=.ok (f,r) w)
 (hc:∀xs w,(callFunc f xs).run P w=.ok (.enter f xs) w) (hargs:Args env args vs) (hn:Nat.ble (d+1) n.k=true)
 (hcall:∀w,St B w0 H w->Calls P f (r::vs).toArray w (Post B w0 λu K=>u=v/\K=H))
 (h:VL P none n B w0 ops Q rest ((d,v)::env) H):
 VL P none n B w0 ops Q (⟨some d,.call ⟨.invoke x name,args.toArray,tys⟩,ty,pos,after,none⟩::rest) env H:=
 Jb _ hx hm hc hargs hn hcall zc69
end
section
variable {P:Program}{n:Shp}{B:Nat}{w0:World}{ops:Array Oper}{Q:Exit->Act->World->Prop}{rest:List Oper}{env:Env}{H:List HP}
variable {S:World->Prop}{last:List Nat}{i:Nat}{oi:Oper}{v:Value}
theorem Yes(hi:ops[i]? =some oi)(hsel:∀(j:Nat) (o:Oper) cs b,ops[j]? =some o->o.op≠.select cs b)
 (hQ:∀c (a:Act) (w:World),¬Q (.panic c) a w) (hil:last.contains i=true):
 ∀(fuel:Nat) (listed:Array Bool) (a:Act) (w:World),Closed ops listed->
  (∀j oj,ops[j]? =some oj->j≠i->listed.getD j true=false->(∀e∈oj.after,Region.binds .any e=true->e.on≠i)->oi.apart ops oj=true)->
  i∈Region.ready .any ops listed->YieldsIf P ops (λ_=>True) oi v a->
  Zg P ops Q S last fuel (listed.setIfInBounds i true) (a.put oi.dst v) w->Zg P ops Q S last (fuel+1) listed a w:=by
 intro fuel
 have hno:¬last.contains i=false:=by simp_all
 induction fuel with
 |zero=>
  intro listed a w _ _ hr hy H
  refine⟨λh=>(by simp_all),λj hj=>?_⟩
  by_cases hji:j=i
  ·exact YuS
  exact zc87
 |succ fuel ih=>
  intro listed a w hcl hfree hr hy H
  refine⟨λh=>(by grind),λj hj=>?_⟩
  by_cases hji:j=i
  ·exact YuS
  ·have h1:=H.2 j (ready_mono hj hji)
   obtain⟨hjun,oj,hoj,hall⟩:=mem_ready.1 hj
   have hun:=(mem_ready.1 hr).1
   have hun':listed.getD i false=false:=zc48
   have hnot:∀e∈oj.after,Region.binds .any e=true->e.on≠i:=by grind
   have h2:=wpOp_putIf hoj (hfree j oj hoj hji hjun hnot) (λcs b=>hsel i oi cs b hi) (λcs b=>hsel j oj cs b hoj) (λc a w h=>(hQ c _ w h).elim) hy h1
   have hfree':∀k ok,ops[k]? =some ok->k≠i->(listed.setIfInBounds j true).getD k true=false->
    (∀e∈ok.after,Region.binds .any e=true->e.on≠i)->oi.apart ops ok=true:=λk ok hk hki hu hno=>by
    exact zc27
   refine wpOp_mono (λa' w' h3=>⟨h3.2.1,ih (listed.setIfInBounds j true) a' w' (hcl.set hj) hfree' (ready_mono hr (NM hji)) h3.1 ?_⟩) h2
   exact zc75
theorem Yer(hi:ops[i]? =some oi)(hsel:∀(j:Nat) (o:Oper) cs b,ops[j]? =some o->o.op≠.select cs b)
 (hQ:∀c (a:Act) (w:World),¬Q (.panic c) a w) (hil:last.contains i=false):
 ∀(fuel:Nat) (listed:Array Bool) (a:Act) (w:World),Closed ops listed->(∀j,last.contains j=true->listed.getD j false=true\/∃f,ancB ops f j i=true)->
  (∀j oj,ops[j]? =some oj->j≠i->listed.getD j true=false->(∀e∈oj.after,Region.binds .any e=true->e.on≠i)->oi.apart ops oj=true)->
  i∈Region.ready .any ops listed->YieldsIf P ops S oi v a->S w->
  Zg P ops Q S last fuel (listed.setIfInBounds i true) (a.put oi.dst v) w->Zg P ops Q S last (fuel+1) listed a w:=by
 intro fuel
 induction fuel with
 |zero=>
  intro listed a w _ _ _ hr hy hS H
  refine⟨λh=>(by simp_all),λj hj=>?_⟩
  by_cases hji:j=i
  ·exact Yl1
  exact zc87
 |succ fuel ih=>
  intro listed a w hcl hlast hfree hr hy hS H
  refine⟨λh=>(by grind),λj hj=>?_⟩
  by_cases hji:j=i
  ·exact Yl1
  ·have h1:=H.2 j (ready_mono hj hji)
   obtain⟨hjun,oj,hoj,hall⟩:=mem_ready.1 hj
   have hun:=(mem_ready.1 hr).1
   have hun':listed.getD i false=false:=zc48
   have hnl:last.contains j=false:=by
    cases hc:last.contains j with
    |false=>rfl
    |true=>
     exact zc40
   have hnot:∀e∈oj.after,Region.binds .any e=true->e.on≠i:=by grind
   have h2:=wpOp_putIf hoj (hfree j oj hoj hji hjun hnot) (λcs b=>hsel i oi cs b hi) (λcs b=>hsel j oj cs b hoj) (λc a w h=>(hQ c _ w h).elim) hy h1
   have hfree':∀k ok,ops[k]? =some ok->k≠i->(listed.setIfInBounds j true).getD k true=false->
    (∀e∈ok.after,Region.binds .any e=true->e.on≠i)->oi.apart ops ok=true:=λk ok hk hki hu hno=>by
    exact zc27
   refine wpOp_mono (λa' w' h3=>⟨λ_=>h3.2.1 hnl,ih (listed.setIfInBounds j true) a' w' (hcl.set hj) (λk hk=>?_) hfree' (ready_mono hr (NM hji)) h3.1 (h3.2.1 hnl) ?_⟩) h2
   ·exact zc65
   ·exact zc75
def Yke(o:Oper):Bool:=match o.op with|.move _=>true|.extract _ _=>true|_=>false
theorem Yni{o:Oper}{a:Act}{w:World}(hm:Yke o=true)(hy:YieldsIf P ops S o v a)(hS:S w):YieldsIf P ops (λ_=>True) o v a:=by
 rcases hy with⟨h1,h2⟩|h
 ·refine .inl ⟨h1,λw' _=>?_⟩
  have h3:=h2 w hS
  unfold Yke at hm
  cases hop:o.op<;>rw[hop]at hm<;>first|(cases hm;done)|skip
  ·grind [execOp,Go.Sem.run_pure]
  ·rename_i x k
   simp only[execOp,hop,Instr.extract]at h3⊢
   revert h3
   split
   ·rename_i vs _
    cases hk:vs[k]? with
    |none=>simp
    |some u=>simp
   simp_all
 ·exact .inr h
def Ygd(ops:Array Oper)(last tail:List Nat):List Nat->Array Bool->Bool
 |[],listed=>J2 ops tail listed
 |i::rest,listed=>
  (match ops[i]? with
   |some o=>
    if last.contains i then Yke o&&!eff o&&(Region.ready .any ops listed).contains i&&Region.free .any ops listed i
    else if eff o then decide (Region.ready .any ops listed=[i])
    else(Region.ready .any ops listed).contains i&&Region.free .any ops listed i&&last.all λj=>listed.getD j false||ancB ops ops.size j i
   |none=>false)&&Ygd ops last tail rest (listed.setIfInBounds i true)
theorem JU{S:World->Prop}{last tail:List Nat}(hs:Region.noSelect ops=true)(hQ:∀c (a:Act) (w:World),¬Q (.panic c) a w)(hlo:¬LetsOut Q)(l:List Oper)(hl:ops=l.toArray)(htl:∀j∈tail,last.contains j=true)(hex:∀j,last.contains j=true->∃o,ops[j]? =some o):
 ∀(o1:List Nat) (listed:Array Bool) (a:Act) (w:World),Closed ops listed->Ygd ops last tail o1 listed=true->S w->YA P ops (Ja P ops Q (Yd l tail)) S (Yd l o1) a w->
  Zg P ops Q S last (o1++tail).length listed a w
 |[],listed,a,w,_,hB,_,h=>JZ l hl hex hlo tail listed a w htl hB h
 |i::rest,listed,a,w,hcl,hB,hS,h=>by
  simp only[Ygd,Tq]at hB
  obtain⟨h1,h2⟩:=hB
  cases ho:ops[i]? with
  |none=>simp_all
  |some o=>
   rw[ho]at h1
   have hget:nthO l i=o:=Xz hl ho
   simp only[Yd,hget]at h
   by_cases hla:last.contains i=true
   ·simp only[hla,Nn,Tq,RO]at h1
    obtain⟨⟨⟨h1,he⟩,h3⟩,h4⟩:=h1
    unfold YA at h
    rw[Tf (by simp_all)]at h
    obtain⟨v,hy,h5⟩:=h
    have hr:i∈Region.ready .any ops listed:=by simp_all
    exact Yes ho (Region.noSelect_spec hs) hQ hla _ listed a w hcl (Region.free_spec ho h4) hr (Yni h1 hy hS) (JU hs hQ hlo l hl htl hex rest _ _ w (hcl.set hr) h2 hS h5)
   ·have hla':last.contains i=false:=RE.2 hla
    simp only[hla',Sl,NS]at h1
    by_cases he:eff o=true
    ·simp only[he,Nn,Tm]at h1
     unfold YA at h
     rw[To he]at h
     refine⟨λh0=>(by rw[h1]at h0;cases h0),λk hk=>?_⟩
     have hk':=hk
     rw[h1]at hk
     obtain rfl:k=i:=by simpa using hk
     unfold wpOp
     simp only[ho]
     by_cases hw:Region.wanted o (yielded ops a.tmps)=true
     ·rw[To hw]at h⊢
      refine .inl (Oper.wp_mono_noQ' (λc a w h=>by cases h) (Oper.wp_mono (λa' w' h'=>⟨λ_=>h'.1,JU hs hQ hlo l hl htl hex rest _ a' w' (hcl.set hk') h2 h'.1 h'.2⟩) h))
     ·rw[Tf hw]at h⊢
      exact⟨λ_=>hS,JU hs hQ hlo l hl htl hex rest _ _ w (hcl.set hk') h2 hS h⟩
    ·simp only[he,Sl,NS,Tq]at h1
     obtain⟨⟨h3,h4⟩,h6⟩:=h1
     unfold YA at h
     rw[Tf he]at h
     obtain⟨v,hy,h5⟩:=h
     have hr:i∈Region.ready .any ops listed:=by simpa using h3
     refine Yer ho (Region.noSelect_spec hs) hQ hla' _ listed a w hcl (λj hj=>?_) (Region.free_spec ho h4) hr hy hS (JU hs hQ hlo l hl htl hex rest _ _ w (hcl.set hr) h2 hS h5)
     exact Yt8
theorem V5{id:Nat}{l:List Oper}(o1 last tail:List Nat)(mask:List Bool){Hc F:List HP}(hm:P.follows .mixedOrders=true)
 (hB:(Region.noSelect l.toArray&&decide ((o1++tail).length=l.toArray.size)&&(tail.all λj=>last.contains j)&&(last.all λj=>decide (j<l.toArray.size))&&Ygd l.toArray last tail o1 (Array.replicate l.toArray.size false))=true)
 (hsp:Split mask H Hc F) {l1 l2:List Oper}(hl1:Yd l o1=l1) (hl2:Yd l tail=l2) (h:VL P (some (some F)) n B w0 l.toArray (Ja P l.toArray (Only Q) l2) l1 env Hc):VC P n B w0 (.region id l.toArray true) Q env H:=by
 simp only[Tq,Tm]at hB
 obtain⟨⟨⟨⟨h1,h2⟩,h3⟩,h4⟩,h5⟩:=hB
 refine⟨λa w ha hw=>ZZ (Q:=Only Q) ?_ λe a w h=>by exact zc81⟩
 have hst:St B w0 (Hc++F) w.drew:=(hw.perm (XO hsp)).drew
 have hr:YA P l.toArray (Ja P l.toArray (Only Q) l2) (St B w0 Hc) l1 a w.drew:=h.run a ha w.drew hst
 rw[<-hl1,<-hl2]at hr
 have:=JU (S:=St B w0 Hc) h1 (λc a w h=>h) zc59 l rfl (λj hj=>Rh.1 h3 j hj) (λj hj=>⟨_,Array.getElem?_eq_getElem (by
  simp_all)⟩) o1 _ a w.drew (XV _ _) h5 hst.prefix_ hr
 exact Yl9
end
section
variable {P:Program}{m:Mode}{n:Shp}{B d:Nat}{w0:World}{ops:Array Oper}{Q:Exit->Act->World->Prop}{rest:List Oper}{env:Env}{H:List HP}{ty:TypeId}{pos:String}{after:Array Edge}
theorem YiV{α:Type}(l cs:List α)(o k:Nat)(h:o+cs.length<=k)(hk:k<=l.length):(l.take o++cs++l.drop (o+cs.length)).take k=(l.take k).take o++cs++(l.take k).drop (o+cs.length):=by
 have hA:(l.take o++cs).length=o+cs.length:=by grind
 grind [SG,TE,List.drop_take]
variable {g o cap:Nat}
theorem YnI(h:cap≠o):subA (some ⟨g,0,none⟩) o cap 1=some ⟨g,o,none⟩:=by
 simp_all [subA,Go.Addr.add_lit]
theorem Ylb(T:Tab P){t e bytes k kd cd mm c2:Nat}{x y:Operand}{A2:Option Addr}{xs ys:List Value}{K:List HP}(hx:evo env x=some (.slice (some ⟨g,o,none⟩) kd cd))(hy:evo env y=some (.slice A2 mm c2))(hr:Rd B w0 H A2 ys)
 (hu:Upd (sl e 1 (some ⟨g,0,none⟩) k cap xs) (sl e 1 (some ⟨g,0,none⟩) k cap (xs.take o++ys.take (min mm kd)++xs.drop (o+min mm kd))) H K) (ht:look T.sl t=some (e,1,bytes)) (hn:Nat.ble (d+1) n.k=true) (h1:∀v∈ys,v.oneCell'=true) (hb:o+kd<=k/\min mm kd<=ys.length/\0<min mm kd)
 (h:VL P none n B w0 ops Q rest ((d,.int .i64 (min mm kd:Nat))::env) K):
 VL P none n B w0 ops Q (⟨some d,.call ⟨.builtin .copy,#[x,y],#[t,t]⟩,ty,pos,after,none⟩::rest) env H:=by
 obtain⟨hut,inf,z,hi,hz,hzs,hsi,hbi,hs0,hb0⟩:=YN (T.slic ht)
 refine XG (λv K'=>v=.int .i64 (min mm kd:Nat)/\K'=K) rfl rfl hn (λa w ha hw=>?_) zc69
 have hmem:sl e 1 (some ⟨g,0,none⟩) k cap xs∈H:=Yji
 rcases ZQ (hw.sl hmem)with⟨e0,_⟩|⟨g',cur,e0,g1,g2,g3,g4,g5,g6⟩
 ·cases e0
 injection e0 with e0
 injection e0 with e0
 subst e0
 rw[Nr]at g4 g5 g6
 have hcl:(ys.take (min mm kd)).length=min mm kd:=by simp_all
 have hsome:∃a2,A2=some a2/\∀j v,(ys.take (min mm kd))[j]? =some v->w.cell? (a2.add j)=some v:=by
  have h0:ys[0]? =some (ys[0]'(by omega)):=Ta (by omega)
  obtain⟨g2',o2,rfl,_⟩:=hr w hw 0 _ h0
  refine⟨_,rfl,λj v hj=>?_⟩
  rw[RL]at hj
  by_cases hjm:j<min mm kd
  ·rw[To hjm]at hj
   obtain⟨g3',o3,e3,hc⟩:=hr w hw j v hj
   grind [Go.Addr.add_lit]
  simp_all
 obtain⟨a2,rfl,hsrc⟩:=hsome
 have hrun:=run_copy_row (P:=P) w t t ty e g o kd cd a2 mm c2 cur e (ys.take (min mm kd)) hut (by simp_all) g1 hcl hsrc (by omega) (λv hv=>h1 v (SJ hv))
 refine⟨_,K,_,?_,hw.storeRow (k':=k) (o:=o) (vs:=ys.take (min mm kd)) hu rfl g1 (by omega) g2 g3 (by omega) ?_ ?_,rfl,rfl⟩
 ·simp only[execOp,resolve,invoke,builtin]
  have hmap:#[x,y].map a.eval=#[.slice (some ⟨g,o,none⟩) kd cd,.slice (some a2) mm c2]:=by simp[ha.eval hx,ha.eval hy]
  simp only[hmap,Sem.run_bind,Sem.run_pure,Result.andThen_ok]
  rw[hrun]
  simp[goInt,hcl]
 ·rw[hcl,Nr,<-g5]
  have:=YiV cur.toList (ys.take (min mm kd)) o k (by rw[hcl];omega) (by rw[Array.length_toList];omega)
  rw[hcl]at this
  exact this
 grind
end
end Go.Eng
namespace Go.Proofs.YtjommdkgfbhbdaaGreatDoor
open Go.RowKit Go.Eng Go.Nw
structure RowM where
 A:Option Addr
 cap:Nat
 xs:List Int
structure NetM where
 nodes:Int
 pA:Option Addr
 pcap:Nat
 rows:List RowM
 noise:Int
 thr:Int
 lA:Option Addr
 lcap:Nat
 links:List Lk
 mA:Option Addr
 mcap:Nat
 margin:List Int
def NetM.net(n:NetM):Net:=⟨n.nodes,n.rows.map (·.xs),n.noise,n.thr,n.links,n.margin⟩
def NetM.val(n:NetM):Value:=.agg #[.int .i64 n.nodes,.slice n.pA n.rows.length n.pcap,.int .i64 n.noise,.int .i64 n.thr,.slice n.lA n.links.length n.lcap,.slice n.mA n.margin.length n.mcap]
def rowF(r:RowM):List Value:=[.slice r.A r.xs.length r.cap]
def numF(z:Int):List Value:=[.int .i64 z]
def lkF(l:Lk):List Value:=[.int .i64 l.1,.int .i64 l.2.1,.int .i64 l.2.2]
def lkV(l:Lk):Value:=.agg #[.int .i64 l.1,.int .i64 l.2.1,.int .i64 l.2.2]
structure NetM.In(B:Nat)(w0:World)(H:List HP)(n:NetM):Prop where
 pw:Rd B w0 H n.pA (n.rows.flatMap rowF)
 rw_:∀r∈n.rows,Rd B w0 H r.A (r.xs.flatMap numF)
 lk:Rd B w0 H n.lA (n.links.flatMap lkF)
 mg:Rd B w0 H n.mA (n.margin.flatMap numF)
 s1:n.rows.length<=9223372036854775807
 s2:∀r∈n.rows,r.xs.length<=9223372036854775807
 s3:n.links.length<=9223372036854775807
 s4:n.margin.length<=9223372036854775807
variable {B cap:Nat}{w0 w:World}{H:List HP}
theorem NetM.In.cons{n:NetM}{X:HP}(h:n.In B w0 H):n.In B w0 (X::H):=
 ⟨h.pw.cons,λr hr=>(h.rw_ r hr).cons,h.lk.cons,h.mg.cons,h.s1,h.s2,h.s3,h.s4⟩
variable {α:Type}{A:Option Addr}
theorem Yd6(val:α->Value)(p:α->Bool)(l:List α)(f:Nat)(cs:List Value)(hen:∀xs w,(callFunc f xs).run Tryz.prog w=.ok (.enter f xs) w)(hlen:l.length<=9223372036854775807)(hr:Rd B w0 H A (l.flatMap λa=>[val a]))
 (hp:∀a∈l,∀w,St B w0 H w->Calls Tryz.prog f ([val a]++cs).toArray w (Post B w0 λv K=>v=.bool (p a)/\K=H)) (hw:St B w0 H w):
 CX B w0 394 [.slice A l.length cap,.func (.func f) #[] cs.toArray] w λv K=>v=.int .i64 (Yp p l 0)/\K=H:=by
 refine Ya Tryz.func394 Tryz.ntmps394 rfl rfl hw ?_
 refine zX9 ?_
 refine Ye (λ(k:Nat)=>[(8,.int .i64 k),(7,.int .i64 l.length),(0,.slice A l.length cap),(1,.func (.func f) #[] cs.toArray)]) (λ_=>H) (λk=>k<=l.length/\Yp p l 0=Yp p (l.drop k) k) (λk=>l.length-k) 0 ⟨Td _,by simp⟩ ?_ (λw hw=>hw) ?_
 ·exact zc1
 rintro k ⟨hk,hi⟩ K hK
 by_cases hlt:k<l.length
 ·obtain⟨a,ha⟩:∃a,l[k]? =some a:=⟨_,Ta hlt⟩
  have hpa:=hp a (Tc ha)
  rw[Jo p l ha]at hi
  refine zX10 ?_<;>intros
  cases hpv:p a
  ·rw[hpv]at hi
   refine zX11 ?_
   apply hK (k+1)
   ·grind
   ·omega
   ·exact zc1
   exact zc18
  exact zc11
 exact zc7
theorem Yaa(val:α->Value)(p:α->Bool)(l:List α)(f:Nat)(cs:List Value)(hen:∀xs w,(callFunc f xs).run Tryz.prog w=.ok (.enter f xs) w)(hlen:l.length<=9223372036854775807)(hr:Rd B w0 H A (l.flatMap λa=>[val a]))
 (hp:∀a∈l,∀w,St B w0 H w->Calls Tryz.prog f ([val a]++cs).toArray w (Post B w0 λv K=>v=.bool (p a)/\K=H)) (hw:St B w0 H w):
 CX B w0 341 [.slice A l.length cap,.func (.func f) #[] cs.toArray] w λv K=>v=.bool (l.any p)/\K=H:=by
 refine Ya Tryz.func341 Tryz.ntmps341 rfl rfl hw ?_
 have hia:=Vc p l 0 (by omega)
 repeat'(first|((apply Yb YxG);exact za;exact rfl;exactλ_ hw=>(Yd6 val p l f cs hen hlen hr hp hw))|refine zga ?_|(refine zgf ?_ ?_<;>intro _<;>try exact zo)|fail)
 all_goals(apply Yc;exact rfl;exact rfl)
 ·rename_i h;exact⟨by rw[hia.1 h],rfl⟩
 ·rename_i h
  have:¬l.any p=true:=λe=>by have:=hia.2 e;omega
  exact⟨by rw[RE.2 this],rfl⟩
theorem Yd7(val:α->Value)(p:α->Bool)(l:List α)(f:Nat)(cs:List Value)(hen:∀xs w,(callFunc f xs).run Tryz.prog w=.ok (.enter f xs) w)(hlen:l.length<=9223372036854775807)(hr:Rd B w0 H A (l.flatMap λa=>[val a]))
 (hp:∀a∈l,∀w,St B w0 H w->Calls Tryz.prog f ([val a]++cs).toArray w (Post B w0 λv K=>v=.bool (p a)/\K=H)) (hw:St B w0 H w):
 CX B w0 393 [.slice A l.length cap,.func (.func f) #[] cs.toArray] w λv K=>v=.int .i64 (Yp p l 0)/\K=H:=by
 refine Ya Tryz.func393 Tryz.ntmps393 rfl rfl hw ?_
 refine zX9 ?_
 refine Ye (λ(k:Nat)=>[(8,.int .i64 k),(7,.int .i64 l.length),(0,.slice A l.length cap),(1,.func (.func f) #[] cs.toArray)]) (λ_=>H) (λk=>k<=l.length/\Yp p l 0=Yp p (l.drop k) k) (λk=>l.length-k) 0 ⟨Td _,by simp⟩ ?_ (λw hw=>hw) ?_
 ·exact zc1
 rintro k ⟨hk,hi⟩ K hK
 by_cases hlt:k<l.length
 ·obtain⟨a,ha⟩:∃a,l[k]? =some a:=⟨_,Ta hlt⟩
  have hpa:=hp a (Tc ha)
  rw[Jo p l ha]at hi
  refine zX10 ?_<;>intros
  cases hpv:p a
  ·rw[hpv]at hi
   refine zX11 ?_
   apply hK (k+1)
   ·grind
   ·omega
   ·exact zc1
   exact zc18
  exact zc11
 exact zc7
theorem Ue(val:α->Value)(p:α->Bool)(l:List α)(f:Nat)(cs:List Value)(hen:∀xs w,(callFunc f xs).run Tryz.prog w=.ok (.enter f xs) w)(hlen:l.length<=9223372036854775807)(hr:Rd B w0 H A (l.flatMap λa=>[val a]))
 (hp:∀a∈l,∀w,St B w0 H w->Calls Tryz.prog f ([val a]++cs).toArray w (Post B w0 λv K=>v=.bool (p a)/\K=H)) (hw:St B w0 H w):
 CX B w0 337 [.slice A l.length cap,.func (.func f) #[] cs.toArray] w λv K=>v=.bool (l.any p)/\K=H:=by
 refine Ya Tryz.func337 Tryz.ntmps337 rfl rfl hw ?_
 have hia:=Vc p l 0 (by omega)
 repeat'(first|((apply Yb YxF);exact za;exact rfl;exactλ_ hw=>(Yd7 val p l f cs hen hlen hr hp hw))|refine zga ?_|(refine zgf ?_ ?_<;>intro _<;>try exact zo)|fail)
 all_goals(apply Yc;exact rfl;exact rfl)
 ·rename_i h;exact⟨by rw[hia.1 h],rfl⟩
 ·rename_i h
  have:¬l.any p=true:=λe=>by have:=hia.2 e;omega
  exact⟨by rw[RE.2 this],rfl⟩
theorem YcZ(val:α->Value)(p:α->Bool)(l:List α)(f:Nat)(cs:List Value)(hen:∀xs w,(callFunc f xs).run Tryz.prog w=.ok (.enter f xs) w)(hlen:l.length<=9223372036854775807)(hr:Rd B w0 H A (l.flatMap λa=>[val a]))
 (hp:∀a∈l,∀w,St B w0 H w->Calls Tryz.prog f ([val a]++cs).toArray w (Post B w0 λv K=>v=.bool (p a)/\K=H)) (hw:St B w0 H w):
 CX B w0 344 [.slice A l.length cap,.func (.func f) #[] cs.toArray] w λv K=>v=.int .i64 (Yp p l 0)/\K=H:=by
 refine Ya Tryz.func344 Tryz.ntmps344 rfl rfl hw ?_
 refine zX9 ?_
 refine Ye (λ(k:Nat)=>[(8,.int .i64 k),(7,.int .i64 l.length),(0,.slice A l.length cap),(1,.func (.func f) #[] cs.toArray)]) (λ_=>H) (λk=>k<=l.length/\Yp p l 0=Yp p (l.drop k) k) (λk=>l.length-k) 0 ⟨Td _,by simp⟩ ?_ (λw hw=>hw) ?_
 ·exact zc1
 rintro k ⟨hk,hi⟩ K hK
 by_cases hlt:k<l.length
 ·obtain⟨a,ha⟩:∃a,l[k]? =some a:=⟨_,Ta hlt⟩
  have hpa:=hp a (Tc ha)
  rw[Jo p l ha]at hi
  refine zX10 ?_<;>intros
  cases hpv:p a
  ·rw[hpv]at hi
   refine zX11 ?_
   apply hK (k+1)
   ·grind
   ·omega
   ·exact zc1
   exact zc18
  exact zc11
 exact zc7
theorem Qk(val:α->Value)(p:α->Bool)(l:List α)(f:Nat)(cs:List Value)(hen:∀xs w,(callFunc f xs).run Tryz.prog w=.ok (.enter f xs) w)(hlen:l.length<=9223372036854775807)(hr:Rd B w0 H A (l.flatMap λa=>[val a]))
 (hp:∀a∈l,∀w,St B w0 H w->Calls Tryz.prog f ([val a]++cs).toArray w (Post B w0 λv K=>v=.bool (p a)/\K=H)) (hw:St B w0 H w):
 CX B w0 283 [.slice A l.length cap,.func (.func f) #[] cs.toArray] w λv K=>v=.bool (l.any p)/\K=H:=by
 refine Ya Tryz.func283 Tryz.ntmps283 rfl rfl hw ?_
 have hia:=Vc p l 0 (by omega)
 repeat'(first|((apply Yb Yxr);exact za;exact rfl;exactλ_ hw=>(YcZ val p l f cs hen hlen hr hp hw))|refine zga ?_|(refine zgf ?_ ?_<;>intro _<;>try exact zo)|fail)
 all_goals(apply Yc;exact rfl;exact rfl)
 ·rename_i h;exact⟨by rw[hia.1 h],rfl⟩
 ·rename_i h
  have:¬l.any p=true:=λe=>by have:=hia.2 e;omega
  exact⟨by rw[RE.2 this],rfl⟩
theorem Ym9(x:Int)(hw:St B w0 H w):CX B w0 231 [.int .i64 x] w λv K=>v=.bool false/\K=H:=by
 refine Ya Tryz.func231 Tryz.ntmps231 rfl rfl hw ?_
 repeat'(first|((refine zs16 ?_ ?_<;>intro _<;>try(omega)))|refine zga ?_|fail)
 exact zc25
theorem JT(x y:Int)(hw:St B w0 H w):CX B w0 147 [.int .i64 x,.int .i64 y] w λv K=>v=.int .i64 (cmpI x y)/\K=H:=by
 refine Ya Tryz.func147 Tryz.ntmps147 rfl rfl hw ?_
 unfold cmpI
 repeat'(first|((apply Yb YwP);exact za;exact rfl;exactλ_ hw=>(Ym9 _ hw))|refine zgb ?_|(refine zgf ?_ ?_<;>intro _<;>try exact zo)|fail)
 all_goals(((repeat apply Yj);apply Yc;exact rfl;exact rfl;refine⟨TA _ ?_,rfl⟩);(repeat(first|refine Xs (by omega) ?_|refine Xt (by omega) ?_));rfl)
end Go.Proofs.YtjommdkgfbhbdaaGreatDoor
namespace Go.Eng
open Go.RowKit
section
variable {P:Program}{n:Shp}{B:Nat}{w0:World}{ops:Array Oper}{Q:Exit->Act->World->Prop}{rest:List Oper}{env:Env}{H:List HP}
def Oq(P:Program)(ops:Array Oper)(Q:Exit->Act->World->Prop)(S:World->Prop)(l:List Oper):Exit->Act->World->Prop
 |.normal,a,w=>S w/\YA P ops Q S l a w
 |e,a,w=>Q e a w
theorem Yom{F H':List HP}{Hc:List HP}(hp:Pull Hc H' F)(h:VL P (some (some F)) n B w0 ops Q rest env Hc):VQ n B w0 (Oq P ops Q (St B w0 Hc) rest) .normal env H':=
 ⟨λa w ha hw=>⟨(hw.perm hp).prefix_,h.run a ha w (hw.perm hp)⟩⟩
variable {S S2:World->Prop}{l:List Oper}
theorem Oper.wp_tailH{o:Oper}{a:Act}{w:World}{K:Act->World->Prop}(h:o.wp P a w K (Oq P ops Q S l)):o.wp P a w K Q:=by
 unfold Oper.wp at h⊢
 generalize(execOp a.eval o).run P w=r at*
 cases r with
 |ok nx w'=>
  exact zc50
 |halt x w'=>
  exact h
def Wf(P:Program)(ops:Array Oper)(Q:Exit->Act->World->Prop)(S S2:World->Prop)(last:List Nat):Nat->Array Bool->Act->World->Prop
 |0,listed,a,w=>Region.ready .any ops listed=[]/\Q .normal a w
 |fuel+1,listed,a,w=>
  (Region.ready .any ops listed=[]->Q .normal a w)/\
  ∀i∈Region.ready .any ops listed,wpOp P ops Q i (λa' w'=>((last.contains i=false->S w')/\S2 w')/\Wf P ops Q S S2 last fuel (listed.setIfInBounds i true) a' w') a w
theorem YdQ{S S2:World->Prop}{last:List Nat}:∀(fuel:Nat) (listed:Array Bool) (a:Act) (w:World),Wf P ops Q S S2 last fuel listed a w->wpAny P .any ops Q fuel listed a w
 |0,_,_,_,h=>h
 |fuel+1,_,_,_,h=>⟨h.1,λi hi=>wpOp_mono (λa' w' h'=>YdQ fuel _ a' w' h'.2) (h.2 i hi)⟩
variable {last:List Nat}{i:Nat}{oi:Oper}{v:Value}
theorem Yjd(hi:ops[i]? =some oi)(hsel:∀(j:Nat) (o:Oper) cs b,ops[j]? =some o->o.op≠.select cs b)
 (hQ:∀c (a:Act) (w:World),¬Q (.panic c) a w) (hil:last.contains i=true):
 ∀(fuel:Nat) (listed:Array Bool) (a:Act) (w:World),Closed ops listed->
  (∀j oj,ops[j]? =some oj->j≠i->listed.getD j true=false->(∀e∈oj.after,Region.binds .any e=true->e.on≠i)->oi.apart ops oj=true)->
  i∈Region.ready .any ops listed->YieldsIf P ops S2 oi v a->S2 w->
  Wf P ops Q S S2 last fuel (listed.setIfInBounds i true) (a.put oi.dst v) w->Wf P ops Q S S2 last (fuel+1) listed a w:=by
 intro fuel
 have hno:¬last.contains i=false:=by simp_all
 induction fuel with
 |zero=>
  intro listed a w _ _ hr hy hS H
  refine⟨λh=>(by simp_all),λj hj=>?_⟩
  by_cases hji:j=i
  ·exact YuL
  exact zc87
 |succ fuel ih=>
  intro listed a w hcl hfree hr hy hS H
  refine⟨λh=>(by grind),λj hj=>?_⟩
  by_cases hji:j=i
  ·exact YuL
  ·have h1:=H.2 j (ready_mono hj hji)
   obtain⟨hjun,oj,hoj,hall⟩:=mem_ready.1 hj
   have hun:=(mem_ready.1 hr).1
   have hnot:∀e∈oj.after,Region.binds .any e=true->e.on≠i:=by grind
   have h2:=wpOp_putIf hoj (hfree j oj hoj hji hjun hnot) (λcs b=>hsel i oi cs b hi) (λcs b=>hsel j oj cs b hoj) (λc a w h=>(hQ c _ w h).elim) hy h1
   have hfree':∀k ok,ops[k]? =some ok->k≠i->(listed.setIfInBounds j true).getD k true=false->
    (∀e∈ok.after,Region.binds .any e=true->e.on≠i)->oi.apart ops ok=true:=λk ok hk hki hu hno=>by
    exact zc27
   refine wpOp_mono (λa' w' h3=>⟨h3.2.1,ih (listed.setIfInBounds j true) a' w' (hcl.set hj) hfree' (ready_mono hr (NM hji)) h3.1 h3.2.1.2 ?_⟩) h2
   exact zc75
theorem YgD(hSS:∀w,S w->S2 w)(hi:ops[i]? =some oi)(hsel:∀(j:Nat) (o:Oper) cs b,ops[j]? =some o->o.op≠.select cs b)
 (hQ:∀c (a:Act) (w:World),¬Q (.panic c) a w) (hil:last.contains i=false):
 ∀(fuel:Nat) (listed:Array Bool) (a:Act) (w:World),Closed ops listed->(∀j,last.contains j=true->listed.getD j false=true\/∃f,ancB ops f j i=true)->
  (∀j oj,ops[j]? =some oj->j≠i->listed.getD j true=false->(∀e∈oj.after,Region.binds .any e=true->e.on≠i)->oi.apart ops oj=true)->
  i∈Region.ready .any ops listed->YieldsIf P ops S oi v a->S w->
  Wf P ops Q S S2 last fuel (listed.setIfInBounds i true) (a.put oi.dst v) w->Wf P ops Q S S2 last (fuel+1) listed a w:=by
 intro fuel
 induction fuel with
 |zero=>
  intro listed a w _ _ _ hr hy hS H
  refine⟨λh=>(by simp_all),λj hj=>?_⟩
  by_cases hji:j=i
  ·exact YuR
  exact zc87
 |succ fuel ih=>
  intro listed a w hcl hlast hfree hr hy hS H
  refine⟨λh=>(by grind),λj hj=>?_⟩
  by_cases hji:j=i
  ·exact YuR
  ·have h1:=H.2 j (ready_mono hj hji)
   obtain⟨hjun,oj,hoj,hall⟩:=mem_ready.1 hj
   have hun:=(mem_ready.1 hr).1
   have hun':listed.getD i false=false:=zc48
   have hnl:last.contains j=false:=by
    cases hc:last.contains j with
    |false=>rfl
    |true=>
     exact zc40
   have hnot:∀e∈oj.after,Region.binds .any e=true->e.on≠i:=by grind
   have h2:=wpOp_putIf hoj (hfree j oj hoj hji hjun hnot) (λcs b=>hsel i oi cs b hi) (λcs b=>hsel j oj cs b hoj) (λc a w h=>(hQ c _ w h).elim) hy h1
   have hfree':∀k ok,ops[k]? =some ok->k≠i->(listed.setIfInBounds j true).getD k true=false->
    (∀e∈ok.after,Region.binds .any e=true->e.on≠i)->oi.apart ops ok=true:=λk ok hk hki hu hno=>by
    exact zc27
   refine wpOp_mono (λa' w' h3=>⟨h3.2.1,ih (listed.setIfInBounds j true) a' w' (hcl.set hj) (λk hk=>?_) hfree' (ready_mono hr (NM hji)) h3.1 (h3.2.1.1 hnl) ?_⟩) h2
   ·exact zc65
   ·exact zc75
theorem VY{S S2:World->Prop}{last:List Nat}(l:List Oper)(hl:ops=l.toArray)(hef:∀j,last.contains j=true->∃o,ops[j]? =some o):
 ∀(o2:List Nat) (listed:Array Bool) (a:Act) (w:World),(∀j∈o2,last.contains j=true)->J2 ops o2 listed=true->S2 w->YA P ops Q S2 (Yd l o2) a w->Wf P ops Q S S2 last o2.length listed a w
 |[],listed,a,w,_,hB,_,h=>⟨by grind [J2],h⟩
 |i::rest,listed,a,w,hin,hB,hS,h=>by
  simp only[J2,Tq,Tm]at hB
  obtain⟨h1,h2⟩:=hB
  obtain⟨o,ho⟩:=hef i (hin i (by simp))
  have hget:nthO l i=o:=Xz hl ho
  simp only[Yd,hget]at h
  unfold YA at h
  refine⟨λh0=>(by simp_all),λk hk=>?_⟩
  obtain rfl:k=i:=by simp_all
  have hf:¬last.contains k=false:=by simp_all
  have hin':∀j∈rest,last.contains j=true:=by simp_all
  by_cases he:eff o=true
  ·rw[To he]at h
   unfold wpOp
   simp only[ho]
   by_cases hw:Region.wanted o (yielded ops a.tmps)=true
   ·rw[To hw]at h⊢
    exact .inl (Oper.wp_mono (λa' w' h'=>⟨⟨λh=>absurd h hf,h'.1⟩,VY l hl hef rest _ a' w' hin' h2 h'.1 h'.2⟩) h)
   ·rw[Tf hw]at h⊢
    exact⟨⟨λh=>absurd h hf,hS⟩,VY l hl hef rest _ _ w hin' h2 hS h⟩
  ·rw[Tf he]at h
   obtain⟨v,hy,h3⟩:=h
   exact hy.wpOp ho hS ⟨⟨λh=>absurd h hf,hS⟩,VY l hl hef rest _ _ w hin' h2 hS h3⟩
def YbF(ops:Array Oper)(last tail:List Nat):List Nat->Array Bool->Bool
 |[],listed=>J2 ops tail listed
 |i::rest,listed=>
  (match ops[i]? with
   |some o=>
    !last.contains i&&(if eff o then decide (Region.ready .any ops listed=[i])
    else(Region.ready .any ops listed).contains i&&Region.free .any ops listed i&&last.all λj=>listed.getD j false||ancB ops ops.size j i)
   |none=>false)&&YbF ops last tail rest (listed.setIfInBounds i true)
def Ygf(ops:Array Oper)(last tail o1:List Nat):List Nat->Array Bool->Bool
 |[],listed=>YbF ops last tail o1 listed
 |i::rest,listed=>
  (match ops[i]? with
   |some o=>last.contains i&&!eff o&&(Region.ready .any ops listed).contains i&&Region.free .any ops listed i
   |none=>false)&&Ygf ops last tail o1 rest (listed.setIfInBounds i true)
theorem Vb{S S2:World->Prop}(hSS:∀w,S w->S2 w){last tail:List Nat}(hs:Region.noSelect ops=true)(hQ:∀c (a:Act) (w:World),¬Q (.panic c) a w)(l:List Oper)(hl:ops=l.toArray)(htl:∀j∈tail,last.contains j=true)(hex:∀j,last.contains j=true->∃o,ops[j]? =some o):
 ∀(o1:List Nat) (listed:Array Bool) (a:Act) (w:World),Closed ops listed->YbF ops last tail o1 listed=true->S w->YA P ops (Oq P ops Q S2 (Yd l tail)) S (Yd l o1) a w->
  Wf P ops Q S S2 last (o1++tail).length listed a w
 |[],listed,a,w,_,hB,hS,h=>by
  have h':S2 w/\YA P ops Q S2 (Yd l tail) a w:=h
  exact VY l hl hex tail listed a w htl hB h'.1 h'.2
 |i::rest,listed,a,w,hcl,hB,hS,h=>by
  simp only[YbF,Tq]at hB
  obtain⟨h1,h2⟩:=hB
  cases ho:ops[i]? with
  |none=>simp_all
  |some o=>
   rw[ho]at h1
   have hget:nthO l i=o:=Xz hl ho
   simp only[Yd,hget]at h
   simp only[Tq,RO]at h1
   obtain⟨hla',h1⟩:=h1
   by_cases he:eff o=true
   ·simp only[he,Nn,Tm]at h1
    unfold YA at h
    rw[To he]at h
    refine⟨λh0=>(by simp_all),λk hk=>?_⟩
    have hk':=hk
    rw[h1]at hk
    obtain rfl:k=i:=by simp_all
    unfold wpOp
    simp only[ho]
    by_cases hw:Region.wanted o (yielded ops a.tmps)=true
    ·rw[To hw]at h⊢
     refine .inl (Oper.wp_tailH (Oper.wp_mono (λa' w' h'=>⟨⟨λ_=>h'.1,hSS _ h'.1⟩,Vb hSS hs hQ l hl htl hex rest _ a' w' (hcl.set hk') h2 h'.1 h'.2⟩) h))
    ·rw[Tf hw]at h⊢
     exact⟨⟨λ_=>hS,hSS _ hS⟩,Vb hSS hs hQ l hl htl hex rest _ _ w (hcl.set hk') h2 hS h⟩
   ·simp only[he,Sl,NS,Tq]at h1
    obtain⟨⟨h3,h4⟩,h6⟩:=h1
    unfold YA at h
    rw[Tf he]at h
    obtain⟨v,hy,h5⟩:=h
    have hr:i∈Region.ready .any ops listed:=by simpa using h3
    refine YgD hSS ho (Region.noSelect_spec hs) hQ hla' _ listed a w hcl (λj hj=>?_) (Region.free_spec ho h4) hr hy hS (Vb hSS hs hQ l hl htl hex rest _ _ w (hcl.set hr) h2 hS h5)
    exact Yt8
theorem YaQ{S S2:World->Prop}(hSS:∀w,S w->S2 w){last tail o1:List Nat}(hs:Region.noSelect ops=true)(hQ:∀c (a:Act) (w:World),¬Q (.panic c) a w)(l:List Oper)(hl:ops=l.toArray)(htl:∀j∈tail,last.contains j=true)(hex:∀j,last.contains j=true->∃o,ops[j]? =some o):
 ∀(oA:List Nat) (listed:Array Bool) (a:Act) (w:World),Closed ops listed->Ygf ops last tail o1 oA listed=true->S2 w->YA P ops (Oq P ops (Oq P ops Q S2 (Yd l tail)) S (Yd l o1)) S2 (Yd l oA) a w->
  Wf P ops Q S S2 last (oA++(o1++tail)).length listed a w
 |[],listed,a,w,hcl,hB,_,h=>by
  have h':S w/\YA P ops (Oq P ops Q S2 (Yd l tail)) S (Yd l o1) a w:=h
  exact Vb hSS hs hQ l hl htl hex o1 listed a w hcl hB h'.1 h'.2
 |i::rest,listed,a,w,hcl,hB,hS,h=>by
  simp only[Ygf,Tq]at hB
  obtain⟨h1,h2⟩:=hB
  cases ho:ops[i]? with
  |none=>simp_all
  |some o=>
   rw[ho]at h1
   have hget:nthO l i=o:=Xz hl ho
   simp only[Yd,hget]at h
   simp only[Tq,RO]at h1
   obtain⟨⟨⟨hla,he⟩,h3⟩,h4⟩:=h1
   unfold YA at h
   rw[Tf (by simp_all)]at h
   obtain⟨v,hy,h5⟩:=h
   have hr:i∈Region.ready .any ops listed:=by simp_all
   exact Yjd ho (Region.noSelect_spec hs) hQ hla _ listed a w hcl (Region.free_spec ho h4) hr hy hS (YaQ hSS hs hQ l hl htl hex rest _ _ w (hcl.set hr) h2 hS h5)
theorem Yn1{id:Nat}(oA o1 tail:List Nat)(maskA maskB:List Bool){HA FA HB FB:List HP}(hm:P.follows .mixedOrders=true)
 (hB:(Region.noSelect l.toArray&&decide ((oA++(o1++tail)).length=l.toArray.size)&&((oA++tail).all λj=>decide (j<l.toArray.size))&&Ygf l.toArray (oA++tail) tail o1 oA (Array.replicate l.toArray.size false))=true)
 (hspA:Split maskA H HA FA) (_hspB:Split maskB H HB FB) (hsub:∀w,St B w0 HB w->St B w0 HA w) {lA l1 l2:List Oper}(hlA:Yd l oA=lA) (hl1:Yd l o1=l1) (hl2:Yd l tail=l2)
 (h:VL P (some (some FA)) n B w0 l.toArray (Oq P l.toArray (Oq P l.toArray (Only Q) (St B w0 HA) l2) (St B w0 HB) l1) lA env HA):VC P n B w0 (.region id l.toArray true) Q env H:=by
 simp only[Tq,Tm]at hB
 obtain⟨⟨⟨h1,h2⟩,h4⟩,h5⟩:=hB
 refine⟨λa w ha hw=>ZZ (Q:=Only Q) ?_ λe a w h=>by exact zc81⟩
 have hst:St B w0 (HA++FA) w.drew:=(hw.perm (XO hspA)).drew
 have hr:=h.run a ha w.drew hst
 have hr':YA P l.toArray (Oq P l.toArray (Oq P l.toArray (Only Q) (St B w0 HA) l2) (St B w0 HB) l1) (St B w0 HA) lA a w.drew:=hr
 rw[<-hlA,<-hl1,<-hl2]at hr'
 have:=YaQ (S:=St B w0 HB) (S2:=St B w0 HA) hsub (last:=oA++tail) h1 (λc a w h=>h) l rfl (λj hj=>by simp[hj]) (λj hj=>⟨_,Array.getElem?_eq_getElem (by
  grind)⟩) oA _ a w.drew (XV _ _) h5 hst.prefix_ hr'
 grind [YbP,YdQ]
end
end Go.Eng
namespace Go.Proofs.YtjommdkgfbhbdaaGreatDoor
open Go.RowKit Go.Eng Go.Nw
variable {A:Option Addr}{cap B:Nat}{w0 w:World}{H:List HP}
theorem YoK(xs:List Int)(n:NetM)(g:Nat)(hw:St B w0 (blk g (.cells #[.int .i64 n.nodes,.slice n.pA n.rows.length n.pcap,.int .i64 n.noise,.int .i64 n.thr,.slice n.lA n.links.length n.lcap,.slice n.mA n.margin.length n.mcap] 26 (0,0))::H) w):
 CX B w0 338 [.slice A xs.length cap,.pointer (some ⟨g,0,none⟩)] w λv K=>v=.bool (wide n.nodes xs)/\K=blk g (.cells #[.int .i64 n.nodes,.slice n.pA n.rows.length n.pcap,.int .i64 n.noise,.int .i64 n.thr,.slice n.lA n.links.length n.lcap,.slice n.mA n.margin.length n.mcap] 26 (0,0))::H:=by
 refine Ya Tryz.func338 Tryz.ntmps338 rfl rfl hw ?_
 unfold wide
 repeat'(first|refine zgb ?_|(refine zge ?_ ?_<;>intro _<;>try exact zo)|fail)
 ·rename_i h
  exact zc25
 ·rename_i h
  exact zc25
theorem YoL(p:Int)(hw:St B w0 H w):CX B w0 339 [.int .i64 p] w λv K=>v=.bool (ZA p)/\K=H:=by
 refine Ya Tryz.func339 Tryz.ntmps339 rfl rfl hw ?_
 unfold ZA
 repeat'(first|refine zgc ?_|(refine zgf ?_ ?_<;>intro _<;>try exact zo)|fail)
 ·exact zc25
 ·exact zc25
 ·exact zc25
theorem YoM(xs:List Int)(hl:xs.length<=9223372036854775807)(g:Nat)(hr:Rd B w0 H A (xs.flatMap numF))(hw:St B w0 (blk g (.cells #[.func (.func 339) #[] #[]] 241 (0,0))::H) w):
 CX B w0 340 [.slice A xs.length cap,.pointer (some ⟨g,0,none⟩)] w λv K=>v=.bool (xs.any ZA)/\K=blk g (.cells #[.func (.func 339) #[] #[]] 241 (0,0))::H:=by
 refine Ya Tryz.func340 Tryz.ntmps340 rfl rfl hw ?_
 repeat'(first|((apply Yb Yxq);exact za;exact rfl;exactλ_ hw=>(Yaa (λz:Int=>.int .i64 z) ZA xs 339 [] Yxo hl hr.cons (λa _ _ hw=>YoL a hw) hw))|refine zgb ?_|fail)
 apply Yc;exact rfl;exact rfl
 exact⟨rfl,rfl⟩
theorem Qe(n:NetM)(p:List Int->Bool):(n.rows.any λr=>p r.xs)=n.net.power.any p:=by grind [Go.Proofs.YtjommdkgfbhbdaaGreatDoor.NetM.net]
theorem Ybj(n:NetM)(hin:n.In B w0 H)(hw:St B w0 H w):
 CX B w0 281 [n.val] w λv K=>v=.int .i64 (JJ n.net)/\K=H:=by
 refine Ya Tryz.func281 Tryz.ntmps281 rfl rfl hw ?_
 obtain⟨hpw,hrw,hlk,hmg,hs1,hs2,hs3,hs4⟩:=hin
 have e1:n.net.power.length=n.rows.length:=by simp[NetM.net]
 have e2:n.net.nodes=n.nodes:=rfl
 unfold JJ
 rw[e1,e2,<-Qe,<-Qe n (λr=>r.any ZA)]
 repeat'(first|(apply zg29;(apply Yu;exact za;exact rfl))|refine zgc ?_|(refine zge ?_ ?_<;>intro _<;>try exact zo)|(refine zgh ?_;intro _)|fail)
 ·((repeat apply Yj);apply Yc;exact rfl;exact rfl;refine⟨TA _ ?_,rfl⟩)
  omega
 rename_i g _
 repeat'(first|((apply Yb Ytl);exact za;exact rfl;exactλ_ hw=>(Ue (λr:RowM=>.slice r.A r.xs.length r.cap) (λr=>wide n.nodes r.xs) n.rows 338 [.pointer (some ⟨g,0,none⟩)] Yxn hs1 hpw.cons (λa _ _ hw=>YoK a.xs n g hw) hw))|refine zgc ?_|fail)
 cases hc:(n.rows.any λr=>wide n.nodes r.xs)
 rotate_left
 ·exact zc55
 repeat'(first|(apply zg29;(apply Yu;exact za;exact rfl))|refine zgd ?_|(refine zgh ?_;intro _)|fail)
 rename_i g2
 apply Yb Ytl
 exact za
 exact rfl
 exactλ_ hw=>Ue (λr:RowM=>.slice r.A r.xs.length r.cap) (λr=>r.xs.any ZA) n.rows 340 [.pointer (some ⟨g2,0,none⟩)] Yxp hs1 hpw.cons.cons (λa ha _ hw=>YoM a.xs (hs2 a ha) g2 (hrw a ha).cons hw) hw
 cases hd:(n.rows.any λr=>r.xs.any ZA)
 ·refine zX2 ?_
  ((repeat apply Yj);apply Yc;exact rfl;exact rfl;refine⟨TA _ ?_,rfl⟩)
  simp_all
 ·exact zc55
abbrev netB(g:Nat)(n:NetM):HP:=blk g (.cells #[.int .i64 n.nodes,.slice n.pA n.rows.length n.pcap,.int .i64 n.noise,.int .i64 n.thr,.slice n.lA n.links.length n.lcap,.slice n.mA n.margin.length n.mcap] 26 (0,0))
def Jl:List Int->Int
 |[]=>0
 |a::l=>if a≠0 then a else Jl l
theorem Yf0(l:List Int){k:Nat}{a:Int}(h:l[k]? =some a):Jl (l.drop k)=if a≠0 then a else Jl (l.drop (k+1)):=by
 grind [T0,Jl]
variable {B:Nat}{w0 w:World}{H:List HP}
theorem YlE(l:List Int)(hlen:l.length<=1000){A:Option Addr}{cap:Nat}(hr:Rd B w0 H A (l.flatMap numF))(hw:St B w0 H w):
 CX B w0 221 [.slice A l.length cap] w λv K=>v=.int .i64 (Jl l)/\K=H:=by
 refine Ya Tryz.func221 Tryz.ntmps221 rfl rfl hw ?_
 refine zX9 ?_
 refine Ye (λ(k:Nat)=>[(8,.int .i64 k),(7,.int .i64 l.length),(6,.slice A l.length cap),(3,.int .i64 0)]) (λ_=>H) (λk=>k<=l.length/\Jl l=Jl (l.drop k)) (λk=>l.length-k) 0 ⟨Td _,by simp⟩ ?_ (λw hw=>hw) ?_
 ·exact zc1
 rintro k ⟨hk,hi⟩ K hK
 by_cases hlt:k<l.length
 ·obtain⟨a,ha⟩:∃a,l[k]? =some a:=⟨_,Ta hlt⟩
  rw[Yf0 l ha]at hi
  repeat'(first|refine zgd ?_|(refine zge ?_ ?_<;>intro _<;>try exact zo)|fail)
  ·rename_i h
   rw[To h]at hi
   exact zc85
  ·rename_i h
   rw[Tf (by omega)]at hi
   refine zX6 ?_
   apply hK (k+1)
   ·omega
   ·omega
   ·exact zc1
   exact zc18
 ·refine zX1 ?_<;>intros
  exact zc58
theorem Yvx(x y:Int):Jl [x,y]=if x=0 then y else x:=by
 simp only[Jl]
 omega
theorem Va(a b:Lk)(hw:St B w0 H w):CX B w0 343 [lkV a,lkV b] w λv K=>v=.int .i64 (cmpL a b)/\K=H:=by
 refine Ya Tryz.func343 Tryz.ntmps343 rfl rfl hw ?_
 refine zX15 ?_<;>intros
 apply YC [0,1,2,3,5,6,7,8,4,9,10,11,12] [] [true,true]
 kernel_rfl
 kernel_rfl
 exact zy
 (simp only[Yd,nthO];rfl)
 exact rfl
 refine zX16 ?_<;>intros
 rename_i g
 apply Yb Ys2
 exact za
 exact rfl
 exactλ_ hw=>(YlE [cmpI a.1 b.1,cmpI a.2.1 b.2.1] (by simp) (Rd.blk (g:=g) (cs:=#[.int .i64 (cmpI a.1 b.1),.int .i64 (cmpI a.2.1 b.2.1)]) (by(focus exact zc2))) hw)
 refine zX17 ?_
 ((repeat apply Yj);apply Yc;exact rfl;exact rfl;refine⟨TA _ ?_,rfl⟩)
 rw[Yvx];rfl
theorem Qj(n:NetM)(g:Nat)(a:Int)(hm:netB g n∈H)(hw:St B w0 H w):
 CX B w0 342 [.int .i64 a,.pointer (some ⟨g,0,none⟩)] w λv K=>v=.bool (decide (0<=a/\a<n.nodes))/\K=H:=by
 refine Ya Tryz.func342 Tryz.ntmps342 rfl rfl hw ?_
 repeat'(first|refine zgc ?_|(refine zgf ?_ ?_<;>intro _<;>try exact zo)|fail)
 ·exact zc25
 ·exact zc25
 ·exact zc38
end Go.Proofs.YtjommdkgfbhbdaaGreatDoor
namespace Go.Eng
open Go.RowKit
open Go.ChangeMaps (setBlock)
inductive OU where
 |done
 |n1 (i:Nat) (t:OU)
 |n2 (i:Nat) (t:OU) (j:Nat) (u:OU)
 |n3 (i:Nat) (t:OU) (j:Nat) (u:OU) (k:Nat) (v:OU)
section
variable {P:Program}{n:Shp}{B:Nat}{w0:World}{Q:Exit->Act->World->Prop}{env:Env}{H:List HP}{ops:Array Oper}
def X8(P:Program)(ops:Array Oper)(l:List Oper)(Q:Exit->Act->World->Prop)(S:World->Prop):OU->Act->World->Prop
 |.done,a,w=>Q .normal a w
 |.n1 i t,a,w=>YA P ops (λe a w=>match e with|.normal=>X8 P ops l Q S t a w|_=>False) S [nthO l i] a w
 |.n2 i t j u,a,w=>YA P ops (λe a w=>match e with|.normal=>X8 P ops l Q S t a w|_=>False) S [nthO l i] a w/\YA P ops (λe a w=>match e with|.normal=>X8 P ops l Q S u a w|_=>False) S [nthO l j] a w
 |.n3 i t j u k v,a,w=>YA P ops (λe a w=>match e with|.normal=>X8 P ops l Q S t a w|_=>False) S [nthO l i] a w/\YA P ops (λe a w=>match e with|.normal=>X8 P ops l Q S u a w|_=>False) S [nthO l j] a w/\YA P ops (λe a w=>match e with|.normal=>X8 P ops l Q S v a w|_=>False) S [nthO l k] a w
def VB(ops:Array Oper)(last:List Nat):OU->Array Bool->Nat->Bool
 |.done,listed,0=>J2 ops last listed
 |.done,_,_+1=>false
 |.n1 i t,listed,k+1=>!last.contains i&&(match ops[i]? with
  |some o=>if eff o then decide (Region.ready .any ops listed=[i])else(Region.ready .any ops listed).contains i&&Region.free .any ops listed i
  |none=>false)&&VB ops last t (listed.setIfInBounds i true) k
 |.n2 i t j u,listed,k+1=>!last.contains i&&!last.contains j&&VN ops i&&VN ops j&&((Region.ready .any ops listed).all λx=>x==i||x==j)&&!(Region.ready .any ops listed).isEmpty&&VB ops last t (listed.setIfInBounds i true) k&&VB ops last u (listed.setIfInBounds j true) k
 |.n3 i t j u q v,listed,k+1=>!last.contains i&&!last.contains j&&!last.contains q&&VN ops i&&VN ops j&&VN ops q&&((Region.ready .any ops listed).all λx=>x==i||x==j||x==q)&&!(Region.ready .any ops listed).isEmpty&&VB ops last t (listed.setIfInBounds i true) k&&VB ops last u (listed.setIfInBounds j true) k&&VB ops last v (listed.setIfInBounds q true) k
 |.n1 _ _,_,0=>false
 |.n2 _ _ _ _,_,0=>false
 |.n3 _ _ _ _ _ _,_,0=>false
theorem Je{S:World->Prop}{last:List Nat}(hs:Region.noSelect ops=true)(hQ:∀c (a:Act) (w:World),¬Q (.panic c) a w)(hlo:¬LetsOut Q)(l:List Oper)(hl:ops=l.toArray)(hlast:Yc0 ops last=true):
 ∀(t:OU) (k:Nat) (listed:Array Bool) (a:Act) (w:World),Closed ops listed->VB ops last t listed k=true->S w->X8 P ops l (Ja P ops Q (Yd l last)) S t a w->
  Zg P ops Q S last (k+last.length) listed a w
 |.done,0,listed,a,w,_,hB,_,h=>by
  exact Yuk
 |.done,_+1,_,_,_,_,hB,_,_=>by cases hB
 |.n1 _ _,0,_,_,_,_,hB,_,_=>by cases hB
 |.n2 _ _ _ _,0,_,_,_,_,hB,_,_=>by cases hB
 |.n3 _ _ _ _ _ _,0,_,_,_,_,hB,_,_=>by cases hB
 |.n1 i t,k+1,listed,a,w,hcl,hB,hS,h=>by
  simp only[VB,Tq]at hB
  obtain⟨⟨h0,h1⟩,h2⟩:=hB
  have hno:last.contains i=false:=by simp_all
  cases ho:ops[i]? with
  |none=>simp_all
  |some o=>
   rw[ho]at h1
   have hget:=Xz hl ho
   unfold X8 at h
   rw[hget]at h
   rw[Sr]
   by_cases he:eff o=true
   ·simp only[he,Nn,Tm]at h1
    refine⟨λh0=>(by simp_all),λj hj=>?_⟩
    have hj':=hj
    rw[h1]at hj
    obtain rfl:j=i:=by simp_all
    exact Vr ho he hno (λe a w hne=>by simp_all) hS h λa w hS' h'=>Je hs hQ hlo l hl hlast t k _ a w (hcl.set hj') h2 hS' h'
   ·simp only[he]at h1
    simp only[Sl,NS,Tq]at h1
    unfold YA at h
    rw[Tf he]at h
    obtain⟨v,hy,h3⟩:=h
    have hr:i∈Region.ready .any ops listed:=by simp_all
    exact Jw ho (Region.noSelect_spec hs) hQ ((Vv hlast).2 i o ho (by simp_all) hno) hno _ listed a w hcl (Region.free_spec ho h1.2) hr hy hS (Je hs hQ hlo l hl hlast t k _ _ w (hcl.set hr) h2 hS h3)
 |.n2 i t j u,k+1,listed,a,w,hcl,hB,hS,h=>by
  simp only[VB,Tq]at hB
  obtain⟨⟨⟨⟨⟨⟨⟨b1,b2⟩,b3⟩,b4⟩,b5⟩,b6⟩,b7⟩,b8⟩:=hB
  have hi:last.contains i=false:=by simp_all
  have hj:last.contains j=false:=by simp_all
  unfold X8 at h
  rw[Sr]
  refine⟨λh0=>(by simp_all),λx hx=>?_⟩
  have h5:=Rh.1 b5 x hx
  simp only[R7,NL]at h5
  rcases h5 with rfl|rfl
  ·unfold VN at b3
   cases ho:ops[x]? with
   |none=>simp_all
   |some o=>
    exact zc74
  ·unfold VN at b4
   cases ho:ops[x]? with
   |none=>rw[ho]at b4;cases b4
   |some o=>
    rw[ho]at b4
    have hg:=h.2
    exact zc88
 |.n3 i t j u q v,k+1,listed,a,w,hcl,hB,hS,h=>by
  simp only[VB,Tq]at hB
  obtain⟨⟨⟨⟨⟨⟨⟨⟨⟨⟨b1,b2⟩,b2q⟩,b3⟩,b4⟩,b4q⟩,b5⟩,b6⟩,b7⟩,b8⟩,b9⟩:=hB
  have hi:last.contains i=false:=by simpa using b1
  have hj:last.contains j=false:=by simpa using b2
  have hq:last.contains q=false:=by simpa using b2q
  unfold X8 at h
  rw[Sr]
  refine⟨λh0=>(by rw[h0]at b6;cases b6),λx hx=>?_⟩
  have h5:=Rh.1 b5 x hx
  simp only[R7,NL]at h5
  rcases h5 with(rfl|rfl)|rfl
  ·unfold VN at b3
   cases ho:ops[x]? with
   |none=>rw[ho]at b3;cases b3
   |some o=>
    exact zc74
  ·unfold VN at b4
   cases ho:ops[x]? with
   |none=>rw[ho]at b4;cases b4
   |some o=>
    rw[ho]at b4
    have hg:=h.2.1
    exact zc88
  ·unfold VN at b4q
   cases ho:ops[x]? with
   |none=>rw[ho]at b4q;cases b4q
   |some o=>
    rw[ho]at b4q
    have hg:=h.2.2
    rw[Xz hl ho]at hg
    exact Vr ho b4q hq (λe a w hne=>by cases e<;>simp_all) hS hg λa w hS' h'=>Je hs hQ hlo l hl hlast v k _ a w (hcl.set hx) b9 hS' h'
structure VU(P:Program)(n:Shp)(B:Nat)(w0:World)(ops:Array Oper)(l:List Oper)(Q:Exit->Act->World->Prop)(t:OU)(env:Env)(H F:List HP):Prop where
 run:∀a,Fits n a env->∀w,St B w0 (H++F) w->X8 P ops l Q (St B w0 H) t a w
def Jf(P:Program)(B:Nat)(w0:World)(ops:Array Oper)(l:List Oper)(Q:Exit->Act->World->Prop)(Hc:List HP)(t:OU):Exit->Act->World->Prop
 |.normal,a,w=>X8 P ops l Q (St B w0 Hc) t a w
 |_,_,_=>False
variable {l:List Oper}{t u:OU}
theorem Vl:Jf P B w0 ops l Q H t=λe a w=>match e with|.normal=>X8 P ops l Q (St B w0 H) t a w|_=>False:=by
 funext e a w
 cases e<;>rfl
variable {F Hc:List HP}
theorem Yrn{HF:List HP}(happ:App H F HF)(h:VQ n B w0 Q .normal env HF):VU P n B w0 ops l Q .done env H F:=
 ⟨λa ha w hw=>by exact Yl2⟩
variable {i j:Nat}{o o':Oper}
theorem Yew(ho:nthO l i=o)(h:VL P (some (some F)) n B w0 ops (Jf P B w0 ops l Q H t) [o] env H):VU P n B w0 ops l Q (.n1 i t) env H F:=by
 refine⟨λa ha w hw=>?_⟩
 have h1:YA P ops (Jf P B w0 ops l Q H t) (St B w0 H) [o] a w:=h.run a ha w hw
 grind [X8,Vl]
theorem Yex(ho:nthO l i=o)(ho':nthO l j=o')(h:VL P (some (some F)) n B w0 ops (Jf P B w0 ops l Q H t) [o] env H)
 (h':VL P (some (some F)) n B w0 ops (Jf P B w0 ops l Q H u) [o'] env H):VU P n B w0 ops l Q (.n2 i t j u) env H F:=by
 refine⟨λa ha w hw=>?_⟩
 have h1:YA P ops (Jf P B w0 ops l Q H t) (St B w0 H) [o] a w:=h.run a ha w hw
 have h2:YA P ops (Jf P B w0 ops l Q H u) (St B w0 H) [o'] a w:=h'.run a ha w hw
 unfold X8
 rw[ho,ho',<-Vl,<-Vl]
 simp_all
theorem Yop{q:Nat}{v:OU}{o2:Oper}(ho:nthO l i=o)(ho':nthO l j=o')(ho2:nthO l q=o2)(h:VL P (some (some F)) n B w0 ops (Jf P B w0 ops l Q H t) [o] env H)
 (h':VL P (some (some F)) n B w0 ops (Jf P B w0 ops l Q H u) [o'] env H) (h2:VL P (some (some F)) n B w0 ops (Jf P B w0 ops l Q H v) [o2] env H):VU P n B w0 ops l Q (.n3 i t j u q v) env H F:=by
 refine⟨λa ha w hw=>?_⟩
 have h1:YA P ops (Jf P B w0 ops l Q H t) (St B w0 H) [o] a w:=h.run a ha w hw
 have h2':YA P ops (Jf P B w0 ops l Q H u) (St B w0 H) [o'] a w:=h'.run a ha w hw
 have h3:YA P ops (Jf P B w0 ops l Q H v) (St B w0 H) [o2] a w:=h2.run a ha w hw
 unfold X8
 rw[ho,ho',ho2,<-Vl,<-Vl,<-Vl]
 simp_all
theorem V7{H':List HP}(hp:Pull Hc H' F)(h:VU P n B w0 ops l Q t env Hc F):VQ n B w0 (Jf P B w0 ops l Q Hc t) .normal env H':=
 ⟨λa w ha hw=>h.run a ha w (hw.perm hp)⟩
theorem V6{id:Nat}(t:OU)(last:List Nat)(mask:List Bool)(hm:P.follows .mixedOrders=true)
 (hB:(Region.noSelect l.toArray&&decide (last.length<=l.toArray.size)&&Yc0 l.toArray last&&VB l.toArray last t (Array.replicate l.toArray.size false) (l.toArray.size-last.length))=true)
 (hsp:Split mask H Hc F) {l2:List Oper}(hl2:Yd l last=l2) (h:VU P n B w0 l.toArray l (Ja P l.toArray (Only Q) l2) t env Hc F):VC P n B w0 (.region id l.toArray true) Q env H:=by
 simp only[Tq,Tm]at hB
 obtain⟨⟨⟨h1,h2⟩,h3⟩,h5⟩:=hB
 refine⟨λa w ha hw=>ZZ (Q:=Only Q) ?_ λe a w h=>by exact zc81⟩
 have hst:St B w0 (Hc++F) w.drew:=(hw.perm (XO hsp)).drew
 have hr:=h.run a ha w.drew hst
 rw[<-hl2]at hr
 have:=Je (S:=St B w0 Hc) h1 (λc a w h=>h) zc59 l rfl h3 t _ _ a w.drew (XV _ _) h5 hst.prefix_ hr
 exact YqS
end
def MB(es:Ents)(f:Int->Bool):Prop:=∀k,mget es k=if f k=true then some (.bool true)else none
structure MOk(es:Ents)(clock:Nat):Prop where
 nd:(es.map λe=>e.2.2).Nodup
 kn:(es.map λe=>e.1).Nodup
 lt:∀e∈es,e.2.2<clock
theorem MB.nil:MB [] (λ_=>false):=λ_=>rfl
variable {c:Nat}
theorem MOk.nil:MOk [] c:=by grind [Go.Eng.MOk.mk]
theorem Yil(es l:Ents)(k:Int):mget (es++l) k=(mget es k).or (mget l k):=by
 grind [mget]
variable {es:Ents}{f:Int->Bool}
theorem MB.ext{g:Int->Bool}(h:MB es f)(e:∀v,f v=g v):MB es g:=λk=>by rw[<-e k];exact h k
variable {k:Int}
theorem MB.put(h:MB es f)(hk:f k=false):MB (es++[(k,.bool true,c)]) (λv=>decide (v=k)||f v):=λv=>by
 rw[Yil,h v]
 by_cases hv:v=k
 all_goals simp_all [mget,Ne.symm]
theorem MB.mem(h:MB es f){e:Int×Value×Nat}(he:e∈es):f e.1=true:=by
 have hk:=h e.1
 cases hf:f e.1 with
 |true=>rfl
 |false=>
  unfold mget at hk
  cases hx:es.find? (λx=>x.1==e.1)with
  |none=>grind
  |some x=>simp_all
variable {v:Value}
theorem MOk.put(h:MOk es c)(hf:MB es f)(hk:f k=false):MOk (es++[(k,v,c)]) (c+1):=by
 refine⟨?_,?_,λe he=>?_⟩
 ·rw[TY]
  refine NJ.2 ⟨h.nd,by simp,λa ha b hb=>?_⟩
  obtain⟨e,he,rfl⟩:=TG.1 ha
  obtain rfl:b=c:=by simp_all
  have:=h.lt e he
  omega
 ·rw[TY]
  refine NJ.2 ⟨h.kn,by simp,λa ha b hb=>?_⟩
  obtain⟨e,he,rfl⟩:=TG.1 ha
  intro e2
  have:=hf.mem he
  simp_all
 ·rcases T9.1 he with he|he
  ·have:=h.lt e he;omega
  simp_all
theorem MB.at_(h:MB es f)(hk:f k=true):∃e∈es,e.1=k:=by
 have h1:=h k
 unfold mget at h1
 cases hx:es.find? (λx=>x.1==k)with
 |none=>simp_all
 |some x=>grind
theorem Upd.same{A:HP}:∀{L:List HP},A∈L->Upd A A L L
 |_::_,.head _=>Upd.here _
 |X::_,.tail _ h=>(Upd.same h).there X
section
variable {P:Program}{m:Mode}{n:Shp}{B:Nat}{w0:World}{ops:Array Oper}{Q:Exit->Act->World->Prop}{rest:List Oper}{env:Env}{H:List HP}{d:Nat}{ty:TypeId}{pos:String}{after:Array Edge}{x y u:Operand}
theorem Yva{xt:TypeId}{a:Int}(hx:evo env x=some (.int .i64 a))(hn:Nat.ble (d+1) n.k=true)(hb: -9223372036854775808<= -a/\ -a<=9223372036854775807)(h:VL P m n B w0 ops Q rest ((d,.int .i64 (-a))::env) H):
 VL P m n B w0 ops Q (⟨some d,.unOp .neg xt x,ty,pos,after,none⟩::rest) env H:=
 YO rfl rfl hn rfl (λa' w ha _=>by
  have h0:(Op.intArith .sub .i64 0 a).run P w=.ok (.int .i64 (-a)) w:=by
   show Result.ok (Value.int .i64 (IntKind.i64.wrap (0-a))) w=_
   grind [Go.IntWalk.i64_in]
  simp[execOp,ha.eval hx,Op.unary,h0]) h
variable {kt et g clock:Nat}{es:Ents}{f:Int->Bool}{k:Int}
theorem Yn7{t:Nat}{b:Bool}(hx:evo env x=some (.map (some g)))(hy:evo env y=some (.int .i64 k))(hm:blk g (mobj es clock)∈H)(ht:mapT P t kt et=true)(hn:Nat.ble (d+1) n.k=true)(hz:Q4 P et=some (.bool false))(hf:MB es f)(hk:f k=b)
 (h:VL P m n B w0 ops Q rest ((d,.bool b)::env) H):VL P m n B w0 ops Q (⟨some d,.lookup t x y false,ty,pos,after,none⟩::rest) env H:=by
 have h1:=hf k
 cases b with
 |true=>grind [Yjx]
 |false=>grind [Yjw,YdV]
variable {K:Ents->Nat->List HP}
theorem Yri{t:Nat}(hx:evo env x=some (.map (some g)))(hy:evo env y=some (.int .i64 k))(hv:evo env u=some (.bool true))(ht:mapT P t kt et=true)(hu:∀es' c',Upd (blk g (mobj es clock)) (blk g (mobj es' c')) H (K es' c'))(hf:MB es f)(ho:MOk es clock)
 (h:∀es' c',MB es' (λv=>decide (v=k)||f v)->MOk es' c'->clock<=c'->(∀e∈es,e∈es')->VL P none n B w0 ops Q rest env (K es' c')):VL P none n B w0 ops Q (⟨none,.mapUpdate t x y u,ty,pos,after,none⟩::rest) env H:=by
 have h1:=hf k
 cases hk:f k with
 |true=>
  rw[hk,To rfl]at h1
  obtain⟨l1,b,l2,rfl,hl,_⟩:=UT 0 h1
  exact Ymr hx hy hv ht (hu _ _) hl (h _ _ (hf.ext λv=>by simp_all) ho (TS _) λ_ he=>he)
 |false=>
  rw[hk,Tf (by decide)]at h1
  exact Ymq hx hy hv ht (hu _ _) h1 (h _ _ (hf.put hk) (ho.put hf hk) (Nat.le_succ _) λ_ he=>SX _ he)
variable {v:Value}
theorem Ymp{t b:Nat}{l1 l2:Ents}{v0:Value}{K:List HP}(hx:evo env x=some (.map (some g)))(hy:evo env y=some (.int .i64 k))(hv:evo env u=some v)(ht:mapT P t kt et=true)
 (hu:Upd (blk g (mobj (l1++(k,v0,b)::l2) clock)) (blk g (mobj (l1++(k,v,b)::l2) clock)) H K) (hk:∀e∈l1,e.1≠k)
 (h:VL P none n B w0 ops Q rest env K):VL P none n B w0 ops Q (⟨none,.insert t x y u,ty,pos,after,none⟩::rest) env H:=by
 obtain⟨h1,h2⟩:=JG ht
 refine UI rfl rfl (λa w ha hw=>⟨setBlock w g (mobj (l1++(k,v,b)::l2) clock),?_,hw.setBlock hu⟩) h
 have hb:w.heap[g]? =some (mobj (l1++(k,v0,b)::l2) clock):=zc97
 unfold mobj at hb
 have hf:=YcG (l2:=l2) (v0:=v0) (b:=b) hk
 have hsz:(l1++(k,v0,b)::l2).map toE=l1.map toE++toE (k,v0,b)::l2.map toE:=by simp
 exact zc14
theorem Yg3{t:Nat}(hx:evo env x=some (.map none))(ht:mapT P t kt et=true)(hn:Nat.ble (d+1) n.k=true)
 (h:∀r,VL P none n B w0 ops Q rest ((d,.pointer (some ⟨r,0,none⟩))::env) (blk r (.mapIter none 0 #[] 0)::H)):VL P none n B w0 ops Q (⟨some d,.range t x,ty,pos,after,none⟩::rest) env H:=by
 obtain⟨h1,h2⟩:=JG ht
 refine XG (λv K=>∃r,v=.pointer (some ⟨r,0,none⟩)/\K=blk r (.mapIter none 0 #[] 0)::H) rfl rfl hn (λa w ha hw=>?_) zc72
 refine⟨_,_,w.alloc (.mapIter none 0 #[] 0),?_,hw.alloc _,w.heap.size,rfl,rfl⟩
 simp[execOp,ha.eval hx,Instr.range,run_underlying h1,Sem.run,newObj]
theorem Yjz{r:Nat}(hx:evo env x=some (.pointer (some ⟨r,0,none⟩)))(hm:blk r (.mapIter none 0 #[] 0)∈H)(hn:Nat.ble (d+1) n.k=true)
 (h:VL P none n B w0 ops Q rest ((d,.tuple #[.bool false])::env) H):VL P none n B w0 ops Q (⟨some d,.next x false,ty,pos,after,none⟩::rest) env H:=by
 refine Yev rfl rfl hn (λa w ha hw=>⟨w,?_,hw⟩) h
 have hb:=(hw.blk hm).1
 simp[execOp,ha.eval hx,Instr.next,getObj,Sem.run,hb]
theorem Yra{t:Nat}(hx:evo env x=some (.map (some g)))(hy:evo env y=some (.int .i64 k))(hv:evo env u=some (.bool true))(ht:mapT P t kt et=true)(hu:∀es' c',Upd (blk g (mobj es clock)) (blk g (mobj es' c')) H (K es' c'))(hf:MB es f)(ho:MOk es clock)
 (h:∀es' c',MB es' (λv=>decide (v=k)||f v)->MOk es' c'->VL P none n B w0 ops Q rest env (K es' c')):VL P none n B w0 ops Q (⟨none,.insert t x y u,ty,pos,after,none⟩::rest) env H:=by
 have h1:=hf k
 cases hk:f k with
 |true=>
  rw[hk,To rfl]at h1
  obtain⟨l1,b,l2,rfl,hl,_⟩:=UT 0 h1
  refine Ymp hx hy hv ht (hu _ _) hl (h _ _ (hf.ext λv=>by simp_all) ho)
 |false=>
  rw[hk,Tf (by decide)]at h1
  exact Ymo hx hy hv ht (hu _ _) h1 (h _ _ (hf.put hk) (ho.put hf hk))
end
end Go.Eng
