/- Lemmas. -/
import Derived.Test.YtjlgijpmnfabcaaGreatDoorProg
import Derived.KernelRfl
import Derived.Laws.CopyRow
import Derived.Test.YtjlgijpmnfabcaaGreatDoorQ2
import Derived.Test.YtjlgijpmnfabcaaGreatDoorQ3
set_option maxRecDepth 100000
set_option maxHeartbeats 8000000
set_option linter.all false
namespace Go.Proofs.YtjlgijpmnfabcaaGreatDoor
open Go.Eng
abbrev CX(B:Nat)(w0:World)(f:Nat)(l:List Value)(w:World)(F:Value->List Eng.HP->Prop):Prop:=Calls Tryz.prog f l.toArray w (Eng.Post B w0 F)
theorem YuJ:([(3,()),(4,()),(5,()),(22,()),(23,()),(24,()),(27,()),(28,()),(32,()),(33,()),(38,()),(64,()),(67,()),(95,()),(96,()),(104,()),(180,()),(182,()),(235,()),(328,()),(385,()),(452,()),(460,()),(471,())].all λx:Nat×Unit=>oneT Tryz.prog x.1)=true:=by kernel_rfl
theorem YuE:([(26,6),(30,3),(35,12),(48,5),(66,6),(69,7),(113,5),(116,5),(145,3),(181,8),(184,10),(261,16),(330,17),(338,4),(340,4),(383,3),(410,9),(458,2),(478,4)].all λx:Nat×Nat=>aggT Tryz.prog x.1==some x.2)=true:=by kernel_rfl
theorem YuH:([(26,0,0),(26,1,1),(26,2,2),(26,3,3),(26,4,4),(26,5,5),(30,0,0),(30,1,1),(30,2,2),(35,0,0),(35,1,6),(35,2,7),(35,3,10),(35,4,11),(48,0,0),(48,1,1),(48,2,2),(48,3,3),(48,4,4),(66,0,0),(66,1,1),(66,2,2),(66,3,3),(66,4,4),(66,5,5),(69,0,0),(69,1,6),(98,0,0),(98,1,1),(116,0,0),(116,1,1),(116,2,2),(116,3,3),(116,4,4),(145,0,0),(145,1,1),(145,2,2),(164,0,0),(164,1,12),(184,0,0),(184,1,8),(184,2,9),(330,0,0),(330,1,6),(330,2,9),(330,3,15),(330,4,16),(383,0,0),(383,1,1),(383,2,2),(410,0,0),(410,1,6),(458,0,0),(458,1,1),(473,0,0),(473,1,1),(478,0,0),(478,1,1),(478,2,2),(478,3,3)].all λx:Nat×Nat×Nat=>WR Tryz.prog x.1 x.2.1==some x.2.2)=true:=by kernel_rfl
theorem YuK:([(22,(24,1,24)),(23,(145,3,24)),(24,(3,1,8)),(27,(69,7,72)),(28,(48,5,40)),(32,(116,5,104)),(33,(3,1,8)),(64,(66,6,48)),(67,(104,1,24)),(96,(5,1,1)),(104,(3,1,8)),(337,(180,1,4)),(380,(383,3,24)),(460,(458,2,16)),(471,(478,4,32))].all λx:Nat×(Nat×Nat×Nat)=>Ydu Tryz.prog x.1==some x.2)=true:=by kernel_rfl
theorem YuF:([(113,(5,3,1)),(181,(8,180,1)),(261,(16,180,1)),(338,(4,3,1)),(340,(4,180,1)),(399,(10,9,1)),(400,(8,338,4))].all λx:Nat×(Nat×Nat×Nat)=>Yca Tryz.prog x.1==some x.2)=true:=by kernel_rfl
theorem YuI:([(2,.i64),(3,.i64),(5,.u8),(180,.u32),(182,.u64),(205,.u64)].all λx:Nat×IntKind=>decide (intT Tryz.prog x.1=some x.2))=true:=by kernel_rfl
theorem YuL:([(9,())].all λx:Nat×Unit=>Ygu Tryz.prog x.1)=true:=by kernel_rfl
def T:Tab Tryz.prog:=⟨_,_,_,_,_,_,_,YuJ,YuE,YuH,YuK,YuF,YuI,YuL⟩
abbrev tabL_zt:List (Nat×Value):=[(3,.int .i64 0),(4,.bool false),(5,.int .u8 0),(24,.slice none 0 0),(26,.agg #[.int .i64 0,.slice none 0 0,.int .i64 0,.int .i64 0,.slice none 0 0,.slice none 0 0]),(28,.slice none 0 0),(30,.agg #[.int .i64 0,.int .i64 0,.slice none 0 0]),(35,.agg #[.int .i64 0,.slice none 0 0,.int .i64 0,.int .i64 0,.slice none 0 0,.slice none 0 0,.slice none 0 0,.int .i64 0,.int .i64 0,.slice none 0 0,.slice none 0 0,.slice none 0 0]),(48,.agg #[.int .i64 0,.int .i64 0,.int .i64 0,.int .i64 0,.int .i64 0]),(66,.agg #[.int .i64 0,.int .i64 0,.int .i64 0,.int .i64 0,.int .i64 0,.int .i64 0]),(69,.agg #[.int .i64 0,.int .i64 0,.int .i64 0,.int .i64 0,.int .i64 0,.int .i64 0,.slice none 0 0]),(98,.agg #[.pointer none,.slice none 0 0]),(104,.slice none 0 0),(113,.agg #[.int .i64 0,.int .i64 0,.int .i64 0,.int .i64 0,.int .i64 0]),(116,.agg #[.int .i64 0,.slice none 0 0,.slice none 0 0,.slice none 0 0,.slice none 0 0]),(145,.agg #[.int .i64 0,.int .i64 0,.int .i64 0]),(164,.agg #[.int .i64 0,.slice none 0 0,.int .i64 0,.int .i64 0,.slice none 0 0,.slice none 0 0,.slice none 0 0,.int .i64 0,.int .i64 0,.slice none 0 0,.slice none 0 0,.slice none 0 0,.int .i64 0]),(180,.int .u32 0),(181,.agg #[.int .u32 0,.int .u32 0,.int .u32 0,.int .u32 0,.int .u32 0,.int .u32 0,.int .u32 0,.int .u32 0]),(184,.agg #[.int .u32 0,.int .u32 0,.int .u32 0,.int .u32 0,.int .u32 0,.int .u32 0,.int .u32 0,.int .u32 0,.slice none 0 0,.int .u64 0]),(235,.nilFunc),(261,.agg #[.int .u32 0,.int .u32 0,.int .u32 0,.int .u32 0,.int .u32 0,.int .u32 0,.int .u32 0,.int .u32 0,.int .u32 0,.int .u32 0,.int .u32 0,.int .u32 0,.int .u32 0,.int .u32 0,.int .u32 0,.int .u32 0]),(328,.map none),(330,.agg #[.int .i64 0,.slice none 0 0,.int .i64 0,.int .i64 0,.slice none 0 0,.slice none 0 0,.int .i64 0,.int .i64 0,.slice none 0 0,.int .i64 0,.int .i64 0,.int .i64 0,.int .i64 0,.int .i64 0,.int .i64 0,.slice none 0 0,.int .i64 0]),(338,.agg #[.int .i64 0,.int .i64 0,.int .i64 0,.int .i64 0]),(340,.agg #[.int .u32 0,.int .u32 0,.int .u32 0,.int .u32 0]),(383,.agg #[.int .i64 0,.int .i64 0,.int .i64 0]),(399,.agg #[.string ⟨#[]⟩,.string ⟨#[]⟩,.string ⟨#[]⟩,.string ⟨#[]⟩,.string ⟨#[]⟩,.string ⟨#[]⟩,.string ⟨#[]⟩,.string ⟨#[]⟩,.string ⟨#[]⟩,.string ⟨#[]⟩]),(400,.agg #[.int .i64 0,.int .i64 0,.int .i64 0,.int .i64 0,.int .i64 0,.int .i64 0,.int .i64 0,.int .i64 0,.int .i64 0,.int .i64 0,.int .i64 0,.int .i64 0,.int .i64 0,.int .i64 0,.int .i64 0,.int .i64 0,.int .i64 0,.int .i64 0,.int .i64 0,.int .i64 0,.int .i64 0,.int .i64 0,.int .i64 0,.int .i64 0,.int .i64 0,.int .i64 0,.int .i64 0,.int .i64 0,.int .i64 0,.int .i64 0,.int .i64 0,.int .i64 0]),(410,.agg #[.int .i64 0,.slice none 0 0,.int .i64 0,.int .i64 0,.slice none 0 0,.slice none 0 0,.int .i64 0,.int .i64 0,.slice none 0 0]),(452,.map none),(458,.agg #[.int .i64 0,.int .i64 0]),(473,.agg #[.int .i64 0,.slice none 0 0]),(478,.agg #[.int .i64 0,.int .i64 0,.int .i64 0,.int .i64 0])]
theorem YuM:(tabL_zt.map λx:Nat×Value=>Yac Tryz.prog x.1)=tabL_zt.map λx:Nat×Value=>some x.2:=by kernel_rfl
abbrev tabL_bt:List (Nat×List (Nat×Nat)):=[(26,[(0,1),(1,1),(2,1),(3,1),(4,1),(5,1)]),(30,[(0,1),(1,1),(2,1)]),(35,[(0,6),(6,1),(7,3),(10,1),(11,1)]),(48,[(0,1),(1,1),(2,1),(3,1),(4,1)]),(66,[(0,1),(1,1),(2,1),(3,1),(4,1),(5,1)]),(69,[(0,6),(6,1)]),(113,[(0,1),(1,1),(2,1),(3,1),(4,1)]),(116,[(0,1),(1,1),(2,1),(3,1),(4,1)]),(145,[(0,1),(1,1),(2,1)]),(164,[(0,12),(12,1)]),(181,[(0,1),(1,1),(2,1),(3,1),(4,1),(5,1),(6,1),(7,1)]),(184,[(0,8),(8,1),(9,1)]),(330,[(0,6),(6,3),(9,6),(15,1),(16,1)]),(338,[(0,1),(1,1),(2,1),(3,1)]),(340,[(0,1),(1,1),(2,1),(3,1)]),(383,[(0,1),(1,1),(2,1)]),(399,[(0,1),(1,1),(2,1),(3,1),(4,1),(5,1),(6,1),(7,1),(8,1),(9,1)]),(400,[(0,4),(4,4),(8,4),(12,4),(16,4),(20,4),(24,4),(28,4)]),(410,[(0,6),(6,3)]),(458,[(0,1),(1,1)]),(473,[(0,1),(1,1)]),(478,[(0,1),(1,1),(2,1),(3,1)])]
theorem YuG:(tabL_bt.map λx:Nat×List (Nat×Nat)=>Ydx Tryz.prog x.1)=tabL_bt.map λx:Nat×List (Nat×Nat)=>some x.2:=by kernel_rfl
def T2:Tab2 Tryz.prog:=⟨_,_,YuM,YuG⟩
abbrev EnT(k:Nat):Prop:=∀(xs:Array Value) (w:World),(callFunc k xs).run Tryz.prog w=.ok (.enter k xs) w
theorem enT{k:Nat}(h:EnT k:=by exactλ_ _=>by kernel_rfl):EnT k:=h
theorem en6:EnT 6:=enT
theorem en7:EnT 7:=enT
theorem en8:EnT 8:=enT
theorem en9:EnT 9:=enT
theorem en10:EnT 10:=enT
theorem en11:EnT 11:=enT
theorem en12:EnT 12:=enT
theorem en13:EnT 13:=enT
theorem en14:EnT 14:=enT
theorem en15:EnT 15:=enT
theorem en16:EnT 16:=enT
theorem en18:EnT 18:=enT
theorem en29:EnT 29:=enT
theorem en30:EnT 30:=enT
theorem en31:EnT 31:=enT
theorem en32:EnT 32:=enT
theorem en33:EnT 33:=enT
theorem en34:EnT 34:=enT
theorem en35:EnT 35:=enT
theorem en36:EnT 36:=enT
theorem en37:EnT 37:=enT
theorem en38:EnT 38:=enT
theorem en39:EnT 39:=enT
theorem en40:EnT 40:=enT
theorem en41:EnT 41:=enT
theorem en42:EnT 42:=enT
theorem en43:EnT 43:=enT
theorem en44:EnT 44:=enT
theorem en45:EnT 45:=enT
theorem en46:EnT 46:=enT
theorem en47:EnT 47:=enT
theorem en49:EnT 49:=enT
theorem en50:EnT 50:=enT
theorem en68:EnT 68:=enT
theorem en69:EnT 69:=enT
theorem en72:EnT 72:=enT
theorem en73:EnT 73:=enT
theorem en78:EnT 78:=enT
theorem en79:EnT 79:=enT
theorem en80:EnT 80:=enT
theorem en81:EnT 81:=enT
theorem en82:EnT 82:=enT
theorem en83:EnT 83:=enT
theorem en84:EnT 84:=enT
theorem en85:EnT 85:=enT
theorem en86:EnT 86:=enT
theorem en87:EnT 87:=enT
theorem en88:EnT 88:=enT
theorem en89:EnT 89:=enT
theorem en90:EnT 90:=enT
theorem en91:EnT 91:=enT
theorem en92:EnT 92:=enT
theorem en93:EnT 93:=enT
theorem en94:EnT 94:=enT
theorem en95:EnT 95:=enT
theorem en96:EnT 96:=enT
theorem en97:EnT 97:=enT
theorem en98:EnT 98:=enT
theorem en99:EnT 99:=enT
theorem YkX:EnT 100:=enT
theorem YkY:EnT 101:=enT
theorem Ysf:EnT 102:=enT
theorem YkZ:EnT 103:=enT
theorem Ysg:EnT 104:=enT
theorem YuZ:EnT 105:=enT
theorem YaQ:EnT 106:=enT
theorem Yk0:EnT 107:=enT
theorem Yk1:EnT 108:=enT
theorem YaR:EnT 109:=enT
theorem Z1:EnT 110:=enT
theorem Ysh:EnT 146:=enT
theorem Ysi:EnT 147:=enT
theorem Yeu:EnT 148:=enT
theorem Ysj:EnT 151:=enT
theorem Yev:EnT 160:=enT
theorem Yk2:EnT 161:=enT
theorem Yu0:EnT 162:=enT
theorem Yu1:EnT 163:=enT
theorem Yk3:EnT 164:=enT
theorem Ysk:EnT 165:=enT
theorem Yk4:EnT 166:=enT
theorem Yu2:EnT 167:=enT
theorem Yu3:EnT 168:=enT
theorem YoY:EnT 169:=enT
theorem Yu4:EnT 170:=enT
theorem Yu5:EnT 171:=enT
theorem Ysl:EnT 172:=enT
theorem Yu6:EnT 173:=enT
theorem Yu7:EnT 174:=enT
theorem YoZ:EnT 175:=enT
theorem Yk5:EnT 176:=enT
theorem Yew:EnT 177:=enT
theorem Yu8:EnT 178:=enT
theorem Ysm:EnT 181:=enT
theorem Ysn:EnT 182:=enT
theorem Yso:EnT 183:=enT
theorem YaS:EnT 184:=enT
theorem Ysp:EnT 185:=enT
theorem Yk6:EnT 186:=enT
theorem Yu9:EnT 187:=enT
theorem Ysq:EnT 188:=enT
theorem Yk7:EnT 189:=enT
theorem Yk8:EnT 190:=enT
theorem Ysr:EnT 191:=enT
theorem Yva:EnT 192:=enT
theorem Yex:EnT 193:=enT
theorem Yvb:EnT 194:=enT
theorem Ws:EnT 195:=enT
theorem YaT:EnT 196:=enT
theorem Yss:EnT 197:=enT
theorem OI:EnT 198:=enT
theorem Yk9:EnT 199:=enT
theorem Yst:EnT 200:=enT
theorem Zx:EnT 201:=enT
theorem Yvc:EnT 207:=enT
theorem Yvd:EnT 208:=enT
theorem Ysu:EnT 238:=enT
theorem Yla:EnT 239:=enT
theorem Yo0:EnT 242:=enT
theorem Yve:EnT 243:=enT
theorem Yvf:EnT 244:=enT
theorem Yvg:EnT 245:=enT
theorem Ylb:EnT 246:=enT
theorem Ylc:EnT 247:=enT
theorem Yey:EnT 248:=enT
theorem Yvh:EnT 249:=enT
theorem Yvi:EnT 261:=enT
theorem Yo1:EnT 262:=enT
theorem Yez:EnT 263:=enT
theorem Yld:EnT 264:=enT
theorem Yvj:EnT 265:=enT
theorem Ysv:EnT 266:=enT
theorem Yvk:EnT 267:=enT
theorem Ysw:EnT 268:=enT
theorem Yvl:EnT 269:=enT
theorem YeA:EnT 271:=enT
theorem Yvm:EnT 273:=enT
theorem Yvn:EnT 274:=enT
theorem Yvo:EnT 275:=enT
theorem Yvp:EnT 276:=enT
theorem Yle:EnT 277:=enT
theorem Yvq:EnT 278:=enT
theorem V1:EnT 279:=enT
theorem J3:EnT 280:=enT
theorem YeB:EnT 281:=enT
theorem Wt:EnT 282:=enT
theorem OJ:EnT 283:=enT
theorem Ysx:EnT 284:=enT
theorem Ysy:EnT 285:=enT
theorem Ysz:EnT 286:=enT
theorem Yvr:EnT 287:=enT
theorem Yvs:EnT 291:=enT
theorem Yvt:EnT 292:=enT
theorem Yvu:EnT 293:=enT
theorem YsA:EnT 320:=enT
theorem Yvv:EnT 321:=enT
theorem YsB:EnT 331:=enT
theorem YsC:EnT 332:=enT
theorem OK:EnT 339:=enT
theorem YsD:EnT 340:=enT
theorem OL:EnT 341:=enT
theorem YsE:EnT 342:=enT
theorem Yo2:EnT 343:=enT
theorem YsF:EnT 344:=enT
theorem YsG:EnT 345:=enT
theorem Yvw:EnT 346:=enT
theorem Ylf:EnT 359:=enT
theorem YsH:EnT 360:=enT
theorem YsI:EnT 361:=enT
theorem YsJ:EnT 362:=enT
theorem Ylg:EnT 363:=enT
theorem Yvx:EnT 364:=enT
theorem YeC:EnT 365:=enT
theorem Ylh:EnT 366:=enT
theorem Yli:EnT 367:=enT
theorem YsK:EnT 368:=enT
theorem Yvy:EnT 370:=enT
theorem YsL:EnT 371:=enT
theorem Yvz:EnT 372:=enT
theorem YsM:EnT 391:=enT
theorem YvA:EnT 392:=enT
theorem YsN:EnT 393:=enT
theorem YeD:EnT 394:=enT
theorem YeE:EnT 395:=enT
theorem YsO:EnT 396:=enT
theorem Yo3:EnT 397:=enT
theorem YsP:EnT 398:=enT
theorem YvB:EnT 399:=enT
theorem Ylj:EnT 407:=enT
theorem YvC:EnT 409:=enT
theorem YvD:EnT 420:=enT
theorem YsQ:EnT 421:=enT
theorem YsR:EnT 422:=enT
theorem YvE:EnT 423:=enT
theorem YvF:EnT 424:=enT
theorem Ylk:EnT 425:=enT
theorem Yo4:EnT 426:=enT
theorem YeF:EnT 427:=enT
theorem YvG:EnT 428:=enT
theorem YvH:EnT 429:=enT
theorem Yll:EnT 433:=enT
theorem YvI:EnT 434:=enT
theorem YsS:EnT 435:=enT
theorem YvJ:EnT 436:=enT
theorem YsT:EnT 440:=enT
theorem YvK:EnT 441:=enT
theorem YsU:EnT 442:=enT
theorem YvL:EnT 443:=enT
theorem YvM:EnT 444:=enT
theorem YvN:EnT 445:=enT
theorem YvO:EnT 446:=enT
theorem Ylm:EnT 447:=enT
theorem YvP:EnT 448:=enT
theorem YsV:EnT 449:=enT
theorem YvQ:EnT 455:=enT
theorem Yln:EnT 458:=enT
theorem Ylo:EnT 460:=enT
theorem Yo5:EnT 461:=enT
theorem Wu:EnT 480:=enT
theorem YvR:EnT 481:=enT
theorem YvS:EnT 482:=enT
theorem Yhq:EnT 483:=enT
theorem z3(w:World):(zeroValue 3).run Tryz.prog w=.ok (.int .i64 0) w:=by kernel_rfl
theorem z4(w:World):(zeroValue 4).run Tryz.prog w=.ok (.bool false) w:=by kernel_rfl
theorem z66(w:World):(zeroValue 66).run Tryz.prog w=.ok (.agg #[.int .i64 0,.int .i64 0,.int .i64 0,.int .i64 0,.int .i64 0,.int .i64 0]) w:=by kernel_rfl
theorem zi3:((Tryz.prog.info? 3).bind (·.zero))=some (.int .i64 0):=by kernel_rfl
theorem zi5:((Tryz.prog.info? 5).bind (·.zero))=some (.int .u8 0):=by kernel_rfl
end Go.Proofs.YtjlgijpmnfabcaaGreatDoor
namespace Go.Eng
open Go.RowKit
open Go.ChangeMaps (setBlock)
section
variable {P:Program}{m:Mode}{n:Shp}{B:Nat}{w0:World}{ops:Array Oper}{Q:Exit->Act->World->Prop}{rest:List Oper}{env:Env}{H:List HP}{d:Nat}{ty:TypeId}{pos:String}{after:Array Edge}{x y:Operand}
theorem Ymf{t kt et g clock:Nat}{es:Ents}{u:Operand}{k:Int}{v:Value}{K:List HP}(hx:evo env x=some (.map (some g)))(hy:evo env y=some (.int .i64 k))(hv:evo env u=some v)(ht:mapT P t kt et=true)
 (hu:Upd (blk g (mobj es clock)) (blk g (mobj (es++[(k,v,clock)]) (clock+1))) H K) (hk:mget es k=none)
 (h:VL P none n B w0 ops Q rest env K):VL P none n B w0 ops Q (⟨none,.insert t x y u,ty,pos,after,none⟩::rest) env H:=zc24
def isSl(P:Program)(t:TypeId):Bool:=match P.underlying t with|some (.slice _)=>true|_=>false
theorem Ym9{t:TypeId}(h:isSl P t=true):∃e,P.underlying t=some (.slice e):=by
 unfold isSl at h
 grind
theorem Zq{xt yt:TypeId}{A:Option Addr}{k cap:Nat}(hx:evo env x=some (.slice A k cap))(hn:Nat.ble (d+1) n.k=true)(hu:isSl P xt=true)
 (h:VL P m n B w0 ops Q rest ((d,.bool A.isNone)::env) H):VL P m n B w0 ops Q (⟨some d,.binOp .eql xt x (.const (.slice none 0 0)) yt,ty,pos,after,none⟩::rest) env H:=by
 obtain⟨e,hu⟩:=Ym9 hu
 refine YS hx (y:=.const (.slice none 0 0)) rfl hn (λw=>by simp[eqGuard]) (λw=>?_) h
 simp only[binOp,Op.equal]
 rw[Sem.run_bind,show Op.maxDepth=9999+1 from rfl]
 unfold Op.equalIn
 cases A<;>simp[run_underlying hu]
theorem YhC{α:Type}{f:α->List Value}{q:Nat}(hq:∀a,(f a).length=q):∀(l:List α) (i:Nat) (a:α),i<l.length->(l.flatMap f).take (i*q)++f a++(l.flatMap f).drop (i*q+q)=(l.set i a).flatMap f
 |[],i,a,h=>by simp at h
 |b::l,0,a,_=>by
  simp_all
 |b::l,i+1,a,h=>by
  have e1:(i+1)*q=q+i*q:=by grind
  have e2:q+i*q+q=q+(i*q+q):=by omega
  have ih:=YhC hq l i a (by simp_all)
  simp_all [List.take_append,List.drop_append,List.take_of_length_le,List.drop_eq_nil_of_le]
variable {t e k cap size:Nat}{A:Option Addr}
theorem XJ(T:Tab P){α:Type}{f:α->List Value}{l:List α}{i q:Nat}{a:α}{vs:List Value}{K:List HP}(hx:evo env x=some (sptr A (i*q)))(hy:evo env y=some (.agg vs.toArray))(hv:f a=vs)
 (hu:Upd (sl e q A k cap (l.flatMap f)) (sl e q A k cap ((l.set i a).flatMap f)) H K) (hq:∀a,(f a).length=q) (h1:ZM vs=true) (ht:look T.ag t=some q) (hq0:Nat.blt 0 q=true) (hi:i<l.length)
 (h:VL P none n B w0 ops Q rest env K):VL P none n B w0 ops Q (⟨none,.store t x y,ty,pos,after,none⟩::rest) env H:=by
 subst hv
 have hmem:sl e q A k cap (l.flatMap f)∈H:=YiV
 have hq0':0<q:=by simp_all
 refine JJ rfl rfl (λac w ha hw=>?_) h
 have hown:=hw.sl hmem
 rcases ZK hown with⟨_,rfl,_,e4⟩|⟨g,cur,rfl,g1,g2,g3,g4,g5,g6⟩
 ·have:=TG List.length e4
  rw[Y0 hq]at this
  have h5:0<l.length*q:=Nat.mul_pos (by omega) hq0'
  simp_all
 ·have hil:i*q+q<=l.length*q:=YtL
  rw[Y0 hq]at g6
  have hkc:k*q<=cap*q:=T9 _ g2
  have hov:i*q+(f a).length<=cur.size:=by grind
  have hrun:=run_storeCells_at (P:=P) g (i*q) e (f a) 0 cur w g1 (by omega) (Zl h1)
  rw[SV]at hrun
  refine⟨_,?_,hw.storeRow (k':=k) (o:=i*q) (vs:=f a) hu rfl g1 g4 g2 g3 hov ?_ ?_⟩
  ·rw[show sptr (some (⟨g,0,none⟩:Addr)) (i*q)=.pointer (some ⟨g,i*q,none⟩) by simp[sptr,Addr.add_lit]]at hx
   simp[execOp,ha.eval hx,ha.eval hy,Instr.storeAt,Instr.sureAddr,storeVar,Value.cells,ZO (Up (T.aggs ht)),hq,hrun]
  ·have hX:(cur.toList.take (i*q)++f a).length=i*q+q:=by grind
   rw[<-YhC hq l i a hi,<-g5,hq,SE,hX,TL (by omega),List.take_take,SQ (by omega),List.drop_take]
  grind [Y0,TQ]
theorem YdN(T:Tab P){bytes:Nat}{a:Addr}{ki:IntKind}{i:Int}(hx:evo env x=some (.slice (some a) k cap))(hy:evo env y=some (.int ki i))(ht:look T.sl t=some (e,size,bytes))(hn:Nat.ble (d+1) n.k=true)(hi:0<=i/\i<k)
 (h:VL P m n B w0 ops Q rest ((d,sptr (some a) (i.toNat*size))::env) H):VL P m n B w0 ops Q (⟨some d,.indexAddr t x y,ty,pos,after,none⟩::rest) env H:=by
 obtain⟨hut,inf,z',hinf,_,_,hsi,_⟩:=Yx (T.slic ht)
 refine Yt rfl rfl hn rfl (λf w ha _=>?_) h
 exact zc50
theorem YfC{l:List Oper}{xs:List Value}(hm:sl e size A k cap xs∈H)(hk:0<k)(h:∀g,A=some ⟨g,0,none⟩->VL P none n B w0 ops Q l env H):VL P none n B w0 ops Q l env H:=by
 refine⟨λa ha w hw=>?_⟩
 rcases ZK (hw.sl hm)with⟨_,e1,_⟩|⟨g,_,rfl,_⟩
 ·omega
 ·exact(h g rfl).run a ha w hw
end
open Go.RowKit Go.Proofs Go.Proofs.YtjlgijpmnfabcaaGreatDoor
section
variable {m:Mode}{n:Shp}{B:Nat}{w0:World}{ops:Array Oper}{Q:Exit->Act->World->Prop}{rest:List Oper}{env:Env}{H:List HP}{d:Nat}{ty:TypeId}{pos:String}{after:Array Edge}{xt yt:TypeId}{x y:Operand}{k:IntKind}{a b:Int}{s t:ByteArray}
variable {v z:Value}
theorem zs1{x:Operand}(h:VL Tryz.prog m n B w0 ops Q rest ((d,v)::env) H)(hx:evo env x=some v:=by exact rfl)(hn:Nat.ble (d+1) n.k=true:=by exact rfl):VL Tryz.prog m n B w0 ops Q (⟨some d,.move x,ty,pos,after,none⟩::rest) env H:=YqZ hx hn h
theorem zs2{x:Operand}(h:VL Tryz.prog m n B w0 ops Q rest ((d,v)::env) H)(hx:evo env x=some v:=by exact rfl)(hn:Nat.ble (d+1) n.k=true:=by exact rfl):VL Tryz.prog m n B w0 ops Q (⟨some d,.assign x,ty,pos,after,none⟩::rest) env H:=Ymb hx hn h
variable {op:Op}{j f g i tx cap e size bytes q id:Nat}{oj o:Oper}
theorem zs3{m:Mode}{d:Nat}{ty:TypeId}{pos:String}{after:Array Edge}{s:Nat}{b:Bool}(h:VL Tryz.prog m n B w0 ops Q rest ((d,undef)::env) H)(hj:ops[j]? =some oj:=by exact rfl)(hs:oj.dst=some s:=by exact rfl)(hv:get env s=some v:=by exact rfl)(hne:notB v b=true:=by exact rfl)(hn:Nat.ble (d+1) n.k=true:=by exact rfl):VL Tryz.prog m n B w0 ops Q (⟨some d,op,ty,pos,after,some (j,b)⟩::rest) env H:=YgK hj hs hv hne hn h
theorem zs4{m:Mode}{dst:Option Tmp}{ty:TypeId}{pos:String}{after:Array Edge}{s:Nat}{b:Bool}(h:VL Tryz.prog m n B w0 ops Q (⟨dst,op,ty,pos,after,none⟩::rest) env H)(hj:ops[j]? =some oj:=by exact rfl)(hs:oj.dst=some s:=by exact rfl)(hv:get env s=some (.bool b):=by exact rfl):VL Tryz.prog m n B w0 ops Q (⟨dst,op,ty,pos,after,some (j,b)⟩::rest) env H:=Yft hj hs hv h
theorem zs5{x:Operand}{p:Addr}(h:VL Tryz.prog m n B w0 ops Q rest ((d,.pointer (some p))::env) H)(hx:evo env x=some (.pointer (some p)):=by exact rfl)(hn:Nat.ble (d+1) n.k=true:=by exact rfl):VL Tryz.prog m n B w0 ops Q (⟨some d,.nilCheck x,ty,pos,after,none⟩::rest) env H:=YgQ hx hn h
theorem zs6{s k:Nat}{x:Operand}(h:VL Tryz.prog m n B w0 ops Q rest ((d,.pointer (some ⟨g,i+k,none⟩))::env) H)(hx:evo env x=some (.pointer (some ⟨g,i,none⟩)):=by exact rfl)(hf:WT T.fo s f=some k:=by exact rfl)(hn:Nat.ble (d+1) n.k=true:=by exact rfl):VL Tryz.prog m n B w0 ops Q (⟨some d,.fieldAddr s x f,ty,pos,after,none⟩::rest) env H:=Yfr T hx hf hn h
variable {cs:Array Value}{tt src dst:TypeId}{fr:Nat×Nat}
theorem zs7{t:Nat}{x:Operand}(h:VL Tryz.prog m n B w0 ops Q rest ((d,v)::env) H)(hx:evo env x=some (.pointer (some ⟨g,i,none⟩)):=by exact rfl)(hm:blk g (.cells cs tt fr)∈H:=by(exact zm;done))(hv:nth cs.toList i=some v:=by exact rfl)(ht:look T.sc t=some ():=by exact rfl)(hn:Nat.ble (d+1) n.k=true:=by exact rfl):VL Tryz.prog m n B w0 ops Q (⟨some d,.load t x,ty,pos,after,none⟩::rest) env H:=YqW T hx hm hv ht hn h
theorem zs8{t k:Nat}{x:Operand}(h:VL Tryz.prog m n B w0 ops Q rest ((d,.agg cs)::env) H)(hx:evo env x=some (.pointer (some ⟨g,0,none⟩)):=by exact rfl)(hm:blk g (.cells cs tt fr)∈H:=by(exact zm;done))(ht:look T.ag t=some k:=by exact rfl)(hk:cs.size=k:=by exact rfl)(hn:Nat.ble (d+1) n.k=true:=by exact rfl):VL Tryz.prog m n B w0 ops Q (⟨some d,.load t x,ty,pos,after,none⟩::rest) env H:=JI T hx hm ht hk hn h
variable {A:Option Addr}
theorem zs9{x:Operand}{k:Nat}{es:Nat×Nat×Nat}(h:VL Tryz.prog m n B w0 ops Q rest ((d,.int .i64 k)::env) H)(hx:evo env x=some (.slice A k cap):=by exact rfl)(ht:look T.sl tx=some es:=by exact rfl)(hn:Nat.ble (d+1) n.k=true:=by exact rfl):VL Tryz.prog m n B w0 ops Q (⟨some d,.call ⟨.builtin .len,#[x],#[tx]⟩,ty,pos,after,none⟩::rest) env H:=Yt7 T hx ht hn h
variable {xs cs':List Value}{ki yk:IntKind}
theorem zs10{t:Nat}{x y:Operand}{k:Nat}{i:Int}(h:VL Tryz.prog m n B w0 ops Q rest ((d,sptr A (i.toNat*size))::env) H)(hx:evo env x=some (.slice A k cap):=by exact rfl)(hm:sl e size A k cap xs∈H:=by(exact zm;done))(hy:evo env y=some (.int ki i):=by exact rfl)(ht:look T.sl t=some (e,size,bytes):=by exact rfl)(hn:Nat.ble (d+1) n.k=true:=by exact rfl)(hi:0<=i/\i<k:=by omega):VL Tryz.prog m n B w0 ops Q (⟨some d,.indexAddr t x y,ty,pos,after,none⟩::rest) env H:=YgL T hx hm hy ht hn hi h
variable {c:Operand}
theorem zs11{x y:Operand}(h:VL Tryz.prog m n B w0 ops Q rest ((d,v)::env) H)(hc:evo env c=some (.bool true):=by exact rfl)(hx:evo env x=some v:=by exact rfl)(hn:Nat.ble (d+1) n.k=true:=by exact rfl):VL Tryz.prog m n B w0 ops Q (⟨some d,.pick c x y,ty,pos,after,none⟩::rest) env H:=Yfy hc hx hn h
theorem zs12{x y:Operand}(h:VL Tryz.prog m n B w0 ops Q rest ((d,v)::env) H)(hc:evo env c=some (.bool false):=by exact rfl)(hx:evo env y=some v:=by exact rfl)(hn:Nat.ble (d+1) n.k=true:=by exact rfl):VL Tryz.prog m n B w0 ops Q (⟨some d,.pick c x y,ty,pos,after,none⟩::rest) env H:=YdO hc hx hn h
theorem zs13{x:Operand}{vs:Array Value}(h:VL Tryz.prog m n B w0 ops Q rest ((d,v)::env) H)(hx:evo env x=some (.tuple vs):=by exact rfl)(hv:nth vs.toList i=some v:=by exact rfl)(hn:Nat.ble (d+1) n.k=true:=by exact rfl):VL Tryz.prog m n B w0 ops Q (⟨some d,.extract x i,ty,pos,after,none⟩::rest) env H:=Yi3 hx hv hn h
theorem zs14{tx:TypeId}(h:VL Tryz.prog m n B w0 ops Q rest ((d,.int .i64 s.size)::env) H)(hx:evo env x=some (.string s):=by exact rfl)(ht:look T.st tx=some ():=by exact rfl)(hn:Nat.ble (d+1) n.k=true:=by exact rfl):VL Tryz.prog m n B w0 ops Q (⟨some d,.call ⟨.builtin .len,#[x],#[tx]⟩,ty,pos,after,none⟩::rest) env H:=Yq3 T hx ht hn h
theorem zs15(h1:a=b->VL Tryz.prog m n B w0 ops Q rest ((d,.bool true)::env) H)(h2:a≠b->VL Tryz.prog m n B w0 ops Q rest ((d,.bool false)::env) H)(hx:evo env x=some (.int k a):=by exact rfl)(hy:evo env y=some (.int k b):=by exact rfl)(hn:Nat.ble (d+1) n.k=true:=by exact rfl):VL Tryz.prog m n B w0 ops Q (⟨some d,.binOp .eql xt x y yt,ty,pos,after,none⟩::rest) env H:=Yt4 hx hy hn h1 h2
theorem zs16(h1:a≠b->VL Tryz.prog m n B w0 ops Q rest ((d,.bool true)::env) H)(h2:a=b->VL Tryz.prog m n B w0 ops Q rest ((d,.bool false)::env) H)(hx:evo env x=some (.int k a):=by exact rfl)(hy:evo env y=some (.int k b):=by exact rfl)(hn:Nat.ble (d+1) n.k=true:=by exact rfl):VL Tryz.prog m n B w0 ops Q (⟨some d,.binOp .neq xt x y yt,ty,pos,after,none⟩::rest) env H:=Yuc hx hy hn h1 h2
theorem zs17(h1:a<b->VL Tryz.prog m n B w0 ops Q rest ((d,.bool true)::env) H)(h2:b<=a->VL Tryz.prog m n B w0 ops Q rest ((d,.bool false)::env) H)(hx:evo env x=some (.int k a):=by exact rfl)(hy:evo env y=some (.int k b):=by exact rfl)(hn:Nat.ble (d+1) n.k=true:=by exact rfl):VL Tryz.prog m n B w0 ops Q (⟨some d,.binOp .lss xt x y yt,ty,pos,after,none⟩::rest) env H:=Yt9 hx hy hn h1 h2
theorem zs18(h1:a<=b->VL Tryz.prog m n B w0 ops Q rest ((d,.bool true)::env) H)(h2:b<a->VL Tryz.prog m n B w0 ops Q rest ((d,.bool false)::env) H)(hx:evo env x=some (.int k a):=by exact rfl)(hy:evo env y=some (.int k b):=by exact rfl)(hn:Nat.ble (d+1) n.k=true:=by exact rfl):VL Tryz.prog m n B w0 ops Q (⟨some d,.binOp .leq xt x y yt,ty,pos,after,none⟩::rest) env H:=Yt8 hx hy hn h1 h2
theorem zs19(h1:b<a->VL Tryz.prog m n B w0 ops Q rest ((d,.bool true)::env) H)(h2:a<=b->VL Tryz.prog m n B w0 ops Q rest ((d,.bool false)::env) H)(hx:evo env x=some (.int k a):=by exact rfl)(hy:evo env y=some (.int k b):=by exact rfl)(hn:Nat.ble (d+1) n.k=true:=by exact rfl):VL Tryz.prog m n B w0 ops Q (⟨some d,.binOp .gtr xt x y yt,ty,pos,after,none⟩::rest) env H:=Yt6 hx hy hn h1 h2
theorem zs20(h1:b<=a->VL Tryz.prog m n B w0 ops Q rest ((d,.bool true)::env) H)(h2:a<b->VL Tryz.prog m n B w0 ops Q rest ((d,.bool false)::env) H)(hx:evo env x=some (.int k a):=by exact rfl)(hy:evo env y=some (.int k b):=by exact rfl)(hn:Nat.ble (d+1) n.k=true:=by exact rfl):VL Tryz.prog m n B w0 ops Q (⟨some d,.binOp .geq xt x y yt,ty,pos,after,none⟩::rest) env H:=Yt5 hx hy hn h1 h2
theorem zs21{xt yt:TypeId}{x:Operand}{s:ByteArray}(h1:s=⟨#[]⟩->s.size=0->VL Tryz.prog m n B w0 ops Q rest ((d,.bool true)::env) H)(h2:s≠⟨#[]⟩->1<=s.size->VL Tryz.prog m n B w0 ops Q rest ((d,.bool false)::env) H)(hx:evo env x=some (.string s):=by exact rfl)(hn:Nat.ble (d+1) n.k=true:=by exact rfl):VL Tryz.prog m n B w0 ops Q (⟨some d,.binOp .eql xt x (.const (.string ⟨#[]⟩)) yt,ty,pos,after,none⟩::rest) env H:=Yom hx hn h1 h2
theorem zs22{xt yt:TypeId}{x:Operand}{s:ByteArray}(h1:s≠⟨#[]⟩->1<=s.size->VL Tryz.prog m n B w0 ops Q rest ((d,.bool true)::env) H)(h2:s=⟨#[]⟩->s.size=0->VL Tryz.prog m n B w0 ops Q rest ((d,.bool false)::env) H)(hx:evo env x=some (.string s):=by exact rfl)(hn:Nat.ble (d+1) n.k=true:=by exact rfl):VL Tryz.prog m n B w0 ops Q (⟨some d,.binOp .neq xt x (.const (.string ⟨#[]⟩)) yt,ty,pos,after,none⟩::rest) env H:=Yoq hx hn h1 h2
variable {tys:Array TypeId}
theorem zs25{x y:Operand}{k:IntKind}{a b:Int}(h1:b<a->VL Tryz.prog m n B w0 ops Q rest ((d,.int k b)::env) H)(h2:a<=b->VL Tryz.prog m n B w0 ops Q rest ((d,.int k a)::env) H)(hx:evo env x=some (.int k a):=by exact rfl)(hy:evo env y=some (.int k b):=by exact rfl)(hn:Nat.ble (d+1) n.k=true:=by exact rfl):VL Tryz.prog m n B w0 ops Q (⟨some d,.call ⟨.builtin .min,#[x,y],tys⟩,ty,pos,after,none⟩::rest) env H:=YqY hx hy hn h1 h2
theorem zs29{t:Nat}{x y:Operand}{s:ByteArray}{k:IntKind}{i:Int}(h:∀b:UInt8,s[i.toNat]? =some b->VL Tryz.prog m n B w0 ops Q rest ((d,.int .u8 b.toNat)::env) H)(hx:evo env x=some (.string s):=by exact rfl)(hy:evo env y=some (.int k i):=by exact rfl)(ht:look T.st t=some ():=by exact rfl)(hn:Nat.ble (d+1) n.k=true:=by exact rfl)(hi:0<=i/\i<s.size:=by omega):VL Tryz.prog m n B w0 ops Q (⟨some d,.index t x y,ty,pos,after,none⟩::rest) env H:=Yfu T hx hy ht hn hi h
theorem zs30(h:VL Tryz.prog m n B w0 ops Q rest ((d,.int .i64 (a+b))::env) H)(hx:evo env x=some (.int .i64 a):=by exact rfl)(hy:evo env y=some (.int .i64 b):=by exact rfl)(hn:Nat.ble (d+1) n.k=true:=by exact rfl)(hb: -9223372036854775808<=a+b/\a+b<=9223372036854775807:=by omega):VL Tryz.prog m n B w0 ops Q (⟨some d,.binOp .add xt x y yt,ty,pos,after,none⟩::rest) env H:=Yt1 hx hy hn hb h
theorem zs31(h:VL Tryz.prog m n B w0 ops Q rest ((d,.int .i64 (a-b))::env) H)(hx:evo env x=some (.int .i64 a):=by exact rfl)(hy:evo env y=some (.int .i64 b):=by exact rfl)(hn:Nat.ble (d+1) n.k=true:=by exact rfl)(hb: -9223372036854775808<=a-b/\a-b<=9223372036854775807:=by omega):VL Tryz.prog m n B w0 ops Q (⟨some d,.binOp .sub xt x y yt,ty,pos,after,none⟩::rest) env H:=Yuf hx hy hn hb h
theorem zs32(h:VL Tryz.prog m n B w0 ops Q rest ((d,.int .i64 (a*b))::env) H)(hx:evo env x=some (.int .i64 a):=by exact rfl)(hy:evo env y=some (.int .i64 b):=by exact rfl)(hn:Nat.ble (d+1) n.k=true:=by exact rfl)(hb: -9223372036854775808<=a*b/\a*b<=9223372036854775807:=by first|exact YpD (by omega) (by omega) (by omega) (by omega)|exact YrB (by omega) (by omega) (by omega) (by omega)|omega):VL Tryz.prog m n B w0 ops Q (⟨some d,.binOp .mul xt x y yt,ty,pos,after,none⟩::rest) env H:=Yua hx hy hn hb h
theorem zs36(h:VL Tryz.prog m n B w0 ops Q rest ((d,.int .i64 (a/b))::env) H)(hx:evo env x=some (.int .i64 a):=by exact rfl)(hy:evo env y=some (.int .i64 b):=by exact rfl)(hn:Nat.ble (d+1) n.k=true:=by exact rfl)(hb:0<=a/\a<=9223372036854775807/\1<=b:=by omega):VL Tryz.prog m n B w0 ops Q (⟨some d,.binOp .quo xt x y yt,ty,pos,after,none⟩::rest) env H:=Yud hx hy hn hb h
theorem zs37(h:VL Tryz.prog m n B w0 ops Q rest ((d,.int k (a%b))::env) H)(hx:evo env x=some (.int k a):=by exact rfl)(hy:evo env y=some (.int k b):=by exact rfl)(hn:Nat.ble (d+1) n.k=true:=by exact rfl)(hb:0<=a/\1<=b:=by omega):VL Tryz.prog m n B w0 ops Q (⟨some d,.binOp .rem xt x y yt,ty,pos,after,none⟩::rest) env H:=Yue hx hy hn hb h
theorem zs38{D:Int}(h:VL Tryz.prog m n B w0 ops Q rest ((d,.int k (a/D))::env) H)(hx:evo env x=some (.int k a):=by exact rfl)(hn:Nat.ble (d+1) n.k=true:=by exact rfl)(hb:0<=b/\b<=k.bits:=by(simp only[IntKind.bits];omega))(hD:(2:Int)^b.toNat=D:=by(simp only[Int.reduceToNat,Int.reducePow];rfl)):VL Tryz.prog m n B w0 ops Q (⟨some d,.binOp .shr xt x (.const (.int yk b)) yt,ty,pos,after,none⟩::rest) env H:=Yop hx hn hb hD h
theorem zs40(h:VL Tryz.prog m n B w0 ops Q rest ((d,.int k (k.wrap (a*2^b.toNat)))::env) H)(hx:evo env x=some (.int k a):=by exact rfl)(hy:evo env y=some (.int yk b):=by exact rfl)(hn:Nat.ble (d+1) n.k=true:=by exact rfl)(hb:0<=b/\b<=k.bits:=by(simp only[IntKind.bits];omega)):VL Tryz.prog m n B w0 ops Q (⟨some d,.binOp .shl xt x y yt,ty,pos,after,none⟩::rest) env H:=Yon hx hy hn hb h
theorem zs41(h:VL Tryz.prog m n B w0 ops Q rest ((d,.int k (bits .and k a b))::env) H)(hx:evo env x=some (.int k a):=by exact rfl)(hy:evo env y=some (.int k b):=by exact rfl)(hn:Nat.ble (d+1) n.k=true:=by exact rfl):VL Tryz.prog m n B w0 ops Q (⟨some d,.binOp .and xt x y yt,ty,pos,after,none⟩::rest) env H:=Yt2 hx hy hn h
theorem zs44{j:IntKind}(h:VL Tryz.prog m n B w0 ops Q rest ((d,.int .i64 a)::env) H)(hx:evo env x=some (.int k a):=by exact rfl)(hs:look T.ik src=some j:=by exact rfl)(ht:look T.ik dst=some .i64:=by exact rfl)(hn:Nat.ble (d+1) n.k=true:=by exact rfl)(hb: -9223372036854775808<=a/\a<=9223372036854775807:=by omega):VL Tryz.prog m n B w0 ops Q (⟨some d,.convert src dst x,ty,pos,after,none⟩::rest) env H:=YbT T hx hs ht hn hb h
theorem zs45{j:IntKind}(h:VL Tryz.prog m n B w0 ops Q rest ((d,.int .u64 a)::env) H)(hx:evo env x=some (.int k a):=by exact rfl)(hs:look T.ik src=some j:=by exact rfl)(ht:look T.ik dst=some .u64:=by exact rfl)(hn:Nat.ble (d+1) n.k=true:=by exact rfl)(hb:0<=a/\a<=18446744073709551615:=by omega):VL Tryz.prog m n B w0 ops Q (⟨some d,.convert src dst x,ty,pos,after,none⟩::rest) env H:=YgI T hx hs ht hn hb h
theorem zs46{j:IntKind}{kd:IntKind}(h:VL Tryz.prog m n B w0 ops Q rest ((d,.int kd (kd.wrap a))::env) H)(hx:evo env x=some (.int k a):=by exact rfl)(hs:look T.ik src=some j:=by exact rfl)(ht:look T.ik dst=some kd:=by exact rfl)(hn:Nat.ble (d+1) n.k=true:=by exact rfl):VL Tryz.prog m n B w0 ops Q (⟨some d,.convert src dst x,ty,pos,after,none⟩::rest) env H:=Qm T hx hs ht hn h
theorem zs47{x:Operand}{xt:TypeId}(h:VL Tryz.prog m n B w0 ops Q rest ((d,.bool false)::env) H)(hx:evo env x=some (.bool true):=by exact rfl)(hn:Nat.ble (d+1) n.k=true:=by exact rfl):VL Tryz.prog m n B w0 ops Q (⟨some d,.unOp .not xt x,ty,pos,after,none⟩::rest) env H:=YgR hx hn h
theorem zs48{x:Operand}{xt:TypeId}(h:VL Tryz.prog m n B w0 ops Q rest ((d,.bool true)::env) H)(hx:evo env x=some (.bool false):=by exact rfl)(hn:Nat.ble (d+1) n.k=true:=by exact rfl):VL Tryz.prog m n B w0 ops Q (⟨some d,.unOp .not xt x,ty,pos,after,none⟩::rest) env H:=Yfw hx hn h
theorem zs49{t tt:Nat}{x y:Operand}{k:Nat}{mm c:Nat}{K:Option Addr->Nat->List HP}(h:∀A' cap',VL Tryz.prog none n B w0 ops Q rest ((d,.slice A' (k+mm) cap')::env) (K A' cap'))(hx:evo env x=some (.slice A k cap):=by exact rfl)(ht:look T.sl t=some (e,size,bytes):=by exact rfl)(hy:evo env y=some (.slice (some ⟨g,0,none⟩) mm c):=by exact rfl)(hb:blk g (.cells cs tt fr)∈H:=by(exact zm;done))(hk:cs.size=mm*size:=by exact rfl)(h1:ZM cs.toList=true:=by exact rfl)(hn:Nat.ble (d+1) n.k=true:=by exact rfl)(hu:∀A' cap',Upd (sl e size A k cap xs) (sl e size A' (k+mm) cap' (xs++cs.toList)) H (K A' cap'):=by((intro _ _;exact zd);done))(hby:(k+mm)*bytes<=140737488355328:=by omega):VL Tryz.prog none n B w0 ops Q (⟨some d,.call ⟨.builtin .append,#[x,y],#[t,t]⟩,ty,pos,after,none⟩::rest) env H:=Yma T hx ht hy hb hk h1 hn hu hby h
variable {K F:List HP}
theorem zs50{t:Nat}{cs:List Value}{x y:Operand}(h:VL Tryz.prog none n B w0 ops Q rest env K)(hx:evo env x=some (.pointer (some ⟨g,i,none⟩)):=by exact rfl)(hy:evo env y=some v:=by exact rfl)(h1:v.oneCell'=true:=by exact rfl)(hu:Upd (blk g (.cells cs.toArray tt (0,0))) (blk g (.cells cs'.toArray tt (0,0))) H K:=by(exact zd;done))(hs:Yed cs i v cs':=by(exact zt;done))(ht:look T.sc t=some ():=by exact rfl):VL Tryz.prog none n B w0 ops Q (⟨none,.store t x y,ty,pos,after,none⟩::rest) env H:=Yor T hx hy h1 hu hs ht h
theorem zs51{t k:Nat}{cs vs:List Value}{x y:Operand}(h:VL Tryz.prog none n B w0 ops Q rest env K)(hx:evo env x=some (.pointer (some ⟨g,i,none⟩)):=by exact rfl)(hy:evo env y=some (.agg vs.toArray):=by exact rfl)(h1:ZM vs=true:=by exact rfl)(hu:Upd (blk g (.cells cs.toArray tt (0,0))) (blk g (.cells cs'.toArray tt (0,0))) H K:=by(exact zd;done))(hs:PutAt cs i vs cs':=by((repeat(first|exact PutAt.nil|(apply PutAt.cons;exact zt)));done))(ht:look T.ag t=some k:=by exact rfl)(hk:vs.length=k:=by exact rfl):VL Tryz.prog none n B w0 ops Q (⟨none,.store t x y,ty,pos,after,none⟩::rest) env H:=Qn T hx hy h1 hu hs ht hk h
theorem zs52{t:TypeId}{x:Operand}(h:∀g,VL Tryz.prog none n B w0 ops Q rest ((d,.pointer (some ⟨g,0,none⟩))::env) (blk g (.cells cs t (0,0))::H))(hx:evo env x=some (.agg cs):=by exact rfl)(hn:Nat.ble (d+1) n.k=true:=by exact rfl):VL Tryz.prog none n B w0 ops Q (⟨some d,.box t x,ty,pos,after,none⟩::rest) env H:=YT hx hn h
theorem zs53{t:TypeId}{x:Operand}(h:∀g,VL Tryz.prog none n B w0 ops Q rest ((d,.pointer (some ⟨g,0,none⟩))::env) (blk g (.cells #[v] t (0,0))::H))(hx:evo env x=some v:=by exact rfl)(h1:v.cells=#[v]:=by exact rfl)(hn:Nat.ble (d+1) n.k=true:=by exact rfl):VL Tryz.prog none n B w0 ops Q (⟨some d,.box t x,ty,pos,after,none⟩::rest) env H:=Yi1 hx h1 hn h
theorem zs54{t:TypeId}(h:∀g,VL Tryz.prog none n B w0 ops Q rest ((d,.pointer (some ⟨g,0,none⟩))::env) (blk g (.cells cs t (0,0))::H))(hz:look T2.zt t=some z:=by exact rfl)(hc:z.cells=cs:=by exact rfl)(hn:Nat.ble (d+1) n.k=true:=by exact rfl):VL Tryz.prog none n B w0 ops Q (⟨some d,.alloc t,ty,pos,after,none⟩::rest) env H:=Yl8 T2 hz hc hn h
variable {parts:List (Nat×Operand)}{ps:List (Nat×Value)}
theorem zs55{t:TypeId}{zc:Array Value}{pl:List (Nat×Nat)}{cs:List Value}(h:VL Tryz.prog m n B w0 ops Q rest ((d,.agg cs.toArray)::env) H)(hp:Wd env parts=some ps:=by exact rfl)(hz:look T2.zt t=some (.agg zc):=by exact rfl)(hl:look T2.bt t=some pl:=by exact rfl)(hf:fillL (pl[·]?) zc.toList ps=some cs:=by exact rfl)(hn:Nat.ble (d+1) n.k=true:=by exact rfl):VL Tryz.prog m n B w0 ops Q (⟨some d,.build t parts.toArray,ty,pos,after,none⟩::rest) env H:=Ymc T2 hp hz hl hf hn h
theorem zs56{t len:Nat}{zl cs:List Value}(h:∀g,VL Tryz.prog none n B w0 ops Q rest ((d,.slice (some ⟨g,0,none⟩) len len)::env) (blk g (.cells cs.toArray e (0,0))::H))(ht:look T.sl t=some (e,size,bytes):=by exact rfl)(hp:Wd env parts=some ps:=by exact rfl)(hz:look T2.zt e=some z:=by exact rfl)(hzc:z.cells=zl.toArray:=by exact rfl)(hf:fillL (λi=>some (i*size,size)) (repZ len zl) ps=some cs:=by exact rfl)(hn:Nat.ble (d+1) n.k=true:=by exact rfl)(hl:(Nat.blt 0 (len*size)&&Nat.beq zl.length size&&Nat.ble (len*size) 1000000)=true:=by exact rfl):VL Tryz.prog none n B w0 ops Q (⟨some d,.buildSlice t len parts.toArray,ty,pos,after,none⟩::rest) env H:=Vp T T2 ht hp hz hzc hf hn hl h
variable {α:Type}
theorem zs57{f:α->List Value}{l:List α}{t:Nat}{x y:Operand}{i:Int}(h:VL Tryz.prog m n B w0 ops Q rest ((d,sptr A (i.toNat*size))::env) H)(hx:evo env x=some (.slice A l.length cap):=by exact rfl)(hy:evo env y=some (.int ki i):=by exact rfl)(hr:Rd B w0 H A (l.flatMap f):=by(exact zr;done))(ht:look T.sl t=some (e,size,bytes):=by exact rfl)(hq:∀a,(f a).length=size:=by exactλ_=>rfl)(h0:Nat.blt 0 size=true:=by exact rfl)(hn:Nat.ble (d+1) n.k=true:=by exact rfl)(hi:0<=i/\i<l.length:=by omega):VL Tryz.prog m n B w0 ops Q (⟨some d,.indexAddr t x y,ty,pos,after,none⟩::rest) env H:=Zi T hx hy hr ht hq h0 hn hi h
theorem zs58{f:α->List Value}{l:List α}{s fl k:Nat}{x:Operand}(h:VL Tryz.prog m n B w0 ops Q rest ((d,sptr A (i*q+k))::env) H)(hx:evo env x=some (sptr A (i*q)):=by exact rfl)(hr:Rd B w0 H A (l.flatMap f):=by(exact zr;done))(hq:∀a,(f a).length=q:=by exactλ_=>rfl)(h0:Nat.blt 0 q=true:=by exact rfl)(hf:WT T.fo s fl=some k:=by exact rfl)(hn:Nat.ble (d+1) n.k=true:=by exact rfl)(hi:i<l.length:=by omega):VL Tryz.prog m n B w0 ops Q (⟨some d,.fieldAddr s x fl,ty,pos,after,none⟩::rest) env H:=Yfs T hx hr hq h0 hf hn hi h
theorem zs59{f:α->List Value}{l:List α}{t o:Nat}{b:α}{x:Operand}(h:VL Tryz.prog m n B w0 ops Q rest ((d,v)::env) H)(hx:evo env x=some (sptr A (i*q+o)):=by exact rfl)(hr:Rd B w0 H A (l.flatMap f):=by(exact zr;done))(hb:l[i]? =some b:=by assumption)(hq:∀a,(f a).length=q:=by exactλ_=>rfl)(ho:Nat.blt o q=true:=by exact rfl)(hv:nth (f b) o=some v:=by exact rfl)(ht:look T.sc t=some ():=by exact rfl)(hn:Nat.ble (d+1) n.k=true:=by exact rfl):VL Tryz.prog m n B w0 ops Q (⟨some d,.load t x,ty,pos,after,none⟩::rest) env H:=YbV T hx hr hb hq ho hv ht hn h
theorem zs60{f:α->List Value}{l:List α}{t:Nat}{b:α}{x:Operand}(h:VL Tryz.prog m n B w0 ops Q rest ((d,v)::env) H)(hx:evo env x=some (sptr A (i*q)):=by exact rfl)(hr:Rd B w0 H A (l.flatMap f):=by(exact zr;done))(hb:l[i]? =some b:=by assumption)(hq:∀a,(f a).length=q:=by exactλ_=>rfl)(ho:Nat.blt 0 q=true:=by exact rfl)(hv:nth (f b) 0=some v:=by exact rfl)(ht:look T.sc t=some ():=by exact rfl)(hn:Nat.ble (d+1) n.k=true:=by exact rfl):VL Tryz.prog m n B w0 ops Q (⟨some d,.load t x,ty,pos,after,none⟩::rest) env H:=ZW T hx hr hb hq ho hv ht hn h
theorem zs61{f:α->List Value}{l:List α}{t:Nat}{b:α}{x:Operand}(h:VL Tryz.prog m n B w0 ops Q rest ((d,.agg (f b).toArray)::env) H)(hx:evo env x=some (sptr A (i*q)):=by exact rfl)(hr:Rd B w0 H A (l.flatMap f):=by(exact zr;done))(hb:l[i]? =some b:=by assumption)(hq:∀a,(f a).length=q:=by exactλ_=>rfl)(ho:Nat.blt 0 q=true:=by exact rfl)(ht:look T.ag t=some q:=by exact rfl)(hn:Nat.ble (d+1) n.k=true:=by exact rfl):VL Tryz.prog m n B w0 ops Q (⟨some d,.load t x,ty,pos,after,none⟩::rest) env H:=YbU T hx hr hb hq ho ht hn h
theorem zs62{x y:Operand}{k:IntKind}{a b:Int}(h1:a<b->VL Tryz.prog m n B w0 ops Q rest ((d,.int k b)::env) H)(h2:b<=a->VL Tryz.prog m n B w0 ops Q rest ((d,.int k a)::env) H)(hx:evo env x=some (.int k a):=by exact rfl)(hy:evo env y=some (.int k b):=by exact rfl)(hn:Nat.ble (d+1) n.k=true:=by exact rfl):VL Tryz.prog m n B w0 ops Q (⟨some d,.call ⟨.builtin .max,#[x,y],tys⟩,ty,pos,after,none⟩::rest) env H:=YqX hx hy hn h1 h2
theorem zs65(h:VQ n B w0 Q .normal env H):VL Tryz.prog none n B w0 ops Q [] env H:=Yof h
theorem zs66(h:VQ n B w0 Q .normal env H):VL Tryz.prog (some none) n B w0 ops Q [] env H:=Yq1 h
theorem zs68{y:Code}(h:VC Tryz.prog n B w0 y Q env H):VQ n B w0 (Exit.then (wpR Tryz.prog n.r y Q) Q) .normal env H:=YfG h
theorem zs69{x y:Code}(h:VC Tryz.prog n B w0 x (Exit.then (wpR Tryz.prog n.r y Q) Q) env H):VC Tryz.prog n B w0 (.seq x y) Q env H:=Xs h
variable {l:List Oper}
theorem zs70(h:VL Tryz.prog none n B w0 l.toArray Q l env H):VC Tryz.prog n B w0 (.region id l.toArray false) Q env H:=YX h
theorem zs71{x y:Code}(h:VC Tryz.prog n B w0 x Q env H)(hc:evo env c=some (.bool true):=by exact rfl):VC Tryz.prog n B w0 (.cond c x y) Q env H:=Yfn hc h
theorem zs72{x y:Code}(h:VC Tryz.prog n B w0 y Q env H)(hc:evo env c=some (.bool false):=by exact rfl):VC Tryz.prog n B w0 (.cond c x y) Q env H:=YdM hc h
theorem zs73{c:Code}(h:VC Tryz.prog n B w0 c (Exit.inBlock id Q) env H):VC Tryz.prog n B w0 (.block id c) Q env H:=YgB h
theorem zs74(h:VQ n B w0 Q .ret env H):VC Tryz.prog n B w0 .ret Q env H:=Yt0 h
theorem zs75(h:VQ n B w0 Q (.exit id) env H):VC Tryz.prog n B w0 (.exit id) Q env H:=YqP h
theorem zs76(h:VQ n B w0 Q .normal env H):VC Tryz.prog n B w0 .skip Q env H:=YqQ h
theorem zs77{K:Act->World->Prop}(h:VQ n B w0 Q .ret env H):VQ n B w0 (Exit.then K Q) .ret env H:=Yg2 h
theorem zs78(h:VQ n B w0 Q .ret env H):VQ n B w0 (Exit.inBlock id Q) .ret env H:=YfE h
theorem zs79(h:VQ n B w0 Q .normal env H):VQ n B w0 (Exit.inBlock id Q) .normal env H:=Ybr h
theorem zs80{K:Act->World->Prop}(h:VQ n B w0 Q (.exit id) env H):VQ n B w0 (Exit.then K Q) (.exit id) env H:=YfH h
theorem zs81(h:VQ n B w0 Q .normal env H):VQ n B w0 (Exit.inBlock id Q) (.exit id) env H:=YdP h
theorem zs82{id':Nat}(h:VQ n B w0 Q (.exit id') env H)(hne:Nat.beq id' id=false:=by exact rfl):VQ n B w0 (Exit.inBlock id Q) (.exit id') env H:=Yb0 hne h
theorem zs83(h:VL Tryz.prog (some none) n B w0 l.toArray Q l env H)(hq:(l.all λo=>!eff o)=true:=by exact rfl)(hm:Tryz.prog.follows .mixedOrders=true:=by kernel_rfl)(hB:Region.lexB .any l.toArray=true:=by kernel_rfl):VC Tryz.prog n B w0 (.region id l.toArray true) Q env H:=Yn6 hq hm hB h
theorem zs84(h:VL Tryz.prog (some none) n B w0 l.toArray Q l env H)(hq:(l.all λo=>!effW o)=true:=by exact rfl)(hm:Tryz.prog.follows .mixedOrders=true:=by kernel_rfl)(hB:Region.lexB .any l.toArray=true:=by kernel_rfl):VC Tryz.prog n B w0 (.region id l.toArray true) Q env H:=Yn5 hq hm hB h
theorem zs87{HF:List HP}(h:VL Tryz.prog none n B w0 ops (YgA Tryz.prog B w0 ops Q H rest) [o] env HF)(he:eff o=true:=by exact rfl)(hg:o.guard=none:=by exact rfl)(happ:App H F HF:=by(exact zp;done)):VL Tryz.prog (some (some F)) n B w0 ops Q (o::rest) env H:=YqU he hg happ h
theorem zs90{t:OT}(h:VL Tryz.prog (some (some F)) n B w0 ops (WB Tryz.prog B w0 ops l Q H t) [o] env H)(ho:nthO l i=o:=by(simp only[nthO];rfl)):VT Tryz.prog n B w0 ops l Q (.n1 i t) env H F:=YuV ho h
theorem zs91{t u:OT}{o':Oper}(h:VL Tryz.prog (some (some F)) n B w0 ops (WB Tryz.prog B w0 ops l Q H t) [o] env H)(h':VL Tryz.prog (some (some F)) n B w0 ops (WB Tryz.prog B w0 ops l Q H u) [o'] env H)(ho:nthO l i=o:=by(simp only[nthO];rfl))(ho':nthO l j=o':=by(simp only[nthO];rfl)):VT Tryz.prog n B w0 ops l Q (.n2 i t j u) env H F:=YuW ho ho' h h'
theorem zs93(h:VL Tryz.prog none n B w0 ops Q l env H):VQ n B w0 (ZS Tryz.prog ops Q l) .normal env H:=Yox h
theorem zs94(h:VQ n B w0 Q .normal env H):VQ n B w0 (Only Q) .normal env H:=Yq5 h
theorem zg1{m:Mode}{d:Nat}{ty:TypeId}{pos:String}{after:Array Edge}{b:Bool}(h:VL Tryz.prog m n B w0 ops Q (⟨some d,op,ty,pos,after,some (j,b)⟩::rest) env H):VL Tryz.prog m n B w0 ops Q (⟨some d,op,ty,pos,after,some (j,b)⟩::rest) env H:=h
theorem zg2{s:Nat}{x:Operand}(h:VL Tryz.prog m n B w0 ops Q (⟨some d,.fieldAddr s x f,ty,pos,after,none⟩::rest) env H):VL Tryz.prog m n B w0 ops Q (⟨some d,.fieldAddr s x f,ty,pos,after,none⟩::rest) env H:=h
theorem zg3{t:Nat}{x:Operand}(h:VL Tryz.prog m n B w0 ops Q (⟨some d,.load t x,ty,pos,after,none⟩::rest) env H):VL Tryz.prog m n B w0 ops Q (⟨some d,.load t x,ty,pos,after,none⟩::rest) env H:=h
theorem zg4{x:Operand}(h:VL Tryz.prog m n B w0 ops Q (⟨some d,.call ⟨.builtin .len,#[x],#[tx]⟩,ty,pos,after,none⟩::rest) env H):VL Tryz.prog m n B w0 ops Q (⟨some d,.call ⟨.builtin .len,#[x],#[tx]⟩,ty,pos,after,none⟩::rest) env H:=h
theorem zg5{t:Nat}{x y:Operand}(h:VL Tryz.prog m n B w0 ops Q (⟨some d,.indexAddr t x y,ty,pos,after,none⟩::rest) env H):VL Tryz.prog m n B w0 ops Q (⟨some d,.indexAddr t x y,ty,pos,after,none⟩::rest) env H:=h
theorem zg6{x y:Operand}(h:VL Tryz.prog m n B w0 ops Q (⟨some d,.pick c x y,ty,pos,after,none⟩::rest) env H):VL Tryz.prog m n B w0 ops Q (⟨some d,.pick c x y,ty,pos,after,none⟩::rest) env H:=h
theorem zg7(h:VL Tryz.prog m n B w0 ops Q (⟨some d,.binOp .eql xt x y yt,ty,pos,after,none⟩::rest) env H):VL Tryz.prog m n B w0 ops Q (⟨some d,.binOp .eql xt x y yt,ty,pos,after,none⟩::rest) env H:=h
theorem zg8(h:VL Tryz.prog m n B w0 ops Q (⟨some d,.binOp .neq xt x y yt,ty,pos,after,none⟩::rest) env H):VL Tryz.prog m n B w0 ops Q (⟨some d,.binOp .neq xt x y yt,ty,pos,after,none⟩::rest) env H:=h
theorem zg12{t:Nat}{x y:Operand}(h:VL Tryz.prog m n B w0 ops Q (⟨some d,.index t x y,ty,pos,after,none⟩::rest) env H):VL Tryz.prog m n B w0 ops Q (⟨some d,.index t x y,ty,pos,after,none⟩::rest) env H:=h
theorem zg13(h:VL Tryz.prog m n B w0 ops Q (⟨some d,.binOp .add xt x y yt,ty,pos,after,none⟩::rest) env H):VL Tryz.prog m n B w0 ops Q (⟨some d,.binOp .add xt x y yt,ty,pos,after,none⟩::rest) env H:=h
theorem zg14(h:VL Tryz.prog m n B w0 ops Q (⟨some d,.binOp .sub xt x y yt,ty,pos,after,none⟩::rest) env H):VL Tryz.prog m n B w0 ops Q (⟨some d,.binOp .sub xt x y yt,ty,pos,after,none⟩::rest) env H:=h
theorem zg15(h:VL Tryz.prog m n B w0 ops Q (⟨some d,.binOp .mul xt x y yt,ty,pos,after,none⟩::rest) env H):VL Tryz.prog m n B w0 ops Q (⟨some d,.binOp .mul xt x y yt,ty,pos,after,none⟩::rest) env H:=h
theorem zg16(h:VL Tryz.prog m n B w0 ops Q (⟨some d,.binOp .quo xt x y yt,ty,pos,after,none⟩::rest) env H):VL Tryz.prog m n B w0 ops Q (⟨some d,.binOp .quo xt x y yt,ty,pos,after,none⟩::rest) env H:=h
theorem zg17(h:VL Tryz.prog m n B w0 ops Q (⟨some d,.binOp .rem xt x y yt,ty,pos,after,none⟩::rest) env H):VL Tryz.prog m n B w0 ops Q (⟨some d,.binOp .rem xt x y yt,ty,pos,after,none⟩::rest) env H:=h
theorem zg18(h:VL Tryz.prog m n B w0 ops Q (⟨some d,.binOp .shr xt x y yt,ty,pos,after,none⟩::rest) env H):VL Tryz.prog m n B w0 ops Q (⟨some d,.binOp .shr xt x y yt,ty,pos,after,none⟩::rest) env H:=h
theorem zg19(h:VL Tryz.prog m n B w0 ops Q (⟨some d,.convert src dst x,ty,pos,after,none⟩::rest) env H):VL Tryz.prog m n B w0 ops Q (⟨some d,.convert src dst x,ty,pos,after,none⟩::rest) env H:=h
theorem zg20{x:Operand}{xt:TypeId}(h:VL Tryz.prog m n B w0 ops Q (⟨some d,.unOp .not xt x,ty,pos,after,none⟩::rest) env H):VL Tryz.prog m n B w0 ops Q (⟨some d,.unOp .not xt x,ty,pos,after,none⟩::rest) env H:=h
theorem zg21{t:Nat}{x y:Operand}(h:VL Tryz.prog m n B w0 ops Q (⟨some d,.call ⟨.builtin .append,#[x,y],#[t,t]⟩,ty,pos,after,none⟩::rest) env H):VL Tryz.prog m n B w0 ops Q (⟨some d,.call ⟨.builtin .append,#[x,y],#[t,t]⟩,ty,pos,after,none⟩::rest) env H:=h
theorem zg22{t:Nat}{x y:Operand}(h:VL Tryz.prog m n B w0 ops Q (⟨none,.store t x y,ty,pos,after,none⟩::rest) env H):VL Tryz.prog m n B w0 ops Q (⟨none,.store t x y,ty,pos,after,none⟩::rest) env H:=h
theorem zg23{t:TypeId}{x:Operand}(h:VL Tryz.prog m n B w0 ops Q (⟨some d,.box t x,ty,pos,after,none⟩::rest) env H):VL Tryz.prog m n B w0 ops Q (⟨some d,.box t x,ty,pos,after,none⟩::rest) env H:=h
theorem zg24{t:TypeId}(h:VL Tryz.prog m n B w0 ops Q (⟨some d,.alloc t,ty,pos,after,none⟩::rest) env H):VL Tryz.prog m n B w0 ops Q (⟨some d,.alloc t,ty,pos,after,none⟩::rest) env H:=h
theorem zg25{t:TypeId}(h:VL Tryz.prog m n B w0 ops Q (⟨some d,.build t parts.toArray,ty,pos,after,none⟩::rest) env H):VL Tryz.prog m n B w0 ops Q (⟨some d,.build t parts.toArray,ty,pos,after,none⟩::rest) env H:=h
theorem zg26{t len:Nat}(h:VL Tryz.prog m n B w0 ops Q (⟨some d,.buildSlice t len parts.toArray,ty,pos,after,none⟩::rest) env H):VL Tryz.prog m n B w0 ops Q (⟨some d,.buildSlice t len parts.toArray,ty,pos,after,none⟩::rest) env H:=h
theorem zg27{x y:Code}(h:VC Tryz.prog n B w0 (.cond c x y) Q env H):VC Tryz.prog n B w0 (.cond c x y) Q env H:=h
theorem zg28(h:VC Tryz.prog n B w0 (.region id l.toArray true) Q env H):VC Tryz.prog n B w0 (.region id l.toArray true) Q env H:=h
theorem zg29{fn:Fn}{caps:List Operand}(h:VL Tryz.prog m n B w0 ops Q (⟨some d,.makeFunc fn #[] caps.toArray,ty,pos,after,none⟩::rest) env H):VL Tryz.prog m n B w0 ops Q (⟨some d,.makeFunc fn #[] caps.toArray,ty,pos,after,none⟩::rest) env H:=h
end
section
variable {P:Program}{n:Shp}{B:Nat}{w0:World}{ops:Array Oper}{Q:Exit->Act->World->Prop}{rest:List Oper}{env:Env}{H:List HP}
def JZ(ops:Array Oper):List Nat->Array Bool->Bool
 |[],listed=>(Region.ready .any ops listed).isEmpty
 |i::rest,listed=>decide (Region.ready .any ops listed=[i])&&JZ ops rest (listed.setIfInBounds i true)
def Ygd(ops:Array Oper)(last:List Nat):List Nat->Array Bool->Bool
 |[],listed=>JZ ops last listed
 |i::rest,listed=>
  (match ops[i]? with
   |some o=>if eff o then decide (Region.ready .any ops listed=[i])else(Region.ready .any ops listed).contains i&&Region.free .any ops listed i
   |none=>false)&&Ygd ops last rest (listed.setIfInBounds i true)
def YcS(ops:Array Oper)(last:List Nat):Bool:=
 last.all λj=>decide (j<ops.size)&&(List.range ops.size).all λi=>last.contains i||(match ops[i]? with|some o=>eff o|none=>false)||ancB ops ops.size j i
theorem VB{last:List Nat}(h:YcS ops last=true):(∀j,last.contains j=true->∃o,ops[j]? =some o)/\∀i oi,ops[i]? =some oi->eff oi=false->last.contains i=false->∀j,last.contains j=true->∃f,ancB ops f j i=true:=by
 refine⟨λj hj=>?_,λi oi hi he hil j hj=>?_⟩
 ·have h1:=TK.1 h j (by simp_all)
  simp_all
 ·exact zc87
theorem JW{S:World->Prop}{last:List Nat}(l:List Oper)(hl:ops=l.toArray)(hef:∀j,last.contains j=true->∃o,ops[j]? =some o)(hlo:¬LetsOut Q):
 ∀(o2:List Nat) (listed:Array Bool) (a:Act) (w:World),(∀j∈o2,last.contains j=true)->JZ ops o2 listed=true->wpList P ops Q (Yd l o2) a w->XT P ops Q S last o2.length listed a w
 |[],listed,a,w,_,hB,h=>⟨by grind [JZ],h⟩
 |i::rest,listed,a,w,hin,hB,h=>by
  simp only[JZ,Tm,To]at hB
  obtain⟨h1,h2⟩:=hB
  obtain⟨o,ho⟩:=hef i (hin i (by simp))
  have hget:nthO l i=o:=Xf hl ho
  simp only[Yd,hget]at h
  unfold wpList at h
  refine⟨λh0=>(by simp_all),λk hk=>?_⟩
  obtain rfl:k=i:=by simp_all
  unfold wpOp
  simp only[ho]
  by_cases hw:Region.wanted o (yielded ops a.tmps)=true
  ·rw[Tn hw]at h⊢
   rcases h with h|⟨_,h⟩
   ·exact .inl (Oper.wp_mono (λa' w' h'=>⟨λhf=>(by simp_all),JW l hl hef hlo rest _ a' w' (λj hj=>hin j (by simp[hj])) h2 h'⟩) h)
   simp_all
  ·rw[Tf hw]at h⊢
   exact⟨λhf=>(by simp_all),JW l hl hef hlo rest _ _ w (λj hj=>hin j (by simp[hj])) h2 h⟩
theorem V8{S:World->Prop}{last:List Nat}(hs:Region.noSelect ops=true)(hQ:∀c (a:Act) (w:World),¬Q (.panic c) a w)(hlo:¬LetsOut Q)(l:List Oper)(hl:ops=l.toArray)(hlast:YcS ops last=true):
 ∀(o1:List Nat) (listed:Array Bool) (a:Act) (w:World),Closed ops listed->(∀j∈o1,last.contains j=false)->Ygd ops last o1 listed=true->S w->Ys P ops (ZS P ops Q (Yd l last)) S (Yd l o1) a w->
  XT P ops Q S last (o1++last).length listed a w
 |[],listed,a,w,_,_,hB,_,h=>JW l hl (VB hlast).1 hlo last listed a w (λj hj=>by simp_all) hB h
 |i::rest,listed,a,w,hcl,hno,hB,hS,h=>by
  simp only[Ygd,Tm]at hB
  obtain⟨h1,h2⟩:=hB
  have hno':∀j∈rest,last.contains j=false:=by simp_all
  cases ho:ops[i]? with
  |none=>simp_all
  |some o=>
   rw[ho]at h1
   have hget:nthO l i=o:=Xf hl ho
   simp only[Yd,hget]at h
   by_cases he:eff o=true
   ·simp only[he,Nb,To]at h1
    unfold Ys at h
    rw[Tn he]at h
    refine⟨λh0=>(by simp_all),λk hk=>?_⟩
    have hk':=hk
    rw[h1]at hk
    obtain rfl:k=i:=by simp_all
    unfold wpOp
    simp only[ho]
    by_cases hw:Region.wanted o (yielded ops a.tmps)=true
    ·rw[Tn hw]at h⊢
     refine .inl (Oper.wp_mono_noQ' (λc a w h=>by cases h) (Oper.wp_mono (λa' w' h'=>⟨λ_=>h'.1,V8 hs hQ hlo l hl hlast rest _ a' w' (hcl.set hk') hno' h2 h'.1 h'.2⟩) h))
    ·rw[Tf hw]at h⊢
     exact⟨λ_=>hS,V8 hs hQ hlo l hl hlast rest _ _ w (hcl.set hk') hno' h2 hS h⟩
   ·simp only[he]at h1
    simp only[RU,NA,Tm]at h1
    unfold Ys at h
    rw[Tf he]at h
    obtain⟨v,hy,h3⟩:=h
    have hr:i∈Region.ready .any ops listed:=by simp_all
    exact Jt ho (Region.noSelect_spec hs) hQ ((VB hlast).2 i o ho (by simp_all) (hno i (by simp))) (hno i (by simp)) _ listed a w hcl (Region.free_spec ho h1.2) hr hy hS (V8 hs hQ hlo l hl hlast rest _ _ w (hcl.set hr) hno' h2 hS h3)
theorem YgC{id:Nat}{l:List Oper}(o1 last:List Nat)(mask:List Bool){Hc F:List HP}(hm:P.follows .mixedOrders=true)
 (hB:(Region.noSelect l.toArray&&decide ((o1++last).length=l.toArray.size)&&YcS l.toArray last&&(o1.all λj=>!last.contains j)&&Ygd l.toArray last o1 (Array.replicate l.toArray.size false))=true)
 (hsp:Split mask H Hc F) {l1 l2:List Oper}(hl1:Yd l o1=l1) (hl2:Yd l last=l2) (h:VL P (some (some F)) n B w0 l.toArray (ZS P l.toArray (Only Q) l2) l1 env Hc):VC P n B w0 (.region id l.toArray true) Q env H:=by
 simp only[Tm,To]at hB
 obtain⟨⟨⟨⟨h1,h2⟩,h3⟩,h4⟩,h5⟩:=hB
 refine⟨λa w ha hw=>Zp (Q:=Only Q) ?_ λe a w h=>by exact zc60⟩
 have hst:St B w0 (Hc++F) w.drew:=(hw.perm (Xx hsp)).drew
 have hr:Ys P l.toArray (ZS P l.toArray (Only Q) l2) (St B w0 Hc) l1 a w.drew:=h.run a ha w.drew hst
 rw[<-hl1,<-hl2]at hr
 have:=V8 (S:=St B w0 Hc) h1 (λc a w h=>h) zc42 l rfl h3 o1 _ a w.drew (XG _ _) (λj hj=>by simp_all) h5 hst.prefix_ hr
 exact YlY
end
section
variable {P:Program}{m:Mode}{n:Shp}{B d:Nat}{w0:World}{ops:Array Oper}{Q:Exit->Act->World->Prop}{rest:List Oper}{env:Env}{H:List HP}{ty:TypeId}{pos:String}{after:Array Edge}
def QQ(P:Program)(t:TypeId):Bool:=match P.underlying t with|some (.interface _)=>false|some _=>true|none=>false
variable {t elem:TypeId}{x:Operand}{v v0 r:Value}
theorem UU(hx:evo env x=some v)(hu:QQ P t=true)(hn:Nat.ble (d+1) n.k=true)
 (h:VL P none n B w0 ops Q rest ((d,.iface t v)::env) H):VL P none n B w0 ops Q (⟨some d,.makeInterface t x,ty,pos,after,none⟩::rest) env H:=by
 refine Yee rfl rfl hn (λa w ha hw=>⟨w,?_,hw⟩) h
 unfold QQ at hu
 cases ht:P.underlying t with
 |none=>simp_all
 |some u=>
  rw[ht]at hu
  cases u<;>first|(cases hu;done)|simp[execOp,ha.eval hx,Instr.makeInterface,run_underlying ht]
theorem YaG{xt:TypeId}(hx:evo env x=some (.iface t v))(hu:QQ P t=true)(hn:Nat.ble (d+1) n.k=true)
 (h:VL P none n B w0 ops Q rest ((d,.tuple #[v,.bool true])::env) H):VL P none n B w0 ops Q (⟨some d,.typeAssert x xt t true,ty,pos,after,none⟩::rest) env H:=by
 refine Yee rfl rfl hn (λa w ha hw=>⟨w,?_,hw⟩) h
 unfold QQ at hu
 cases ht:P.underlying t with
 |none=>simp_all
 |some u=>
  rw[ht]at hu
  cases u<;>first|(cases hu;done)|simp[execOp,ha.eval hx,Instr.typeAssert,run_underlying ht]
theorem Yia(x t:TypeId)(a:Addr)(s u:String):Builtin.ssaWrapNilChk_ #[x] t #[.pointer (some a),strVal s,strVal u]=pure (.pointer (some a)):=rfl
variable {k f:Nat}{name:String}{a:Addr}{w:World}
theorem Ydl{info:TypeInfo}{mm:Method}(hi:P.info? t=some info)(hf:info.methods.find? (λx=>x.name==name)=some mm)(hp:mm.path=#[])(hfu:mm.func=some (f,false))(hu:P.underlying t=some (.pointer elem)):
 (method (k+1) t (.pointer (some a)) name).run P w=((loadVar elem a).run P w).andThen λv w=>.ok (f,v) w:=by
 simp[method,typeInfo,hi,hf,hp,follow,hfu,receiverAt,Place.get,run_underlying hu,Yia,asAddr]
def YsY(P:Program)(t:TypeId)(name:String)(f:Nat)(elem:TypeId):Bool:=
 match P.info? t with
 |some info=>(match info.methods.find? (λx=>x.name==name)with|some mm=>mm.path==#[]&&mm.func==some (f,false)|none=>false)&&(match P.underlying t with|some (.pointer e)=>e==elem|_=>false)
 |none=>false
theorem YaB(h:YsY P t name f elem=true):
 (method (k+1) t (.pointer (some a)) name).run P w=((loadVar elem a).run P w).andThen λv w=>.ok (f,v) w:=by
 unfold YsY at h
 cases hi:P.info? t with
 |none=>simp_all
 |some info=>
  rw[hi]at h
  simp only[Tm]at h
  obtain⟨h1,h2⟩:=h
  cases hf:info.methods.find? (λx=>x.name==name)with
  |none=>simp_all
  |some mm=>
   cases hu:P.underlying t with
   |none=>simp_all
   |some d=>
    rw[hu]at h2
    cases d<;>first|(cases h2;done)|skip
    simp_all [Ydl]
variable {args:List Operand}{tys:Array TypeId}{vs:List Value}
theorem ZV(Φ:Value->List HP->Prop)(hx:evo env x=some (.iface t v0))
 (hm:∀w,St B w0 H w->(method (P.types.size+Made.depth) t v0 name).run P w=.ok (f,r) w)
 (hc:∀xs w,(callFunc f xs).run P w=.ok (.enter f xs) w) (hargs:Args env args vs) (hn:Nat.ble (d+1) n.k=true)
 (hcall:∀w,St B w0 H w->Calls P f (r::vs).toArray w (Post B w0 Φ))
 (h:∀v H',Φ v H'->VL P none n B w0 ops Q rest ((d,v)::env) H'):
 VL P none n B w0 ops Q (⟨some d,.call ⟨.invoke x name,args.toArray,tys⟩,ty,pos,after,none⟩::rest) env H:=by
 refine⟨λa ha w hw=>wpList_plain rfl λK hK=>?_⟩
 unfold Oper.wp
 have hmap:args.toArray.map a.eval=vs.toArray:=by grind [Ua]
 have hrun:(execOp a.eval ⟨some d,.call ⟨.invoke x name,args.toArray,tys⟩,ty,pos,after,none⟩).run P w=.ok (.enter f (r::vs).toArray) w:=by
  simp only[execOp,resolve,ha.eval hx,hmap,Sem.run_bind,Sem.run_pure,Result.andThen_ok,invoke]
  have e1:(#[Value.iface t v0]++vs.toArray)[0]? =some (.iface t v0):=by simp
  have e2:(#[Value.iface t v0]++vs.toArray).extract 1 (#[Value.iface t v0]++vs.toArray).size=vs.toArray:=by simp_all
  have e3:#[r]++vs.toArray=(r::vs).toArray:=by simp
  simp_all [callMethod]
 rw[hrun,Oper.upon_enter]
 exact zc41
theorem Y2(hx:evo env x=some (.iface t v0))
 (hm:∀w,St B w0 H w->(method (P.types.size+Made.depth) t v0 name).run P w=.ok (f,r) w)
 (hc:∀xs w,(callFunc f xs).run P w=.ok (.enter f xs) w) (hargs:Args env args vs) (hn:Nat.ble (d+1) n.k=true)
 (hcall:∀w,St B w0 H w->Calls P f (r::vs).toArray w (Post B w0 λu K=>u=v/\K=H))
 (h:VL P none n B w0 ops Q rest ((d,v)::env) H):
 VL P none n B w0 ops Q (⟨some d,.call ⟨.invoke x name,args.toArray,tys⟩,ty,pos,after,none⟩::rest) env H:=
 ZV _ hx hm hc hargs hn hcall zc51
end
section
variable {P:Program}{n:Shp}{B:Nat}{w0:World}{ops:Array Oper}{Q:Exit->Act->World->Prop}{rest:List Oper}{env:Env}{H:List HP}
variable {S:World->Prop}{last:List Nat}{i:Nat}{oi:Oper}{v:Value}
theorem Yeb(hi:ops[i]? =some oi)(hsel:∀(j:Nat) (o:Oper) cs b,ops[j]? =some o->o.op≠.select cs b)
 (hQ:∀c (a:Act) (w:World),¬Q (.panic c) a w) (hil:last.contains i=true):
 ∀(fuel:Nat) (listed:Array Bool) (a:Act) (w:World),Closed ops listed->
  (∀j oj,ops[j]? =some oj->j≠i->listed.getD j true=false->(∀e∈oj.after,Region.binds .any e=true->e.on≠i)->oi.apart ops oj=true)->
  i∈Region.ready .any ops listed->YieldsIf P ops (λ_=>True) oi v a->
  XT P ops Q S last fuel (listed.setIfInBounds i true) (a.put oi.dst v) w->XT P ops Q S last (fuel+1) listed a w:=by
 intro fuel
 have hno:¬last.contains i=false:=by simp_all
 induction fuel with
 |zero=>
  intro listed a w _ _ hr hy H
  refine⟨λh=>(by simp_all),λj hj=>?_⟩
  by_cases hji:j=i
  ·exact YtP
  exact zc65
 |succ fuel ih=>
  intro listed a w hcl hfree hr hy H
  refine⟨λh=>(by grind),λj hj=>?_⟩
  by_cases hji:j=i
  ·exact YtP
  ·have h1:=H.2 j (ready_mono hj hji)
   obtain⟨hjun,oj,hoj,hall⟩:=mem_ready.1 hj
   have hun:=(mem_ready.1 hr).1
   have hun':listed.getD i false=false:=zc35
   have hnot:∀e∈oj.after,Region.binds .any e=true->e.on≠i:=by grind
   have h2:=wpOp_putIf hoj (hfree j oj hoj hji hjun hnot) (λcs b=>hsel i oi cs b hi) (λcs b=>hsel j oj cs b hoj) (λc a w h=>(hQ c _ w h).elim) hy h1
   have hfree':∀k ok,ops[k]? =some ok->k≠i->(listed.setIfInBounds j true).getD k true=false->
    (∀e∈ok.after,Region.binds .any e=true->e.on≠i)->oi.apart ops ok=true:=λk ok hk hki hu hno=>by
    exact zc23
   refine wpOp_mono (λa' w' h3=>⟨h3.2.1,ih (listed.setIfInBounds j true) a' w' (hcl.set hj) hfree' (ready_mono hr (Nz hji)) h3.1 ?_⟩) h2
   exact zc54
theorem Yea(hi:ops[i]? =some oi)(hsel:∀(j:Nat) (o:Oper) cs b,ops[j]? =some o->o.op≠.select cs b)
 (hQ:∀c (a:Act) (w:World),¬Q (.panic c) a w) (hil:last.contains i=false):
 ∀(fuel:Nat) (listed:Array Bool) (a:Act) (w:World),Closed ops listed->(∀j,last.contains j=true->listed.getD j false=true\/∃f,ancB ops f j i=true)->
  (∀j oj,ops[j]? =some oj->j≠i->listed.getD j true=false->(∀e∈oj.after,Region.binds .any e=true->e.on≠i)->oi.apart ops oj=true)->
  i∈Region.ready .any ops listed->YieldsIf P ops S oi v a->S w->
  XT P ops Q S last fuel (listed.setIfInBounds i true) (a.put oi.dst v) w->XT P ops Q S last (fuel+1) listed a w:=by
 intro fuel
 induction fuel with
 |zero=>
  intro listed a w _ _ _ hr hy hS H
  refine⟨λh=>(by simp_all),λj hj=>?_⟩
  by_cases hji:j=i
  ·exact zc92
  exact zc65
 |succ fuel ih=>
  intro listed a w hcl hlast hfree hr hy hS H
  refine⟨λh=>(by grind),λj hj=>?_⟩
  by_cases hji:j=i
  ·exact zc92
  ·have h1:=H.2 j (ready_mono hj hji)
   obtain⟨hjun,oj,hoj,hall⟩:=mem_ready.1 hj
   have hun:=(mem_ready.1 hr).1
   have hun':listed.getD i false=false:=zc35
   have hnl:last.contains j=false:=by
    cases hc:last.contains j with
    |false=>rfl
    |true=>
     exact zc30
   have hnot:∀e∈oj.after,Region.binds .any e=true->e.on≠i:=by grind
   have h2:=wpOp_putIf hoj (hfree j oj hoj hji hjun hnot) (λcs b=>hsel i oi cs b hi) (λcs b=>hsel j oj cs b hoj) (λc a w h=>(hQ c _ w h).elim) hy h1
   have hfree':∀k ok,ops[k]? =some ok->k≠i->(listed.setIfInBounds j true).getD k true=false->
    (∀e∈ok.after,Region.binds .any e=true->e.on≠i)->oi.apart ops ok=true:=λk ok hk hki hu hno=>by
    exact zc23
   refine wpOp_mono (λa' w' h3=>⟨λ_=>h3.2.1 hnl,ih (listed.setIfInBounds j true) a' w' (hcl.set hj) (λk hk=>?_) hfree' (ready_mono hr (Nz hji)) h3.1 (h3.2.1 hnl) ?_⟩) h2
   ·exact zc48
   ·exact zc54
def YjI(o:Oper):Bool:=match o.op with|.move _=>true|.extract _ _=>true|_=>false
theorem Ynm{o:Oper}{a:Act}{w:World}(hm:YjI o=true)(hy:YieldsIf P ops S o v a)(hS:S w):YieldsIf P ops (λ_=>True) o v a:=by
 rcases hy with⟨h1,h2⟩|h
 ·refine .inl ⟨h1,λw' _=>?_⟩
  have h3:=h2 w hS
  unfold YjI at hm
  cases hop:o.op<;>rw[hop]at hm<;>first|(cases hm;done)|skip
  ·grind [execOp,Go.Sem.run_pure]
  ·rename_i x k
   simp only[execOp,hop,Instr.extract]at h3⊢
   revert h3
   split
   ·rename_i vs _
    cases hk:vs[k]? with
    |none=>simp
    |some u=>simp
   simp_all
 ·exact .inr h
def Ygc(ops:Array Oper)(last tail:List Nat):List Nat->Array Bool->Bool
 |[],listed=>JZ ops tail listed
 |i::rest,listed=>
  (match ops[i]? with
   |some o=>
    if last.contains i then YjI o&&!eff o&&(Region.ready .any ops listed).contains i&&Region.free .any ops listed i
    else if eff o then decide (Region.ready .any ops listed=[i])
    else(Region.ready .any ops listed).contains i&&Region.free .any ops listed i&&last.all λj=>listed.getD j false||ancB ops ops.size j i
   |none=>false)&&Ygc ops last tail rest (listed.setIfInBounds i true)
theorem JR{S:World->Prop}{last tail:List Nat}(hs:Region.noSelect ops=true)(hQ:∀c (a:Act) (w:World),¬Q (.panic c) a w)(hlo:¬LetsOut Q)(l:List Oper)(hl:ops=l.toArray)(htl:∀j∈tail,last.contains j=true)(hex:∀j,last.contains j=true->∃o,ops[j]? =some o):
 ∀(o1:List Nat) (listed:Array Bool) (a:Act) (w:World),Closed ops listed->Ygc ops last tail o1 listed=true->S w->Ys P ops (ZS P ops Q (Yd l tail)) S (Yd l o1) a w->
  XT P ops Q S last (o1++tail).length listed a w
 |[],listed,a,w,_,hB,_,h=>JW l hl hex hlo tail listed a w htl hB h
 |i::rest,listed,a,w,hcl,hB,hS,h=>by
  simp only[Ygc,Tm]at hB
  obtain⟨h1,h2⟩:=hB
  cases ho:ops[i]? with
  |none=>simp_all
  |some o=>
   rw[ho]at h1
   have hget:nthO l i=o:=Xf hl ho
   simp only[Yd,hget]at h
   by_cases hla:last.contains i=true
   ·simp only[hla,Nb,Tm,RY]at h1
    obtain⟨⟨⟨h1,he⟩,h3⟩,h4⟩:=h1
    unfold Ys at h
    rw[Tf (by simp_all)]at h
    obtain⟨v,hy,h5⟩:=h
    have hr:i∈Region.ready .any ops listed:=by simp_all
    exact Yeb ho (Region.noSelect_spec hs) hQ hla _ listed a w hcl (Region.free_spec ho h4) hr (Ynm h1 hy hS) (JR hs hQ hlo l hl htl hex rest _ _ w (hcl.set hr) h2 hS h5)
   ·have hla':last.contains i=false:=Nj.2 hla
    simp only[hla',RU,NA]at h1
    by_cases he:eff o=true
    ·simp only[he,Nb,To]at h1
     unfold Ys at h
     rw[Tn he]at h
     refine⟨λh0=>(by rw[h1]at h0;cases h0),λk hk=>?_⟩
     have hk':=hk
     rw[h1]at hk
     obtain rfl:k=i:=by simpa using hk
     unfold wpOp
     simp only[ho]
     by_cases hw:Region.wanted o (yielded ops a.tmps)=true
     ·rw[Tn hw]at h⊢
      refine .inl (Oper.wp_mono_noQ' (λc a w h=>by cases h) (Oper.wp_mono (λa' w' h'=>⟨λ_=>h'.1,JR hs hQ hlo l hl htl hex rest _ a' w' (hcl.set hk') h2 h'.1 h'.2⟩) h))
     ·rw[Tf hw]at h⊢
      exact⟨λ_=>hS,JR hs hQ hlo l hl htl hex rest _ _ w (hcl.set hk') h2 hS h⟩
    ·simp only[he,RU,NA,Tm]at h1
     obtain⟨⟨h3,h4⟩,h6⟩:=h1
     unfold Ys at h
     rw[Tf he]at h
     obtain⟨v,hy,h5⟩:=h
     have hr:i∈Region.ready .any ops listed:=by simpa using h3
     refine Yea ho (Region.noSelect_spec hs) hQ hla' _ listed a w hcl (λj hj=>?_) (Region.free_spec ho h4) hr hy hS (JR hs hQ hlo l hl htl hex rest _ _ w (hcl.set hr) h2 hS h5)
     exact zc75
theorem Um{id:Nat}{l:List Oper}(o1 last tail:List Nat)(mask:List Bool){Hc F:List HP}(hm:P.follows .mixedOrders=true)
 (hB:(Region.noSelect l.toArray&&decide ((o1++tail).length=l.toArray.size)&&(tail.all λj=>last.contains j)&&(last.all λj=>decide (j<l.toArray.size))&&Ygc l.toArray last tail o1 (Array.replicate l.toArray.size false))=true)
 (hsp:Split mask H Hc F) {l1 l2:List Oper}(hl1:Yd l o1=l1) (hl2:Yd l tail=l2) (h:VL P (some (some F)) n B w0 l.toArray (ZS P l.toArray (Only Q) l2) l1 env Hc):VC P n B w0 (.region id l.toArray true) Q env H:=by
 simp only[Tm,To]at hB
 obtain⟨⟨⟨⟨h1,h2⟩,h3⟩,h4⟩,h5⟩:=hB
 refine⟨λa w ha hw=>Zp (Q:=Only Q) ?_ λe a w h=>by exact zc60⟩
 have hst:St B w0 (Hc++F) w.drew:=(hw.perm (Xx hsp)).drew
 have hr:Ys P l.toArray (ZS P l.toArray (Only Q) l2) (St B w0 Hc) l1 a w.drew:=h.run a ha w.drew hst
 rw[<-hl1,<-hl2]at hr
 have:=JR (S:=St B w0 Hc) h1 (λc a w h=>h) zc42 l rfl (λj hj=>TK.1 h3 j hj) (λj hj=>⟨_,Sj (by
  simp_all)⟩) o1 _ a w.drew (XG _ _) h5 hst.prefix_ hr
 exact YlY
end
section
variable {P:Program}{m:Mode}{n:Shp}{B d:Nat}{w0:World}{ops:Array Oper}{Q:Exit->Act->World->Prop}{rest:List Oper}{env:Env}{H:List HP}{ty:TypeId}{pos:String}{after:Array Edge}
theorem Yix{α:Type}(l cs:List α)(o k:Nat)(h:o+cs.length<=k)(hk:k<=l.length):(l.take o++cs++l.drop (o+cs.length)).take k=(l.take k).take o++cs++(l.take k).drop (o+cs.length):=by
 have hA:(l.take o++cs).length=o+cs.length:=by grind
 grind [SE,TL,List.drop_take]
variable {g o cap:Nat}
theorem YnN(h:cap≠o):subA (some ⟨g,0,none⟩) o cap 1=some ⟨g,o,none⟩:=by
 simp_all [subA,Go.Addr.add_lit]
theorem YkE(T:Tab P){t e bytes k kd cd mm c2:Nat}{x y:Operand}{A2:Option Addr}{xs ys:List Value}{K:List HP}(hx:evo env x=some (.slice (some ⟨g,o,none⟩) kd cd))(hy:evo env y=some (.slice A2 mm c2))(hr:Rd B w0 H A2 ys)
 (hu:Upd (sl e 1 (some ⟨g,0,none⟩) k cap xs) (sl e 1 (some ⟨g,0,none⟩) k cap (xs.take o++ys.take (min mm kd)++xs.drop (o+min mm kd))) H K) (ht:look T.sl t=some (e,1,bytes)) (hn:Nat.ble (d+1) n.k=true) (h1:∀v∈ys,v.oneCell'=true) (hb:o+kd<=k/\min mm kd<=ys.length/\0<min mm kd)
 (h:VL P none n B w0 ops Q rest ((d,.int .i64 (min mm kd:Nat))::env) K):
 VL P none n B w0 ops Q (⟨some d,.call ⟨.builtin .copy,#[x,y],#[t,t]⟩,ty,pos,after,none⟩::rest) env H:=by
 obtain⟨hut,inf,z,hi,hz,hzs,hsi,hbi,hs0,hb0⟩:=Yx (T.slic ht)
 refine Xj (λv K'=>v=.int .i64 (min mm kd:Nat)/\K'=K) rfl rfl hn (λa w ha hw=>?_) zc51
 have hmem:sl e 1 (some ⟨g,0,none⟩) k cap xs∈H:=YiV
 rcases ZK (hw.sl hmem)with⟨e0,_⟩|⟨g',cur,e0,g1,g2,g3,g4,g5,g6⟩
 ·cases e0
 injection e0 with e0
 injection e0 with e0
 subst e0
 rw[Na]at g4 g5 g6
 have hcl:(ys.take (min mm kd)).length=min mm kd:=by simp_all
 have hsome:∃a2,A2=some a2/\∀j v,(ys.take (min mm kd))[j]? =some v->w.cell? (a2.add j)=some v:=by
  have h0:ys[0]? =some (ys[0]'(by omega)):=Ta (by omega)
  obtain⟨g2',o2,rfl,_⟩:=hr w hw 0 _ h0
  refine⟨_,rfl,λj v hj=>?_⟩
  rw[SG]at hj
  by_cases hjm:j<min mm kd
  ·rw[Tn hjm]at hj
   obtain⟨g3',o3,e3,hc⟩:=hr w hw j v hj
   grind [Go.Addr.add_lit]
  simp_all
 obtain⟨a2,rfl,hsrc⟩:=hsome
 have hrun:=run_copy_row (P:=P) w t t ty e g o kd cd a2 mm c2 cur e (ys.take (min mm kd)) hut (by simp_all) g1 hcl hsrc (by omega) (λv hv=>h1 v (SA hv))
 refine⟨_,K,_,?_,hw.storeRow (k':=k) (o:=o) (vs:=ys.take (min mm kd)) hu rfl g1 (by omega) g2 g3 (by omega) ?_ ?_,rfl,rfl⟩
 ·simp only[execOp,resolve,invoke,builtin]
  have hmap:#[x,y].map a.eval=#[.slice (some ⟨g,o,none⟩) kd cd,.slice (some a2) mm c2]:=by simp[ha.eval hx,ha.eval hy]
  simp only[hmap,Sem.run_bind,Sem.run_pure,Result.andThen_ok]
  rw[hrun]
  simp[goInt,hcl]
 ·rw[hcl,Na,<-g5]
  have:=Yix cur.toList (ys.take (min mm kd)) o k (by rw[hcl];omega) (by rw[SY];omega)
  rw[hcl]at this
  exact this
 grind
end
section
variable {P:Program}{n:Shp}{B:Nat}{w0:World}{ops:Array Oper}{Q:Exit->Act->World->Prop}{rest:List Oper}{env:Env}{H:List HP}
def OC(P:Program)(ops:Array Oper)(Q:Exit->Act->World->Prop)(S:World->Prop)(l:List Oper):Exit->Act->World->Prop
 |.normal,a,w=>S w/\Ys P ops Q S l a w
 |e,a,w=>Q e a w
theorem Yow{F H':List HP}{Hc:List HP}(hp:Pull Hc H' F)(h:VL P (some (some F)) n B w0 ops Q rest env Hc):VQ n B w0 (OC P ops Q (St B w0 Hc) rest) .normal env H':=
 ⟨λa w ha hw=>⟨(hw.perm hp).prefix_,h.run a ha w (hw.perm hp)⟩⟩
variable {S S2:World->Prop}{l:List Oper}
theorem Oper.wp_tailH{o:Oper}{a:Act}{w:World}{K:Act->World->Prop}(h:o.wp P a w K (OC P ops Q S l)):o.wp P a w K Q:=by
 unfold Oper.wp at h⊢
 generalize(execOp a.eval o).run P w=r at*
 cases r with
 |ok nx w'=>
  exact zc37
 |halt x w'=>
  exact h
def Wp(P:Program)(ops:Array Oper)(Q:Exit->Act->World->Prop)(S S2:World->Prop)(last:List Nat):Nat->Array Bool->Act->World->Prop
 |0,listed,a,w=>Region.ready .any ops listed=[]/\Q .normal a w
 |fuel+1,listed,a,w=>
  (Region.ready .any ops listed=[]->Q .normal a w)/\
  ∀i∈Region.ready .any ops listed,wpOp P ops Q i (λa' w'=>((last.contains i=false->S w')/\S2 w')/\Wp P ops Q S S2 last fuel (listed.setIfInBounds i true) a' w') a w
theorem YdI{S S2:World->Prop}{last:List Nat}:∀(fuel:Nat) (listed:Array Bool) (a:Act) (w:World),Wp P ops Q S S2 last fuel listed a w->wpAny P .any ops Q fuel listed a w
 |0,_,_,_,h=>h
 |fuel+1,_,_,_,h=>⟨h.1,λi hi=>wpOp_mono (λa' w' h'=>YdI fuel _ a' w' h'.2) (h.2 i hi)⟩
variable {last:List Nat}{i:Nat}{oi:Oper}{v:Value}
theorem YiO(hi:ops[i]? =some oi)(hsel:∀(j:Nat) (o:Oper) cs b,ops[j]? =some o->o.op≠.select cs b)
 (hQ:∀c (a:Act) (w:World),¬Q (.panic c) a w) (hil:last.contains i=true):
 ∀(fuel:Nat) (listed:Array Bool) (a:Act) (w:World),Closed ops listed->
  (∀j oj,ops[j]? =some oj->j≠i->listed.getD j true=false->(∀e∈oj.after,Region.binds .any e=true->e.on≠i)->oi.apart ops oj=true)->
  i∈Region.ready .any ops listed->YieldsIf P ops S2 oi v a->S2 w->
  Wp P ops Q S S2 last fuel (listed.setIfInBounds i true) (a.put oi.dst v) w->Wp P ops Q S S2 last (fuel+1) listed a w:=by
 intro fuel
 have hno:¬last.contains i=false:=by simp_all
 induction fuel with
 |zero=>
  intro listed a w _ _ hr hy hS H
  refine⟨λh=>(by simp_all),λj hj=>?_⟩
  by_cases hji:j=i
  ·exact YtJ
  exact zc65
 |succ fuel ih=>
  intro listed a w hcl hfree hr hy hS H
  refine⟨λh=>(by grind),λj hj=>?_⟩
  by_cases hji:j=i
  ·exact YtJ
  ·have h1:=H.2 j (ready_mono hj hji)
   obtain⟨hjun,oj,hoj,hall⟩:=mem_ready.1 hj
   have hun:=(mem_ready.1 hr).1
   have hnot:∀e∈oj.after,Region.binds .any e=true->e.on≠i:=by grind
   have h2:=wpOp_putIf hoj (hfree j oj hoj hji hjun hnot) (λcs b=>hsel i oi cs b hi) (λcs b=>hsel j oj cs b hoj) (λc a w h=>(hQ c _ w h).elim) hy h1
   have hfree':∀k ok,ops[k]? =some ok->k≠i->(listed.setIfInBounds j true).getD k true=false->
    (∀e∈ok.after,Region.binds .any e=true->e.on≠i)->oi.apart ops ok=true:=λk ok hk hki hu hno=>by
    exact zc23
   refine wpOp_mono (λa' w' h3=>⟨h3.2.1,ih (listed.setIfInBounds j true) a' w' (hcl.set hj) hfree' (ready_mono hr (Nz hji)) h3.1 h3.2.1.2 ?_⟩) h2
   exact zc54
theorem Ygy(hSS:∀w,S w->S2 w)(hi:ops[i]? =some oi)(hsel:∀(j:Nat) (o:Oper) cs b,ops[j]? =some o->o.op≠.select cs b)
 (hQ:∀c (a:Act) (w:World),¬Q (.panic c) a w) (hil:last.contains i=false):
 ∀(fuel:Nat) (listed:Array Bool) (a:Act) (w:World),Closed ops listed->(∀j,last.contains j=true->listed.getD j false=true\/∃f,ancB ops f j i=true)->
  (∀j oj,ops[j]? =some oj->j≠i->listed.getD j true=false->(∀e∈oj.after,Region.binds .any e=true->e.on≠i)->oi.apart ops oj=true)->
  i∈Region.ready .any ops listed->YieldsIf P ops S oi v a->S w->
  Wp P ops Q S S2 last fuel (listed.setIfInBounds i true) (a.put oi.dst v) w->Wp P ops Q S S2 last (fuel+1) listed a w:=by
 intro fuel
 induction fuel with
 |zero=>
  intro listed a w _ _ _ hr hy hS H
  refine⟨λh=>(by simp_all),λj hj=>?_⟩
  by_cases hji:j=i
  ·exact YtO
  exact zc65
 |succ fuel ih=>
  intro listed a w hcl hlast hfree hr hy hS H
  refine⟨λh=>(by grind),λj hj=>?_⟩
  by_cases hji:j=i
  ·exact YtO
  ·have h1:=H.2 j (ready_mono hj hji)
   obtain⟨hjun,oj,hoj,hall⟩:=mem_ready.1 hj
   have hun:=(mem_ready.1 hr).1
   have hun':listed.getD i false=false:=zc35
   have hnl:last.contains j=false:=by
    cases hc:last.contains j with
    |false=>rfl
    |true=>
     exact zc30
   have hnot:∀e∈oj.after,Region.binds .any e=true->e.on≠i:=by grind
   have h2:=wpOp_putIf hoj (hfree j oj hoj hji hjun hnot) (λcs b=>hsel i oi cs b hi) (λcs b=>hsel j oj cs b hoj) (λc a w h=>(hQ c _ w h).elim) hy h1
   have hfree':∀k ok,ops[k]? =some ok->k≠i->(listed.setIfInBounds j true).getD k true=false->
    (∀e∈ok.after,Region.binds .any e=true->e.on≠i)->oi.apart ops ok=true:=λk ok hk hki hu hno=>by
    exact zc23
   refine wpOp_mono (λa' w' h3=>⟨h3.2.1,ih (listed.setIfInBounds j true) a' w' (hcl.set hj) (λk hk=>?_) hfree' (ready_mono hr (Nz hji)) h3.1 (h3.2.1.1 hnl) ?_⟩) h2
   ·exact zc48
   ·exact zc54
theorem Uf{S S2:World->Prop}{last:List Nat}(l:List Oper)(hl:ops=l.toArray)(hef:∀j,last.contains j=true->∃o,ops[j]? =some o):
 ∀(o2:List Nat) (listed:Array Bool) (a:Act) (w:World),(∀j∈o2,last.contains j=true)->JZ ops o2 listed=true->S2 w->Ys P ops Q S2 (Yd l o2) a w->Wp P ops Q S S2 last o2.length listed a w
 |[],listed,a,w,_,hB,_,h=>⟨by grind [JZ],h⟩
 |i::rest,listed,a,w,hin,hB,hS,h=>by
  simp only[JZ,Tm,To]at hB
  obtain⟨h1,h2⟩:=hB
  obtain⟨o,ho⟩:=hef i (hin i (by simp))
  have hget:nthO l i=o:=Xf hl ho
  simp only[Yd,hget]at h
  unfold Ys at h
  refine⟨λh0=>(by simp_all),λk hk=>?_⟩
  obtain rfl:k=i:=by simp_all
  have hf:¬last.contains k=false:=by simp_all
  have hin':∀j∈rest,last.contains j=true:=by simp_all
  by_cases he:eff o=true
  ·rw[Tn he]at h
   unfold wpOp
   simp only[ho]
   by_cases hw:Region.wanted o (yielded ops a.tmps)=true
   ·rw[Tn hw]at h⊢
    exact .inl (Oper.wp_mono (λa' w' h'=>⟨⟨λh=>absurd h hf,h'.1⟩,Uf l hl hef rest _ a' w' hin' h2 h'.1 h'.2⟩) h)
   ·rw[Tf hw]at h⊢
    exact⟨⟨λh=>absurd h hf,hS⟩,Uf l hl hef rest _ _ w hin' h2 hS h⟩
  ·rw[Tf he]at h
   obtain⟨v,hy,h3⟩:=h
   exact hy.wpOp ho hS ⟨⟨λh=>absurd h hf,hS⟩,Uf l hl hef rest _ _ w hin' h2 hS h3⟩
def YbG(ops:Array Oper)(last tail:List Nat):List Nat->Array Bool->Bool
 |[],listed=>JZ ops tail listed
 |i::rest,listed=>
  (match ops[i]? with
   |some o=>
    !last.contains i&&(if eff o then decide (Region.ready .any ops listed=[i])
    else(Region.ready .any ops listed).contains i&&Region.free .any ops listed i&&last.all λj=>listed.getD j false||ancB ops ops.size j i)
   |none=>false)&&YbG ops last tail rest (listed.setIfInBounds i true)
def Yge(ops:Array Oper)(last tail o1:List Nat):List Nat->Array Bool->Bool
 |[],listed=>YbG ops last tail o1 listed
 |i::rest,listed=>
  (match ops[i]? with
   |some o=>last.contains i&&!eff o&&(Region.ready .any ops listed).contains i&&Region.free .any ops listed i
   |none=>false)&&Yge ops last tail o1 rest (listed.setIfInBounds i true)
theorem Vd{S S2:World->Prop}(hSS:∀w,S w->S2 w){last tail:List Nat}(hs:Region.noSelect ops=true)(hQ:∀c (a:Act) (w:World),¬Q (.panic c) a w)(l:List Oper)(hl:ops=l.toArray)(htl:∀j∈tail,last.contains j=true)(hex:∀j,last.contains j=true->∃o,ops[j]? =some o):
 ∀(o1:List Nat) (listed:Array Bool) (a:Act) (w:World),Closed ops listed->YbG ops last tail o1 listed=true->S w->Ys P ops (OC P ops Q S2 (Yd l tail)) S (Yd l o1) a w->
  Wp P ops Q S S2 last (o1++tail).length listed a w
 |[],listed,a,w,_,hB,hS,h=>by
  have h':S2 w/\Ys P ops Q S2 (Yd l tail) a w:=h
  exact Uf l hl hex tail listed a w htl hB h'.1 h'.2
 |i::rest,listed,a,w,hcl,hB,hS,h=>by
  simp only[YbG,Tm]at hB
  obtain⟨h1,h2⟩:=hB
  cases ho:ops[i]? with
  |none=>simp_all
  |some o=>
   rw[ho]at h1
   have hget:nthO l i=o:=Xf hl ho
   simp only[Yd,hget]at h
   simp only[Tm,RY]at h1
   obtain⟨hla',h1⟩:=h1
   by_cases he:eff o=true
   ·simp only[he,Nb,To]at h1
    unfold Ys at h
    rw[Tn he]at h
    refine⟨λh0=>(by simp_all),λk hk=>?_⟩
    have hk':=hk
    rw[h1]at hk
    obtain rfl:k=i:=by simp_all
    unfold wpOp
    simp only[ho]
    by_cases hw:Region.wanted o (yielded ops a.tmps)=true
    ·rw[Tn hw]at h⊢
     refine .inl (Oper.wp_tailH (Oper.wp_mono (λa' w' h'=>⟨⟨λ_=>h'.1,hSS _ h'.1⟩,Vd hSS hs hQ l hl htl hex rest _ a' w' (hcl.set hk') h2 h'.1 h'.2⟩) h))
    ·rw[Tf hw]at h⊢
     exact⟨⟨λ_=>hS,hSS _ hS⟩,Vd hSS hs hQ l hl htl hex rest _ _ w (hcl.set hk') h2 hS h⟩
   ·simp only[he,RU,NA,Tm]at h1
    obtain⟨⟨h3,h4⟩,h6⟩:=h1
    unfold Ys at h
    rw[Tf he]at h
    obtain⟨v,hy,h5⟩:=h
    have hr:i∈Region.ready .any ops listed:=by simpa using h3
    refine Ygy hSS ho (Region.noSelect_spec hs) hQ hla' _ listed a w hcl (λj hj=>?_) (Region.free_spec ho h4) hr hy hS (Vd hSS hs hQ l hl htl hex rest _ _ w (hcl.set hr) h2 hS h5)
    exact zc75
theorem Ya1{S S2:World->Prop}(hSS:∀w,S w->S2 w){last tail o1:List Nat}(hs:Region.noSelect ops=true)(hQ:∀c (a:Act) (w:World),¬Q (.panic c) a w)(l:List Oper)(hl:ops=l.toArray)(htl:∀j∈tail,last.contains j=true)(hex:∀j,last.contains j=true->∃o,ops[j]? =some o):
 ∀(oA:List Nat) (listed:Array Bool) (a:Act) (w:World),Closed ops listed->Yge ops last tail o1 oA listed=true->S2 w->Ys P ops (OC P ops (OC P ops Q S2 (Yd l tail)) S (Yd l o1)) S2 (Yd l oA) a w->
  Wp P ops Q S S2 last (oA++(o1++tail)).length listed a w
 |[],listed,a,w,hcl,hB,_,h=>by
  have h':S w/\Ys P ops (OC P ops Q S2 (Yd l tail)) S (Yd l o1) a w:=h
  exact Vd hSS hs hQ l hl htl hex o1 listed a w hcl hB h'.1 h'.2
 |i::rest,listed,a,w,hcl,hB,hS,h=>by
  simp only[Yge,Tm]at hB
  obtain⟨h1,h2⟩:=hB
  cases ho:ops[i]? with
  |none=>simp_all
  |some o=>
   rw[ho]at h1
   have hget:nthO l i=o:=Xf hl ho
   simp only[Yd,hget]at h
   simp only[Tm,RY]at h1
   obtain⟨⟨⟨hla,he⟩,h3⟩,h4⟩:=h1
   unfold Ys at h
   rw[Tf (by simp_all)]at h
   obtain⟨v,hy,h5⟩:=h
   have hr:i∈Region.ready .any ops listed:=by simp_all
   exact YiO ho (Region.noSelect_spec hs) hQ hla _ listed a w hcl (Region.free_spec ho h4) hr hy hS (Ya1 hSS hs hQ l hl htl hex rest _ _ w (hcl.set hr) h2 hS h5)
theorem Yn7{id:Nat}(oA o1 tail:List Nat)(maskA maskB:List Bool){HA FA HB FB:List HP}(hm:P.follows .mixedOrders=true)
 (hB:(Region.noSelect l.toArray&&decide ((oA++(o1++tail)).length=l.toArray.size)&&((oA++tail).all λj=>decide (j<l.toArray.size))&&Yge l.toArray (oA++tail) tail o1 oA (Array.replicate l.toArray.size false))=true)
 (hspA:Split maskA H HA FA) (_hspB:Split maskB H HB FB) (hsub:∀w,St B w0 HB w->St B w0 HA w) {lA l1 l2:List Oper}(hlA:Yd l oA=lA) (hl1:Yd l o1=l1) (hl2:Yd l tail=l2)
 (h:VL P (some (some FA)) n B w0 l.toArray (OC P l.toArray (OC P l.toArray (Only Q) (St B w0 HA) l2) (St B w0 HB) l1) lA env HA):VC P n B w0 (.region id l.toArray true) Q env H:=by
 simp only[Tm,To]at hB
 obtain⟨⟨⟨h1,h2⟩,h4⟩,h5⟩:=hB
 refine⟨λa w ha hw=>Zp (Q:=Only Q) ?_ λe a w h=>by exact zc60⟩
 have hst:St B w0 (HA++FA) w.drew:=(hw.perm (Xx hspA)).drew
 have hr:=h.run a ha w.drew hst
 have hr':Ys P l.toArray (OC P l.toArray (OC P l.toArray (Only Q) (St B w0 HA) l2) (St B w0 HB) l1) (St B w0 HA) lA a w.drew:=hr
 rw[<-hlA,<-hl1,<-hl2]at hr'
 have:=Ya1 (S:=St B w0 HB) (S2:=St B w0 HA) hsub (last:=oA++tail) h1 (λc a w h=>h) l rfl (λj hj=>by simp[hj]) (λj hj=>⟨_,Sj (by
  grind)⟩) oA _ a w.drew (XG _ _) h5 hst.prefix_ hr'
 grind [YbN,YdI]
end
end Go.Eng
namespace Go.Proofs.YtjlgijpmnfabcaaGreatDoor
open Go.RowKit Go.Eng Go.Nw
structure RowM where
 A:Option Addr
 cap:Nat
 xs:List Int
structure NetM where
 nodes:Int
 pA:Option Addr
 pcap:Nat
 rows:List RowM
 noise:Int
 thr:Int
 lA:Option Addr
 lcap:Nat
 links:List Lk
 mA:Option Addr
 mcap:Nat
 margin:List Int
def NetM.net(n:NetM):Net:=⟨n.nodes,n.rows.map (·.xs),n.noise,n.thr,n.links,n.margin⟩
def NetM.val(n:NetM):Value:=.agg #[.int .i64 n.nodes,.slice n.pA n.rows.length n.pcap,.int .i64 n.noise,.int .i64 n.thr,.slice n.lA n.links.length n.lcap,.slice n.mA n.margin.length n.mcap]
def rowF(r:RowM):List Value:=[.slice r.A r.xs.length r.cap]
def numF(z:Int):List Value:=[.int .i64 z]
def lkF(l:Lk):List Value:=[.int .i64 l.1,.int .i64 l.2.1,.int .i64 l.2.2]
def lkV(l:Lk):Value:=.agg #[.int .i64 l.1,.int .i64 l.2.1,.int .i64 l.2.2]
structure NetM.In(B:Nat)(w0:World)(H:List HP)(n:NetM):Prop where
 pw:Rd B w0 H n.pA (n.rows.flatMap rowF)
 rw_:∀r∈n.rows,Rd B w0 H r.A (r.xs.flatMap numF)
 lk:Rd B w0 H n.lA (n.links.flatMap lkF)
 mg:Rd B w0 H n.mA (n.margin.flatMap numF)
 s1:n.rows.length<=9223372036854775807
 s2:∀r∈n.rows,r.xs.length<=9223372036854775807
 s3:n.links.length<=9223372036854775807
 s4:n.margin.length<=9223372036854775807
variable {B cap:Nat}{w0 w:World}{H:List HP}
theorem NetM.In.cons{n:NetM}{X:HP}(h:n.In B w0 H):n.In B w0 (X::H):=
 ⟨h.pw.cons,λr hr=>(h.rw_ r hr).cons,h.lk.cons,h.mg.cons,h.s1,h.s2,h.s3,h.s4⟩
variable {α:Type}{A:Option Addr}
theorem YdX(val:α->Value)(p:α->Bool)(l:List α)(f:Nat)(cs:List Value)(hen:∀xs w,(callFunc f xs).run Tryz.prog w=.ok (.enter f xs) w)(hlen:l.length<=9223372036854775807)(hr:Rd B w0 H A (l.flatMap λa=>[val a]))
 (hp:∀a∈l,∀w,St B w0 H w->Calls Tryz.prog f ([val a]++cs).toArray w (Post B w0 λv K=>v=.bool (p a)/\K=H)) (hw:St B w0 H w):
 CX B w0 332 [.slice A l.length cap,.func (.func f) #[] cs.toArray] w λv K=>v=.int .i64 (Yl p l 0)/\K=H:=by
 refine Ya Tryz.func332 Tryz.ntmps332 rfl rfl hw ?_
 refine zX8 ?_
 refine Yg (λ(k:Nat)=>[(8,.int .i64 k),(7,.int .i64 l.length),(0,.slice A l.length cap),(1,.func (.func f) #[] cs.toArray)]) (λ_=>H) (λk=>k<=l.length/\Yl p l 0=Yl p (l.drop k) k) (λk=>l.length-k) 0 ⟨Ti _,by simp⟩ ?_ (λw hw=>hw) ?_
 ·exact zc1
 rintro k ⟨hk,hi⟩ K hK
 by_cases hlt:k<l.length
 ·obtain⟨a,ha⟩:∃a,l[k]? =some a:=⟨_,Ta hlt⟩
  have hpa:=hp a (Tc ha)
  rw[Ji p l ha]at hi
  refine zX10 ?_<;>intros
  cases hpv:p a
  ·rw[hpv]at hi
   refine zX11 ?_
   apply hK (k+1)
   ·grind
   ·omega
   ·exact zc1
   exact zc20
  exact zc9
 exact zc7
theorem Uv(val:α->Value)(p:α->Bool)(l:List α)(f:Nat)(cs:List Value)(hen:∀xs w,(callFunc f xs).run Tryz.prog w=.ok (.enter f xs) w)(hlen:l.length<=9223372036854775807)(hr:Rd B w0 H A (l.flatMap λa=>[val a]))
 (hp:∀a∈l,∀w,St B w0 H w->Calls Tryz.prog f ([val a]++cs).toArray w (Post B w0 λv K=>v=.bool (p a)/\K=H)) (hw:St B w0 H w):
 CX B w0 246 [.slice A l.length cap,.func (.func f) #[] cs.toArray] w λv K=>v=.bool (l.any p)/\K=H:=by
 refine Ya Tryz.func246 Tryz.ntmps246 rfl rfl hw ?_
 have hia:=Ve p l 0 (by omega)
 repeat'(first|((first|apply Yb YsC|apply Yc YsC);exact za;exact rfl;exactλ_ hw=>(YdX val p l f cs hen hlen hr hp hw))|refine zga ?_|(refine zgf ?_ ?_<;>intro _<;>try exact zo)|fail)
 all_goals(apply Ye;exact rfl;exact rfl)
 ·rename_i h;exact⟨by rw[hia.1 h],rfl⟩
 ·rename_i h
  have:¬l.any p=true:=λe=>by have:=hia.2 e;omega
  exact⟨by rw[Nj.2 this],rfl⟩
theorem YdY(val:α->Value)(p:α->Bool)(l:List α)(f:Nat)(cs:List Value)(hen:∀xs w,(callFunc f xs).run Tryz.prog w=.ok (.enter f xs) w)(hlen:l.length<=9223372036854775807)(hr:Rd B w0 H A (l.flatMap λa=>[val a]))
 (hp:∀a∈l,∀w,St B w0 H w->Calls Tryz.prog f ([val a]++cs).toArray w (Post B w0 λv K=>v=.bool (p a)/\K=H)) (hw:St B w0 H w):
 CX B w0 331 [.slice A l.length cap,.func (.func f) #[] cs.toArray] w λv K=>v=.int .i64 (Yl p l 0)/\K=H:=by
 refine Ya Tryz.func331 Tryz.ntmps331 rfl rfl hw ?_
 refine zX8 ?_
 refine Yg (λ(k:Nat)=>[(8,.int .i64 k),(7,.int .i64 l.length),(0,.slice A l.length cap),(1,.func (.func f) #[] cs.toArray)]) (λ_=>H) (λk=>k<=l.length/\Yl p l 0=Yl p (l.drop k) k) (λk=>l.length-k) 0 ⟨Ti _,by simp⟩ ?_ (λw hw=>hw) ?_
 ·exact zc1
 rintro k ⟨hk,hi⟩ K hK
 by_cases hlt:k<l.length
 ·obtain⟨a,ha⟩:∃a,l[k]? =some a:=⟨_,Ta hlt⟩
  have hpa:=hp a (Tc ha)
  rw[Ji p l ha]at hi
  refine zX10 ?_<;>intros
  cases hpv:p a
  ·rw[hpv]at hi
   refine zX11 ?_
   apply hK (k+1)
   ·grind
   ·omega
   ·exact zc1
   exact zc20
  exact zc9
 exact zc7
theorem Uw(val:α->Value)(p:α->Bool)(l:List α)(f:Nat)(cs:List Value)(hen:∀xs w,(callFunc f xs).run Tryz.prog w=.ok (.enter f xs) w)(hlen:l.length<=9223372036854775807)(hr:Rd B w0 H A (l.flatMap λa=>[val a]))
 (hp:∀a∈l,∀w,St B w0 H w->Calls Tryz.prog f ([val a]++cs).toArray w (Post B w0 λv K=>v=.bool (p a)/\K=H)) (hw:St B w0 H w):
 CX B w0 242 [.slice A l.length cap,.func (.func f) #[] cs.toArray] w λv K=>v=.bool (l.any p)/\K=H:=by
 refine Ya Tryz.func242 Tryz.ntmps242 rfl rfl hw ?_
 have hia:=Ve p l 0 (by omega)
 repeat'(first|((first|apply Yb YsB|apply Yc YsB);exact za;exact rfl;exactλ_ hw=>(YdY val p l f cs hen hlen hr hp hw))|refine zga ?_|(refine zgf ?_ ?_<;>intro _<;>try exact zo)|fail)
 all_goals(apply Ye;exact rfl;exact rfl)
 ·rename_i h;exact⟨by rw[hia.1 h],rfl⟩
 ·rename_i h
  have:¬l.any p=true:=λe=>by have:=hia.2 e;omega
  exact⟨by rw[Nj.2 this],rfl⟩
theorem YcQ(val:α->Value)(p:α->Bool)(l:List α)(f:Nat)(cs:List Value)(hen:∀xs w,(callFunc f xs).run Tryz.prog w=.ok (.enter f xs) w)(hlen:l.length<=9223372036854775807)(hr:Rd B w0 H A (l.flatMap λa=>[val a]))
 (hp:∀a∈l,∀w,St B w0 H w->Calls Tryz.prog f ([val a]++cs).toArray w (Post B w0 λv K=>v=.bool (p a)/\K=H)) (hw:St B w0 H w):
 CX B w0 360 [.slice A l.length cap,.func (.func f) #[] cs.toArray] w λv K=>v=.int .i64 (Yl p l 0)/\K=H:=by
 refine Ya Tryz.func360 Tryz.ntmps360 rfl rfl hw ?_
 refine zX8 ?_
 refine Yg (λ(k:Nat)=>[(8,.int .i64 k),(7,.int .i64 l.length),(0,.slice A l.length cap),(1,.func (.func f) #[] cs.toArray)]) (λ_=>H) (λk=>k<=l.length/\Yl p l 0=Yl p (l.drop k) k) (λk=>l.length-k) 0 ⟨Ti _,by simp⟩ ?_ (λw hw=>hw) ?_
 ·exact zc1
 rintro k ⟨hk,hi⟩ K hK
 by_cases hlt:k<l.length
 ·obtain⟨a,ha⟩:∃a,l[k]? =some a:=⟨_,Ta hlt⟩
  have hpa:=hp a (Tc ha)
  rw[Ji p l ha]at hi
  refine zX10 ?_<;>intros
  cases hpv:p a
  ·rw[hpv]at hi
   refine zX11 ?_
   apply hK (k+1)
   ·grind
   ·omega
   ·exact zc1
   exact zc20
  exact zc9
 exact zc7
theorem Qw(val:α->Value)(p:α->Bool)(l:List α)(f:Nat)(cs:List Value)(hen:∀xs w,(callFunc f xs).run Tryz.prog w=.ok (.enter f xs) w)(hlen:l.length<=9223372036854775807)(hr:Rd B w0 H A (l.flatMap λa=>[val a]))
 (hp:∀a∈l,∀w,St B w0 H w->Calls Tryz.prog f ([val a]++cs).toArray w (Post B w0 λv K=>v=.bool (p a)/\K=H)) (hw:St B w0 H w):
 CX B w0 277 [.slice A l.length cap,.func (.func f) #[] cs.toArray] w λv K=>v=.bool (l.any p)/\K=H:=by
 refine Ya Tryz.func277 Tryz.ntmps277 rfl rfl hw ?_
 have hia:=Ve p l 0 (by omega)
 repeat'(first|((first|apply Yb YsH|apply Yc YsH);exact za;exact rfl;exactλ_ hw=>(YcQ val p l f cs hen hlen hr hp hw))|refine zga ?_|(refine zgf ?_ ?_<;>intro _<;>try exact zo)|fail)
 all_goals(apply Ye;exact rfl;exact rfl)
 ·rename_i h;exact⟨by rw[hia.1 h],rfl⟩
 ·rename_i h
  have:¬l.any p=true:=λe=>by have:=hia.2 e;omega
  exact⟨by rw[Nj.2 this],rfl⟩
theorem Ym8(x:Int)(hw:St B w0 H w):CX B w0 151 [.int .i64 x] w λv K=>v=.bool false/\K=H:=by
 refine Ya Tryz.func151 Tryz.ntmps151 rfl rfl hw ?_
 repeat'(first|((refine zs16 ?_ ?_<;>intro _<;>try(omega)))|refine zga ?_|fail)
 exact zc27
theorem WK(x y:Int)(hw:St B w0 H w):CX B w0 73 [.int .i64 x,.int .i64 y] w λv K=>v=.int .i64 (cmpI x y)/\K=H:=by
 refine Ya Tryz.func73 Tryz.ntmps73 rfl rfl hw ?_
 unfold cmpI
 repeat'(first|((first|apply Yb Ysj|apply Yc Ysj);exact za;exact rfl;exactλ_ hw=>(Ym8 _ hw))|refine zgb ?_|(refine zge ?_ ?_<;>intro _<;>try exact zo)|fail)
 all_goals(((repeat apply Ym);apply Ye;exact rfl;exact rfl;refine⟨TG _ ?_,rfl⟩);(repeat(first|refine Zm (by omega) ?_|refine Zn (by omega) ?_));rfl)
end Go.Proofs.YtjlgijpmnfabcaaGreatDoor
