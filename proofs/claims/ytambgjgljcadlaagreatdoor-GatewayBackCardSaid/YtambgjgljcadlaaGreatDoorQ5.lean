/- Lemmas. -/
import Derived.Test.YtambgjgljcadlaaGreatDoorProg
import Derived.KernelRfl
import Derived.Laws.CopyRow
import Derived.Test.YtambgjgljcadlaaGreatDoorQ2
import Derived.Test.YtambgjgljcadlaaGreatDoorQ3
set_option maxRecDepth 100000
set_option maxHeartbeats 8000000
set_option linter.all false
namespace Go.Proofs.YtambgjgljcadlaaGreatDoor
open Go.Eng
abbrev CX(B:Nat)(w0:World)(f:Nat)(l:List Value)(w:World)(F:Value->List Eng.HP->Prop):Prop:=Calls Tryz.prog f l.toArray w (Eng.Post B w0 F)
theorem YvJ:([(3,()),(4,()),(5,()),(22,()),(23,()),(24,()),(27,()),(28,()),(32,()),(33,()),(40,()),(48,()),(54,()),(64,()),(72,()),(73,()),(172,()),(173,()),(211,()),(234,()),(360,()),(413,()),(417,()),(437,())].all λx:Nat×Unit=>oneT Tryz.prog x.1)=true:=by kernel_rfl
theorem YvE:([(26,6),(30,3),(35,12),(53,6),(56,7),(75,14),(77,7),(90,2),(117,5),(124,3),(191,5),(254,5),(314,17),(349,9),(356,3),(411,2),(444,4)].all λx:Nat×Nat=>aggT Tryz.prog x.1==some x.2)=true:=by kernel_rfl
theorem YvH:([(26,0,0),(26,1,1),(26,2,2),(26,3,3),(26,4,4),(26,5,5),(30,0,0),(30,1,1),(30,2,2),(35,0,0),(35,1,6),(35,2,7),(35,3,10),(35,4,11),(53,0,0),(53,1,1),(53,2,2),(53,3,3),(53,4,4),(53,5,5),(56,0,0),(56,1,6),(75,0,0),(75,1,12),(75,2,13),(77,0,0),(77,1,1),(77,2,2),(77,3,3),(77,4,4),(77,5,5),(77,6,6),(90,0,0),(90,1,1),(117,0,0),(117,1,1),(117,2,2),(117,3,3),(117,4,4),(124,0,0),(124,1,1),(124,2,2),(164,0,0),(164,1,12),(175,0,0),(175,1,1),(191,0,0),(191,1,1),(191,2,2),(191,3,3),(191,4,4),(314,0,0),(314,1,6),(314,2,9),(314,3,15),(314,4,16),(349,0,0),(349,1,6),(356,0,0),(356,1,1),(356,2,2),(411,0,0),(411,1,1),(439,0,0),(439,1,1),(444,0,0),(444,1,1),(444,2,2),(444,3,3)].all λx:Nat×Nat×Nat=>Oq Tryz.prog x.1 x.2.1==some x.2.2)=true:=by kernel_rfl
theorem YvK:([(22,(24,1,24)),(23,(124,3,24)),(24,(3,1,8)),(27,(56,7,72)),(28,(117,5,40)),(32,(191,5,104)),(33,(3,1,8)),(48,(53,6,48)),(54,(64,1,24)),(64,(3,1,8)),(72,(77,7,56)),(73,(90,2,16)),(173,(5,1,1)),(296,(72,1,24)),(306,(73,1,24)),(353,(356,3,24)),(413,(411,2,16)),(437,(444,4,32))].all λx:Nat×(Nat×Nat×Nat)=>Yea Tryz.prog x.1==some x.2)=true:=by kernel_rfl
theorem YvF:([(254,(5,3,1))].all λx:Nat×(Nat×Nat×Nat)=>YcF Tryz.prog x.1==some x.2)=true:=by kernel_rfl
theorem YvI:([(2,.i64),(3,.i64),(5,.u8),(153,.u64),(232,.u32),(234,.u64)].all λx:Nat×IntKind=>decide (intT Tryz.prog x.1=some x.2))=true:=by kernel_rfl
theorem YvL:([(9,())].all λx:Nat×Unit=>Yhb Tryz.prog x.1)=true:=by kernel_rfl
def T:Tab Tryz.prog:=⟨_,_,_,_,_,_,_,YvJ,YvE,YvH,YvK,YvF,YvI,YvL⟩
abbrev tabL_zt:List (Nat×Value):=[(3,.int .i64 0),(4,.bool false),(5,.int .u8 0),(24,.slice none 0 0),(26,.agg #[.int .i64 0,.slice none 0 0,.int .i64 0,.int .i64 0,.slice none 0 0,.slice none 0 0]),(28,.slice none 0 0),(30,.agg #[.int .i64 0,.int .i64 0,.slice none 0 0]),(35,.agg #[.int .i64 0,.slice none 0 0,.int .i64 0,.int .i64 0,.slice none 0 0,.slice none 0 0,.slice none 0 0,.int .i64 0,.int .i64 0,.slice none 0 0,.slice none 0 0,.slice none 0 0]),(53,.agg #[.int .i64 0,.int .i64 0,.int .i64 0,.int .i64 0,.int .i64 0,.int .i64 0]),(56,.agg #[.int .i64 0,.int .i64 0,.int .i64 0,.int .i64 0,.int .i64 0,.int .i64 0,.slice none 0 0]),(64,.slice none 0 0),(72,.slice none 0 0),(73,.slice none 0 0),(75,.agg #[.int .i64 0,.slice none 0 0,.int .i64 0,.int .i64 0,.slice none 0 0,.slice none 0 0,.slice none 0 0,.int .i64 0,.int .i64 0,.slice none 0 0,.slice none 0 0,.slice none 0 0,.slice none 0 0,.slice none 0 0]),(77,.agg #[.int .i64 0,.int .i64 0,.int .i64 0,.int .i64 0,.int .i64 0,.int .i64 0,.int .i64 0]),(90,.agg #[.int .i64 0,.int .i64 0]),(117,.agg #[.int .i64 0,.int .i64 0,.int .i64 0,.int .i64 0,.int .i64 0]),(124,.agg #[.int .i64 0,.int .i64 0,.int .i64 0]),(164,.agg #[.int .i64 0,.slice none 0 0,.int .i64 0,.int .i64 0,.slice none 0 0,.slice none 0 0,.slice none 0 0,.int .i64 0,.int .i64 0,.slice none 0 0,.slice none 0 0,.slice none 0 0,.int .i64 0]),(175,.agg #[.pointer none,.slice none 0 0]),(191,.agg #[.int .i64 0,.slice none 0 0,.slice none 0 0,.slice none 0 0,.slice none 0 0]),(211,.nilFunc),(254,.agg #[.int .i64 0,.int .i64 0,.int .i64 0,.int .i64 0,.int .i64 0]),(314,.agg #[.int .i64 0,.slice none 0 0,.int .i64 0,.int .i64 0,.slice none 0 0,.slice none 0 0,.int .i64 0,.int .i64 0,.slice none 0 0,.int .i64 0,.int .i64 0,.int .i64 0,.int .i64 0,.int .i64 0,.int .i64 0,.slice none 0 0,.int .i64 0]),(349,.agg #[.int .i64 0,.slice none 0 0,.int .i64 0,.int .i64 0,.slice none 0 0,.slice none 0 0,.int .i64 0,.int .i64 0,.slice none 0 0]),(356,.agg #[.int .i64 0,.int .i64 0,.int .i64 0]),(411,.agg #[.int .i64 0,.int .i64 0]),(417,.map none),(439,.agg #[.int .i64 0,.slice none 0 0]),(444,.agg #[.int .i64 0,.int .i64 0,.int .i64 0,.int .i64 0])]
theorem YvM:(tabL_zt.map λx:Nat×Value=>YaJ Tryz.prog x.1)=tabL_zt.map λx:Nat×Value=>some x.2:=by kernel_rfl
abbrev tabL_bt:List (Nat×List (Nat×Nat)):=[(26,[(0,1),(1,1),(2,1),(3,1),(4,1),(5,1)]),(30,[(0,1),(1,1),(2,1)]),(35,[(0,6),(6,1),(7,3),(10,1),(11,1)]),(53,[(0,1),(1,1),(2,1),(3,1),(4,1),(5,1)]),(56,[(0,6),(6,1)]),(75,[(0,12),(12,1),(13,1)]),(77,[(0,1),(1,1),(2,1),(3,1),(4,1),(5,1),(6,1)]),(90,[(0,1),(1,1)]),(117,[(0,1),(1,1),(2,1),(3,1),(4,1)]),(124,[(0,1),(1,1),(2,1)]),(164,[(0,12),(12,1)]),(191,[(0,1),(1,1),(2,1),(3,1),(4,1)]),(254,[(0,1),(1,1),(2,1),(3,1),(4,1)]),(314,[(0,6),(6,3),(9,6),(15,1),(16,1)]),(349,[(0,6),(6,3)]),(356,[(0,1),(1,1),(2,1)]),(411,[(0,1),(1,1)]),(439,[(0,1),(1,1)]),(444,[(0,1),(1,1),(2,1),(3,1)])]
theorem YvG:(tabL_bt.map λx:Nat×List (Nat×Nat)=>Yed Tryz.prog x.1)=tabL_bt.map λx:Nat×List (Nat×Nat)=>some x.2:=by kernel_rfl
def T2:Tab2 Tryz.prog:=⟨_,_,YvM,YvG⟩
abbrev EnT(k:Nat):Prop:=∀(xs:Array Value) (w:World),(callFunc k xs).run Tryz.prog w=.ok (.enter k xs) w
theorem enT{k:Nat}(h:EnT k:=by exactλ_ _=>by kernel_rfl):EnT k:=h
theorem en8:EnT 8:=enT
theorem en9:EnT 9:=enT
theorem en20:EnT 20:=enT
theorem en21:EnT 21:=enT
theorem en22:EnT 22:=enT
theorem en23:EnT 23:=enT
theorem en24:EnT 24:=enT
theorem en25:EnT 25:=enT
theorem en27:EnT 27:=enT
theorem en28:EnT 28:=enT
theorem en31:EnT 31:=enT
theorem en33:EnT 33:=enT
theorem en34:EnT 34:=enT
theorem en35:EnT 35:=enT
theorem en36:EnT 36:=enT
theorem en37:EnT 37:=enT
theorem en38:EnT 38:=enT
theorem en39:EnT 39:=enT
theorem en40:EnT 40:=enT
theorem en44:EnT 44:=enT
theorem en45:EnT 45:=enT
theorem en48:EnT 48:=enT
theorem en49:EnT 49:=enT
theorem en55:EnT 55:=enT
theorem en56:EnT 56:=enT
theorem en57:EnT 57:=enT
theorem en58:EnT 58:=enT
theorem en59:EnT 59:=enT
theorem en60:EnT 60:=enT
theorem en61:EnT 61:=enT
theorem en62:EnT 62:=enT
theorem en63:EnT 63:=enT
theorem en64:EnT 64:=enT
theorem en65:EnT 65:=enT
theorem en66:EnT 66:=enT
theorem en67:EnT 67:=enT
theorem en68:EnT 68:=enT
theorem en70:EnT 70:=enT
theorem en71:EnT 71:=enT
theorem en72:EnT 72:=enT
theorem en73:EnT 73:=enT
theorem en74:EnT 74:=enT
theorem en75:EnT 75:=enT
theorem en76:EnT 76:=enT
theorem en77:EnT 77:=enT
theorem en78:EnT 78:=enT
theorem en80:EnT 80:=enT
theorem en81:EnT 81:=enT
theorem en82:EnT 82:=enT
theorem en83:EnT 83:=enT
theorem en85:EnT 85:=enT
theorem en87:EnT 87:=enT
theorem en88:EnT 88:=enT
theorem en89:EnT 89:=enT
theorem en90:EnT 90:=enT
theorem en91:EnT 91:=enT
theorem en92:EnT 92:=enT
theorem en93:EnT 93:=enT
theorem en94:EnT 94:=enT
theorem en95:EnT 95:=enT
theorem en96:EnT 96:=enT
theorem en97:EnT 97:=enT
theorem en98:EnT 98:=enT
theorem en99:EnT 99:=enT
theorem YlG:EnT 100:=enT
theorem Ytd:EnT 101:=enT
theorem YvT:EnT 102:=enT
theorem Yte:EnT 109:=enT
theorem Ytf:EnT 110:=enT
theorem Ye9:EnT 111:=enT
theorem Ytg:EnT 114:=enT
theorem YlH:EnT 115:=enT
theorem JT:EnT 116:=enT
theorem Yth:EnT 117:=enT
theorem Yti:EnT 118:=enT
theorem Ytj:EnT 119:=enT
theorem Ytk:EnT 120:=enT
theorem Ytl:EnT 121:=enT
theorem Ytm:EnT 122:=enT
theorem Ytn:EnT 123:=enT
theorem Yto:EnT 124:=enT
theorem Ytp:EnT 125:=enT
theorem Ytq:EnT 126:=enT
theorem YpB:EnT 127:=enT
theorem Ytr:EnT 128:=enT
theorem Ytx:EnT 135:=enT
theorem YlI:EnT 136:=enT
theorem Yty:EnT 137:=enT
theorem Ytz:EnT 138:=enT
theorem YlJ:EnT 139:=enT
theorem YlK:EnT 140:=enT
theorem YvU:EnT 141:=enT
theorem YtA:EnT 142:=enT
theorem YlL:EnT 144:=enT
theorem YtB:EnT 146:=enT
theorem YtC:EnT 147:=enT
theorem YtD:EnT 148:=enT
theorem YvV:EnT 149:=enT
theorem YtE:EnT 150:=enT
theorem YvW:EnT 151:=enT
theorem YvX:EnT 152:=enT
theorem YpC:EnT 153:=enT
theorem YvY:EnT 154:=enT
theorem YtF:EnT 155:=enT
theorem YtG:EnT 156:=enT
theorem YlM:EnT 157:=enT
theorem YpD:EnT 158:=enT
theorem YpE:EnT 161:=enT
theorem Yia:EnT 162:=enT
theorem YvZ:EnT 163:=enT
theorem Ybp:EnT 164:=enT
theorem YtH:EnT 165:=enT
theorem YlN:EnT 166:=enT
theorem Ql:EnT 167:=enT
theorem Yv0:EnT 168:=enT
theorem YtI:EnT 169:=enT
theorem YlO:EnT 170:=enT
theorem YlP:EnT 171:=enT
theorem Yv1:EnT 172:=enT
theorem Yv2:EnT 173:=enT
theorem Yfa:EnT 174:=enT
theorem Yv3:EnT 175:=enT
theorem WR:EnT 176:=enT
theorem Ybq:EnT 177:=enT
theorem YtJ:EnT 178:=enT
theorem YtK:EnT 182:=enT
theorem Yfb:EnT 183:=enT
theorem YpF:EnT 186:=enT
theorem Yv4:EnT 187:=enT
theorem Yv5:EnT 188:=enT
theorem Yv6:EnT 189:=enT
theorem YtL:EnT 190:=enT
theorem YlQ:EnT 191:=enT
theorem Yfc:EnT 192:=enT
theorem Yv7:EnT 193:=enT
theorem Yv8:EnT 204:=enT
theorem Yv9:EnT 205:=enT
theorem Ywa:EnT 206:=enT
theorem YlR:EnT 209:=enT
theorem Ywb:EnT 210:=enT
theorem YlS:EnT 211:=enT
theorem Ywc:EnT 212:=enT
theorem Ywd:EnT 213:=enT
theorem Ywe:EnT 214:=enT
theorem Ywf:EnT 217:=enT
theorem YpG:EnT 222:=enT
theorem Ywg:EnT 223:=enT
theorem Ywh:EnT 225:=enT
theorem YlU:EnT 230:=enT
theorem YlV:EnT 231:=enT
theorem Yfd:EnT 233:=enT
theorem YlW:EnT 234:=enT
theorem Ywi:EnT 235:=enT
theorem Ux:EnT 236:=enT
theorem JU:EnT 237:=enT
theorem Yfe:EnT 238:=enT
theorem WU:EnT 239:=enT
theorem WV:EnT 240:=enT
theorem Qm:EnT 241:=enT
theorem YtN:EnT 242:=enT
theorem YtO:EnT 243:=enT
theorem YtP:EnT 246:=enT
theorem Ywj:EnT 247:=enT
theorem YtQ:EnT 257:=enT
theorem YtR:EnT 258:=enT
theorem Ywk:EnT 265:=enT
theorem YtS:EnT 266:=enT
theorem Ywl:EnT 267:=enT
theorem Qn:EnT 268:=enT
theorem YtT:EnT 269:=enT
theorem YpH:EnT 270:=enT
theorem WW:EnT 271:=enT
theorem YtU:EnT 273:=enT
theorem Ywm:EnT 274:=enT
theorem YtV:EnT 275:=enT
theorem Ywn:EnT 276:=enT
theorem YlX:EnT 286:=enT
theorem YtW:EnT 287:=enT
theorem YtX:EnT 289:=enT
theorem YtY:EnT 290:=enT
theorem YlY:EnT 291:=enT
theorem Ywo:EnT 292:=enT
theorem Yff:EnT 293:=enT
theorem YlZ:EnT 294:=enT
theorem Yl0:EnT 295:=enT
theorem YtZ:EnT 296:=enT
theorem Ywp:EnT 302:=enT
theorem YpI:EnT 303:=enT
theorem Yt0:EnT 305:=enT
theorem Ywq:EnT 306:=enT
theorem Yt1:EnT 307:=enT
theorem Yfg:EnT 308:=enT
theorem Yfh:EnT 309:=enT
theorem Yt2:EnT 310:=enT
theorem Yt3:EnT 311:=enT
theorem Ywr:EnT 312:=enT
theorem Yt4:EnT 320:=enT
theorem Yl1:EnT 322:=enT
theorem Yl2:EnT 324:=enT
theorem Yws:EnT 325:=enT
theorem Yt5:EnT 326:=enT
theorem Ywt:EnT 327:=enT
theorem YpJ:EnT 328:=enT
theorem Yfi:EnT 329:=enT
theorem Ywu:EnT 330:=enT
theorem Ywv:EnT 331:=enT
theorem Yww:EnT 332:=enT
theorem Yt6:EnT 333:=enT
theorem Yt7:EnT 334:=enT
theorem Ywx:EnT 335:=enT
theorem Ywy:EnT 336:=enT
theorem Yl3:EnT 337:=enT
theorem Ywz:EnT 343:=enT
theorem YwA:EnT 344:=enT
theorem Yl4:EnT 345:=enT
theorem YwB:EnT 346:=enT
theorem Yt8:EnT 347:=enT
theorem Yt9:EnT 350:=enT
theorem YwC:EnT 351:=enT
theorem YwD:EnT 352:=enT
theorem Yua:EnT 353:=enT
theorem YwE:EnT 354:=enT
theorem YwF:EnT 357:=enT
theorem Yl5:EnT 361:=enT
theorem Yl6:EnT 363:=enT
theorem YpK:EnT 364:=enT
theorem WX:EnT 383:=enT
theorem YwG:EnT 384:=enT
theorem YwH:EnT 385:=enT
theorem Yib:EnT 386:=enT
theorem z3(w:World):(zeroValue 3).run Tryz.prog w=.ok (.int .i64 0) w:=by kernel_rfl
theorem z4(w:World):(zeroValue 4).run Tryz.prog w=.ok (.bool false) w:=by kernel_rfl
theorem z45(w:World):(zeroValue 45).run Tryz.prog w=.ok (.agg #[.slice none 0 0,.slice none 0 0]) w:=by kernel_rfl
theorem z50(w:World):(zeroValue 50).run Tryz.prog w=.ok (.slice none 0 0) w:=by kernel_rfl
theorem z53(w:World):(zeroValue 53).run Tryz.prog w=.ok (.agg #[.int .i64 0,.int .i64 0,.int .i64 0,.int .i64 0,.int .i64 0,.int .i64 0]) w:=by kernel_rfl
theorem z77(w:World):(zeroValue 77).run Tryz.prog w=.ok (.agg #[.int .i64 0,.int .i64 0,.int .i64 0,.int .i64 0,.int .i64 0,.int .i64 0,.int .i64 0]) w:=by kernel_rfl
theorem zi3:((Tryz.prog.info? 3).bind (·.zero))=some (.int .i64 0):=by kernel_rfl
end Go.Proofs.YtambgjgljcadlaaGreatDoor
namespace Go.Eng
open Go.RowKit
open Go.ChangeMaps (setBlock)
section
variable {P:Program}{m:Mode}{n:Shp}{B:Nat}{w0:World}{ops:Array Oper}{Q:Exit->Act->World->Prop}{rest:List Oper}{env:Env}{H:List HP}{d:Nat}{ty:TypeId}{pos:String}{after:Array Edge}{x y:Operand}
theorem YmO{t kt et g clock:Nat}{es:Ents}{u:Operand}{k:Int}{v:Value}{K:List HP}(hx:evo env x=some (.map (some g)))(hy:evo env y=some (.int .i64 k))(hv:evo env u=some v)(ht:mapT P t kt et=true)
 (hu:Upd (blk g (mobj es clock)) (blk g (mobj (es++[(k,v,clock)]) (clock+1))) H K) (hk:mget es k=none)
 (h:VL P none n B w0 ops Q rest env K):VL P none n B w0 ops Q (⟨none,.insert t x y u,ty,pos,after,none⟩::rest) env H:=by
 obtain⟨h1,h2⟩:=Z2 ht
 refine Uq rfl rfl (λa w ha hw=>⟨setBlock w g (mobj (es++[(k,v,clock)]) (clock+1)),?_,hw.setBlock hu⟩) h
 have hb:w.heap[g]? =some (mobj es clock):=by
  obtain⟨L1,L2,rfl,_⟩:=hu
  exact(hw.blk (by simp)).1
 have hb':=hb
 unfold mobj at hb
 simp[execOp,ha.eval hx,ha.eval hy,ha.eval hv,Instr.mapUpdate,run_underlying h1,getObj,Sem.run,hb,Z3 _ h2,MapKept.run_findKey h2 (Wv 0 hk),MapKept.run_setObj_map _ hb,setBlock,mobj,toE]
def isSl(P:Program)(t:TypeId):Bool:=match P.underlying t with|some (.slice _)=>true|_=>false
theorem YnL{t:TypeId}(h:isSl P t=true):∃e,P.underlying t=some (.slice e):=by
 unfold isSl at h
 split at h
 ·rename_i e hu;exact⟨e,hu⟩
 ·cases h
theorem Zt{xt yt:TypeId}{A:Option Addr}{k cap:Nat}(hx:evo env x=some (.slice A k cap))(hn:Nat.ble (d+1) n.k=true)(hu:isSl P xt=true)
 (h:VL P m n B w0 ops Q rest ((d,.bool A.isNone)::env) H):VL P m n B w0 ops Q (⟨some d,.binOp .eql xt x (.const (.slice none 0 0)) yt,ty,pos,after,none⟩::rest) env H:=by
 obtain⟨e,hu⟩:=YnL hu
 refine Xe hx (y:=.const (.slice none 0 0)) rfl hn (λw=>by simp[eqGuard]) (λw=>?_) h
 simp only[binOp,Op.equal]
 rw[Sem.run_bind,show Op.maxDepth=9999+1 from rfl]
 unfold Op.equalIn
 cases A<;>simp[run_underlying hu]
theorem Yin{α:Type}{f:α->List Value}{q:Nat}(hq:∀a,(f a).length=q):∀(l:List α) (i:Nat) (a:α),i<l.length->(l.flatMap f).take (i*q)++f a++(l.flatMap f).drop (i*q+q)=(l.set i a).flatMap f
 |[],i,a,h=>by simp at h
 |b::l,0,a,_=>by
  rw[Nat.zero_mul,ND,TP,RH,TT,List.drop_left' (hq b),NJ,TT]
 |b::l,i+1,a,h=>by
  have e1:(i+1)*q=q+i*q:=by rw[SH];omega
  have e2:q+i*q+q=q+(i*q+q):=by omega
  have ih:=Yin hq l i a (by simpa using h)
  have hb:=hq b
  rw[N1,TT,TT,<-ih,e1,e2,S8,List.drop_append,hb,TL (by omega),RI (by omega),NC,NC,TP]
  simp[List.append_assoc]
variable {t e k cap size:Nat}{A:Option Addr}
theorem Jb(T:Tab P){α:Type}{f:α->List Value}{l:List α}{i q:Nat}{a:α}{vs:List Value}{K:List HP}(hx:evo env x=some (sptr A (i*q)))(hy:evo env y=some (.agg vs.toArray))(hv:f a=vs)
 (hu:Upd (sl e q A k cap (l.flatMap f)) (sl e q A k cap ((l.set i a).flatMap f)) H K) (hq:∀a,(f a).length=q) (h1:Ji vs=true) (ht:look T.ag t=some q) (hq0:Nat.blt 0 q=true) (hi:i<l.length)
 (h:VL P none n B w0 ops Q rest env K):VL P none n B w0 ops Q (⟨none,.store t x y,ty,pos,after,none⟩::rest) env H:=by
 subst hv
 have hmem:sl e q A k cap (l.flatMap f)∈H:=by
  obtain⟨L1,L2,rfl,_⟩:=hu
  simp
 have hq0':0<q:=by simpa using hq0
 refine Uq rfl rfl (λac w ha hw=>?_) h
 have hown:=hw.sl hmem
 rcases Z5 hown with⟨_,rfl,_,e4⟩|⟨g,cur,rfl,g1,g2,g3,g4,g5,g6⟩
 ·have:=TE List.length e4
  rw[XE hq]at this
  have h5:0<l.length*q:=Nat.mul_pos (by omega) hq0'
  simp at this
  omega
 ·have hil:i*q+q<=l.length*q:=by
   have:(i+1)*q<=l.length*q:=Rr _ hi
   rw[SH]at this;omega
  rw[XE hq]at g6
  have hkc:k*q<=cap*q:=Rr _ g2
  have hov:i*q+(f a).length<=cur.size:=by rw[hq,g4];omega
  have hrun:=run_storeCells_at (P:=P) g (i*q) e (f a) 0 cur w g1 (by rw[Nh];exact hov) (ZK h1)
  rw[Nh]at hrun
  refine⟨_,?_,hw.storeRow (k':=k) (o:=i*q) (vs:=f a) hu rfl g1 g4 g2 g3 hov ?_ ?_⟩
  ·rw[show sptr (some (⟨g,0,none⟩:Addr)) (i*q)=.pointer (some ⟨g,i*q,none⟩) by simp[sptr,Addr.add_lit]]at hx
   simp[execOp,ha.eval hx,ha.eval hy,Instr.storeAt,Instr.sureAddr,storeVar,Value.cells,ZS (VX (T.aggs ht)),hq,hrun]
  ·have hX:(cur.toList.take (i*q)++f a).length=i*q+q:=by rw[Tq,TA,NU,hq];omega
   rw[<-Yin hq l i a hi,<-g5,hq,S8,hX,TL (by omega),List.take_take,RU (by omega),List.drop_take]
  ·rw[XE hq,Rj];exact g6
theorem Yew(T:Tab P){bytes:Nat}{a:Addr}{ki:IntKind}{i:Int}(hx:evo env x=some (.slice (some a) k cap))(hy:evo env y=some (.int ki i))(ht:look T.sl t=some (e,size,bytes))(hn:Nat.ble (d+1) n.k=true)(hi:0<=i/\i<k)
 (h:VL P m n B w0 ops Q rest ((d,sptr (some a) (i.toNat*size))::env) H):VL P m n B w0 ops Q (⟨some d,.indexAddr t x y,ty,pos,after,none⟩::rest) env H:=by
 obtain⟨hut,inf,z',hinf,_,_,hsi,_⟩:=YE (T.slic ht)
 refine YF rfl rfl hn rfl (λf w ha _=>?_) h
 simp[execOp,ha.eval hx,ha.eval hy,Instr.indexAt,asIntOf,run_underlying hut,hi,sizeOf,typeInfo,hinf,hsi,sptr]
theorem Yb8{l:List Oper}{xs:List Value}(hm:sl e size A k cap xs∈H)(hk:0<k)(h:∀g,A=some ⟨g,0,none⟩->VL P none n B w0 ops Q l env H):VL P none n B w0 ops Q l env H:=by
 refine⟨λa ha w hw=>?_⟩
 rcases Z5 (hw.sl hm)with⟨_,e1,_⟩|⟨g,_,rfl,_⟩
 ·omega
 ·exact(h g rfl).run a ha w hw
end
section
variable {P:Program}{n:Shp}{B:Nat}{w0:World}{ops:Array Oper}{Q:Exit->Act->World->Prop}{rest:List Oper}{env:Env}{H:List HP}
def Vx(ops:Array Oper):List Nat->Array Bool->Bool
 |[],listed=>(Region.ready .any ops listed).isEmpty
 |i::rest,listed=>decide (Region.ready .any ops listed=[i])&&Vx ops rest (listed.setIfInBounds i true)
def YgO(ops:Array Oper)(last:List Nat):List Nat->Array Bool->Bool
 |[],listed=>Vx ops last listed
 |i::rest,listed=>
  (match ops[i]? with
   |some o=>if eff o then decide (Region.ready .any ops listed=[i])else(Region.ready .any ops listed).contains i&&Region.free .any ops listed i
   |none=>false)&&YgO ops last rest (listed.setIfInBounds i true)
def Ydw(ops:Array Oper)(last:List Nat):Bool:=
 last.all λj=>decide (j<ops.size)&&(List.range ops.size).all λi=>last.contains i||(match ops[i]? with|some o=>eff o|none=>false)||ancB ops ops.size j i
theorem J7{last:List Nat}(h:Ydw ops last=true):(∀j,last.contains j=true->∃o,ops[j]? =some o)/\∀i oi,ops[i]? =some oi->eff oi=false->last.contains i=false->∀j,last.contains j=true->∃f,ancB ops f j i=true:=by
 refine⟨λj hj=>?_,λi oi hi he hil j hj=>?_⟩
 ·have h1:=T8.1 h j (by simpa using hj)
  simp only[To,Tt]at h1
  exact⟨_,Array.getElem?_eq_getElem h1.1⟩
 ·have h1:=T8.1 h j (by simpa using hj)
  simp only[To]at h1
  have hlt:i<ops.size:=(Np.1 hi).1
  have h2:=T8.1 h1.2 i (Rf.2 hlt)
  rw[hi,hil]at h2
  simp only[he,N6]at h2
  exact⟨_,h2⟩
theorem Ju{S:World->Prop}{last:List Nat}(l:List Oper)(hl:ops=l.toArray)(hef:∀j,last.contains j=true->∃o,ops[j]? =some o)(hlo:¬LetsOut Q):
 ∀(o2:List Nat) (listed:Array Bool) (a:Act) (w:World),(∀j∈o2,last.contains j=true)->Vx ops o2 listed=true->wpList P ops Q (Yg l o2) a w->Zh P ops Q S last o2.length listed a w
 |[],listed,a,w,_,hB,h=>⟨by simpa [Vx]using hB,h⟩
 |i::rest,listed,a,w,hin,hB,h=>by
  simp only[Vx,To,Tt]at hB
  obtain⟨h1,h2⟩:=hB
  obtain⟨o,ho⟩:=hef i (hin i (by simp))
  have hget:nthO l i=o:=Xw hl ho
  simp only[Yg,hget]at h
  unfold wpList at h
  refine⟨λh0=>(by rw[h1]at h0;cases h0),λk hk=>?_⟩
  rw[h1]at hk
  obtain rfl:k=i:=by simpa using hk
  unfold wpOp
  simp only[ho]
  have hc:last.contains k=true:=hin k (by simp)
  by_cases hw:Region.wanted o (yielded ops a.tmps)=true
  ·rw[Tm hw]at h⊢
   rcases h with h|⟨_,h⟩
   ·exact .inl (Oper.wp_mono (λa' w' h'=>⟨λhf=>(by rw[hc]at hf;cases hf),Ju l hl hef hlo rest _ a' w' (λj hj=>hin j (by simp[hj])) h2 h'⟩) h)
   ·exact(hlo h).elim
  ·rw[Td hw]at h⊢
   exact⟨λhf=>(by rw[hc]at hf;cases hf),Ju l hl hef hlo rest _ _ w (λj hj=>hin j (by simp[hj])) h2 h⟩
theorem UA{S:World->Prop}{last:List Nat}(hs:Region.noSelect ops=true)(hQ:∀c (a:Act) (w:World),¬Q (.panic c) a w)(hlo:¬LetsOut Q)(l:List Oper)(hl:ops=l.toArray)(hlast:Ydw ops last=true):
 ∀(o1:List Nat) (listed:Array Bool) (a:Act) (w:World),Closed ops listed->(∀j∈o1,last.contains j=false)->YgO ops last o1 listed=true->S w->Yv P ops (Jk P ops Q (Yg l last)) S (Yg l o1) a w->
  Zh P ops Q S last (o1++last).length listed a w
 |[],listed,a,w,_,_,hB,_,h=>Ju l hl (J7 hlast).1 hlo last listed a w (λj hj=>by simpa using hj) hB h
 |i::rest,listed,a,w,hcl,hno,hB,hS,h=>by
  simp only[YgO,To]at hB
  obtain⟨h1,h2⟩:=hB
  have hno':∀j∈rest,last.contains j=false:=λj hj=>hno j (by simp[hj])
  cases ho:ops[i]? with
  |none=>rw[ho]at h1;cases h1
  |some o=>
   rw[ho]at h1
   have hget:nthO l i=o:=Xw hl ho
   simp only[Yg,hget]at h
   by_cases he:eff o=true
   ·simp only[he,NF,Tt]at h1
    unfold Yv at h
    rw[Tm he]at h
    refine⟨λh0=>(by rw[h1]at h0;cases h0),λk hk=>?_⟩
    have hk':=hk
    rw[h1]at hk
    obtain rfl:k=i:=by simpa using hk
    unfold wpOp
    simp only[ho]
    by_cases hw:Region.wanted o (yielded ops a.tmps)=true
    ·rw[Tm hw]at h⊢
     refine .inl (Oper.wp_mono_noQ' (λc a w h=>by cases h) (Oper.wp_mono (λa' w' h'=>⟨λ_=>h'.1,UA hs hQ hlo l hl hlast rest _ a' w' (hcl.set hk') hno' h2 h'.1 h'.2⟩) h))
    ·rw[Td hw]at h⊢
     exact⟨λ_=>hS,UA hs hQ hlo l hl hlast rest _ _ w (hcl.set hk') hno' h2 hS h⟩
   ·simp only[he]at h1
    simp only[SO,Mc,To]at h1
    unfold Yv at h
    rw[Td he]at h
    obtain⟨v,hy,h3⟩:=h
    have hr:i∈Region.ready .any ops listed:=by simpa using h1.1
    exact JS ho (Region.noSelect_spec hs) hQ ((J7 hlast).2 i o ho (by simpa using he) (hno i (by simp))) (hno i (by simp)) _ listed a w hcl (Region.free_spec ho h1.2) hr hy hS (UA hs hQ hlo l hl hlast rest _ _ w (hcl.set hr) hno' h2 hS h3)
theorem Ycq{id:Nat}{l:List Oper}(o1 last:List Nat)(mask:List Bool){Hc F:List HP}(hm:P.follows .mixedOrders=true)
 (hB:(Region.noSelect l.toArray&&decide ((o1++last).length=l.toArray.size)&&Ydw l.toArray last&&(o1.all λj=>!last.contains j)&&YgO l.toArray last o1 (Array.replicate l.toArray.size false))=true)
 (hsp:Split mask H Hc F) {l1 l2:List Oper}(hl1:Yg l o1=l1) (hl2:Yg l last=l2) (h:VL P (some (some F)) n B w0 l.toArray (Jk P l.toArray (Only Q) l2) l1 env Hc):VC P n B w0 (.region id l.toArray true) Q env H:=by
 simp only[To,Tt]at hB
 obtain⟨⟨⟨⟨h1,h2⟩,h3⟩,h4⟩,h5⟩:=hB
 refine⟨λa w ha hw=>Jf (Q:=Only Q) ?_ λe a w h=>by cases e<;>first|exact h|cases h⟩
 have hst:St B w0 (Hc++F) w.drew:=(hw.perm (XN hsp)).drew
 have hr:Yv P l.toArray (Jk P l.toArray (Only Q) l2) (St B w0 Hc) l1 a w.drew:=h.run a ha w.drew hst
 rw[<-hl1,<-hl2]at hr
 have:=UA (S:=St B w0 Hc) h1 (λc a w h=>h) (by rintro⟨_,_,h⟩;exact h) l rfl h3 o1 _ a w.drew (XU _ _) (λj hj=>by simpa using T8.1 h4 j hj) h5 hst.prefix_ hr
 rw[h2]at this
 exact VR hm (ZT _ _ _ _ this)
end
open Go.RowKit Go.Proofs Go.Proofs.YtambgjgljcadlaaGreatDoor
section
variable {m:Mode}{n:Shp}{B:Nat}{w0:World}{ops:Array Oper}{Q:Exit->Act->World->Prop}{rest:List Oper}{env:Env}{H:List HP}{d:Nat}{ty:TypeId}{pos:String}{after:Array Edge}{xt yt:TypeId}{x y:Operand}{k:IntKind}{a b:Int}{s t:ByteArray}
variable {v z:Value}
theorem zs1{x:Operand}(h:VL Tryz.prog m n B w0 ops Q rest ((d,v)::env) H)(hx:evo env x=some v:=by exact rfl)(hn:Nat.ble (d+1) n.k=true:=by exact rfl):VL Tryz.prog m n B w0 ops Q (⟨some d,.move x,ty,pos,after,none⟩::rest) env H:=YrL hx hn h
theorem zs2{x:Operand}(h:VL Tryz.prog m n B w0 ops Q rest ((d,v)::env) H)(hx:evo env x=some v:=by exact rfl)(hn:Nat.ble (d+1) n.k=true:=by exact rfl):VL Tryz.prog m n B w0 ops Q (⟨some d,.assign x,ty,pos,after,none⟩::rest) env H:=YmL hx hn h
variable {op:Op}{j f g i tx cap e size bytes q id:Nat}{oj o:Oper}
theorem zs3{m:Mode}{d:Nat}{ty:TypeId}{pos:String}{after:Array Edge}{s:Nat}{b:Bool}(h:VL Tryz.prog m n B w0 ops Q rest ((d,undef)::env) H)(hj:ops[j]? =some oj:=by exact rfl)(hs:oj.dst=some s:=by exact rfl)(hv:get env s=some v:=by exact rfl)(hne:notB v b=true:=by exact rfl)(hn:Nat.ble (d+1) n.k=true:=by exact rfl):VL Tryz.prog m n B w0 ops Q (⟨some d,op,ty,pos,after,some (j,b)⟩::rest) env H:=Yht hj hs hv hne hn h
theorem zs4{m:Mode}{dst:Option Tmp}{ty:TypeId}{pos:String}{after:Array Edge}{s:Nat}{b:Bool}(h:VL Tryz.prog m n B w0 ops Q (⟨dst,op,ty,pos,after,none⟩::rest) env H)(hj:ops[j]? =some oj:=by exact rfl)(hs:oj.dst=some s:=by exact rfl)(hv:get env s=some (.bool b):=by exact rfl):VL Tryz.prog m n B w0 ops Q (⟨dst,op,ty,pos,after,some (j,b)⟩::rest) env H:=Yf5 hj hs hv h
theorem zs5{x:Operand}{p:Addr}(h:VL Tryz.prog m n B w0 ops Q rest ((d,.pointer (some p))::env) H)(hx:evo env x=some (.pointer (some p)):=by exact rfl)(hn:Nat.ble (d+1) n.k=true:=by exact rfl):VL Tryz.prog m n B w0 ops Q (⟨some d,.nilCheck x,ty,pos,after,none⟩::rest) env H:=Yhx hx hn h
theorem zs6{s k:Nat}{x:Operand}(h:VL Tryz.prog m n B w0 ops Q rest ((d,.pointer (some ⟨g,i+k,none⟩))::env) H)(hx:evo env x=some (.pointer (some ⟨g,i,none⟩)):=by exact rfl)(hf:OC T.fo s f=some k:=by exact rfl)(hn:Nat.ble (d+1) n.k=true:=by exact rfl):VL Tryz.prog m n B w0 ops Q (⟨some d,.fieldAddr s x f,ty,pos,after,none⟩::rest) env H:=Yf3 T hx hf hn h
variable {cs:Array Value}{tt src dst:TypeId}{fr:Nat×Nat}
theorem zs7{t:Nat}{x:Operand}(h:VL Tryz.prog m n B w0 ops Q rest ((d,v)::env) H)(hx:evo env x=some (.pointer (some ⟨g,i,none⟩)):=by exact rfl)(hm:blk g (.cells cs tt fr)∈H:=by(exact zm;done))(hv:nth cs.toList i=some v:=by exact rfl)(ht:look T.sc t=some ():=by exact rfl)(hn:Nat.ble (d+1) n.k=true:=by exact rfl):VL Tryz.prog m n B w0 ops Q (⟨some d,.load t x,ty,pos,after,none⟩::rest) env H:=YrI T hx hm hv ht hn h
theorem zs8{t k:Nat}{x:Operand}(h:VL Tryz.prog m n B w0 ops Q rest ((d,.agg cs)::env) H)(hx:evo env x=some (.pointer (some ⟨g,0,none⟩)):=by exact rfl)(hm:blk g (.cells cs tt fr)∈H:=by(exact zm;done))(ht:look T.ag t=some k:=by exact rfl)(hk:cs.size=k:=by exact rfl)(hn:Nat.ble (d+1) n.k=true:=by exact rfl):VL Tryz.prog m n B w0 ops Q (⟨some d,.load t x,ty,pos,after,none⟩::rest) env H:=Yex T hx hm ht hk hn h
variable {A:Option Addr}
theorem zs9{x:Operand}{k:Nat}{es:Nat×Nat×Nat}(h:VL Tryz.prog m n B w0 ops Q rest ((d,.int .i64 k)::env) H)(hx:evo env x=some (.slice A k cap):=by exact rfl)(ht:look T.sl tx=some es:=by exact rfl)(hn:Nat.ble (d+1) n.k=true:=by exact rfl):VL Tryz.prog m n B w0 ops Q (⟨some d,.call ⟨.builtin .len,#[x],#[tx]⟩,ty,pos,after,none⟩::rest) env H:=Yu1 T hx ht hn h
variable {xs cs':List Value}{ki yk:IntKind}
theorem zs10{t:Nat}{x y:Operand}{k:Nat}{i:Int}(h:VL Tryz.prog m n B w0 ops Q rest ((d,sptr A (i.toNat*size))::env) H)(hx:evo env x=some (.slice A k cap):=by exact rfl)(hm:sl e size A k cap xs∈H:=by(exact zm;done))(hy:evo env y=some (.int ki i):=by exact rfl)(ht:look T.sl t=some (e,size,bytes):=by exact rfl)(hn:Nat.ble (d+1) n.k=true:=by exact rfl)(hi:0<=i/\i<k:=by omega):VL Tryz.prog m n B w0 ops Q (⟨some d,.indexAddr t x y,ty,pos,after,none⟩::rest) env H:=Yhu T hx hm hy ht hn hi h
variable {c:Operand}
theorem zs11{x y:Operand}(h:VL Tryz.prog m n B w0 ops Q rest ((d,v)::env) H)(hc:evo env c=some (.bool true):=by exact rfl)(hx:evo env x=some v:=by exact rfl)(hn:Nat.ble (d+1) n.k=true:=by exact rfl):VL Tryz.prog m n B w0 ops Q (⟨some d,.pick c x y,ty,pos,after,none⟩::rest) env H:=Yf9 hc hx hn h
theorem zs12{x y:Operand}(h:VL Tryz.prog m n B w0 ops Q rest ((d,v)::env) H)(hc:evo env c=some (.bool false):=by exact rfl)(hx:evo env y=some v:=by exact rfl)(hn:Nat.ble (d+1) n.k=true:=by exact rfl):VL Tryz.prog m n B w0 ops Q (⟨some d,.pick c x y,ty,pos,after,none⟩::rest) env H:=Yey hc hx hn h
theorem zs13{x:Operand}{vs:Array Value}(h:VL Tryz.prog m n B w0 ops Q rest ((d,v)::env) H)(hx:evo env x=some (.tuple vs):=by exact rfl)(hv:nth vs.toList i=some v:=by exact rfl)(hn:Nat.ble (d+1) n.k=true:=by exact rfl):VL Tryz.prog m n B w0 ops Q (⟨some d,.extract x i,ty,pos,after,none⟩::rest) env H:=YjL hx hv hn h
theorem zs14{tx:TypeId}(h:VL Tryz.prog m n B w0 ops Q rest ((d,.int .i64 s.size)::env) H)(hx:evo env x=some (.string s):=by exact rfl)(ht:look T.st tx=some ():=by exact rfl)(hn:Nat.ble (d+1) n.k=true:=by exact rfl):VL Tryz.prog m n B w0 ops Q (⟨some d,.call ⟨.builtin .len,#[x],#[tx]⟩,ty,pos,after,none⟩::rest) env H:=YrP T hx ht hn h
theorem zs15(h1:a=b->VL Tryz.prog m n B w0 ops Q rest ((d,.bool true)::env) H)(h2:a≠b->VL Tryz.prog m n B w0 ops Q rest ((d,.bool false)::env) H)(hx:evo env x=some (.int k a):=by exact rfl)(hy:evo env y=some (.int k b):=by exact rfl)(hn:Nat.ble (d+1) n.k=true:=by exact rfl):VL Tryz.prog m n B w0 ops Q (⟨some d,.binOp .eql xt x y yt,ty,pos,after,none⟩::rest) env H:=YuY hx hy hn h1 h2
theorem zs16(h1:a≠b->VL Tryz.prog m n B w0 ops Q rest ((d,.bool true)::env) H)(h2:a=b->VL Tryz.prog m n B w0 ops Q rest ((d,.bool false)::env) H)(hx:evo env x=some (.int k a):=by exact rfl)(hy:evo env y=some (.int k b):=by exact rfl)(hn:Nat.ble (d+1) n.k=true:=by exact rfl):VL Tryz.prog m n B w0 ops Q (⟨some d,.binOp .neq xt x y yt,ty,pos,after,none⟩::rest) env H:=Yu7 hx hy hn h1 h2
theorem zs17(h1:a<b->VL Tryz.prog m n B w0 ops Q rest ((d,.bool true)::env) H)(h2:b<=a->VL Tryz.prog m n B w0 ops Q rest ((d,.bool false)::env) H)(hx:evo env x=some (.int k a):=by exact rfl)(hy:evo env y=some (.int k b):=by exact rfl)(hn:Nat.ble (d+1) n.k=true:=by exact rfl):VL Tryz.prog m n B w0 ops Q (⟨some d,.binOp .lss xt x y yt,ty,pos,after,none⟩::rest) env H:=Yu3 hx hy hn h1 h2
theorem zs18(h1:a<=b->VL Tryz.prog m n B w0 ops Q rest ((d,.bool true)::env) H)(h2:b<a->VL Tryz.prog m n B w0 ops Q rest ((d,.bool false)::env) H)(hx:evo env x=some (.int k a):=by exact rfl)(hy:evo env y=some (.int k b):=by exact rfl)(hn:Nat.ble (d+1) n.k=true:=by exact rfl):VL Tryz.prog m n B w0 ops Q (⟨some d,.binOp .leq xt x y yt,ty,pos,after,none⟩::rest) env H:=Yu2 hx hy hn h1 h2
theorem zs19(h1:b<a->VL Tryz.prog m n B w0 ops Q rest ((d,.bool true)::env) H)(h2:a<=b->VL Tryz.prog m n B w0 ops Q rest ((d,.bool false)::env) H)(hx:evo env x=some (.int k a):=by exact rfl)(hy:evo env y=some (.int k b):=by exact rfl)(hn:Nat.ble (d+1) n.k=true:=by exact rfl):VL Tryz.prog m n B w0 ops Q (⟨some d,.binOp .gtr xt x y yt,ty,pos,after,none⟩::rest) env H:=Yu0 hx hy hn h1 h2
theorem zs20(h1:b<=a->VL Tryz.prog m n B w0 ops Q rest ((d,.bool true)::env) H)(h2:a<b->VL Tryz.prog m n B w0 ops Q rest ((d,.bool false)::env) H)(hx:evo env x=some (.int k a):=by exact rfl)(hy:evo env y=some (.int k b):=by exact rfl)(hn:Nat.ble (d+1) n.k=true:=by exact rfl):VL Tryz.prog m n B w0 ops Q (⟨some d,.binOp .geq xt x y yt,ty,pos,after,none⟩::rest) env H:=YuZ hx hy hn h1 h2
variable {tys:Array TypeId}
theorem zs25{x y:Operand}{k:IntKind}{a b:Int}(h1:b<a->VL Tryz.prog m n B w0 ops Q rest ((d,.int k b)::env) H)(h2:a<=b->VL Tryz.prog m n B w0 ops Q rest ((d,.int k a)::env) H)(hx:evo env x=some (.int k a):=by exact rfl)(hy:evo env y=some (.int k b):=by exact rfl)(hn:Nat.ble (d+1) n.k=true:=by exact rfl):VL Tryz.prog m n B w0 ops Q (⟨some d,.call ⟨.builtin .min,#[x,y],tys⟩,ty,pos,after,none⟩::rest) env H:=Ylr hx hy hn h1 h2
theorem zs30(h:VL Tryz.prog m n B w0 ops Q rest ((d,.int .i64 (a+b))::env) H)(hx:evo env x=some (.int .i64 a):=by exact rfl)(hy:evo env y=some (.int .i64 b):=by exact rfl)(hn:Nat.ble (d+1) n.k=true:=by exact rfl)(hb: -9223372036854775808<=a+b/\a+b<=9223372036854775807:=by omega):VL Tryz.prog m n B w0 ops Q (⟨some d,.binOp .add xt x y yt,ty,pos,after,none⟩::rest) env H:=YuW hx hy hn hb h
theorem zs31(h:VL Tryz.prog m n B w0 ops Q rest ((d,.int .i64 (a-b))::env) H)(hx:evo env x=some (.int .i64 a):=by exact rfl)(hy:evo env y=some (.int .i64 b):=by exact rfl)(hn:Nat.ble (d+1) n.k=true:=by exact rfl)(hb: -9223372036854775808<=a-b/\a-b<=9223372036854775807:=by omega):VL Tryz.prog m n B w0 ops Q (⟨some d,.binOp .sub xt x y yt,ty,pos,after,none⟩::rest) env H:=Yvc hx hy hn hb h
theorem zs32(h:VL Tryz.prog m n B w0 ops Q rest ((d,.int .i64 (a*b))::env) H)(hx:evo env x=some (.int .i64 a):=by exact rfl)(hy:evo env y=some (.int .i64 b):=by exact rfl)(hn:Nat.ble (d+1) n.k=true:=by exact rfl)(hb: -9223372036854775808<=a*b/\a*b<=9223372036854775807:=by first|exact Yqh (by omega) (by omega) (by omega) (by omega)|exact Ysz (by omega) (by omega) (by omega) (by omega)|omega):VL Tryz.prog m n B w0 ops Q (⟨some d,.binOp .mul xt x y yt,ty,pos,after,none⟩::rest) env H:=Yu5 hx hy hn hb h
theorem zs36(h:VL Tryz.prog m n B w0 ops Q rest ((d,.int .i64 (a/b))::env) H)(hx:evo env x=some (.int .i64 a):=by exact rfl)(hy:evo env y=some (.int .i64 b):=by exact rfl)(hn:Nat.ble (d+1) n.k=true:=by exact rfl)(hb:0<=a/\a<=9223372036854775807/\1<=b:=by omega):VL Tryz.prog m n B w0 ops Q (⟨some d,.binOp .quo xt x y yt,ty,pos,after,none⟩::rest) env H:=Yu8 hx hy hn hb h
theorem zs37(h:VL Tryz.prog m n B w0 ops Q rest ((d,.int k (a%b))::env) H)(hx:evo env x=some (.int k a):=by exact rfl)(hy:evo env y=some (.int k b):=by exact rfl)(hn:Nat.ble (d+1) n.k=true:=by exact rfl)(hb:0<=a/\1<=b:=by omega):VL Tryz.prog m n B w0 ops Q (⟨some d,.binOp .rem xt x y yt,ty,pos,after,none⟩::rest) env H:=Yu9 hx hy hn hb h
theorem zs38{D:Int}(h:VL Tryz.prog m n B w0 ops Q rest ((d,.int k (a/D))::env) H)(hx:evo env x=some (.int k a):=by exact rfl)(hn:Nat.ble (d+1) n.k=true:=by exact rfl)(hb:0<=b/\b<=k.bits:=by(simp only[IntKind.bits];omega))(hD:(2:Int)^b.toNat=D:=by(simp only[Int.reduceToNat,Int.reducePow];rfl)):VL Tryz.prog m n B w0 ops Q (⟨some d,.binOp .shr xt x (.const (.int yk b)) yt,ty,pos,after,none⟩::rest) env H:=Yo4 hx hn hb hD h
theorem zs40(h:VL Tryz.prog m n B w0 ops Q rest ((d,.int k (k.wrap (a*2^b.toNat)))::env) H)(hx:evo env x=some (.int k a):=by exact rfl)(hy:evo env y=some (.int yk b):=by exact rfl)(hn:Nat.ble (d+1) n.k=true:=by exact rfl)(hb:0<=b/\b<=k.bits:=by(simp only[IntKind.bits];omega)):VL Tryz.prog m n B w0 ops Q (⟨some d,.binOp .shl xt x y yt,ty,pos,after,none⟩::rest) env H:=Yva hx hy hn hb h
theorem zs41(h:VL Tryz.prog m n B w0 ops Q rest ((d,.int k (bits .and k a b))::env) H)(hx:evo env x=some (.int k a):=by exact rfl)(hy:evo env y=some (.int k b):=by exact rfl)(hn:Nat.ble (d+1) n.k=true:=by exact rfl):VL Tryz.prog m n B w0 ops Q (⟨some d,.binOp .and xt x y yt,ty,pos,after,none⟩::rest) env H:=YuX hx hy hn h
theorem zs44{j:IntKind}(h:VL Tryz.prog m n B w0 ops Q rest ((d,.int .i64 a)::env) H)(hx:evo env x=some (.int k a):=by exact rfl)(hs:look T.ik src=some j:=by exact rfl)(ht:look T.ik dst=some .i64:=by exact rfl)(hn:Nat.ble (d+1) n.k=true:=by exact rfl)(hb: -9223372036854775808<=a/\a<=9223372036854775807:=by omega):VL Tryz.prog m n B w0 ops Q (⟨some d,.convert src dst x,ty,pos,after,none⟩::rest) env H:=YjK T hx hs ht hn hb h
theorem zs45{j:IntKind}(h:VL Tryz.prog m n B w0 ops Q rest ((d,.int .u64 a)::env) H)(hx:evo env x=some (.int k a):=by exact rfl)(hs:look T.ik src=some j:=by exact rfl)(ht:look T.ik dst=some .u64:=by exact rfl)(hn:Nat.ble (d+1) n.k=true:=by exact rfl)(hb:0<=a/\a<=18446744073709551615:=by omega):VL Tryz.prog m n B w0 ops Q (⟨some d,.convert src dst x,ty,pos,after,none⟩::rest) env H:=Yhr T hx hs ht hn hb h
theorem zs46{j:IntKind}{kd:IntKind}(h:VL Tryz.prog m n B w0 ops Q rest ((d,.int kd (kd.wrap a))::env) H)(hx:evo env x=some (.int k a):=by exact rfl)(hs:look T.ik src=some j:=by exact rfl)(ht:look T.ik dst=some kd:=by exact rfl)(hn:Nat.ble (d+1) n.k=true:=by exact rfl):VL Tryz.prog m n B w0 ops Q (⟨some d,.convert src dst x,ty,pos,after,none⟩::rest) env H:=Yf2 T hx hs ht hn h
theorem zs47{x:Operand}{xt:TypeId}(h:VL Tryz.prog m n B w0 ops Q rest ((d,.bool false)::env) H)(hx:evo env x=some (.bool true):=by exact rfl)(hn:Nat.ble (d+1) n.k=true:=by exact rfl):VL Tryz.prog m n B w0 ops Q (⟨some d,.unOp .not xt x,ty,pos,after,none⟩::rest) env H:=Yhy hx hn h
theorem zs48{x:Operand}{xt:TypeId}(h:VL Tryz.prog m n B w0 ops Q rest ((d,.bool true)::env) H)(hx:evo env x=some (.bool false):=by exact rfl)(hn:Nat.ble (d+1) n.k=true:=by exact rfl):VL Tryz.prog m n B w0 ops Q (⟨some d,.unOp .not xt x,ty,pos,after,none⟩::rest) env H:=Yf6 hx hn h
theorem zs49{t tt:Nat}{x y:Operand}{k:Nat}{mm c:Nat}{K:Option Addr->Nat->List HP}(h:∀A' cap',VL Tryz.prog none n B w0 ops Q rest ((d,.slice A' (k+mm) cap')::env) (K A' cap'))(hx:evo env x=some (.slice A k cap):=by exact rfl)(ht:look T.sl t=some (e,size,bytes):=by exact rfl)(hy:evo env y=some (.slice (some ⟨g,0,none⟩) mm c):=by exact rfl)(hb:blk g (.cells cs tt fr)∈H:=by(exact zm;done))(hk:cs.size=mm*size:=by exact rfl)(h1:Ji cs.toList=true:=by exact rfl)(hn:Nat.ble (d+1) n.k=true:=by exact rfl)(hu:∀A' cap',Upd (sl e size A k cap xs) (sl e size A' (k+mm) cap' (xs++cs.toList)) H (K A' cap'):=by((intro _ _;exact zd);done))(hby:(k+mm)*bytes<=140737488355328:=by omega):VL Tryz.prog none n B w0 ops Q (⟨some d,.call ⟨.builtin .append,#[x,y],#[t,t]⟩,ty,pos,after,none⟩::rest) env H:=YmK T hx ht hy hb hk h1 hn hu hby h
variable {K F:List HP}
theorem zs50{t:Nat}{cs:List Value}{x y:Operand}(h:VL Tryz.prog none n B w0 ops Q rest env K)(hx:evo env x=some (.pointer (some ⟨g,i,none⟩)):=by exact rfl)(hy:evo env y=some v:=by exact rfl)(h1:v.oneCell'=true:=by exact rfl)(hu:Upd (blk g (.cells cs.toArray tt (0,0))) (blk g (.cells cs'.toArray tt (0,0))) H K:=by(exact zd;done))(hs:YeV cs i v cs':=by(exact zt;done))(ht:look T.sc t=some ():=by exact rfl):VL Tryz.prog none n B w0 ops Q (⟨none,.store t x y,ty,pos,after,none⟩::rest) env H:=Yo5 T hx hy h1 hu hs ht h
theorem zs51{t k:Nat}{cs vs:List Value}{x y:Operand}(h:VL Tryz.prog none n B w0 ops Q rest env K)(hx:evo env x=some (.pointer (some ⟨g,i,none⟩)):=by exact rfl)(hy:evo env y=some (.agg vs.toArray):=by exact rfl)(h1:Ji vs=true:=by exact rfl)(hu:Upd (blk g (.cells cs.toArray tt (0,0))) (blk g (.cells cs'.toArray tt (0,0))) H K:=by(exact zd;done))(hs:PutAt cs i vs cs':=by((repeat(first|exact PutAt.nil|(apply PutAt.cons;exact zt)));done))(ht:look T.ag t=some k:=by exact rfl)(hk:vs.length=k:=by exact rfl):VL Tryz.prog none n B w0 ops Q (⟨none,.store t x y,ty,pos,after,none⟩::rest) env H:=Yga T hx hy h1 hu hs ht hk h
theorem zs52{t:TypeId}{x:Operand}(h:∀g,VL Tryz.prog none n B w0 ops Q rest ((d,.pointer (some ⟨g,0,none⟩))::env) (blk g (.cells cs t (0,0))::H))(hx:evo env x=some (.agg cs):=by exact rfl)(hn:Nat.ble (d+1) n.k=true:=by exact rfl):VL Tryz.prog none n B w0 ops Q (⟨some d,.box t x,ty,pos,after,none⟩::rest) env H:=YB hx hn h
theorem zs53{t:TypeId}{x:Operand}(h:∀g,VL Tryz.prog none n B w0 ops Q rest ((d,.pointer (some ⟨g,0,none⟩))::env) (blk g (.cells #[v] t (0,0))::H))(hx:evo env x=some v:=by exact rfl)(h1:v.cells=#[v]:=by exact rfl)(hn:Nat.ble (d+1) n.k=true:=by exact rfl):VL Tryz.prog none n B w0 ops Q (⟨some d,.box t x,ty,pos,after,none⟩::rest) env H:=YjI hx h1 hn h
theorem zs54{t:TypeId}(h:∀g,VL Tryz.prog none n B w0 ops Q rest ((d,.pointer (some ⟨g,0,none⟩))::env) (blk g (.cells cs t (0,0))::H))(hz:look T2.zt t=some z:=by exact rfl)(hc:z.cells=cs:=by exact rfl)(hn:Nat.ble (d+1) n.k=true:=by exact rfl):VL Tryz.prog none n B w0 ops Q (⟨some d,.alloc t,ty,pos,after,none⟩::rest) env H:=YmI T2 hz hc hn h
variable {parts:List (Nat×Operand)}{ps:List (Nat×Value)}
theorem zs55{t:TypeId}{zc:Array Value}{pl:List (Nat×Nat)}{cs:List Value}(h:VL Tryz.prog m n B w0 ops Q rest ((d,.agg cs.toArray)::env) H)(hp:WC env parts=some ps:=by exact rfl)(hz:look T2.zt t=some (.agg zc):=by exact rfl)(hl:look T2.bt t=some pl:=by exact rfl)(hf:fillL (pl[·]?) zc.toList ps=some cs:=by exact rfl)(hn:Nat.ble (d+1) n.k=true:=by exact rfl):VL Tryz.prog m n B w0 ops Q (⟨some d,.build t parts.toArray,ty,pos,after,none⟩::rest) env H:=YmM T2 hp hz hl hf hn h
theorem zs56{t len:Nat}{zl cs:List Value}(h:∀g,VL Tryz.prog none n B w0 ops Q rest ((d,.slice (some ⟨g,0,none⟩) len len)::env) (blk g (.cells cs.toArray e (0,0))::H))(ht:look T.sl t=some (e,size,bytes):=by exact rfl)(hp:WC env parts=some ps:=by exact rfl)(hz:look T2.zt e=some z:=by exact rfl)(hzc:z.cells=zl.toArray:=by exact rfl)(hf:fillL (λi=>some (i*size,size)) (repZ len zl) ps=some cs:=by exact rfl)(hn:Nat.ble (d+1) n.k=true:=by exact rfl)(hl:(Nat.blt 0 (len*size)&&Nat.beq zl.length size&&Nat.ble (len*size) 1000000)=true:=by exact rfl):VL Tryz.prog none n B w0 ops Q (⟨some d,.buildSlice t len parts.toArray,ty,pos,after,none⟩::rest) env H:=V7 T T2 ht hp hz hzc hf hn hl h
variable {α:Type}
theorem zs57{f:α->List Value}{l:List α}{t:Nat}{x y:Operand}{i:Int}(h:VL Tryz.prog m n B w0 ops Q rest ((d,sptr A (i.toNat*size))::env) H)(hx:evo env x=some (.slice A l.length cap):=by exact rfl)(hy:evo env y=some (.int ki i):=by exact rfl)(hr:Rd B w0 H A (l.flatMap f):=by(exact zr;done))(ht:look T.sl t=some (e,size,bytes):=by exact rfl)(hq:∀a,(f a).length=size:=by exactλ_=>rfl)(h0:Nat.blt 0 size=true:=by exact rfl)(hn:Nat.ble (d+1) n.k=true:=by exact rfl)(hi:0<=i/\i<l.length:=by omega):VL Tryz.prog m n B w0 ops Q (⟨some d,.indexAddr t x y,ty,pos,after,none⟩::rest) env H:=Zi T hx hy hr ht hq h0 hn hi h
theorem zs58{f:α->List Value}{l:List α}{s fl k:Nat}{x:Operand}(h:VL Tryz.prog m n B w0 ops Q rest ((d,sptr A (i*q+k))::env) H)(hx:evo env x=some (sptr A (i*q)):=by exact rfl)(hr:Rd B w0 H A (l.flatMap f):=by(exact zr;done))(hq:∀a,(f a).length=q:=by exactλ_=>rfl)(h0:Nat.blt 0 q=true:=by exact rfl)(hf:OC T.fo s fl=some k:=by exact rfl)(hn:Nat.ble (d+1) n.k=true:=by exact rfl)(hi:i<l.length:=by omega):VL Tryz.prog m n B w0 ops Q (⟨some d,.fieldAddr s x fl,ty,pos,after,none⟩::rest) env H:=Yf4 T hx hr hq h0 hf hn hi h
theorem zs59{f:α->List Value}{l:List α}{t o:Nat}{b:α}{x:Operand}(h:VL Tryz.prog m n B w0 ops Q rest ((d,v)::env) H)(hx:evo env x=some (sptr A (i*q+o)):=by exact rfl)(hr:Rd B w0 H A (l.flatMap f):=by(exact zr;done))(hb:l[i]? =some b:=by assumption)(hq:∀a,(f a).length=q:=by exactλ_=>rfl)(ho:Nat.blt o q=true:=by exact rfl)(hv:nth (f b) o=some v:=by exact rfl)(ht:look T.sc t=some ():=by exact rfl)(hn:Nat.ble (d+1) n.k=true:=by exact rfl):VL Tryz.prog m n B w0 ops Q (⟨some d,.load t x,ty,pos,after,none⟩::rest) env H:=Ycu T hx hr hb hq ho hv ht hn h
theorem zs60{f:α->List Value}{l:List α}{t:Nat}{b:α}{x:Operand}(h:VL Tryz.prog m n B w0 ops Q rest ((d,v)::env) H)(hx:evo env x=some (sptr A (i*q)):=by exact rfl)(hr:Rd B w0 H A (l.flatMap f):=by(exact zr;done))(hb:l[i]? =some b:=by assumption)(hq:∀a,(f a).length=q:=by exactλ_=>rfl)(ho:Nat.blt 0 q=true:=by exact rfl)(hv:nth (f b) 0=some v:=by exact rfl)(ht:look T.sc t=some ():=by exact rfl)(hn:Nat.ble (d+1) n.k=true:=by exact rfl):VL Tryz.prog m n B w0 ops Q (⟨some d,.load t x,ty,pos,after,none⟩::rest) env H:=Jm T hx hr hb hq ho hv ht hn h
theorem zs61{f:α->List Value}{l:List α}{t:Nat}{b:α}{x:Operand}(h:VL Tryz.prog m n B w0 ops Q rest ((d,.agg (f b).toArray)::env) H)(hx:evo env x=some (sptr A (i*q)):=by exact rfl)(hr:Rd B w0 H A (l.flatMap f):=by(exact zr;done))(hb:l[i]? =some b:=by assumption)(hq:∀a,(f a).length=q:=by exactλ_=>rfl)(ho:Nat.blt 0 q=true:=by exact rfl)(ht:look T.ag t=some q:=by exact rfl)(hn:Nat.ble (d+1) n.k=true:=by exact rfl):VL Tryz.prog m n B w0 ops Q (⟨some d,.load t x,ty,pos,after,none⟩::rest) env H:=Oa T hx hr hb hq ho ht hn h
theorem zs62{x y:Operand}{k:IntKind}{a b:Int}(h1:a<b->VL Tryz.prog m n B w0 ops Q rest ((d,.int k b)::env) H)(h2:b<=a->VL Tryz.prog m n B w0 ops Q rest ((d,.int k a)::env) H)(hx:evo env x=some (.int k a):=by exact rfl)(hy:evo env y=some (.int k b):=by exact rfl)(hn:Nat.ble (d+1) n.k=true:=by exact rfl):VL Tryz.prog m n B w0 ops Q (⟨some d,.call ⟨.builtin .max,#[x,y],tys⟩,ty,pos,after,none⟩::rest) env H:=Ylq hx hy hn h1 h2
theorem zs65(h:VQ n B w0 Q .normal env H):VL Tryz.prog none n B w0 ops Q [] env H:=YoX h
theorem zs66(h:VQ n B w0 Q .normal env H):VL Tryz.prog (some none) n B w0 ops Q [] env H:=YrN h
theorem zs68{y:Code}(h:VC Tryz.prog n B w0 y Q env H):VQ n B w0 (Exit.then (wpR Tryz.prog n.r y Q) Q) .normal env H:=Ygd h
theorem zs69{x y:Code}(h:VC Tryz.prog n B w0 x (Exit.then (wpR Tryz.prog n.r y Q) Q) env H):VC Tryz.prog n B w0 (.seq x y) Q env H:=Xi h
variable {l:List Oper}
theorem zs70(h:VL Tryz.prog none n B w0 l.toArray Q l env H):VC Tryz.prog n B w0 (.region id l.toArray false) Q env H:=YU h
theorem zs71{x y:Code}(h:VC Tryz.prog n B w0 x Q env H)(hc:evo env c=some (.bool true):=by exact rfl):VC Tryz.prog n B w0 (.cond c x y) Q env H:=YfX hc h
theorem zs72{x y:Code}(h:VC Tryz.prog n B w0 y Q env H)(hc:evo env c=some (.bool false):=by exact rfl):VC Tryz.prog n B w0 (.cond c x y) Q env H:=Yev hc h
theorem zs73{c:Code}(h:VC Tryz.prog n B w0 c (Exit.inBlock id Q) env H):VC Tryz.prog n B w0 (.block id c) Q env H:=Yhl h
theorem zs74(h:VQ n B w0 Q .ret env H):VC Tryz.prog n B w0 .ret Q env H:=YuV h
theorem zs75(h:VQ n B w0 Q (.exit id) env H):VC Tryz.prog n B w0 (.exit id) Q env H:=YrC h
theorem zs76(h:VQ n B w0 Q .normal env H):VC Tryz.prog n B w0 .skip Q env H:=YrD h
theorem zs77{K:Act->World->Prop}(h:VQ n B w0 Q .ret env H):VQ n B w0 (Exit.then K Q) .ret env H:=YhF h
theorem zs78(h:VQ n B w0 Q .ret env H):VQ n B w0 (Exit.inBlock id Q) .ret env H:=Ygb h
theorem zs79(h:VQ n B w0 Q .normal env H):VQ n B w0 (Exit.inBlock id Q) .normal env H:=Yb0 h
theorem zs80{K:Act->World->Prop}(h:VQ n B w0 Q (.exit id) env H):VQ n B w0 (Exit.then K Q) (.exit id) env H:=Yge h
theorem zs81(h:VQ n B w0 Q .normal env H):VQ n B w0 (Exit.inBlock id Q) (.exit id) env H:=Yez h
theorem zs82{id':Nat}(h:VQ n B w0 Q (.exit id') env H)(hne:Nat.beq id' id=false:=by exact rfl):VQ n B w0 (Exit.inBlock id Q) (.exit id') env H:=Ycx hne h
theorem zs83(h:VL Tryz.prog (some none) n B w0 l.toArray Q l env H)(hq:(l.all λo=>!eff o)=true:=by exact rfl)(hm:Tryz.prog.follows .mixedOrders=true:=by kernel_rfl)(hB:Region.lexB .any l.toArray=true:=by kernel_rfl):VC Tryz.prog n B w0 (.region id l.toArray true) Q env H:=YoP hq hm hB h
theorem zs84(h:VL Tryz.prog (some none) n B w0 l.toArray Q l env H)(hq:(l.all λo=>!effW o)=true:=by exact rfl)(hm:Tryz.prog.follows .mixedOrders=true:=by kernel_rfl)(hB:Region.lexB .any l.toArray=true:=by kernel_rfl):VC Tryz.prog n B w0 (.region id l.toArray true) Q env H:=YoO hq hm hB h
theorem zs87{HF:List HP}(h:VL Tryz.prog none n B w0 ops (Yhk Tryz.prog B w0 ops Q H rest) [o] env HF)(he:eff o=true:=by exact rfl)(hg:o.guard=none:=by exact rfl)(happ:App H F HF:=by(exact zp;done)):VL Tryz.prog (some (some F)) n B w0 ops Q (o::rest) env H:=YrG he hg happ h
theorem zs90{t:OT}(h:VL Tryz.prog (some (some F)) n B w0 ops (W7 Tryz.prog B w0 ops l Q H t) [o] env H)(ho:nthO l i=o:=by(simp only[nthO];rfl)):VT Tryz.prog n B w0 ops l Q (.n1 i t) env H F:=YvR ho h
theorem zs91{t u:OT}{o':Oper}(h:VL Tryz.prog (some (some F)) n B w0 ops (W7 Tryz.prog B w0 ops l Q H t) [o] env H)(h':VL Tryz.prog (some (some F)) n B w0 ops (W7 Tryz.prog B w0 ops l Q H u) [o'] env H)(ho:nthO l i=o:=by(simp only[nthO];rfl))(ho':nthO l j=o':=by(simp only[nthO];rfl)):VT Tryz.prog n B w0 ops l Q (.n2 i t j u) env H F:=YvS ho ho' h h'
theorem zs93(h:VL Tryz.prog none n B w0 ops Q l env H):VQ n B w0 (Jk Tryz.prog ops Q l) .normal env H:=Ypb h
theorem zs94(h:VQ n B w0 Q .normal env H):VQ n B w0 (Only Q) .normal env H:=YrR h
theorem zg1{m:Mode}{d:Nat}{ty:TypeId}{pos:String}{after:Array Edge}{b:Bool}(h:VL Tryz.prog m n B w0 ops Q (⟨some d,op,ty,pos,after,some (j,b)⟩::rest) env H):VL Tryz.prog m n B w0 ops Q (⟨some d,op,ty,pos,after,some (j,b)⟩::rest) env H:=h
theorem zg2{s:Nat}{x:Operand}(h:VL Tryz.prog m n B w0 ops Q (⟨some d,.fieldAddr s x f,ty,pos,after,none⟩::rest) env H):VL Tryz.prog m n B w0 ops Q (⟨some d,.fieldAddr s x f,ty,pos,after,none⟩::rest) env H:=h
theorem zg3{t:Nat}{x:Operand}(h:VL Tryz.prog m n B w0 ops Q (⟨some d,.load t x,ty,pos,after,none⟩::rest) env H):VL Tryz.prog m n B w0 ops Q (⟨some d,.load t x,ty,pos,after,none⟩::rest) env H:=h
theorem zg4{x:Operand}(h:VL Tryz.prog m n B w0 ops Q (⟨some d,.call ⟨.builtin .len,#[x],#[tx]⟩,ty,pos,after,none⟩::rest) env H):VL Tryz.prog m n B w0 ops Q (⟨some d,.call ⟨.builtin .len,#[x],#[tx]⟩,ty,pos,after,none⟩::rest) env H:=h
theorem zg5{t:Nat}{x y:Operand}(h:VL Tryz.prog m n B w0 ops Q (⟨some d,.indexAddr t x y,ty,pos,after,none⟩::rest) env H):VL Tryz.prog m n B w0 ops Q (⟨some d,.indexAddr t x y,ty,pos,after,none⟩::rest) env H:=h
theorem zg6{x y:Operand}(h:VL Tryz.prog m n B w0 ops Q (⟨some d,.pick c x y,ty,pos,after,none⟩::rest) env H):VL Tryz.prog m n B w0 ops Q (⟨some d,.pick c x y,ty,pos,after,none⟩::rest) env H:=h
theorem zg7(h:VL Tryz.prog m n B w0 ops Q (⟨some d,.binOp .eql xt x y yt,ty,pos,after,none⟩::rest) env H):VL Tryz.prog m n B w0 ops Q (⟨some d,.binOp .eql xt x y yt,ty,pos,after,none⟩::rest) env H:=h
theorem zg8(h:VL Tryz.prog m n B w0 ops Q (⟨some d,.binOp .neq xt x y yt,ty,pos,after,none⟩::rest) env H):VL Tryz.prog m n B w0 ops Q (⟨some d,.binOp .neq xt x y yt,ty,pos,after,none⟩::rest) env H:=h
theorem zg13(h:VL Tryz.prog m n B w0 ops Q (⟨some d,.binOp .add xt x y yt,ty,pos,after,none⟩::rest) env H):VL Tryz.prog m n B w0 ops Q (⟨some d,.binOp .add xt x y yt,ty,pos,after,none⟩::rest) env H:=h
theorem zg14(h:VL Tryz.prog m n B w0 ops Q (⟨some d,.binOp .sub xt x y yt,ty,pos,after,none⟩::rest) env H):VL Tryz.prog m n B w0 ops Q (⟨some d,.binOp .sub xt x y yt,ty,pos,after,none⟩::rest) env H:=h
theorem zg15(h:VL Tryz.prog m n B w0 ops Q (⟨some d,.binOp .mul xt x y yt,ty,pos,after,none⟩::rest) env H):VL Tryz.prog m n B w0 ops Q (⟨some d,.binOp .mul xt x y yt,ty,pos,after,none⟩::rest) env H:=h
theorem zg16(h:VL Tryz.prog m n B w0 ops Q (⟨some d,.binOp .quo xt x y yt,ty,pos,after,none⟩::rest) env H):VL Tryz.prog m n B w0 ops Q (⟨some d,.binOp .quo xt x y yt,ty,pos,after,none⟩::rest) env H:=h
theorem zg17(h:VL Tryz.prog m n B w0 ops Q (⟨some d,.binOp .rem xt x y yt,ty,pos,after,none⟩::rest) env H):VL Tryz.prog m n B w0 ops Q (⟨some d,.binOp .rem xt x y yt,ty,pos,after,none⟩::rest) env H:=h
theorem zg18(h:VL Tryz.prog m n B w0 ops Q (⟨some d,.binOp .shr xt x y yt,ty,pos,after,none⟩::rest) env H):VL Tryz.prog m n B w0 ops Q (⟨some d,.binOp .shr xt x y yt,ty,pos,after,none⟩::rest) env H:=h
theorem zg19(h:VL Tryz.prog m n B w0 ops Q (⟨some d,.convert src dst x,ty,pos,after,none⟩::rest) env H):VL Tryz.prog m n B w0 ops Q (⟨some d,.convert src dst x,ty,pos,after,none⟩::rest) env H:=h
theorem zg20{x:Operand}{xt:TypeId}(h:VL Tryz.prog m n B w0 ops Q (⟨some d,.unOp .not xt x,ty,pos,after,none⟩::rest) env H):VL Tryz.prog m n B w0 ops Q (⟨some d,.unOp .not xt x,ty,pos,after,none⟩::rest) env H:=h
theorem zg21{t:Nat}{x y:Operand}(h:VL Tryz.prog m n B w0 ops Q (⟨some d,.call ⟨.builtin .append,#[x,y],#[t,t]⟩,ty,pos,after,none⟩::rest) env H):VL Tryz.prog m n B w0 ops Q (⟨some d,.call ⟨.builtin .append,#[x,y],#[t,t]⟩,ty,pos,after,none⟩::rest) env H:=h
theorem zg22{t:Nat}{x y:Operand}(h:VL Tryz.prog m n B w0 ops Q (⟨none,.store t x y,ty,pos,after,none⟩::rest) env H):VL Tryz.prog m n B w0 ops Q (⟨none,.store t x y,ty,pos,after,none⟩::rest) env H:=h
theorem zg23{t:TypeId}{x:Operand}(h:VL Tryz.prog m n B w0 ops Q (⟨some d,.box t x,ty,pos,after,none⟩::rest) env H):VL Tryz.prog m n B w0 ops Q (⟨some d,.box t x,ty,pos,after,none⟩::rest) env H:=h
theorem zg24{t:TypeId}(h:VL Tryz.prog m n B w0 ops Q (⟨some d,.alloc t,ty,pos,after,none⟩::rest) env H):VL Tryz.prog m n B w0 ops Q (⟨some d,.alloc t,ty,pos,after,none⟩::rest) env H:=h
theorem zg25{t:TypeId}(h:VL Tryz.prog m n B w0 ops Q (⟨some d,.build t parts.toArray,ty,pos,after,none⟩::rest) env H):VL Tryz.prog m n B w0 ops Q (⟨some d,.build t parts.toArray,ty,pos,after,none⟩::rest) env H:=h
theorem zg26{t len:Nat}(h:VL Tryz.prog m n B w0 ops Q (⟨some d,.buildSlice t len parts.toArray,ty,pos,after,none⟩::rest) env H):VL Tryz.prog m n B w0 ops Q (⟨some d,.buildSlice t len parts.toArray,ty,pos,after,none⟩::rest) env H:=h
theorem zg27{x y:Code}(h:VC Tryz.prog n B w0 (.cond c x y) Q env H):VC Tryz.prog n B w0 (.cond c x y) Q env H:=h
theorem zg28(h:VC Tryz.prog n B w0 (.region id l.toArray true) Q env H):VC Tryz.prog n B w0 (.region id l.toArray true) Q env H:=h
theorem zg29{fn:Fn}{caps:List Operand}(h:VL Tryz.prog m n B w0 ops Q (⟨some d,.makeFunc fn #[] caps.toArray,ty,pos,after,none⟩::rest) env H):VL Tryz.prog m n B w0 ops Q (⟨some d,.makeFunc fn #[] caps.toArray,ty,pos,after,none⟩::rest) env H:=h
end
section
variable {P:Program}{m:Mode}{n:Shp}{B d:Nat}{w0:World}{ops:Array Oper}{Q:Exit->Act->World->Prop}{rest:List Oper}{env:Env}{H:List HP}{ty:TypeId}{pos:String}{after:Array Edge}
def Yaq(P:Program)(t:TypeId):Bool:=match P.underlying t with|some (.interface _)=>false|some _=>true|none=>false
variable {t elem:TypeId}{x:Operand}{v v0 r:Value}
theorem Wm(hx:evo env x=some v)(hu:Yaq P t=true)(hn:Nat.ble (d+1) n.k=true)
 (h:VL P none n B w0 ops Q rest ((d,.iface t v)::env) H):VL P none n B w0 ops Q (⟨some d,.makeInterface t x,ty,pos,after,none⟩::rest) env H:=by
 refine YeW rfl rfl hn (λa w ha hw=>⟨w,?_,hw⟩) h
 unfold Yaq at hu
 cases ht:P.underlying t with
 |none=>rw[ht]at hu;cases hu
 |some u=>
  rw[ht]at hu
  cases u<;>first|(cases hu;done)|simp[execOp,ha.eval hx,Instr.makeInterface,run_underlying ht]
theorem Ybk{xt:TypeId}(hx:evo env x=some (.iface t v))(hu:Yaq P t=true)(hn:Nat.ble (d+1) n.k=true)
 (h:VL P none n B w0 ops Q rest ((d,.tuple #[v,.bool true])::env) H):VL P none n B w0 ops Q (⟨some d,.typeAssert x xt t true,ty,pos,after,none⟩::rest) env H:=by
 refine YeW rfl rfl hn (λa w ha hw=>⟨w,?_,hw⟩) h
 unfold Yaq at hu
 cases ht:P.underlying t with
 |none=>rw[ht]at hu;cases hu
 |some u=>
  rw[ht]at hu
  cases u<;>first|(cases hu;done)|simp[execOp,ha.eval hx,Instr.typeAssert,run_underlying ht]
theorem YiU(x t:TypeId)(a:Addr)(s u:String):Builtin.ssaWrapNilChk_ #[x] t #[.pointer (some a),strVal s,strVal u]=pure (.pointer (some a)):=rfl
variable {k f:Nat}{name:String}{a:Addr}{w:World}
theorem Yd2{info:TypeInfo}{mm:Method}(hi:P.info? t=some info)(hf:info.methods.find? (λx=>x.name==name)=some mm)(hp:mm.path=#[])(hfu:mm.func=some (f,false))(hu:P.underlying t=some (.pointer elem)):
 (method (k+1) t (.pointer (some a)) name).run P w=((loadVar elem a).run P w).andThen λv w=>.ok (f,v) w:=by
 simp[method,typeInfo,hi,hf,hp,follow,hfu,receiverAt,Place.get,run_underlying hu,YiU,asAddr]
def Yuf(P:Program)(t:TypeId)(name:String)(f:Nat)(elem:TypeId):Bool:=
 match P.info? t with
 |some info=>(match info.methods.find? (λx=>x.name==name)with|some mm=>mm.path==#[]&&mm.func==some (f,false)|none=>false)&&(match P.underlying t with|some (.pointer e)=>e==elem|_=>false)
 |none=>false
theorem Ya9(h:Yuf P t name f elem=true):
 (method (k+1) t (.pointer (some a)) name).run P w=((loadVar elem a).run P w).andThen λv w=>.ok (f,v) w:=by
 unfold Yuf at h
 cases hi:P.info? t with
 |none=>rw[hi]at h;cases h
 |some info=>
  rw[hi]at h
  simp only[To]at h
  obtain⟨h1,h2⟩:=h
  cases hf:info.methods.find? (λx=>x.name==name)with
  |none=>rw[hf]at h1;cases h1
  |some mm=>
   rw[hf]at h1
   simp only[To,NG]at h1
   cases hu:P.underlying t with
   |none=>rw[hu]at h2;cases h2
   |some d=>
    rw[hu]at h2
    cases d<;>first|(cases h2;done)|skip
    simp only[NG]at h2
    subst h2
    exact Yd2 hi hf h1.1 h1.2 hu
variable {args:List Operand}{tys:Array TypeId}{vs:List Value}
theorem Jl(Φ:Value->List HP->Prop)(hx:evo env x=some (.iface t v0))
 (hm:∀w,St B w0 H w->(method (P.types.size+Made.depth) t v0 name).run P w=.ok (f,r) w)
 (hc:∀xs w,(callFunc f xs).run P w=.ok (.enter f xs) w) (hargs:Args env args vs) (hn:Nat.ble (d+1) n.k=true)
 (hcall:∀w,St B w0 H w->Calls P f (r::vs).toArray w (Post B w0 Φ))
 (h:∀v H',Φ v H'->VL P none n B w0 ops Q rest ((d,v)::env) H'):
 VL P none n B w0 ops Q (⟨some d,.call ⟨.invoke x name,args.toArray,tys⟩,ty,pos,after,none⟩::rest) env H:=by
 refine⟨λa ha w hw=>wpList_plain rfl λK hK=>?_⟩
 unfold Oper.wp
 have hmap:args.toArray.map a.eval=vs.toArray:=by rw[NQ,UE ha _ _ hargs]
 have hrun:(execOp a.eval ⟨some d,.call ⟨.invoke x name,args.toArray,tys⟩,ty,pos,after,none⟩).run P w=.ok (.enter f (r::vs).toArray) w:=by
  simp only[execOp,resolve,ha.eval hx,hmap,Sem.run_bind,Sem.run_pure,Result.andThen_ok,invoke]
  have e1:(#[Value.iface t v0]++vs.toArray)[0]? =some (.iface t v0):=by simp
  have e2:(#[Value.iface t v0]++vs.toArray).extract 1 (#[Value.iface t v0]++vs.toArray).size=vs.toArray:=by simp
  have e3:#[r]++vs.toArray=(r::vs).toArray:=by simp
  simp only[e1,e2,callMethod,Sem.run_bind,run_program,hm w hw,Result.andThen_ok,e3,hc]
 rw[hrun,Oper.upon_enter]
 refine(hcall w hw).mono ?_
 rintro e w' ⟨v,H',rfl,hst,hΦ⟩
 exact hK _ _ ((h v H' hΦ).run _ (ha.put (Ri hn) v) _ hst)
theorem Xj(hx:evo env x=some (.iface t v0))
 (hm:∀w,St B w0 H w->(method (P.types.size+Made.depth) t v0 name).run P w=.ok (f,r) w)
 (hc:∀xs w,(callFunc f xs).run P w=.ok (.enter f xs) w) (hargs:Args env args vs) (hn:Nat.ble (d+1) n.k=true)
 (hcall:∀w,St B w0 H w->Calls P f (r::vs).toArray w (Post B w0 λu K=>u=v/\K=H))
 (h:VL P none n B w0 ops Q rest ((d,v)::env) H):
 VL P none n B w0 ops Q (⟨some d,.call ⟨.invoke x name,args.toArray,tys⟩,ty,pos,after,none⟩::rest) env H:=
 Jl _ hx hm hc hargs hn hcall (by rintro _ _ ⟨rfl,rfl⟩;exact h)
end
section
variable {P:Program}{n:Shp}{B:Nat}{w0:World}{ops:Array Oper}{Q:Exit->Act->World->Prop}{rest:List Oper}{env:Env}{H:List HP}
variable {S:World->Prop}{last:List Nat}{i:Nat}{oi:Oper}{v:Value}
theorem YeT(hi:ops[i]? =some oi)(hsel:∀(j:Nat) (o:Oper) cs b,ops[j]? =some o->o.op≠.select cs b)
 (hQ:∀c (a:Act) (w:World),¬Q (.panic c) a w) (hil:last.contains i=true):
 ∀(fuel:Nat) (listed:Array Bool) (a:Act) (w:World),Closed ops listed->
  (∀j oj,ops[j]? =some oj->j≠i->listed.getD j true=false->(∀e∈oj.after,Region.binds .any e=true->e.on≠i)->oi.apart ops oj=true)->
  i∈Region.ready .any ops listed->YieldsIf P ops (λ_=>True) oi v a->
  Zh P ops Q S last fuel (listed.setIfInBounds i true) (a.put oi.dst v) w->Zh P ops Q S last (fuel+1) listed a w:=by
 intro fuel
 have hno:¬last.contains i=false:=by simp_all
 induction fuel with
 |zero=>
  intro listed a w _ _ hr hy H
  refine⟨λh=>(by simp_all),λj hj=>?_⟩
  by_cases hji:j=i
  ·exact YuK
  exact zc54
 |succ fuel ih=>
  intro listed a w hcl hfree hr hy H
  refine⟨λh=>(by grind),λj hj=>?_⟩
  by_cases hji:j=i
  ·exact YuK
  ·have h1:=H.2 j (ready_mono hj hji)
   obtain⟨hjun,oj,hoj,hall⟩:=mem_ready.1 hj
   have hun:=(mem_ready.1 hr).1
   have hun':listed.getD i false=false:=zc30
   have hnot:∀e∈oj.after,Region.binds .any e=true->e.on≠i:=by grind
   have h2:=wpOp_putIf hoj (hfree j oj hoj hji hjun hnot) (λcs b=>hsel i oi cs b hi) (λcs b=>hsel j oj cs b hoj) (λc a w h=>(hQ c _ w h).elim) hy h1
   have hfree':∀k ok,ops[k]? =some ok->k≠i->(listed.setIfInBounds j true).getD k true=false->
    (∀e∈ok.after,Region.binds .any e=true->e.on≠i)->oi.apart ops ok=true:=λk ok hk hki hu hno=>by
    exact zc22
   refine wpOp_mono (λa' w' h3=>⟨h3.2.1,ih (listed.setIfInBounds j true) a' w' (hcl.set hj) hfree' (ready_mono hr (NM hji)) h3.1 ?_⟩) h2
   exact zc46
theorem YeS(hi:ops[i]? =some oi)(hsel:∀(j:Nat) (o:Oper) cs b,ops[j]? =some o->o.op≠.select cs b)
 (hQ:∀c (a:Act) (w:World),¬Q (.panic c) a w) (hil:last.contains i=false):
 ∀(fuel:Nat) (listed:Array Bool) (a:Act) (w:World),Closed ops listed->(∀j,last.contains j=true->listed.getD j false=true\/∃f,ancB ops f j i=true)->
  (∀j oj,ops[j]? =some oj->j≠i->listed.getD j true=false->(∀e∈oj.after,Region.binds .any e=true->e.on≠i)->oi.apart ops oj=true)->
  i∈Region.ready .any ops listed->YieldsIf P ops S oi v a->S w->
  Zh P ops Q S last fuel (listed.setIfInBounds i true) (a.put oi.dst v) w->Zh P ops Q S last (fuel+1) listed a w:=by
 intro fuel
 induction fuel with
 |zero=>
  intro listed a w _ _ _ hr hy hS H
  refine⟨λh=>(by simp_all),λj hj=>?_⟩
  by_cases hji:j=i
  ·exact zc82
  exact zc54
 |succ fuel ih=>
  intro listed a w hcl hlast hfree hr hy hS H
  refine⟨λh=>(by grind),λj hj=>?_⟩
  by_cases hji:j=i
  ·exact zc82
  ·have h1:=H.2 j (ready_mono hj hji)
   obtain⟨hjun,oj,hoj,hall⟩:=mem_ready.1 hj
   have hun:=(mem_ready.1 hr).1
   have hun':listed.getD i false=false:=zc30
   have hnl:last.contains j=false:=by
    cases hc:last.contains j with
    |false=>rfl
    |true=>
     exact zc26
   have hnot:∀e∈oj.after,Region.binds .any e=true->e.on≠i:=by grind
   have h2:=wpOp_putIf hoj (hfree j oj hoj hji hjun hnot) (λcs b=>hsel i oi cs b hi) (λcs b=>hsel j oj cs b hoj) (λc a w h=>(hQ c _ w h).elim) hy h1
   have hfree':∀k ok,ops[k]? =some ok->k≠i->(listed.setIfInBounds j true).getD k true=false->
    (∀e∈ok.after,Region.binds .any e=true->e.on≠i)->oi.apart ops ok=true:=λk ok hk hki hu hno=>by
    exact zc22
   refine wpOp_mono (λa' w' h3=>⟨λ_=>h3.2.1 hnl,ih (listed.setIfInBounds j true) a' w' (hcl.set hj) (λk hk=>?_) hfree' (ready_mono hr (NM hji)) h3.1 (h3.2.1 hnl) ?_⟩) h2
   ·exact zc40
   ·exact zc46
def Yks(o:Oper):Bool:=match o.op with|.move _=>true|.extract _ _=>true|_=>false
theorem YnY{o:Oper}{a:Act}{w:World}(hm:Yks o=true)(hy:YieldsIf P ops S o v a)(hS:S w):YieldsIf P ops (λ_=>True) o v a:=by
 rcases hy with⟨h1,h2⟩|h
 ·refine .inl ⟨h1,λw' _=>?_⟩
  have h3:=h2 w hS
  unfold Yks at hm
  cases hop:o.op<;>rw[hop]at hm<;>first|(cases hm;done)|skip
  ·grind [execOp,Go.Sem.run_pure]
  ·rename_i x k
   simp only[execOp,hop,Instr.extract]at h3⊢
   revert h3
   split
   ·rename_i vs _
    cases hk:vs[k]? with
    |none=>simp
    |some u=>simp
   simp_all
 ·exact .inr h
def YgN(ops:Array Oper)(last tail:List Nat):List Nat->Array Bool->Bool
 |[],listed=>Vx ops tail listed
 |i::rest,listed=>
  (match ops[i]? with
   |some o=>
    if last.contains i then Yks o&&!eff o&&(Region.ready .any ops listed).contains i&&Region.free .any ops listed i
    else if eff o then decide (Region.ready .any ops listed=[i])
    else(Region.ready .any ops listed).contains i&&Region.free .any ops listed i&&last.all λj=>listed.getD j false||ancB ops ops.size j i
   |none=>false)&&YgN ops last tail rest (listed.setIfInBounds i true)
theorem Vm{S:World->Prop}{last tail:List Nat}(hs:Region.noSelect ops=true)(hQ:∀c (a:Act) (w:World),¬Q (.panic c) a w)(hlo:¬LetsOut Q)(l:List Oper)(hl:ops=l.toArray)(htl:∀j∈tail,last.contains j=true)(hex:∀j,last.contains j=true->∃o,ops[j]? =some o):
 ∀(o1:List Nat) (listed:Array Bool) (a:Act) (w:World),Closed ops listed->YgN ops last tail o1 listed=true->S w->Yv P ops (Jk P ops Q (Yg l tail)) S (Yg l o1) a w->
  Zh P ops Q S last (o1++tail).length listed a w
 |[],listed,a,w,_,hB,_,h=>Ju l hl hex hlo tail listed a w htl hB h
 |i::rest,listed,a,w,hcl,hB,hS,h=>by
  simp only[YgN,To]at hB
  obtain⟨h1,h2⟩:=hB
  cases ho:ops[i]? with
  |none=>simp_all
  |some o=>
   rw[ho]at h1
   have hget:nthO l i=o:=Xw hl ho
   simp only[Yg,hget]at h
   by_cases hla:last.contains i=true
   ·simp only[hla,NF,To,RO]at h1
    obtain⟨⟨⟨h1,he⟩,h3⟩,h4⟩:=h1
    unfold Yv at h
    rw[Td (by simp_all)]at h
    obtain⟨v,hy,h5⟩:=h
    have hr:i∈Region.ready .any ops listed:=by simp_all
    exact YeT ho (Region.noSelect_spec hs) hQ hla _ listed a w hcl (Region.free_spec ho h4) hr (YnY h1 hy hS) (Vm hs hQ hlo l hl htl hex rest _ _ w (hcl.set hr) h2 hS h5)
   ·have hla':last.contains i=false:=SD.2 hla
    simp only[hla',SO,Mc]at h1
    by_cases he:eff o=true
    ·simp only[he,NF,Tt]at h1
     unfold Yv at h
     rw[Tm he]at h
     refine⟨λh0=>(by rw[h1]at h0;cases h0),λk hk=>?_⟩
     have hk':=hk
     rw[h1]at hk
     obtain rfl:k=i:=by simpa using hk
     unfold wpOp
     simp only[ho]
     by_cases hw:Region.wanted o (yielded ops a.tmps)=true
     ·rw[Tm hw]at h⊢
      refine .inl (Oper.wp_mono_noQ' (λc a w h=>by cases h) (Oper.wp_mono (λa' w' h'=>⟨λ_=>h'.1,Vm hs hQ hlo l hl htl hex rest _ a' w' (hcl.set hk') h2 h'.1 h'.2⟩) h))
     ·rw[Td hw]at h⊢
      exact⟨λ_=>hS,Vm hs hQ hlo l hl htl hex rest _ _ w (hcl.set hk') h2 hS h⟩
    ·simp only[he,SO,Mc,To]at h1
     obtain⟨⟨h3,h4⟩,h6⟩:=h1
     unfold Yv at h
     rw[Td he]at h
     obtain⟨v,hy,h5⟩:=h
     have hr:i∈Region.ready .any ops listed:=by simpa using h3
     refine YeS ho (Region.noSelect_spec hs) hQ hla' _ listed a w hcl (λj hj=>?_) (Region.free_spec ho h4) hr hy hS (Vm hs hQ hlo l hl htl hex rest _ _ w (hcl.set hr) h2 hS h5)
     exact zc65
theorem UR{id:Nat}{l:List Oper}(o1 last tail:List Nat)(mask:List Bool){Hc F:List HP}(hm:P.follows .mixedOrders=true)
 (hB:(Region.noSelect l.toArray&&decide ((o1++tail).length=l.toArray.size)&&(tail.all λj=>last.contains j)&&(last.all λj=>decide (j<l.toArray.size))&&YgN l.toArray last tail o1 (Array.replicate l.toArray.size false))=true)
 (hsp:Split mask H Hc F) {l1 l2:List Oper}(hl1:Yg l o1=l1) (hl2:Yg l tail=l2) (h:VL P (some (some F)) n B w0 l.toArray (Jk P l.toArray (Only Q) l2) l1 env Hc):VC P n B w0 (.region id l.toArray true) Q env H:=by
 simp only[To,Tt]at hB
 obtain⟨⟨⟨⟨h1,h2⟩,h3⟩,h4⟩,h5⟩:=hB
 refine⟨λa w ha hw=>Jf (Q:=Only Q) ?_ λe a w h=>by exact Ymz⟩
 have hst:St B w0 (Hc++F) w.drew:=(hw.perm (XN hsp)).drew
 have hr:Yv P l.toArray (Jk P l.toArray (Only Q) l2) (St B w0 Hc) l1 a w.drew:=h.run a ha w.drew hst
 rw[<-hl1,<-hl2]at hr
 have:=Vm (S:=St B w0 Hc) h1 (λc a w h=>h) zc73 l rfl (λj hj=>T8.1 h3 j hj) (λj hj=>⟨_,Array.getElem?_eq_getElem (by
  simp_all)⟩) o1 _ a w.drew (XU _ _) h5 hst.prefix_ hr
 grind [VR,ZT]
end
section
variable {P:Program}{m:Mode}{n:Shp}{B d:Nat}{w0:World}{ops:Array Oper}{Q:Exit->Act->World->Prop}{rest:List Oper}{env:Env}{H:List HP}{ty:TypeId}{pos:String}{after:Array Edge}
theorem Yji{α:Type}(l cs:List α)(o k:Nat)(h:o+cs.length<=k)(hk:k<=l.length):(l.take o++cs++l.drop (o+cs.length)).take k=(l.take k).take o++cs++(l.take k).drop (o+cs.length):=by
 have hA:(l.take o++cs).length=o+cs.length:=by rw[Tq,TA];omega
 rw[S8,hA,TL (by omega),List.take_take,RU (by omega),List.drop_take]
variable {g o cap:Nat}
theorem Yos(h:cap≠o):subA (some ⟨g,0,none⟩) o cap 1=some ⟨g,o,none⟩:=by
 unfold subA
 rw[Td h,Sv,Addr.add_lit,RH,Nr]
theorem Ylo(T:Tab P){t e bytes k kd cd mm c2:Nat}{x y:Operand}{A2:Option Addr}{xs ys:List Value}{K:List HP}(hx:evo env x=some (.slice (some ⟨g,o,none⟩) kd cd))(hy:evo env y=some (.slice A2 mm c2))(hr:Rd B w0 H A2 ys)
 (hu:Upd (sl e 1 (some ⟨g,0,none⟩) k cap xs) (sl e 1 (some ⟨g,0,none⟩) k cap (xs.take o++ys.take (min mm kd)++xs.drop (o+min mm kd))) H K) (ht:look T.sl t=some (e,1,bytes)) (hn:Nat.ble (d+1) n.k=true) (h1:∀v∈ys,v.oneCell'=true) (hb:o+kd<=k/\min mm kd<=ys.length/\0<min mm kd)
 (h:VL P none n B w0 ops Q rest ((d,.int .i64 (min mm kd:Nat))::env) K):
 VL P none n B w0 ops Q (⟨some d,.call ⟨.builtin .copy,#[x,y],#[t,t]⟩,ty,pos,after,none⟩::rest) env H:=by
 obtain⟨hut,inf,z,hi,hz,hzs,hsi,hbi,hs0,hb0⟩:=YE (T.slic ht)
 refine XA (λv K'=>v=.int .i64 (min mm kd:Nat)/\K'=K) rfl rfl hn (λa w ha hw=>?_) (by rintro _ _ ⟨rfl,rfl⟩;exact h)
 have hmem:sl e 1 (some ⟨g,0,none⟩) k cap xs∈H:=by
  obtain⟨L1,L2,rfl,_⟩:=hu
  simp
 rcases Z5 (hw.sl hmem)with⟨e0,_⟩|⟨g',cur,e0,g1,g2,g3,g4,g5,g6⟩
 ·cases e0
 injection e0 with e0
 injection e0 with e0
 subst e0
 rw[Nr]at g4 g5 g6
 have hcl:(ys.take (min mm kd)).length=min mm kd:=by rw[TA];omega
 have hsome:∃a2,A2=some a2/\∀j v,(ys.take (min mm kd))[j]? =some v->w.cell? (a2.add j)=some v:=by
  have h0:ys[0]? =some (ys[0]'(by omega)):=Ta (by omega)
  obtain⟨g2',o2,rfl,_⟩:=hr w hw 0 _ h0
  refine⟨_,rfl,λj v hj=>?_⟩
  rw[Sl]at hj
  by_cases hjm:j<min mm kd
  ·rw[Tm hjm]at hj
   obtain⟨g3',o3,e3,hc⟩:=hr w hw j v hj
   injection e3 with e3
   injection e3 with e3 e4
   subst e3 e4
   rw[Addr.add_lit];exact hc
  ·rw[Td hjm]at hj;cases hj
 obtain⟨a2,rfl,hsrc⟩:=hsome
 have hrun:=run_copy_row (P:=P) w t t ty e g o kd cd a2 mm c2 cur e (ys.take (min mm kd)) hut (by rw[hi];simp[hsi]) g1 hcl hsrc (by rw[hcl];omega) (λv hv=>h1 v (SU hv))
 refine⟨_,K,_,?_,hw.storeRow (k':=k) (o:=o) (vs:=ys.take (min mm kd)) hu rfl g1 (by rw[Nr];exact g4) g2 g3 (by rw[hcl];omega) ?_ ?_,rfl,rfl⟩
 ·simp only[execOp,resolve,invoke,builtin]
  have hmap:#[x,y].map a.eval=#[.slice (some ⟨g,o,none⟩) kd cd,.slice (some a2) mm c2]:=by simp[ha.eval hx,ha.eval hy]
  simp only[hmap,Sem.run_bind,Sem.run_pure,Result.andThen_ok]
  rw[hrun]
  simp[goInt,hcl]
 ·rw[hcl,Nr,<-g5]
  have:=Yji cur.toList (ys.take (min mm kd)) o k (by rw[hcl];omega) (by rw[NU];omega)
  rw[hcl]at this
  exact this
 ·rw[Tq,Tq,hcl,TA,TZ]
  omega
end
section
variable {P:Program}{n:Shp}{B:Nat}{w0:World}{ops:Array Oper}{Q:Exit->Act->World->Prop}{rest:List Oper}{env:Env}{H:List HP}
def Qe(P:Program)(ops:Array Oper)(Q:Exit->Act->World->Prop)(S:World->Prop)(l:List Oper):Exit->Act->World->Prop
 |.normal,a,w=>S w/\Yv P ops Q S l a w
 |e,a,w=>Q e a w
theorem Ypa{F H':List HP}{Hc:List HP}(hp:Pull Hc H' F)(h:VL P (some (some F)) n B w0 ops Q rest env Hc):VQ n B w0 (Qe P ops Q (St B w0 Hc) rest) .normal env H':=
 ⟨λa w ha hw=>⟨(hw.perm hp).prefix_,h.run a ha w (hw.perm hp)⟩⟩
variable {S S2:World->Prop}{l:List Oper}
theorem Oper.wp_tailH{o:Oper}{a:Act}{w:World}{K:Act->World->Prop}(h:o.wp P a w K (Qe P ops Q S l)):o.wp P a w K Q:=by
 unfold Oper.wp at h⊢
 generalize(execOp a.eval o).run P w=r at*
 cases r with
 |ok nx w'=>
  exact zc32
 |halt x w'=>
  exact h
def WN(P:Program)(ops:Array Oper)(Q:Exit->Act->World->Prop)(S S2:World->Prop)(last:List Nat):Nat->Array Bool->Act->World->Prop
 |0,listed,a,w=>Region.ready .any ops listed=[]/\Q .normal a w
 |fuel+1,listed,a,w=>
  (Region.ready .any ops listed=[]->Q .normal a w)/\
  ∀i∈Region.ready .any ops listed,wpOp P ops Q i (λa' w'=>((last.contains i=false->S w')/\S2 w')/\WN P ops Q S S2 last fuel (listed.setIfInBounds i true) a' w') a w
theorem Yeq{S S2:World->Prop}{last:List Nat}:∀(fuel:Nat) (listed:Array Bool) (a:Act) (w:World),WN P ops Q S S2 last fuel listed a w->wpAny P .any ops Q fuel listed a w
 |0,_,_,_,h=>h
 |fuel+1,_,_,_,h=>⟨h.1,λi hi=>wpOp_mono (λa' w' h'=>Yeq fuel _ a' w' h'.2) (h.2 i hi)⟩
variable {last:List Nat}{i:Nat}{oi:Oper}{v:Value}
theorem YjB(hi:ops[i]? =some oi)(hsel:∀(j:Nat) (o:Oper) cs b,ops[j]? =some o->o.op≠.select cs b)
 (hQ:∀c (a:Act) (w:World),¬Q (.panic c) a w) (hil:last.contains i=true):
 ∀(fuel:Nat) (listed:Array Bool) (a:Act) (w:World),Closed ops listed->
  (∀j oj,ops[j]? =some oj->j≠i->listed.getD j true=false->(∀e∈oj.after,Region.binds .any e=true->e.on≠i)->oi.apart ops oj=true)->
  i∈Region.ready .any ops listed->YieldsIf P ops S2 oi v a->S2 w->
  WN P ops Q S S2 last fuel (listed.setIfInBounds i true) (a.put oi.dst v) w->WN P ops Q S S2 last (fuel+1) listed a w:=by
 intro fuel
 have hno:¬last.contains i=false:=by simp_all
 induction fuel with
 |zero=>
  intro listed a w _ _ hr hy hS H
  refine⟨λh=>(by simp_all),λj hj=>?_⟩
  by_cases hji:j=i
  ·exact YuF
  exact zc54
 |succ fuel ih=>
  intro listed a w hcl hfree hr hy hS H
  refine⟨λh=>(by grind),λj hj=>?_⟩
  by_cases hji:j=i
  ·exact YuF
  ·have h1:=H.2 j (ready_mono hj hji)
   obtain⟨hjun,oj,hoj,hall⟩:=mem_ready.1 hj
   have hun:=(mem_ready.1 hr).1
   have hnot:∀e∈oj.after,Region.binds .any e=true->e.on≠i:=by grind
   have h2:=wpOp_putIf hoj (hfree j oj hoj hji hjun hnot) (λcs b=>hsel i oi cs b hi) (λcs b=>hsel j oj cs b hoj) (λc a w h=>(hQ c _ w h).elim) hy h1
   have hfree':∀k ok,ops[k]? =some ok->k≠i->(listed.setIfInBounds j true).getD k true=false->
    (∀e∈ok.after,Region.binds .any e=true->e.on≠i)->oi.apart ops ok=true:=λk ok hk hki hu hno=>by
    exact zc22
   refine wpOp_mono (λa' w' h3=>⟨h3.2.1,ih (listed.setIfInBounds j true) a' w' (hcl.set hj) hfree' (ready_mono hr (NM hji)) h3.1 h3.2.1.2 ?_⟩) h2
   exact zc46
theorem Yhi(hSS:∀w,S w->S2 w)(hi:ops[i]? =some oi)(hsel:∀(j:Nat) (o:Oper) cs b,ops[j]? =some o->o.op≠.select cs b)
 (hQ:∀c (a:Act) (w:World),¬Q (.panic c) a w) (hil:last.contains i=false):
 ∀(fuel:Nat) (listed:Array Bool) (a:Act) (w:World),Closed ops listed->(∀j,last.contains j=true->listed.getD j false=true\/∃f,ancB ops f j i=true)->
  (∀j oj,ops[j]? =some oj->j≠i->listed.getD j true=false->(∀e∈oj.after,Region.binds .any e=true->e.on≠i)->oi.apart ops oj=true)->
  i∈Region.ready .any ops listed->YieldsIf P ops S oi v a->S w->
  WN P ops Q S S2 last fuel (listed.setIfInBounds i true) (a.put oi.dst v) w->WN P ops Q S S2 last (fuel+1) listed a w:=by
 intro fuel
 induction fuel with
 |zero=>
  intro listed a w _ _ _ hr hy hS H
  refine⟨λh=>(by simp_all),λj hj=>?_⟩
  by_cases hji:j=i
  ·exact YuJ
  exact zc54
 |succ fuel ih=>
  intro listed a w hcl hlast hfree hr hy hS H
  refine⟨λh=>(by grind),λj hj=>?_⟩
  by_cases hji:j=i
  ·exact YuJ
  ·have h1:=H.2 j (ready_mono hj hji)
   obtain⟨hjun,oj,hoj,hall⟩:=mem_ready.1 hj
   have hun:=(mem_ready.1 hr).1
   have hun':listed.getD i false=false:=zc30
   have hnl:last.contains j=false:=by
    cases hc:last.contains j with
    |false=>rfl
    |true=>
     exact zc26
   have hnot:∀e∈oj.after,Region.binds .any e=true->e.on≠i:=by grind
   have h2:=wpOp_putIf hoj (hfree j oj hoj hji hjun hnot) (λcs b=>hsel i oi cs b hi) (λcs b=>hsel j oj cs b hoj) (λc a w h=>(hQ c _ w h).elim) hy h1
   have hfree':∀k ok,ops[k]? =some ok->k≠i->(listed.setIfInBounds j true).getD k true=false->
    (∀e∈ok.after,Region.binds .any e=true->e.on≠i)->oi.apart ops ok=true:=λk ok hk hki hu hno=>by
    exact zc22
   refine wpOp_mono (λa' w' h3=>⟨h3.2.1,ih (listed.setIfInBounds j true) a' w' (hcl.set hj) (λk hk=>?_) hfree' (ready_mono hr (NM hji)) h3.1 (h3.2.1.1 hnl) ?_⟩) h2
   ·exact zc40
   ·exact zc46
theorem UH{S S2:World->Prop}{last:List Nat}(l:List Oper)(hl:ops=l.toArray)(hef:∀j,last.contains j=true->∃o,ops[j]? =some o):
 ∀(o2:List Nat) (listed:Array Bool) (a:Act) (w:World),(∀j∈o2,last.contains j=true)->Vx ops o2 listed=true->S2 w->Yv P ops Q S2 (Yg l o2) a w->WN P ops Q S S2 last o2.length listed a w
 |[],listed,a,w,_,hB,_,h=>⟨by grind [Vx],h⟩
 |i::rest,listed,a,w,hin,hB,hS,h=>by
  simp only[Vx,To,Tt]at hB
  obtain⟨h1,h2⟩:=hB
  obtain⟨o,ho⟩:=hef i (hin i (by simp))
  have hget:nthO l i=o:=Xw hl ho
  simp only[Yg,hget]at h
  unfold Yv at h
  refine⟨λh0=>(by simp_all),λk hk=>?_⟩
  obtain rfl:k=i:=by simp_all
  have hf:¬last.contains k=false:=by simp_all
  have hin':∀j∈rest,last.contains j=true:=by simp_all
  by_cases he:eff o=true
  ·rw[Tm he]at h
   unfold wpOp
   simp only[ho]
   by_cases hw:Region.wanted o (yielded ops a.tmps)=true
   ·rw[Tm hw]at h⊢
    exact .inl (Oper.wp_mono (λa' w' h'=>⟨⟨λh=>absurd h hf,h'.1⟩,UH l hl hef rest _ a' w' hin' h2 h'.1 h'.2⟩) h)
   ·rw[Td hw]at h⊢
    exact⟨⟨λh=>absurd h hf,hS⟩,UH l hl hef rest _ _ w hin' h2 hS h⟩
  ·rw[Td he]at h
   obtain⟨v,hy,h3⟩:=h
   exact hy.wpOp ho hS ⟨⟨λh=>absurd h hf,hS⟩,UH l hl hef rest _ _ w hin' h2 hS h3⟩
def Ych(ops:Array Oper)(last tail:List Nat):List Nat->Array Bool->Bool
 |[],listed=>Vx ops tail listed
 |i::rest,listed=>
  (match ops[i]? with
   |some o=>
    !last.contains i&&(if eff o then decide (Region.ready .any ops listed=[i])
    else(Region.ready .any ops listed).contains i&&Region.free .any ops listed i&&last.all λj=>listed.getD j false||ancB ops ops.size j i)
   |none=>false)&&Ych ops last tail rest (listed.setIfInBounds i true)
def YgP(ops:Array Oper)(last tail o1:List Nat):List Nat->Array Bool->Bool
 |[],listed=>Ych ops last tail o1 listed
 |i::rest,listed=>
  (match ops[i]? with
   |some o=>last.contains i&&!eff o&&(Region.ready .any ops listed).contains i&&Region.free .any ops listed i
   |none=>false)&&YgP ops last tail o1 rest (listed.setIfInBounds i true)
theorem VN{S S2:World->Prop}(hSS:∀w,S w->S2 w){last tail:List Nat}(hs:Region.noSelect ops=true)(hQ:∀c (a:Act) (w:World),¬Q (.panic c) a w)(l:List Oper)(hl:ops=l.toArray)(htl:∀j∈tail,last.contains j=true)(hex:∀j,last.contains j=true->∃o,ops[j]? =some o):
 ∀(o1:List Nat) (listed:Array Bool) (a:Act) (w:World),Closed ops listed->Ych ops last tail o1 listed=true->S w->Yv P ops (Qe P ops Q S2 (Yg l tail)) S (Yg l o1) a w->
  WN P ops Q S S2 last (o1++tail).length listed a w
 |[],listed,a,w,_,hB,hS,h=>by
  have h':S2 w/\Yv P ops Q S2 (Yg l tail) a w:=h
  exact UH l hl hex tail listed a w htl hB h'.1 h'.2
 |i::rest,listed,a,w,hcl,hB,hS,h=>by
  simp only[Ych,To]at hB
  obtain⟨h1,h2⟩:=hB
  cases ho:ops[i]? with
  |none=>simp_all
  |some o=>
   rw[ho]at h1
   have hget:nthO l i=o:=Xw hl ho
   simp only[Yg,hget]at h
   simp only[To,RO]at h1
   obtain⟨hla',h1⟩:=h1
   by_cases he:eff o=true
   ·simp only[he,NF,Tt]at h1
    unfold Yv at h
    rw[Tm he]at h
    refine⟨λh0=>(by simp_all),λk hk=>?_⟩
    have hk':=hk
    rw[h1]at hk
    obtain rfl:k=i:=by simp_all
    unfold wpOp
    simp only[ho]
    by_cases hw:Region.wanted o (yielded ops a.tmps)=true
    ·rw[Tm hw]at h⊢
     refine .inl (Oper.wp_tailH (Oper.wp_mono (λa' w' h'=>⟨⟨λ_=>h'.1,hSS _ h'.1⟩,VN hSS hs hQ l hl htl hex rest _ a' w' (hcl.set hk') h2 h'.1 h'.2⟩) h))
    ·rw[Td hw]at h⊢
     exact⟨⟨λ_=>hS,hSS _ hS⟩,VN hSS hs hQ l hl htl hex rest _ _ w (hcl.set hk') h2 hS h⟩
   ·simp only[he,SO,Mc,To]at h1
    obtain⟨⟨h3,h4⟩,h6⟩:=h1
    unfold Yv at h
    rw[Td he]at h
    obtain⟨v,hy,h5⟩:=h
    have hr:i∈Region.ready .any ops listed:=by simpa using h3
    refine Yhi hSS ho (Region.noSelect_spec hs) hQ hla' _ listed a w hcl (λj hj=>?_) (Region.free_spec ho h4) hr hy hS (VN hSS hs hQ l hl htl hex rest _ _ w (hcl.set hr) h2 hS h5)
    exact zc65
theorem YbA{S S2:World->Prop}(hSS:∀w,S w->S2 w){last tail o1:List Nat}(hs:Region.noSelect ops=true)(hQ:∀c (a:Act) (w:World),¬Q (.panic c) a w)(l:List Oper)(hl:ops=l.toArray)(htl:∀j∈tail,last.contains j=true)(hex:∀j,last.contains j=true->∃o,ops[j]? =some o):
 ∀(oA:List Nat) (listed:Array Bool) (a:Act) (w:World),Closed ops listed->YgP ops last tail o1 oA listed=true->S2 w->Yv P ops (Qe P ops (Qe P ops Q S2 (Yg l tail)) S (Yg l o1)) S2 (Yg l oA) a w->
  WN P ops Q S S2 last (oA++(o1++tail)).length listed a w
 |[],listed,a,w,hcl,hB,_,h=>by
  have h':S w/\Yv P ops (Qe P ops Q S2 (Yg l tail)) S (Yg l o1) a w:=h
  exact VN hSS hs hQ l hl htl hex o1 listed a w hcl hB h'.1 h'.2
 |i::rest,listed,a,w,hcl,hB,hS,h=>by
  simp only[YgP,To]at hB
  obtain⟨h1,h2⟩:=hB
  cases ho:ops[i]? with
  |none=>simp_all
  |some o=>
   rw[ho]at h1
   have hget:nthO l i=o:=Xw hl ho
   simp only[Yg,hget]at h
   simp only[To,RO]at h1
   obtain⟨⟨⟨hla,he⟩,h3⟩,h4⟩:=h1
   unfold Yv at h
   rw[Td (by simp_all)]at h
   obtain⟨v,hy,h5⟩:=h
   have hr:i∈Region.ready .any ops listed:=by simp_all
   exact YjB ho (Region.noSelect_spec hs) hQ hla _ listed a w hcl (Region.free_spec ho h4) hr hy hS (YbA hSS hs hQ l hl htl hex rest _ _ w (hcl.set hr) h2 hS h5)
theorem YoQ{id:Nat}(oA o1 tail:List Nat)(maskA maskB:List Bool){HA FA HB FB:List HP}(hm:P.follows .mixedOrders=true)
 (hB:(Region.noSelect l.toArray&&decide ((oA++(o1++tail)).length=l.toArray.size)&&((oA++tail).all λj=>decide (j<l.toArray.size))&&YgP l.toArray (oA++tail) tail o1 oA (Array.replicate l.toArray.size false))=true)
 (hspA:Split maskA H HA FA) (_hspB:Split maskB H HB FB) (hsub:∀w,St B w0 HB w->St B w0 HA w) {lA l1 l2:List Oper}(hlA:Yg l oA=lA) (hl1:Yg l o1=l1) (hl2:Yg l tail=l2)
 (h:VL P (some (some FA)) n B w0 l.toArray (Qe P l.toArray (Qe P l.toArray (Only Q) (St B w0 HA) l2) (St B w0 HB) l1) lA env HA):VC P n B w0 (.region id l.toArray true) Q env H:=by
 simp only[To,Tt]at hB
 obtain⟨⟨⟨h1,h2⟩,h4⟩,h5⟩:=hB
 refine⟨λa w ha hw=>Jf (Q:=Only Q) ?_ λe a w h=>by exact Ymz⟩
 have hst:St B w0 (HA++FA) w.drew:=(hw.perm (XN hspA)).drew
 have hr:=h.run a ha w.drew hst
 have hr':Yv P l.toArray (Qe P l.toArray (Qe P l.toArray (Only Q) (St B w0 HA) l2) (St B w0 HB) l1) (St B w0 HA) lA a w.drew:=hr
 rw[<-hlA,<-hl1,<-hl2]at hr'
 have:=YbA (S:=St B w0 HB) (S2:=St B w0 HA) hsub (last:=oA++tail) h1 (λc a w h=>h) l rfl (λj hj=>by simp[hj]) (λj hj=>⟨_,Array.getElem?_eq_getElem (by
  grind)⟩) oA _ a w.drew (XU _ _) h5 hst.prefix_ hr'
 grind [VR,Yeq]
end
end Go.Eng
namespace Go.Proofs.YtambgjgljcadlaaGreatDoor
open Go.RowKit Go.Eng Go.Nw
structure RowM where
 A:Option Addr
 cap:Nat
 xs:List Int
structure NetM where
 nodes:Int
 pA:Option Addr
 pcap:Nat
 rows:List RowM
 noise:Int
 thr:Int
 lA:Option Addr
 lcap:Nat
 links:List Lk
 mA:Option Addr
 mcap:Nat
 margin:List Int
def NetM.net(n:NetM):Net:=⟨n.nodes,n.rows.map (·.xs),n.noise,n.thr,n.links,n.margin⟩
def NetM.val(n:NetM):Value:=.agg #[.int .i64 n.nodes,.slice n.pA n.rows.length n.pcap,.int .i64 n.noise,.int .i64 n.thr,.slice n.lA n.links.length n.lcap,.slice n.mA n.margin.length n.mcap]
def rowF(r:RowM):List Value:=[.slice r.A r.xs.length r.cap]
def numF(z:Int):List Value:=[.int .i64 z]
def lkF(l:Lk):List Value:=[.int .i64 l.1,.int .i64 l.2.1,.int .i64 l.2.2]
def lkV(l:Lk):Value:=.agg #[.int .i64 l.1,.int .i64 l.2.1,.int .i64 l.2.2]
structure NetM.In(B:Nat)(w0:World)(H:List HP)(n:NetM):Prop where
 pw:Rd B w0 H n.pA (n.rows.flatMap rowF)
 rw_:∀r∈n.rows,Rd B w0 H r.A (r.xs.flatMap numF)
 lk:Rd B w0 H n.lA (n.links.flatMap lkF)
 mg:Rd B w0 H n.mA (n.margin.flatMap numF)
 s1:n.rows.length<=9223372036854775807
 s2:∀r∈n.rows,r.xs.length<=9223372036854775807
 s3:n.links.length<=9223372036854775807
 s4:n.margin.length<=9223372036854775807
variable {B cap:Nat}{w0 w:World}{H:List HP}
theorem NetM.In.cons{n:NetM}{X:HP}(h:n.In B w0 H):n.In B w0 (X::H):=
 ⟨h.pw.cons,λr hr=>(h.rw_ r hr).cons,h.lk.cons,h.mg.cons,h.s1,h.s2,h.s3,h.s4⟩
variable {α:Type}{A:Option Addr}
theorem YeH(val:α->Value)(p:α->Bool)(l:List α)(f:Nat)(cs:List Value)(hen:∀xs w,(callFunc f xs).run Tryz.prog w=.ok (.enter f xs) w)(hlen:l.length<=9223372036854775807)(hr:Rd B w0 H A (l.flatMap λa=>[val a]))
 (hp:∀a∈l,∀w,St B w0 H w->Calls Tryz.prog f ([val a]++cs).toArray w (Post B w0 λv K=>v=.bool (p a)/\K=H)) (hw:St B w0 H w):
 CX B w0 258 [.slice A l.length cap,.func (.func f) #[] cs.toArray] w λv K=>v=.int .i64 (Ym p l 0)/\K=H:=by
 refine Yc Tryz.func258 Tryz.ntmps258 rfl rfl hw ?_
 refine zX7 ?_
 refine Yj (λ(k:Nat)=>[(8,.int .i64 k),(7,.int .i64 l.length),(0,.slice A l.length cap),(1,.func (.func f) #[] cs.toArray)]) (λ_=>H) (λk=>k<=l.length/\Ym p l 0=Ym p (l.drop k) k) (λk=>l.length-k) 0 ⟨Tj _,by simp⟩ ?_ (λw hw=>hw) ?_
 ·exact zc1
 rintro k ⟨hk,hi⟩ K hK
 by_cases hlt:k<l.length
 ·obtain⟨a,ha⟩:∃a,l[k]? =some a:=⟨_,Ta hlt⟩
  have hpa:=hp a (Tf ha)
  rw[Vn p l ha]at hi
  refine zX8 ?_<;>intros
  cases hpv:p a
  ·rw[hpv]at hi
   refine zX9 ?_
   apply hK (k+1)
   ·grind
   ·omega
   ·exact zc1
   exact zc19
  exact zc9
 exact zc7
theorem YaO(val:α->Value)(p:α->Bool)(l:List α)(f:Nat)(cs:List Value)(hen:∀xs w,(callFunc f xs).run Tryz.prog w=.ok (.enter f xs) w)(hlen:l.length<=9223372036854775807)(hr:Rd B w0 H A (l.flatMap λa=>[val a]))
 (hp:∀a∈l,∀w,St B w0 H w->Calls Tryz.prog f ([val a]++cs).toArray w (Post B w0 λv K=>v=.bool (p a)/\K=H)) (hw:St B w0 H w):
 CX B w0 190 [.slice A l.length cap,.func (.func f) #[] cs.toArray] w λv K=>v=.bool (l.any p)/\K=H:=by
 refine Yc Tryz.func190 Tryz.ntmps190 rfl rfl hw ?_
 have hia:=VO p l 0 (by omega)
 repeat'(first|((first|apply Ya YtR|apply Yb YtR);exact za;exact rfl;exactλ_ hw=>(YeH val p l f cs hen hlen hr hp hw))|refine zga ?_|(refine zgf ?_ ?_<;>intro _<;>try exact zo)|fail)
 all_goals(apply Yd;exact rfl;exact rfl)
 ·rename_i h;exact⟨by rw[hia.1 h],rfl⟩
 ·rename_i h
  have:¬l.any p=true:=λe=>by have:=hia.2 e;omega
  exact⟨by rw[SD.2 this],rfl⟩
theorem YeI(val:α->Value)(p:α->Bool)(l:List α)(f:Nat)(cs:List Value)(hen:∀xs w,(callFunc f xs).run Tryz.prog w=.ok (.enter f xs) w)(hlen:l.length<=9223372036854775807)(hr:Rd B w0 H A (l.flatMap λa=>[val a]))
 (hp:∀a∈l,∀w,St B w0 H w->Calls Tryz.prog f ([val a]++cs).toArray w (Post B w0 λv K=>v=.bool (p a)/\K=H)) (hw:St B w0 H w):
 CX B w0 257 [.slice A l.length cap,.func (.func f) #[] cs.toArray] w λv K=>v=.int .i64 (Ym p l 0)/\K=H:=by
 refine Yc Tryz.func257 Tryz.ntmps257 rfl rfl hw ?_
 refine zX7 ?_
 refine Yj (λ(k:Nat)=>[(8,.int .i64 k),(7,.int .i64 l.length),(0,.slice A l.length cap),(1,.func (.func f) #[] cs.toArray)]) (λ_=>H) (λk=>k<=l.length/\Ym p l 0=Ym p (l.drop k) k) (λk=>l.length-k) 0 ⟨Tj _,by simp⟩ ?_ (λw hw=>hw) ?_
 ·exact zc1
 rintro k ⟨hk,hi⟩ K hK
 by_cases hlt:k<l.length
 ·obtain⟨a,ha⟩:∃a,l[k]? =some a:=⟨_,Ta hlt⟩
  have hpa:=hp a (Tf ha)
  rw[Vn p l ha]at hi
  refine zX8 ?_<;>intros
  cases hpv:p a
  ·rw[hpv]at hi
   refine zX9 ?_
   apply hK (k+1)
   ·grind
   ·omega
   ·exact zc1
   exact zc19
  exact zc9
 exact zc7
theorem UZ(val:α->Value)(p:α->Bool)(l:List α)(f:Nat)(cs:List Value)(hen:∀xs w,(callFunc f xs).run Tryz.prog w=.ok (.enter f xs) w)(hlen:l.length<=9223372036854775807)(hr:Rd B w0 H A (l.flatMap λa=>[val a]))
 (hp:∀a∈l,∀w,St B w0 H w->Calls Tryz.prog f ([val a]++cs).toArray w (Post B w0 λv K=>v=.bool (p a)/\K=H)) (hw:St B w0 H w):
 CX B w0 186 [.slice A l.length cap,.func (.func f) #[] cs.toArray] w λv K=>v=.bool (l.any p)/\K=H:=by
 refine Yc Tryz.func186 Tryz.ntmps186 rfl rfl hw ?_
 have hia:=VO p l 0 (by omega)
 repeat'(first|((first|apply Ya YtQ|apply Yb YtQ);exact za;exact rfl;exactλ_ hw=>(YeI val p l f cs hen hlen hr hp hw))|refine zga ?_|(refine zgf ?_ ?_<;>intro _<;>try exact zo)|fail)
 all_goals(apply Yd;exact rfl;exact rfl)
 ·rename_i h;exact⟨by rw[hia.1 h],rfl⟩
 ·rename_i h
  have:¬l.any p=true:=λe=>by have:=hia.2 e;omega
  exact⟨by rw[SD.2 this],rfl⟩
theorem Ydv(val:α->Value)(p:α->Bool)(l:List α)(f:Nat)(cs:List Value)(hen:∀xs w,(callFunc f xs).run Tryz.prog w=.ok (.enter f xs) w)(hlen:l.length<=9223372036854775807)(hr:Rd B w0 H A (l.flatMap λa=>[val a]))
 (hp:∀a∈l,∀w,St B w0 H w->Calls Tryz.prog f ([val a]++cs).toArray w (Post B w0 λv K=>v=.bool (p a)/\K=H)) (hw:St B w0 H w):
 CX B w0 289 [.slice A l.length cap,.func (.func f) #[] cs.toArray] w λv K=>v=.int .i64 (Ym p l 0)/\K=H:=by
 refine Yc Tryz.func289 Tryz.ntmps289 rfl rfl hw ?_
 refine zX7 ?_
 refine Yj (λ(k:Nat)=>[(8,.int .i64 k),(7,.int .i64 l.length),(0,.slice A l.length cap),(1,.func (.func f) #[] cs.toArray)]) (λ_=>H) (λk=>k<=l.length/\Ym p l 0=Ym p (l.drop k) k) (λk=>l.length-k) 0 ⟨Tj _,by simp⟩ ?_ (λw hw=>hw) ?_
 ·exact zc1
 rintro k ⟨hk,hi⟩ K hK
 by_cases hlt:k<l.length
 ·obtain⟨a,ha⟩:∃a,l[k]? =some a:=⟨_,Ta hlt⟩
  have hpa:=hp a (Tf ha)
  rw[Vn p l ha]at hi
  refine zX8 ?_<;>intros
  cases hpv:p a
  ·rw[hpv]at hi
   refine zX9 ?_
   apply hK (k+1)
   ·grind
   ·omega
   ·exact zc1
   exact zc19
  exact zc9
 exact zc7
theorem Q7(val:α->Value)(p:α->Bool)(l:List α)(f:Nat)(cs:List Value)(hen:∀xs w,(callFunc f xs).run Tryz.prog w=.ok (.enter f xs) w)(hlen:l.length<=9223372036854775807)(hr:Rd B w0 H A (l.flatMap λa=>[val a]))
 (hp:∀a∈l,∀w,St B w0 H w->Calls Tryz.prog f ([val a]++cs).toArray w (Post B w0 λv K=>v=.bool (p a)/\K=H)) (hw:St B w0 H w):
 CX B w0 234 [.slice A l.length cap,.func (.func f) #[] cs.toArray] w λv K=>v=.bool (l.any p)/\K=H:=by
 refine Yc Tryz.func234 Tryz.ntmps234 rfl rfl hw ?_
 have hia:=VO p l 0 (by omega)
 repeat'(first|((first|apply Ya YtX|apply Yb YtX);exact za;exact rfl;exactλ_ hw=>(Ydv val p l f cs hen hlen hr hp hw))|refine zga ?_|(refine zgf ?_ ?_<;>intro _<;>try exact zo)|fail)
 all_goals(apply Yd;exact rfl;exact rfl)
 ·rename_i h;exact⟨by rw[hia.1 h],rfl⟩
 ·rename_i h
  have:¬l.any p=true:=λe=>by have:=hia.2 e;omega
  exact⟨by rw[SD.2 this],rfl⟩
theorem YnK(x:Int)(hw:St B w0 H w):CX B w0 114 [.int .i64 x] w λv K=>v=.bool false/\K=H:=by
 refine Yc Tryz.func114 Tryz.ntmps114 rfl rfl hw ?_
 repeat'(first|((refine zs16 ?_ ?_<;>intro _<;>try(omega)))|refine zga ?_|fail)
 exact zc24
theorem Vk(x y:Int)(hw:St B w0 H w):CX B w0 49 [.int .i64 x,.int .i64 y] w λv K=>v=.int .i64 (cmpI x y)/\K=H:=by
 refine Yc Tryz.func49 Tryz.ntmps49 rfl rfl hw ?_
 unfold cmpI
 repeat'(first|((first|apply Ya Ytg|apply Yb Ytg);exact za;exact rfl;exactλ_ hw=>(YnK _ hw))|refine zgb ?_|(refine zgf ?_ ?_<;>intro _<;>try exact zo)|fail)
 all_goals(((repeat apply Yl);apply Yd;exact rfl;exact rfl;refine⟨TE _ ?_,rfl⟩);(repeat(first|refine ZM (by omega) ?_|refine ZN (by omega) ?_));rfl)
end Go.Proofs.YtambgjgljcadlaaGreatDoor
