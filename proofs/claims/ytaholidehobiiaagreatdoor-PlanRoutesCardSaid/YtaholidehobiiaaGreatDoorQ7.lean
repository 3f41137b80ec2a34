/- Lemmas for the claim, part 7. -/
import Derived.Test.YtaholidehobiiaaGreatDoorProg
import Derived.KernelRfl
import Derived.Test.YtaholidehobiiaaGreatDoorQ5
set_option maxRecDepth 100000
set_option maxHeartbeats 8000000
set_option linter.all false
namespace Go.Eng
open Go.RowKit
open Go.ChangeMaps (setBlock)
section
variable {P:Program}{m:Mode}{n:Shp}{B:Nat}{w0:World}{ops:Array Oper}{Q:Exit->Act->World->Prop}{rest:List Oper}{env:Env}{H:List HP}{d:Nat}{ty:TypeId}{pos:String}{after:Array Edge}{x y:Operand}
theorem Yoi{t kt et g clock:Nat}{es:Ents}{u:Operand}{k:Int}{v:Value}{K:List HP}(hx:evo env x=some (.map (some g)))(hy:evo env y=some (.int .i64 k))(hv:evo env u=some v)(ht:mapT P t kt et=true)
 (hu:Upd (blk g (mobj es clock)) (blk g (mobj (es++[(k,v,clock)]) (clock+1))) H K) (hk:mget es k=none)
 (h:VL P none n B w0 ops Q rest env K):VL P none n B w0 ops Q (⟨none,.insert t x y u,ty,pos,after,none⟩::rest) env H:=by
 obtain⟨h1,h2⟩:=Jg ht
 refine Vp rfl rfl (λa w ha hw=>⟨setBlock w g (mobj (es++[(k,v,clock)]) (clock+1)),?_,hw.setBlock hu⟩) h
 have hb:w.heap[g]? =some (mobj es clock):=by
  obtain⟨L1,L2,rfl,_⟩:=hu
  exact(hw.blk (by simp)).1
 have hb':=hb
 unfold mobj at hb
 simp[execOp,ha.eval hx,ha.eval hy,ha.eval hv,Instr.mapUpdate,run_underlying h1,getObj,Sem.run,hb,Jh _ h2,MapKept.run_findKey h2 (WO 0 hk),MapKept.run_setObj_map _ hb,setBlock,mobj,toE]
def isSl(P:Program)(t:TypeId):Bool:=match P.underlying t with|some (.slice _)=>true|_=>false
theorem Ypb{t:TypeId}(h:isSl P t=true):∃e,P.underlying t=some (.slice e):=by
 unfold isSl at h
 split at h
 ·rename_i e hu;exact⟨e,hu⟩
 ·cases h
theorem ZE{xt yt:TypeId}{A:Option Addr}{k cap:Nat}(hx:evo env x=some (.slice A k cap))(hn:Nat.ble (d+1) n.k=true)(hu:isSl P xt=true)
 (h:VL P m n B w0 ops Q rest ((d,.bool A.isNone)::env) H):VL P m n B w0 ops Q (⟨some d,.binOp .eql xt x (.const (.slice none 0 0)) yt,ty,pos,after,none⟩::rest) env H:=by
 obtain⟨e,hu⟩:=Ypb hu
 refine Xc hx (y:=.const (.slice none 0 0)) rfl hn (λw=>by simp[eqGuard]) (λw=>?_) h
 simp only[binOp,Op.equal]
 rw[Sem.run_bind,show Op.maxDepth=9999+1 from rfl]
 unfold Op.equalIn
 cases A<;>simp[run_underlying hu]
theorem Yjr{α:Type}{f:α->List Value}{q:Nat}(hq:∀a,(f a).length=q):∀(l:List α) (i:Nat) (a:α),i<l.length->(l.flatMap f).take (i*q)++f a++(l.flatMap f).drop (i*q+q)=(l.set i a).flatMap f
 |[],i,a,h=>by simp at h
 |b::l,0,a,_=>by
  rw[N9,Nq,TK,RH,TZ,List.drop_left' (hq b),NB,TZ]
 |b::l,i+1,a,h=>by
  have e1:(i+1)*q=q+i*q:=by rw[Sl];omega
  have e2:q+i*q+q=q+(i*q+q):=by omega
  have ih:=Yjr hq l i a (by simpa using h)
  have hb:=hq b
  rw[NQ,TZ,TZ,<-ih,e1,e2,Nl,List.drop_append,hb,T0 (by omega),Ru (by omega),NN,NN,TK]
  simp[List.append_assoc]
variable {t e k cap size:Nat}{A:Option Addr}
theorem Zb(T:Tab P){α:Type}{f:α->List Value}{l:List α}{i q:Nat}{a:α}{vs:List Value}{K:List HP}(hx:evo env x=some (sptr A (i*q)))(hy:evo env y=some (.agg vs.toArray))(hv:f a=vs)
 (hu:Upd (sl e q A k cap (l.flatMap f)) (sl e q A k cap ((l.set i a).flatMap f)) H K) (hq:∀a,(f a).length=q) (h1:Ju vs=true) (ht:look T.ag t=some q) (hq0:Nat.blt 0 q=true) (hi:i<l.length)
 (h:VL P none n B w0 ops Q rest env K):VL P none n B w0 ops Q (⟨none,.store t x y,ty,pos,after,none⟩::rest) env H:=by
 subst hv
 have hmem:sl e q A k cap (l.flatMap f)∈H:=by
  obtain⟨L1,L2,rfl,_⟩:=hu
  simp
 have hq0':0<q:=by simpa using hq0
 refine Vp rfl rfl (λac w ha hw=>?_) h
 have hown:=hw.sl hmem
 rcases Ji hown with⟨_,rfl,_,e4⟩|⟨g,cur,rfl,g1,g2,g3,g4,g5,g6⟩
 ·have:=TE List.length e4
  rw[Xk hq]at this
  have h5:0<l.length*q:=Nat.mul_pos (by omega) hq0'
  simp at this
  omega
 ·have hil:i*q+q<=l.length*q:=by
   have:(i+1)*q<=l.length*q:=Ri _ hi
   rw[Sl]at this;omega
  rw[Xk hq]at g6
  have hkc:k*q<=cap*q:=Ri _ g2
  have hov:i*q+(f a).length<=cur.size:=by rw[hq,g4];omega
  have hrun:=run_storeCells_at (P:=P) g (i*q) e (f a) 0 cur w g1 (by rw[Nn];exact hov) (Z0 h1)
  rw[Nn]at hrun
  refine⟨_,?_,hw.storeRow (k':=k) (o:=i*q) (vs:=f a) hu rfl g1 g4 g2 g3 hov ?_ ?_⟩
  ·rw[show sptr (some (⟨g,0,none⟩:Addr)) (i*q)=.pointer (some ⟨g,i*q,none⟩) by simp[sptr,Addr.add_lit]]at hx
   simp[execOp,ha.eval hx,ha.eval hy,Instr.storeAt,Instr.sureAddr,storeVar,Value.cells,Zw (J7 (T.aggs ht)),hq,hrun]
  ·have hX:(cur.toList.take (i*q)++f a).length=i*q+q:=by rw[To,TT,Nv,hq];omega
   rw[<-Yjr hq l i a hi,<-g5,hq,Nl,hX,T0 (by omega),List.take_take,SO (by omega),List.drop_take]
  ·rw[Xk hq,Rf];exact g6
theorem Ye9(T:Tab P){bytes:Nat}{a:Addr}{ki:IntKind}{i:Int}(hx:evo env x=some (.slice (some a) k cap))(hy:evo env y=some (.int ki i))(ht:look T.sl t=some (e,size,bytes))(hn:Nat.ble (d+1) n.k=true)(hi:0<=i/\i<k)
 (h:VL P m n B w0 ops Q rest ((d,sptr (some a) (i.toNat*size))::env) H):VL P m n B w0 ops Q (⟨some d,.indexAddr t x y,ty,pos,after,none⟩::rest) env H:=by
 obtain⟨hut,inf,z',hinf,_,_,hsi,_⟩:=YJ (T.slic ht)
 refine YF rfl rfl hn rfl (λf w ha _=>?_) h
 simp[execOp,ha.eval hx,ha.eval hy,Instr.indexAt,asIntOf,run_underlying hut,hi,sizeOf,typeInfo,hinf,hsi,sptr]
theorem YcF{l:List Oper}{xs:List Value}(hm:sl e size A k cap xs∈H)(hk:0<k)(h:∀g,A=some ⟨g,0,none⟩->VL P none n B w0 ops Q l env H):VL P none n B w0 ops Q l env H:=by
 refine⟨λa ha w hw=>?_⟩
 rcases Ji (hw.sl hm)with⟨_,e1,_⟩|⟨g,_,rfl,_⟩
 ·omega
 ·exact(h g rfl).run a ha w hw
end
end Go.Eng
namespace Go.Proofs.YtaholidehobiiaaGreatDoor
open Go.Eng
abbrev CX(B:Nat)(w0:World)(f:Nat)(l:List Value)(w:World)(F:Value->List Eng.HP->Prop):Prop:=Calls Tryz.prog f l.toArray w (Eng.Post B w0 F)
theorem YwS:([(3,()),(4,()),(5,()),(22,()),(23,()),(24,()),(27,()),(30,()),(31,()),(35,()),(39,()),(40,()),(84,()),(93,()),(160,()),(161,()),(266,()),(272,()),(345,()),(394,()),(413,()),(431,())].all λx:Nat×Unit=>oneT Tryz.prog x.1)=true:=by kernel_rfl
theorem YwN:([(26,6),(37,3),(42,12),(53,6),(64,5),(86,7),(132,5),(140,3),(173,5),(276,17),(292,9),(298,3),(411,2),(438,4)].all λx:Nat×Nat=>aggT Tryz.prog x.1==some x.2)=true:=by kernel_rfl
theorem YwQ:([(26,0,0),(26,1,1),(26,2,2),(26,3,3),(26,4,4),(26,5,5),(37,0,0),(37,1,1),(37,2,2),(42,0,0),(42,1,6),(42,2,7),(42,3,10),(42,4,11),(53,0,0),(53,1,1),(53,2,2),(53,3,3),(53,4,4),(53,5,5),(64,0,0),(64,1,1),(64,2,2),(64,3,3),(64,4,4),(86,0,0),(86,1,6),(114,0,0),(114,1,12),(132,0,0),(132,1,1),(132,2,2),(132,3,3),(132,4,4),(140,0,0),(140,1,1),(140,2,2),(163,0,0),(163,1,1),(276,0,0),(276,1,6),(276,2,9),(276,3,15),(276,4,16),(292,0,0),(292,1,6),(298,0,0),(298,1,1),(298,2,2),(411,0,0),(411,1,1),(433,0,0),(433,1,1),(438,0,0),(438,1,1),(438,2,2),(438,3,3)].all λx:Nat×Nat×Nat=>OG Tryz.prog x.1 x.2.1==some x.2.2)=true:=by kernel_rfl
theorem YwT:([(22,(24,1,24)),(23,(140,3,24)),(24,(3,1,8)),(27,(53,6,48)),(30,(86,7,72)),(35,(64,5,40)),(39,(132,5,104)),(40,(3,1,8)),(84,(93,1,24)),(93,(3,1,8)),(161,(5,1,1)),(295,(298,3,24)),(413,(411,2,16)),(431,(438,4,32))].all λx:Nat×(Nat×Nat×Nat)=>YeH Tryz.prog x.1==some x.2)=true:=by kernel_rfl
theorem YwO:([(173,(5,3,1))].all λx:Nat×(Nat×Nat×Nat)=>Ydg Tryz.prog x.1==some x.2)=true:=by kernel_rfl
theorem YwR:([(2,.i64),(3,.i64),(5,.u8),(231,.u64)].all λx:Nat×IntKind=>decide (intT Tryz.prog x.1=some x.2))=true:=by kernel_rfl
theorem YwU:([(9,())].all λx:Nat×Unit=>Yid Tryz.prog x.1)=true:=by kernel_rfl
def T:Tab Tryz.prog:=⟨_,_,_,_,_,_,_,YwS,YwN,YwQ,YwT,YwO,YwR,YwU⟩
abbrev tabL_zt:List (Nat×Value):=[(3,.int .i64 0),(4,.bool false),(5,.int .u8 0),(24,.slice none 0 0),(26,.agg #[.int .i64 0,.slice none 0 0,.int .i64 0,.int .i64 0,.slice none 0 0,.slice none 0 0]),(35,.slice none 0 0),(37,.agg #[.int .i64 0,.int .i64 0,.slice none 0 0]),(42,.agg #[.int .i64 0,.slice none 0 0,.int .i64 0,.int .i64 0,.slice none 0 0,.slice none 0 0,.slice none 0 0,.int .i64 0,.int .i64 0,.slice none 0 0,.slice none 0 0,.slice none 0 0]),(53,.agg #[.int .i64 0,.int .i64 0,.int .i64 0,.int .i64 0,.int .i64 0,.int .i64 0]),(64,.agg #[.int .i64 0,.int .i64 0,.int .i64 0,.int .i64 0,.int .i64 0]),(86,.agg #[.int .i64 0,.int .i64 0,.int .i64 0,.int .i64 0,.int .i64 0,.int .i64 0,.slice none 0 0]),(93,.slice none 0 0),(114,.agg #[.int .i64 0,.slice none 0 0,.int .i64 0,.int .i64 0,.slice none 0 0,.slice none 0 0,.slice none 0 0,.int .i64 0,.int .i64 0,.slice none 0 0,.slice none 0 0,.slice none 0 0,.int .i64 0]),(132,.agg #[.int .i64 0,.slice none 0 0,.slice none 0 0,.slice none 0 0,.slice none 0 0]),(140,.agg #[.int .i64 0,.int .i64 0,.int .i64 0]),(163,.agg #[.pointer none,.slice none 0 0]),(173,.agg #[.int .i64 0,.int .i64 0,.int .i64 0,.int .i64 0,.int .i64 0]),(266,.nilFunc),(272,.map none),(276,.agg #[.int .i64 0,.slice none 0 0,.int .i64 0,.int .i64 0,.slice none 0 0,.slice none 0 0,.int .i64 0,.int .i64 0,.slice none 0 0,.int .i64 0,.int .i64 0,.int .i64 0,.int .i64 0,.int .i64 0,.int .i64 0,.slice none 0 0,.int .i64 0]),(292,.agg #[.int .i64 0,.slice none 0 0,.int .i64 0,.int .i64 0,.slice none 0 0,.slice none 0 0,.int .i64 0,.int .i64 0,.slice none 0 0]),(298,.agg #[.int .i64 0,.int .i64 0,.int .i64 0]),(394,.map none),(411,.agg #[.int .i64 0,.int .i64 0]),(433,.agg #[.int .i64 0,.slice none 0 0]),(438,.agg #[.int .i64 0,.int .i64 0,.int .i64 0,.int .i64 0])]
theorem YwV:(tabL_zt.map λx:Nat×Value=>Yba Tryz.prog x.1)=tabL_zt.map λx:Nat×Value=>some x.2:=by kernel_rfl
abbrev tabL_bt:List (Nat×List (Nat×Nat)):=[(26,[(0,1),(1,1),(2,1),(3,1),(4,1),(5,1)]),(37,[(0,1),(1,1),(2,1)]),(42,[(0,6),(6,1),(7,3),(10,1),(11,1)]),(53,[(0,1),(1,1),(2,1),(3,1),(4,1),(5,1)]),(64,[(0,1),(1,1),(2,1),(3,1),(4,1)]),(86,[(0,6),(6,1)]),(114,[(0,12),(12,1)]),(132,[(0,1),(1,1),(2,1),(3,1),(4,1)]),(140,[(0,1),(1,1),(2,1)]),(173,[(0,1),(1,1),(2,1),(3,1),(4,1)]),(276,[(0,6),(6,3),(9,6),(15,1),(16,1)]),(292,[(0,6),(6,3)]),(298,[(0,1),(1,1),(2,1)]),(411,[(0,1),(1,1)]),(433,[(0,1),(1,1)]),(438,[(0,1),(1,1),(2,1),(3,1)])]
theorem YwP:(tabL_bt.map λx:Nat×List (Nat×Nat)=>YeJ Tryz.prog x.1)=tabL_bt.map λx:Nat×List (Nat×Nat)=>some x.2:=by kernel_rfl
def T2:Tab2 Tryz.prog:=⟨_,_,YwV,YwP⟩
abbrev EnT(k:Nat):Prop:=∀(xs:Array Value) (w:World),(callFunc k xs).run Tryz.prog w=.ok (.enter k xs) w
theorem enT{k:Nat}(h:EnT k:=by exactλ_ _=>by kernel_rfl):EnT k:=h
theorem en11:EnT 11:=enT
theorem en13:EnT 13:=enT
theorem en15:EnT 15:=enT
theorem en16:EnT 16:=enT
theorem en19:EnT 19:=enT
theorem en20:EnT 20:=enT
theorem en21:EnT 21:=enT
theorem en29:EnT 29:=enT
theorem en31:EnT 31:=enT
theorem en32:EnT 32:=enT
theorem en35:EnT 35:=enT
theorem en40:EnT 40:=enT
theorem en41:EnT 41:=enT
theorem en54:EnT 54:=enT
theorem en55:EnT 55:=enT
theorem en56:EnT 56:=enT
theorem en57:EnT 57:=enT
theorem en58:EnT 58:=enT
theorem en59:EnT 59:=enT
theorem en60:EnT 60:=enT
theorem en65:EnT 65:=enT
theorem en66:EnT 66:=enT
theorem en67:EnT 67:=enT
theorem en68:EnT 68:=enT
theorem en69:EnT 69:=enT
theorem en70:EnT 70:=enT
theorem en71:EnT 71:=enT
theorem en72:EnT 72:=enT
theorem en80:EnT 80:=enT
theorem en81:EnT 81:=enT
theorem en82:EnT 82:=enT
theorem en83:EnT 83:=enT
theorem en84:EnT 84:=enT
theorem en85:EnT 85:=enT
theorem en86:EnT 86:=enT
theorem en87:EnT 87:=enT
theorem en88:EnT 88:=enT
theorem en89:EnT 89:=enT
theorem en99:EnT 99:=enT
theorem YqW:EnT 100:=enT
theorem YqX:EnT 101:=enT
theorem Yje:EnT 102:=enT
theorem YmV:EnT 106:=enT
theorem Yw3:EnT 107:=enT
theorem Yw4:EnT 108:=enT
theorem Yw5:EnT 109:=enT
theorem YmW:EnT 111:=enT
theorem Yw6:EnT 112:=enT
theorem YfY:EnT 113:=enT
theorem YfZ:EnT 115:=enT
theorem YmX:EnT 116:=enT
theorem YqY:EnT 117:=enT
theorem Yuu:EnT 126:=enT
theorem YmY:EnT 127:=enT
theorem YqZ:EnT 128:=enT
theorem YmZ:EnT 129:=enT
theorem YbX:EnT 130:=enT
theorem Xw:EnT 136:=enT
theorem Ym1:EnT 139:=enT
theorem YbY:EnT 140:=enT
theorem Ym2:EnT 146:=enT
theorem Ym3:EnT 147:=enT
theorem Yq0:EnT 148:=enT
theorem Yw8:EnT 156:=enT
theorem Ym5:EnT 157:=enT
theorem Ym6:EnT 158:=enT
theorem Yw9:EnT 159:=enT
theorem Yxa:EnT 160:=enT
theorem Yq2:EnT 161:=enT
theorem Yxb:EnT 162:=enT
theorem Yxc:EnT 163:=enT
theorem Yux:EnT 164:=enT
theorem Yxd:EnT 165:=enT
theorem Yxe:EnT 166:=enT
theorem Yq3:EnT 167:=enT
theorem Yuz:EnT 175:=enT
theorem Ym7:EnT 176:=enT
theorem YuA:EnT 177:=enT
theorem Yxf:EnT 178:=enT
theorem Yf0:EnT 179:=enT
theorem Yxg:EnT 180:=enT
theorem Od:EnT 181:=enT
theorem Yb0:EnT 182:=enT
theorem YuB:EnT 183:=enT
theorem YuC:EnT 184:=enT
theorem YuD:EnT 185:=enT
theorem Oe:EnT 186:=enT
theorem J4:EnT 187:=enT
theorem Ym8:EnT 188:=enT
theorem YuE:EnT 189:=enT
theorem Of:EnT 190:=enT
theorem QD:EnT 191:=enT
theorem YuF:EnT 192:=enT
theorem Yxh:EnT 193:=enT
theorem Ym9:EnT 197:=enT
theorem Yxj:EnT 198:=enT
theorem Yf1:EnT 199:=enT
theorem Yxk:EnT 200:=enT
theorem Yxl:EnT 201:=enT
theorem Yf2:EnT 202:=enT
theorem Yxm:EnT 203:=enT
theorem Yna:EnT 207:=enT
theorem Yxn:EnT 208:=enT
theorem Yxo:EnT 210:=enT
theorem Ynb:EnT 211:=enT
theorem Ync:EnT 224:=enT
theorem Yb1:EnT 225:=enT
theorem Yf3:EnT 232:=enT
theorem YuG:EnT 235:=enT
theorem Yb2:EnT 236:=enT
theorem YuH:EnT 237:=enT
theorem Yxp:EnT 238:=enT
theorem QE:EnT 239:=enT
theorem YuI:EnT 240:=enT
theorem Og:EnT 241:=enT
theorem Yxq:EnT 246:=enT
theorem YuK:EnT 247:=enT
theorem YuL:EnT 248:=enT
theorem YuM:EnT 249:=enT
theorem Yxr:EnT 250:=enT
theorem Yne:EnT 254:=enT
theorem Yq4:EnT 255:=enT
theorem Yxs:EnT 256:=enT
theorem Yxt:EnT 257:=enT
theorem Yxu:EnT 258:=enT
theorem Ynf:EnT 259:=enT
theorem Yng:EnT 260:=enT
theorem Yf4:EnT 261:=enT
theorem Ynh:EnT 262:=enT
theorem YuN:EnT 263:=enT
theorem YuO:EnT 264:=enT
theorem YuP:EnT 265:=enT
theorem Yni:EnT 266:=enT
theorem Yxv:EnT 267:=enT
theorem Yf5:EnT 268:=enT
theorem Ynj:EnT 269:=enT
theorem Yxw:EnT 271:=enT
theorem YuQ:EnT 272:=enT
theorem Yxx:EnT 273:=enT
theorem YuR:EnT 274:=enT
theorem Yq5:EnT 275:=enT
theorem Jk:EnT 293:=enT
theorem Yxy:EnT 299:=enT
theorem Ynk:EnT 310:=enT
theorem Yxz:EnT 311:=enT
theorem VO:EnT 312:=enT
theorem YuS:EnT 313:=enT
theorem YxA:EnT 314:=enT
theorem YuT:EnT 315:=enT
theorem Yf6:EnT 316:=enT
theorem Yf7:EnT 317:=enT
theorem YuU:EnT 318:=enT
theorem YuX:EnT 323:=enT
theorem YuY:EnT 324:=enT
theorem YuZ:EnT 325:=enT
theorem Yu0:EnT 326:=enT
theorem YxB:EnT 327:=enT
theorem Yf8:EnT 339:=enT
theorem Yu1:EnT 340:=enT
theorem Yu2:EnT 341:=enT
theorem Yu3:EnT 342:=enT
theorem YxC:EnT 344:=enT
theorem Yq6:EnT 345:=enT
theorem YxD:EnT 359:=enT
theorem Yu4:EnT 376:=enT
theorem YxE:EnT 377:=enT
theorem Yu5:EnT 378:=enT
theorem Yu6:EnT 379:=enT
theorem YxF:EnT 380:=enT
theorem YxG:EnT 381:=enT
theorem Ynm:EnT 382:=enT
theorem Yu8:EnT 385:=enT
theorem Yu9:EnT 386:=enT
theorem YxH:EnT 387:=enT
theorem Ynn:EnT 393:=enT
theorem YxI:EnT 394:=enT
theorem Yva:EnT 395:=enT
theorem YxJ:EnT 396:=enT
theorem Yq7:EnT 397:=enT
theorem Yga:EnT 398:=enT
theorem YxK:EnT 399:=enT
theorem YxL:EnT 400:=enT
theorem Yvc:EnT 414:=enT
theorem YxM:EnT 415:=enT
theorem Yno:EnT 416:=enT
theorem YxN:EnT 418:=enT
theorem YxO:EnT 419:=enT
theorem Ynp:EnT 420:=enT
theorem YxP:EnT 421:=enT
theorem Yvd:EnT 422:=enT
theorem Yve:EnT 425:=enT
theorem YxQ:EnT 426:=enT
theorem YxR:EnT 427:=enT
theorem YxS:EnT 435:=enT
theorem Ynq:EnT 442:=enT
theorem Ynr:EnT 444:=enT
theorem Yq8:EnT 445:=enT
theorem Oh:EnT 464:=enT
theorem YxT:EnT 465:=enT
theorem YxU:EnT 466:=enT
theorem Yjf:EnT 467:=enT
theorem z3(w:World):(zeroValue 3).run Tryz.prog w=.ok (.int .i64 0) w:=by kernel_rfl
theorem z4(w:World):(zeroValue 4).run Tryz.prog w=.ok (.bool false) w:=by kernel_rfl
theorem z37(w:World):(zeroValue 37).run Tryz.prog w=.ok (.agg #[.int .i64 0,.int .i64 0,.slice none 0 0]) w:=by kernel_rfl
theorem z53(w:World):(zeroValue 53).run Tryz.prog w=.ok (.agg #[.int .i64 0,.int .i64 0,.int .i64 0,.int .i64 0,.int .i64 0,.int .i64 0]) w:=by kernel_rfl
theorem z173(w:World):(zeroValue 173).run Tryz.prog w=.ok (.agg #[.int .i64 0,.int .i64 0,.int .i64 0,.int .i64 0,.int .i64 0]) w:=by kernel_rfl
theorem zi3:((Tryz.prog.info? 3).bind (·.zero))=some (.int .i64 0):=by kernel_rfl
end Go.Proofs.YtaholidehobiiaaGreatDoor
namespace Go.Eng
open Go.RowKit
section
variable {P:Program}{n:Shp}{B:Nat}{w0:World}{ops:Array Oper}{Q:Exit->Act->World->Prop}{rest:List Oper}{env:Env}{H:List HP}
def VJ(ops:Array Oper):List Nat->Array Bool->Bool
 |[],listed=>(Region.ready .any ops listed).isEmpty
 |i::rest,listed=>decide (Region.ready .any ops listed=[i])&&VJ ops rest (listed.setIfInBounds i true)
def YhN(ops:Array Oper)(last:List Nat):List Nat->Array Bool->Bool
 |[],listed=>VJ ops last listed
 |i::rest,listed=>
  (match ops[i]? with
   |some o=>if eff o then decide (Region.ready .any ops listed=[i])else(Region.ready .any ops listed).contains i&&Region.free .any ops listed i
   |none=>false)&&YhN ops last rest (listed.setIfInBounds i true)
def Yd3(ops:Array Oper)(last:List Nat):Bool:=
 last.all λj=>decide (j<ops.size)&&(List.range ops.size).all λi=>last.contains i||(match ops[i]? with|some o=>eff o|none=>false)||ancB ops ops.size j i
theorem Vg{last:List Nat}(h:Yd3 ops last=true):(∀j,last.contains j=true->∃o,ops[j]? =some o)/\∀i oi,ops[i]? =some oi->eff oi=false->last.contains i=false->∀j,last.contains j=true->∃f,ancB ops f j i=true:=by
 refine⟨λj hj=>?_,λi oi hi he hil j hj=>?_⟩
 ·have h1:=TF.1 h j (by simpa using hj)
  simp only[Tq,Tt]at h1
  exact⟨_,SC h1.1⟩
 ·have h1:=TF.1 h j (by simpa using hj)
  simp only[Tq]at h1
  have hlt:i<ops.size:=(Si.1 hi).1
  have h2:=TF.1 h1.2 i (TQ.2 hlt)
  rw[hi,hil]at h2
  simp only[he,Ny]at h2
  exact⟨_,h2⟩
theorem JK{S:World->Prop}{last:List Nat}(l:List Oper)(hl:ops=l.toArray)(hef:∀j,last.contains j=true->∃o,ops[j]? =some o)(hlo:¬LetsOut Q):
 ∀(o2:List Nat) (listed:Array Bool) (a:Act) (w:World),(∀j∈o2,last.contains j=true)->VJ ops o2 listed=true->wpList P ops Q (Yh l o2) a w->Zq P ops Q S last o2.length listed a w
 |[],listed,a,w,_,hB,h=>⟨by simpa [VJ]using hB,h⟩
 |i::rest,listed,a,w,hin,hB,h=>by
  simp only[VJ,Tq,Tt]at hB
  obtain⟨h1,h2⟩:=hB
  obtain⟨o,ho⟩:=hef i (hin i (by simp))
  have hget:nthO l i=o:=XE hl ho
  simp only[Yh,hget]at h
  unfold wpList at h
  refine⟨λh0=>(by rw[h1]at h0;cases h0),λk hk=>?_⟩
  rw[h1]at hk
  obtain rfl:k=i:=by simpa using hk
  unfold wpOp
  simp only[ho]
  have hc:last.contains k=true:=hin k (by simp)
  by_cases hw:Region.wanted o (yielded ops a.tmps)=true
  ·rw[Tn hw]at h⊢
   rcases h with h|⟨_,h⟩
   ·exact .inl (Oper.wp_mono (λa' w' h'=>⟨λhf=>(by rw[hc]at hf;cases hf),JK l hl hef hlo rest _ a' w' (λj hj=>hin j (by simp[hj])) h2 h'⟩) h)
   ·exact(hlo h).elim
  ·rw[Tf hw]at h⊢
   exact⟨λhf=>(by rw[hc]at hf;cases hf),JK l hl hef hlo rest _ _ w (λj hj=>hin j (by simp[hj])) h2 h⟩
theorem UP{S:World->Prop}{last:List Nat}(hs:Region.noSelect ops=true)(hQ:∀c (a:Act) (w:World),¬Q (.panic c) a w)(hlo:¬LetsOut Q)(l:List Oper)(hl:ops=l.toArray)(hlast:Yd3 ops last=true):
 ∀(o1:List Nat) (listed:Array Bool) (a:Act) (w:World),Closed ops listed->(∀j∈o1,last.contains j=false)->YhN ops last o1 listed=true->S w->Yv P ops (Jx P ops Q (Yh l last)) S (Yh l o1) a w->
  Zq P ops Q S last (o1++last).length listed a w
 |[],listed,a,w,_,_,hB,_,h=>JK l hl (Vg hlast).1 hlo last listed a w (λj hj=>by simpa using hj) hB h
 |i::rest,listed,a,w,hcl,hno,hB,hS,h=>by
  simp only[YhN,Tq]at hB
  obtain⟨h1,h2⟩:=hB
  have hno':∀j∈rest,last.contains j=false:=λj hj=>hno j (by simp[hj])
  cases ho:ops[i]? with
  |none=>rw[ho]at h1;cases h1
  |some o=>
   rw[ho]at h1
   have hget:nthO l i=o:=XE hl ho
   simp only[Yh,hget]at h
   by_cases he:eff o=true
   ·simp only[he,NF,Tt]at h1
    unfold Yv at h
    rw[Tn he]at h
    refine⟨λh0=>(by rw[h1]at h0;cases h0),λk hk=>?_⟩
    have hk':=hk
    rw[h1]at hk
    obtain rfl:k=i:=by simpa using hk
    unfold wpOp
    simp only[ho]
    by_cases hw:Region.wanted o (yielded ops a.tmps)=true
    ·rw[Tn hw]at h⊢
     refine .inl (Oper.wp_mono_noQ' (λc a w h=>by cases h) (Oper.wp_mono (λa' w' h'=>⟨λ_=>h'.1,UP hs hQ hlo l hl hlast rest _ a' w' (hcl.set hk') hno' h2 h'.1 h'.2⟩) h))
    ·rw[Tf hw]at h⊢
     exact⟨λ_=>hS,UP hs hQ hlo l hl hlast rest _ _ w (hcl.set hk') hno' h2 hS h⟩
   ·simp only[he]at h1
    simp only[SD,N8,Tq]at h1
    unfold Yv at h
    rw[Tf he]at h
    obtain⟨v,hy,h3⟩:=h
    have hr:i∈Region.ready .any ops listed:=by simpa using h1.1
    exact J2 ho (Region.noSelect_spec hs) hQ ((Vg hlast).2 i o ho (by simpa using he) (hno i (by simp))) (hno i (by simp)) _ listed a w hcl (Region.free_spec ho h1.2) hr hy hS (UP hs hQ hlo l hl hlast rest _ _ w (hcl.set hr) hno' h2 hS h3)
theorem Yin{id:Nat}{l:List Oper}(o1 last:List Nat)(mask:List Bool){Hc F:List HP}(hm:P.follows .mixedOrders=true)
 (hB:(Region.noSelect l.toArray&&decide ((o1++last).length=l.toArray.size)&&Yd3 l.toArray last&&(o1.all λj=>!last.contains j)&&YhN l.toArray last o1 (Array.replicate l.toArray.size false))=true)
 (hsp:Split mask H Hc F) {l1 l2:List Oper}(hl1:Yh l o1=l1) (hl2:Yh l last=l2) (h:VL P (some (some F)) n B w0 l.toArray (Jx P l.toArray (Only Q) l2) l1 env Hc):VC P n B w0 (.region id l.toArray true) Q env H:=by
 simp only[Tq,Tt]at hB
 obtain⟨⟨⟨⟨h1,h2⟩,h3⟩,h4⟩,h5⟩:=hB
 refine⟨λa w ha hw=>Ja (Q:=Only Q) ?_ λe a w h=>by cases e<;>first|exact h|cases h⟩
 have hst:St B w0 (Hc++F) w.drew:=(hw.perm (XZ hsp)).drew
 have hr:Yv P l.toArray (Jx P l.toArray (Only Q) l2) (St B w0 Hc) l1 a w.drew:=h.run a ha w.drew hst
 rw[<-hl1,<-hl2]at hr
 have:=UP (S:=St B w0 Hc) h1 (λc a w h=>h) (by rintro⟨_,_,h⟩;exact h) l rfl h3 o1 _ a w.drew (Za _ _) (λj hj=>by simpa using TF.1 h4 j hj) h5 hst.prefix_ hr
 rw[h2]at this
 exact V3 hm (Z9 _ _ _ _ this)
end
section
variable {P:Program}{m:Mode}{n:Shp}{B d:Nat}{w0:World}{ops:Array Oper}{Q:Exit->Act->World->Prop}{rest:List Oper}{env:Env}{H:List HP}{ty:TypeId}{pos:String}{after:Array Edge}
def YaP(P:Program)(t:TypeId):Bool:=match P.underlying t with|some (.interface _)=>false|some _=>true|none=>false
variable {t elem:TypeId}{x:Operand}{v v0 r:Value}
theorem WG(hx:evo env x=some v)(hu:YaP P t=true)(hn:Nat.ble (d+1) n.k=true)
 (h:VL P none n B w0 ops Q rest ((d,.iface t v)::env) H):VL P none n B w0 ops Q (⟨some d,.makeInterface t x,ty,pos,after,none⟩::rest) env H:=by
 refine YfD rfl rfl hn (λa w ha hw=>⟨w,?_,hw⟩) h
 unfold YaP at hu
 cases ht:P.underlying t with
 |none=>rw[ht]at hu;cases hu
 |some u=>
  rw[ht]at hu
  cases u<;>first|(cases hu;done)|simp[execOp,ha.eval hx,Instr.makeInterface,run_underlying ht]
theorem YbO{xt:TypeId}(hx:evo env x=some (.iface t v))(hu:YaP P t=true)(hn:Nat.ble (d+1) n.k=true)
 (h:VL P none n B w0 ops Q rest ((d,.tuple #[v,.bool true])::env) H):VL P none n B w0 ops Q (⟨some d,.typeAssert x xt t true,ty,pos,after,none⟩::rest) env H:=by
 refine YfD rfl rfl hn (λa w ha hw=>⟨w,?_,hw⟩) h
 unfold YaP at hu
 cases ht:P.underlying t with
 |none=>rw[ht]at hu;cases hu
 |some u=>
  rw[ht]at hu
  cases u<;>first|(cases hu;done)|simp[execOp,ha.eval hx,Instr.typeAssert,run_underlying ht]
theorem YjZ(x t:TypeId)(a:Addr)(s u:String):Builtin.ssaWrapNilChk_ #[x] t #[.pointer (some a),strVal s,strVal u]=pure (.pointer (some a)):=rfl
variable {k f:Nat}{name:String}{a:Addr}{w:World}
theorem YeA{info:TypeInfo}{mm:Method}(hi:P.info? t=some info)(hf:info.methods.find? (λx=>x.name==name)=some mm)(hp:mm.path=#[])(hfu:mm.func=some (f,false))(hu:P.underlying t=some (.pointer elem)):
 (method (k+1) t (.pointer (some a)) name).run P w=((loadVar elem a).run P w).andThen λv w=>.ok (f,v) w:=by
 simp[method,typeInfo,hi,hf,hp,follow,hfu,receiverAt,Place.get,run_underlying hu,YjZ,asAddr]
def Yvf(P:Program)(t:TypeId)(name:String)(f:Nat)(elem:TypeId):Bool:=
 match P.info? t with
 |some info=>(match info.methods.find? (λx=>x.name==name)with|some mm=>mm.path==#[]&&mm.func==some (f,false)|none=>false)&&(match P.underlying t with|some (.pointer e)=>e==elem|_=>false)
 |none=>false
theorem YbH(h:Yvf P t name f elem=true):
 (method (k+1) t (.pointer (some a)) name).run P w=((loadVar elem a).run P w).andThen λv w=>.ok (f,v) w:=by
 unfold Yvf at h
 cases hi:P.info? t with
 |none=>rw[hi]at h;cases h
 |some info=>
  rw[hi]at h
  simp only[Tq]at h
  obtain⟨h1,h2⟩:=h
  cases hf:info.methods.find? (λx=>x.name==name)with
  |none=>rw[hf]at h1;cases h1
  |some mm=>
   rw[hf]at h1
   simp only[Tq,S5]at h1
   cases hu:P.underlying t with
   |none=>rw[hu]at h2;cases h2
   |some d=>
    rw[hu]at h2
    cases d<;>first|(cases h2;done)|skip
    simp only[S5]at h2
    subst h2
    exact YeA hi hf h1.1 h1.2 hu
variable {args:List Operand}{tys:Array TypeId}{vs:List Value}
theorem Jz(Φ:Value->List HP->Prop)(hx:evo env x=some (.iface t v0))
 (hm:∀w,St B w0 H w->(method (P.types.size+Made.depth) t v0 name).run P w=.ok (f,r) w)
 (hc:∀xs w,(callFunc f xs).run P w=.ok (.enter f xs) w) (hargs:Args env args vs) (hn:Nat.ble (d+1) n.k=true)
 (hcall:∀w,St B w0 H w->Calls P f (r::vs).toArray w (Post B w0 Φ))
 (h:∀v H',Φ v H'->VL P none n B w0 ops Q rest ((d,v)::env) H'):
 VL P none n B w0 ops Q (⟨some d,.call ⟨.invoke x name,args.toArray,tys⟩,ty,pos,after,none⟩::rest) env H:=by
 refine⟨λa ha w hw=>wpList_plain rfl λK hK=>?_⟩
 unfold Oper.wp
 have hmap:args.toArray.map a.eval=vs.toArray:=by rw[NA,UT ha _ _ hargs]
 have hrun:(execOp a.eval ⟨some d,.call ⟨.invoke x name,args.toArray,tys⟩,ty,pos,after,none⟩).run P w=.ok (.enter f (r::vs).toArray) w:=by
  simp only[execOp,resolve,ha.eval hx,hmap,Sem.run_bind,Sem.run_pure,Result.andThen_ok,invoke]
  have e1:(#[Value.iface t v0]++vs.toArray)[0]? =some (.iface t v0):=by simp
  have e2:(#[Value.iface t v0]++vs.toArray).extract 1 (#[Value.iface t v0]++vs.toArray).size=vs.toArray:=by simp
  have e3:#[r]++vs.toArray=(r::vs).toArray:=by simp
  simp only[e1,e2,callMethod,Sem.run_bind,run_program,hm w hw,Result.andThen_ok,e3,hc]
 rw[hrun,Oper.upon_enter]
 refine(hcall w hw).mono ?_
 rintro e w' ⟨v,H',rfl,hst,hΦ⟩
 exact hK _ _ ((h v H' hΦ).run _ (ha.put (TX hn) v) _ hst)
theorem Xn(hx:evo env x=some (.iface t v0))
 (hm:∀w,St B w0 H w->(method (P.types.size+Made.depth) t v0 name).run P w=.ok (f,r) w)
 (hc:∀xs w,(callFunc f xs).run P w=.ok (.enter f xs) w) (hargs:Args env args vs) (hn:Nat.ble (d+1) n.k=true)
 (hcall:∀w,St B w0 H w->Calls P f (r::vs).toArray w (Post B w0 λu K=>u=v/\K=H))
 (h:VL P none n B w0 ops Q rest ((d,v)::env) H):
 VL P none n B w0 ops Q (⟨some d,.call ⟨.invoke x name,args.toArray,tys⟩,ty,pos,after,none⟩::rest) env H:=
 Jz _ hx hm hc hargs hn hcall (by rintro _ _ ⟨rfl,rfl⟩;exact h)
end
open Go.RowKit Go.Proofs Go.Proofs.YtaholidehobiiaaGreatDoor
section
variable {m:Mode}{n:Shp}{B:Nat}{w0:World}{ops:Array Oper}{Q:Exit->Act->World->Prop}{rest:List Oper}{env:Env}{H:List HP}{d:Nat}{ty:TypeId}{pos:String}{after:Array Edge}{xt yt:TypeId}{x y:Operand}{k:IntKind}{a b:Int}{s t:ByteArray}
variable {v z:Value}
theorem zs1{x:Operand}(h:VL Tryz.prog m n B w0 ops Q rest ((d,v)::env) H)(hx:evo env x=some v:=by exact rfl)(hn:Nat.ble (d+1) n.k=true:=by exact rfl):VL Tryz.prog m n B w0 ops Q (⟨some d,.move x,ty,pos,after,none⟩::rest) env H:=Ys5 hx hn h
theorem zs2{x:Operand}(h:VL Tryz.prog m n B w0 ops Q rest ((d,v)::env) H)(hx:evo env x=some v:=by exact rfl)(hn:Nat.ble (d+1) n.k=true:=by exact rfl):VL Tryz.prog m n B w0 ops Q (⟨some d,.assign x,ty,pos,after,none⟩::rest) env H:=Yof hx hn h
variable {op:Op}{j f g i tx cap e size bytes q id:Nat}{oj o:Oper}
theorem zs3{m:Mode}{d:Nat}{ty:TypeId}{pos:String}{after:Array Edge}{s:Nat}{b:Bool}(h:VL Tryz.prog m n B w0 ops Q rest ((d,undef)::env) H)(hj:ops[j]? =some oj:=by exact rfl)(hs:oj.dst=some s:=by exact rfl)(hv:get env s=some v:=by exact rfl)(hne:notB v b=true:=by exact rfl)(hn:Nat.ble (d+1) n.k=true:=by exact rfl):VL Tryz.prog m n B w0 ops Q (⟨some d,op,ty,pos,after,some (j,b)⟩::rest) env H:=Yiu hj hs hv hne hn h
theorem zs4{m:Mode}{dst:Option Tmp}{ty:TypeId}{pos:String}{after:Array Edge}{s:Nat}{b:Bool}(h:VL Tryz.prog m n B w0 ops Q (⟨dst,op,ty,pos,after,none⟩::rest) env H)(hj:ops[j]? =some oj:=by exact rfl)(hs:oj.dst=some s:=by exact rfl)(hv:get env s=some (.bool b):=by exact rfl):VL Tryz.prog m n B w0 ops Q (⟨dst,op,ty,pos,after,some (j,b)⟩::rest) env H:=Yg6 hj hs hv h
theorem zs5{x:Operand}{p:Addr}(h:VL Tryz.prog m n B w0 ops Q rest ((d,.pointer (some p))::env) H)(hx:evo env x=some (.pointer (some p)):=by exact rfl)(hn:Nat.ble (d+1) n.k=true:=by exact rfl):VL Tryz.prog m n B w0 ops Q (⟨some d,.nilCheck x,ty,pos,after,none⟩::rest) env H:=Yiz hx hn h
theorem zs6{s k:Nat}{x:Operand}(h:VL Tryz.prog m n B w0 ops Q rest ((d,.pointer (some ⟨g,i+k,none⟩))::env) H)(hx:evo env x=some (.pointer (some ⟨g,i,none⟩)):=by exact rfl)(hf:OM T.fo s f=some k:=by exact rfl)(hn:Nat.ble (d+1) n.k=true:=by exact rfl):VL Tryz.prog m n B w0 ops Q (⟨some d,.fieldAddr s x f,ty,pos,after,none⟩::rest) env H:=Yg4 T hx hf hn h
variable {cs:Array Value}{tt src dst:TypeId}{fr:Nat×Nat}
theorem zs7{t:Nat}{x:Operand}(h:VL Tryz.prog m n B w0 ops Q rest ((d,v)::env) H)(hx:evo env x=some (.pointer (some ⟨g,i,none⟩)):=by exact rfl)(hm:blk g (.cells cs tt fr)∈H:=by(exact zm;done))(hv:nth cs.toList i=some v:=by exact rfl)(ht:look T.sc t=some ():=by exact rfl)(hn:Nat.ble (d+1) n.k=true:=by exact rfl):VL Tryz.prog m n B w0 ops Q (⟨some d,.load t x,ty,pos,after,none⟩::rest) env H:=Ys2 T hx hm hv ht hn h
theorem zs8{t k:Nat}{x:Operand}(h:VL Tryz.prog m n B w0 ops Q rest ((d,.agg cs)::env) H)(hx:evo env x=some (.pointer (some ⟨g,0,none⟩)):=by exact rfl)(hm:blk g (.cells cs tt fr)∈H:=by(exact zm;done))(ht:look T.ag t=some k:=by exact rfl)(hk:cs.size=k:=by exact rfl)(hn:Nat.ble (d+1) n.k=true:=by exact rfl):VL Tryz.prog m n B w0 ops Q (⟨some d,.load t x,ty,pos,after,none⟩::rest) env H:=Yfa T hx hm ht hk hn h
variable {A:Option Addr}
theorem zs9{x:Operand}{k:Nat}{es:Nat×Nat×Nat}(h:VL Tryz.prog m n B w0 ops Q rest ((d,.int .i64 k)::env) H)(hx:evo env x=some (.slice A k cap):=by exact rfl)(ht:look T.sl tx=some es:=by exact rfl)(hn:Nat.ble (d+1) n.k=true:=by exact rfl):VL Tryz.prog m n B w0 ops Q (⟨some d,.call ⟨.builtin .len,#[x],#[tx]⟩,ty,pos,after,none⟩::rest) env H:=Ywd T hx ht hn h
variable {xs cs':List Value}{ki yk:IntKind}
theorem zs10{t:Nat}{x y:Operand}{k:Nat}{i:Int}(h:VL Tryz.prog m n B w0 ops Q rest ((d,sptr A (i.toNat*size))::env) H)(hx:evo env x=some (.slice A k cap):=by exact rfl)(hm:sl e size A k cap xs∈H:=by(exact zm;done))(hy:evo env y=some (.int ki i):=by exact rfl)(ht:look T.sl t=some (e,size,bytes):=by exact rfl)(hn:Nat.ble (d+1) n.k=true:=by exact rfl)(hi:0<=i/\i<k:=by omega):VL Tryz.prog m n B w0 ops Q (⟨some d,.indexAddr t x y,ty,pos,after,none⟩::rest) env H:=Yiv T hx hm hy ht hn hi h
variable {c:Operand}
theorem zs11{x y:Operand}(h:VL Tryz.prog m n B w0 ops Q rest ((d,v)::env) H)(hc:evo env c=some (.bool true):=by exact rfl)(hx:evo env x=some v:=by exact rfl)(hn:Nat.ble (d+1) n.k=true:=by exact rfl):VL Tryz.prog m n B w0 ops Q (⟨some d,.pick c x y,ty,pos,after,none⟩::rest) env H:=Yha hc hx hn h
theorem zs12{x y:Operand}(h:VL Tryz.prog m n B w0 ops Q rest ((d,v)::env) H)(hc:evo env c=some (.bool false):=by exact rfl)(hx:evo env y=some v:=by exact rfl)(hn:Nat.ble (d+1) n.k=true:=by exact rfl):VL Tryz.prog m n B w0 ops Q (⟨some d,.pick c x y,ty,pos,after,none⟩::rest) env H:=Yfb hc hx hn h
theorem zs13{x:Operand}{vs:Array Value}(h:VL Tryz.prog m n B w0 ops Q rest ((d,v)::env) H)(hx:evo env x=some (.tuple vs):=by exact rfl)(hv:nth vs.toList i=some v:=by exact rfl)(hn:Nat.ble (d+1) n.k=true:=by exact rfl):VL Tryz.prog m n B w0 ops Q (⟨some d,.extract x i,ty,pos,after,none⟩::rest) env H:=YkT hx hv hn h
theorem zs14{tx:TypeId}(h:VL Tryz.prog m n B w0 ops Q rest ((d,.int .i64 s.size)::env) H)(hx:evo env x=some (.string s):=by exact rfl)(ht:look T.st tx=some ():=by exact rfl)(hn:Nat.ble (d+1) n.k=true:=by exact rfl):VL Tryz.prog m n B w0 ops Q (⟨some d,.call ⟨.builtin .len,#[x],#[tx]⟩,ty,pos,after,none⟩::rest) env H:=Yta T hx ht hn h
theorem zs15(h1:a=b->VL Tryz.prog m n B w0 ops Q rest ((d,.bool true)::env) H)(h2:a≠b->VL Tryz.prog m n B w0 ops Q rest ((d,.bool false)::env) H)(hx:evo env x=some (.int k a):=by exact rfl)(hy:evo env y=some (.int k b):=by exact rfl)(hn:Nat.ble (d+1) n.k=true:=by exact rfl):VL Tryz.prog m n B w0 ops Q (⟨some d,.binOp .eql xt x y yt,ty,pos,after,none⟩::rest) env H:=Ywa hx hy hn h1 h2
theorem zs16(h1:a≠b->VL Tryz.prog m n B w0 ops Q rest ((d,.bool true)::env) H)(h2:a=b->VL Tryz.prog m n B w0 ops Q rest ((d,.bool false)::env) H)(hx:evo env x=some (.int k a):=by exact rfl)(hy:evo env y=some (.int k b):=by exact rfl)(hn:Nat.ble (d+1) n.k=true:=by exact rfl):VL Tryz.prog m n B w0 ops Q (⟨some d,.binOp .neq xt x y yt,ty,pos,after,none⟩::rest) env H:=Ywi hx hy hn h1 h2
theorem zs17(h1:a<b->VL Tryz.prog m n B w0 ops Q rest ((d,.bool true)::env) H)(h2:b<=a->VL Tryz.prog m n B w0 ops Q rest ((d,.bool false)::env) H)(hx:evo env x=some (.int k a):=by exact rfl)(hy:evo env y=some (.int k b):=by exact rfl)(hn:Nat.ble (d+1) n.k=true:=by exact rfl):VL Tryz.prog m n B w0 ops Q (⟨some d,.binOp .lss xt x y yt,ty,pos,after,none⟩::rest) env H:=Ywf hx hy hn h1 h2
theorem zs18(h1:a<=b->VL Tryz.prog m n B w0 ops Q rest ((d,.bool true)::env) H)(h2:b<a->VL Tryz.prog m n B w0 ops Q rest ((d,.bool false)::env) H)(hx:evo env x=some (.int k a):=by exact rfl)(hy:evo env y=some (.int k b):=by exact rfl)(hn:Nat.ble (d+1) n.k=true:=by exact rfl):VL Tryz.prog m n B w0 ops Q (⟨some d,.binOp .leq xt x y yt,ty,pos,after,none⟩::rest) env H:=Ywe hx hy hn h1 h2
theorem zs19(h1:b<a->VL Tryz.prog m n B w0 ops Q rest ((d,.bool true)::env) H)(h2:a<=b->VL Tryz.prog m n B w0 ops Q rest ((d,.bool false)::env) H)(hx:evo env x=some (.int k a):=by exact rfl)(hy:evo env y=some (.int k b):=by exact rfl)(hn:Nat.ble (d+1) n.k=true:=by exact rfl):VL Tryz.prog m n B w0 ops Q (⟨some d,.binOp .gtr xt x y yt,ty,pos,after,none⟩::rest) env H:=Ywc hx hy hn h1 h2
theorem zs20(h1:b<=a->VL Tryz.prog m n B w0 ops Q rest ((d,.bool true)::env) H)(h2:a<b->VL Tryz.prog m n B w0 ops Q rest ((d,.bool false)::env) H)(hx:evo env x=some (.int k a):=by exact rfl)(hy:evo env y=some (.int k b):=by exact rfl)(hn:Nat.ble (d+1) n.k=true:=by exact rfl):VL Tryz.prog m n B w0 ops Q (⟨some d,.binOp .geq xt x y yt,ty,pos,after,none⟩::rest) env H:=Ywb hx hy hn h1 h2
variable {tys:Array TypeId}
theorem zs25{x y:Operand}{k:IntKind}{a b:Int}(h1:b<a->VL Tryz.prog m n B w0 ops Q rest ((d,.int k b)::env) H)(h2:a<=b->VL Tryz.prog m n B w0 ops Q rest ((d,.int k a)::env) H)(hx:evo env x=some (.int k a):=by exact rfl)(hy:evo env y=some (.int k b):=by exact rfl)(hn:Nat.ble (d+1) n.k=true:=by exact rfl):VL Tryz.prog m n B w0 ops Q (⟨some d,.call ⟨.builtin .min,#[x,y],tys⟩,ty,pos,after,none⟩::rest) env H:=Ys4 hx hy hn h1 h2
theorem zs30(h:VL Tryz.prog m n B w0 ops Q rest ((d,.int .i64 (a+b))::env) H)(hx:evo env x=some (.int .i64 a):=by exact rfl)(hy:evo env y=some (.int .i64 b):=by exact rfl)(hn:Nat.ble (d+1) n.k=true:=by exact rfl)(hb: -9223372036854775808<=a+b/\a+b<=9223372036854775807:=by omega):VL Tryz.prog m n B w0 ops Q (⟨some d,.binOp .add xt x y yt,ty,pos,after,none⟩::rest) env H:=Yv9 hx hy hn hb h
theorem zs31(h:VL Tryz.prog m n B w0 ops Q rest ((d,.int .i64 (a-b))::env) H)(hx:evo env x=some (.int .i64 a):=by exact rfl)(hy:evo env y=some (.int .i64 b):=by exact rfl)(hn:Nat.ble (d+1) n.k=true:=by exact rfl)(hb: -9223372036854775808<=a-b/\a-b<=9223372036854775807:=by omega):VL Tryz.prog m n B w0 ops Q (⟨some d,.binOp .sub xt x y yt,ty,pos,after,none⟩::rest) env H:=Ywn hx hy hn hb h
theorem zs32(h:VL Tryz.prog m n B w0 ops Q rest ((d,.int .i64 (a*b))::env) H)(hx:evo env x=some (.int .i64 a):=by exact rfl)(hy:evo env y=some (.int .i64 b):=by exact rfl)(hn:Nat.ble (d+1) n.k=true:=by exact rfl)(hb: -9223372036854775808<=a*b/\a*b<=9223372036854775807:=by first|exact YrD (by omega) (by omega) (by omega) (by omega)|exact YtS (by omega) (by omega) (by omega) (by omega)|omega):VL Tryz.prog m n B w0 ops Q (⟨some d,.binOp .mul xt x y yt,ty,pos,after,none⟩::rest) env H:=Ywg hx hy hn hb h
theorem zs36(h:VL Tryz.prog m n B w0 ops Q rest ((d,.int .i64 (a/b))::env) H)(hx:evo env x=some (.int .i64 a):=by exact rfl)(hy:evo env y=some (.int .i64 b):=by exact rfl)(hn:Nat.ble (d+1) n.k=true:=by exact rfl)(hb:0<=a/\a<=9223372036854775807/\1<=b:=by omega):VL Tryz.prog m n B w0 ops Q (⟨some d,.binOp .quo xt x y yt,ty,pos,after,none⟩::rest) env H:=Ywj hx hy hn hb h
theorem zs37(h:VL Tryz.prog m n B w0 ops Q rest ((d,.int k (a%b))::env) H)(hx:evo env x=some (.int k a):=by exact rfl)(hy:evo env y=some (.int k b):=by exact rfl)(hn:Nat.ble (d+1) n.k=true:=by exact rfl)(hb:0<=a/\1<=b:=by omega):VL Tryz.prog m n B w0 ops Q (⟨some d,.binOp .rem xt x y yt,ty,pos,after,none⟩::rest) env H:=Ywk hx hy hn hb h
theorem zs38{D:Int}(h:VL Tryz.prog m n B w0 ops Q rest ((d,.int k (a/D))::env) H)(hx:evo env x=some (.int k a):=by exact rfl)(hn:Nat.ble (d+1) n.k=true:=by exact rfl)(hb:0<=b/\b<=k.bits:=by(simp only[IntKind.bits];omega))(hD:(2:Int)^b.toNat=D:=by(simp only[Int.reduceToNat,Int.reducePow];rfl)):VL Tryz.prog m n B w0 ops Q (⟨some d,.binOp .shr xt x (.const (.int yk b)) yt,ty,pos,after,none⟩::rest) env H:=Yqu hx hn hb hD h
theorem zs40(h:VL Tryz.prog m n B w0 ops Q rest ((d,.int k (k.wrap (a*2^b.toNat)))::env) H)(hx:evo env x=some (.int k a):=by exact rfl)(hy:evo env y=some (.int yk b):=by exact rfl)(hn:Nat.ble (d+1) n.k=true:=by exact rfl)(hb:0<=b/\b<=k.bits:=by(simp only[IntKind.bits];omega)):VL Tryz.prog m n B w0 ops Q (⟨some d,.binOp .shl xt x y yt,ty,pos,after,none⟩::rest) env H:=Ywl hx hy hn hb h
theorem zs44{j:IntKind}(h:VL Tryz.prog m n B w0 ops Q rest ((d,.int .i64 a)::env) H)(hx:evo env x=some (.int k a):=by exact rfl)(hs:look T.ik src=some j:=by exact rfl)(ht:look T.ik dst=some .i64:=by exact rfl)(hn:Nat.ble (d+1) n.k=true:=by exact rfl)(hb: -9223372036854775808<=a/\a<=9223372036854775807:=by omega):VL Tryz.prog m n B w0 ops Q (⟨some d,.convert src dst x,ty,pos,after,none⟩::rest) env H:=YkS T hx hs ht hn hb h
theorem zs45{j:IntKind}(h:VL Tryz.prog m n B w0 ops Q rest ((d,.int .u64 a)::env) H)(hx:evo env x=some (.int k a):=by exact rfl)(hs:look T.ik src=some j:=by exact rfl)(ht:look T.ik dst=some .u64:=by exact rfl)(hn:Nat.ble (d+1) n.k=true:=by exact rfl)(hb:0<=a/\a<=18446744073709551615:=by omega):VL Tryz.prog m n B w0 ops Q (⟨some d,.convert src dst x,ty,pos,after,none⟩::rest) env H:=Yis T hx hs ht hn hb h
theorem zs47{x:Operand}{xt:TypeId}(h:VL Tryz.prog m n B w0 ops Q rest ((d,.bool false)::env) H)(hx:evo env x=some (.bool true):=by exact rfl)(hn:Nat.ble (d+1) n.k=true:=by exact rfl):VL Tryz.prog m n B w0 ops Q (⟨some d,.unOp .not xt x,ty,pos,after,none⟩::rest) env H:=YiA hx hn h
theorem zs48{x:Operand}{xt:TypeId}(h:VL Tryz.prog m n B w0 ops Q rest ((d,.bool true)::env) H)(hx:evo env x=some (.bool false):=by exact rfl)(hn:Nat.ble (d+1) n.k=true:=by exact rfl):VL Tryz.prog m n B w0 ops Q (⟨some d,.unOp .not xt x,ty,pos,after,none⟩::rest) env H:=Yg7 hx hn h
theorem zs49{t tt:Nat}{x y:Operand}{k:Nat}{mm c:Nat}{K:Option Addr->Nat->List HP}(h:∀A' cap',VL Tryz.prog none n B w0 ops Q rest ((d,.slice A' (k+mm) cap')::env) (K A' cap'))(hx:evo env x=some (.slice A k cap):=by exact rfl)(ht:look T.sl t=some (e,size,bytes):=by exact rfl)(hy:evo env y=some (.slice (some ⟨g,0,none⟩) mm c):=by exact rfl)(hb:blk g (.cells cs tt fr)∈H:=by(exact zm;done))(hk:cs.size=mm*size:=by exact rfl)(h1:Ju cs.toList=true:=by exact rfl)(hn:Nat.ble (d+1) n.k=true:=by exact rfl)(hu:∀A' cap',Upd (sl e size A k cap xs) (sl e size A' (k+mm) cap' (xs++cs.toList)) H (K A' cap'):=by((intro _ _;exact zd);done))(hby:(k+mm)*bytes<=140737488355328:=by omega):VL Tryz.prog none n B w0 ops Q (⟨some d,.call ⟨.builtin .append,#[x,y],#[t,t]⟩,ty,pos,after,none⟩::rest) env H:=Yoe T hx ht hy hb hk h1 hn hu hby h
variable {K F:List HP}
theorem zs50{t:Nat}{cs:List Value}{x y:Operand}(h:VL Tryz.prog none n B w0 ops Q rest env K)(hx:evo env x=some (.pointer (some ⟨g,i,none⟩)):=by exact rfl)(hy:evo env y=some v:=by exact rfl)(h1:v.oneCell'=true:=by exact rfl)(hu:Upd (blk g (.cells cs.toArray tt (0,0))) (blk g (.cells cs'.toArray tt (0,0))) H K:=by(exact zd;done))(hs:YfC cs i v cs':=by(exact zt;done))(ht:look T.sc t=some ():=by exact rfl):VL Tryz.prog none n B w0 ops Q (⟨none,.store t x y,ty,pos,after,none⟩::rest) env H:=Yqv T hx hy h1 hu hs ht h
theorem zs51{t k:Nat}{cs vs:List Value}{x y:Operand}(h:VL Tryz.prog none n B w0 ops Q rest env K)(hx:evo env x=some (.pointer (some ⟨g,i,none⟩)):=by exact rfl)(hy:evo env y=some (.agg vs.toArray):=by exact rfl)(h1:Ju vs=true:=by exact rfl)(hu:Upd (blk g (.cells cs.toArray tt (0,0))) (blk g (.cells cs'.toArray tt (0,0))) H K:=by(exact zd;done))(hs:PutAt cs i vs cs':=by((repeat(first|exact PutAt.nil|(apply PutAt.cons;exact zt)));done))(ht:look T.ag t=some k:=by exact rfl)(hk:vs.length=k:=by exact rfl):VL Tryz.prog none n B w0 ops Q (⟨none,.store t x y,ty,pos,after,none⟩::rest) env H:=Yhb T hx hy h1 hu hs ht hk h
theorem zs52{t:TypeId}{x:Operand}(h:∀g,VL Tryz.prog none n B w0 ops Q rest ((d,.pointer (some ⟨g,0,none⟩))::env) (blk g (.cells cs t (0,0))::H))(hx:evo env x=some (.agg cs):=by exact rfl)(hn:Nat.ble (d+1) n.k=true:=by exact rfl):VL Tryz.prog none n B w0 ops Q (⟨some d,.box t x,ty,pos,after,none⟩::rest) env H:=Yr hx hn h
theorem zs53{t:TypeId}{x:Operand}(h:∀g,VL Tryz.prog none n B w0 ops Q rest ((d,.pointer (some ⟨g,0,none⟩))::env) (blk g (.cells #[v] t (0,0))::H))(hx:evo env x=some v:=by exact rfl)(h1:v.cells=#[v]:=by exact rfl)(hn:Nat.ble (d+1) n.k=true:=by exact rfl):VL Tryz.prog none n B w0 ops Q (⟨some d,.box t x,ty,pos,after,none⟩::rest) env H:=YkR hx h1 hn h
theorem zs54{t:TypeId}(h:∀g,VL Tryz.prog none n B w0 ops Q rest ((d,.pointer (some ⟨g,0,none⟩))::env) (blk g (.cells cs t (0,0))::H))(hz:look T2.zt t=some z:=by exact rfl)(hc:z.cells=cs:=by exact rfl)(hn:Nat.ble (d+1) n.k=true:=by exact rfl):VL Tryz.prog none n B w0 ops Q (⟨some d,.alloc t,ty,pos,after,none⟩::rest) env H:=Yoc T2 hz hc hn h
variable {parts:List (Nat×Operand)}{ps:List (Nat×Value)}
theorem zs55{t:TypeId}{zc:Array Value}{pl:List (Nat×Nat)}{cs:List Value}(h:VL Tryz.prog m n B w0 ops Q rest ((d,.agg cs.toArray)::env) H)(hp:WV env parts=some ps:=by exact rfl)(hz:look T2.zt t=some (.agg zc):=by exact rfl)(hl:look T2.bt t=some pl:=by exact rfl)(hf:fillL (pl[·]?) zc.toList ps=some cs:=by exact rfl)(hn:Nat.ble (d+1) n.k=true:=by exact rfl):VL Tryz.prog m n B w0 ops Q (⟨some d,.build t parts.toArray,ty,pos,after,none⟩::rest) env H:=Yog T2 hp hz hl hf hn h
theorem zs56{t len:Nat}{zl cs:List Value}(h:∀g,VL Tryz.prog none n B w0 ops Q rest ((d,.slice (some ⟨g,0,none⟩) len len)::env) (blk g (.cells cs.toArray e (0,0))::H))(ht:look T.sl t=some (e,size,bytes):=by exact rfl)(hp:WV env parts=some ps:=by exact rfl)(hz:look T2.zt e=some z:=by exact rfl)(hzc:z.cells=zl.toArray:=by exact rfl)(hf:fillL (λi=>some (i*size,size)) (repZ len zl) ps=some cs:=by exact rfl)(hn:Nat.ble (d+1) n.k=true:=by exact rfl)(hl:(Nat.blt 0 (len*size)&&Nat.beq zl.length size&&Nat.ble (len*size) 1000000)=true:=by exact rfl):VL Tryz.prog none n B w0 ops Q (⟨some d,.buildSlice t len parts.toArray,ty,pos,after,none⟩::rest) env H:=Ua T T2 ht hp hz hzc hf hn hl h
variable {α:Type}
theorem zs57{f:α->List Value}{l:List α}{t:Nat}{x y:Operand}{i:Int}(h:VL Tryz.prog m n B w0 ops Q rest ((d,sptr A (i.toNat*size))::env) H)(hx:evo env x=some (.slice A l.length cap):=by exact rfl)(hy:evo env y=some (.int ki i):=by exact rfl)(hr:Rd B w0 H A (l.flatMap f):=by(exact zr;done))(ht:look T.sl t=some (e,size,bytes):=by exact rfl)(hq:∀a,(f a).length=size:=by exactλ_=>rfl)(h0:Nat.blt 0 size=true:=by exact rfl)(hn:Nat.ble (d+1) n.k=true:=by exact rfl)(hi:0<=i/\i<l.length:=by omega):VL Tryz.prog m n B w0 ops Q (⟨some d,.indexAddr t x y,ty,pos,after,none⟩::rest) env H:=ZX T hx hy hr ht hq h0 hn hi h
theorem zs58{f:α->List Value}{l:List α}{s fl k:Nat}{x:Operand}(h:VL Tryz.prog m n B w0 ops Q rest ((d,sptr A (i*q+k))::env) H)(hx:evo env x=some (sptr A (i*q)):=by exact rfl)(hr:Rd B w0 H A (l.flatMap f):=by(exact zr;done))(hq:∀a,(f a).length=q:=by exactλ_=>rfl)(h0:Nat.blt 0 q=true:=by exact rfl)(hf:OM T.fo s fl=some k:=by exact rfl)(hn:Nat.ble (d+1) n.k=true:=by exact rfl)(hi:i<l.length:=by omega):VL Tryz.prog m n B w0 ops Q (⟨some d,.fieldAddr s x fl,ty,pos,after,none⟩::rest) env H:=Yg5 T hx hr hq h0 hf hn hi h
theorem zs59{f:α->List Value}{l:List α}{t o:Nat}{b:α}{x:Operand}(h:VL Tryz.prog m n B w0 ops Q rest ((d,v)::env) H)(hx:evo env x=some (sptr A (i*q+o)):=by exact rfl)(hr:Rd B w0 H A (l.flatMap f):=by(exact zr;done))(hb:l[i]? =some b:=by assumption)(hq:∀a,(f a).length=q:=by exactλ_=>rfl)(ho:Nat.blt o q=true:=by exact rfl)(hv:nth (f b) o=some v:=by exact rfl)(ht:look T.sc t=some ():=by exact rfl)(hn:Nat.ble (d+1) n.k=true:=by exact rfl):VL Tryz.prog m n B w0 ops Q (⟨some d,.load t x,ty,pos,after,none⟩::rest) env H:=Yc3 T hx hr hb hq ho hv ht hn h
theorem zs60{f:α->List Value}{l:List α}{t:Nat}{b:α}{x:Operand}(h:VL Tryz.prog m n B w0 ops Q rest ((d,v)::env) H)(hx:evo env x=some (sptr A (i*q)):=by exact rfl)(hr:Rd B w0 H A (l.flatMap f):=by(exact zr;done))(hb:l[i]? =some b:=by assumption)(hq:∀a,(f a).length=q:=by exactλ_=>rfl)(ho:Nat.blt 0 q=true:=by exact rfl)(hv:nth (f b) 0=some v:=by exact rfl)(ht:look T.sc t=some ():=by exact rfl)(hn:Nat.ble (d+1) n.k=true:=by exact rfl):VL Tryz.prog m n B w0 ops Q (⟨some d,.load t x,ty,pos,after,none⟩::rest) env H:=JA T hx hr hb hq ho hv ht hn h
theorem zs61{f:α->List Value}{l:List α}{t:Nat}{b:α}{x:Operand}(h:VL Tryz.prog m n B w0 ops Q rest ((d,.agg (f b).toArray)::env) H)(hx:evo env x=some (sptr A (i*q)):=by exact rfl)(hr:Rd B w0 H A (l.flatMap f):=by(exact zr;done))(hb:l[i]? =some b:=by assumption)(hq:∀a,(f a).length=q:=by exactλ_=>rfl)(ho:Nat.blt 0 q=true:=by exact rfl)(ht:look T.ag t=some q:=by exact rfl)(hn:Nat.ble (d+1) n.k=true:=by exact rfl):VL Tryz.prog m n B w0 ops Q (⟨some d,.load t x,ty,pos,after,none⟩::rest) env H:=Yc2 T hx hr hb hq ho ht hn h
theorem zs62{x y:Operand}{k:IntKind}{a b:Int}(h1:a<b->VL Tryz.prog m n B w0 ops Q rest ((d,.int k b)::env) H)(h2:b<=a->VL Tryz.prog m n B w0 ops Q rest ((d,.int k a)::env) H)(hx:evo env x=some (.int k a):=by exact rfl)(hy:evo env y=some (.int k b):=by exact rfl)(hn:Nat.ble (d+1) n.k=true:=by exact rfl):VL Tryz.prog m n B w0 ops Q (⟨some d,.call ⟨.builtin .max,#[x,y],tys⟩,ty,pos,after,none⟩::rest) env H:=Ys3 hx hy hn h1 h2
theorem zs65(h:VQ n B w0 Q .normal env H):VL Tryz.prog none n B w0 ops Q [] env H:=Yqn h
theorem zs66(h:VQ n B w0 Q .normal env H):VL Tryz.prog (some none) n B w0 ops Q [] env H:=Ys7 h
theorem zs68{y:Code}(h:VC Tryz.prog n B w0 y Q env H):VQ n B w0 (Exit.then (wpR Tryz.prog n.r y Q) Q) .normal env H:=Yhe h
theorem zs69{x y:Code}(h:VC Tryz.prog n B w0 x (Exit.then (wpR Tryz.prog n.r y Q) Q) env H):VC Tryz.prog n B w0 (.seq x y) Q env H:=YY h
variable {l:List Oper}
theorem zs70(h:VL Tryz.prog none n B w0 l.toArray Q l env H):VC Tryz.prog n B w0 (.region id l.toArray false) Q env H:=Yx h
theorem zs71{x y:Code}(h:VC Tryz.prog n B w0 x Q env H)(hc:evo env c=some (.bool true):=by exact rfl):VC Tryz.prog n B w0 (.cond c x y) Q env H:=YgX hc h
theorem zs72{x y:Code}(h:VC Tryz.prog n B w0 y Q env H)(hc:evo env c=some (.bool false):=by exact rfl):VC Tryz.prog n B w0 (.cond c x y) Q env H:=Ye8 hc h
theorem zs73{c:Code}(h:VC Tryz.prog n B w0 c (Exit.inBlock id Q) env H):VC Tryz.prog n B w0 (.block id c) Q env H:=Yim h
theorem zs74(h:VQ n B w0 Q .ret env H):VC Tryz.prog n B w0 .ret Q env H:=Yv8 h
theorem zs75(h:VQ n B w0 Q (.exit id) env H):VC Tryz.prog n B w0 (.exit id) Q env H:=YsV h
theorem zs76(h:VQ n B w0 Q .normal env H):VC Tryz.prog n B w0 .skip Q env H:=YsW h
theorem zs77{K:Act->World->Prop}(h:VQ n B w0 Q .ret env H):VQ n B w0 (Exit.then K Q) .ret env H:=YiJ h
theorem zs78(h:VQ n B w0 Q .ret env H):VQ n B w0 (Exit.inBlock id Q) .ret env H:=Yhc h
theorem zs79(h:VQ n B w0 Q .normal env H):VQ n B w0 (Exit.inBlock id Q) .normal env H:=Ycx h
theorem zs80{K:Act->World->Prop}(h:VQ n B w0 Q (.exit id) env H):VQ n B w0 (Exit.then K Q) (.exit id) env H:=Yhf h
theorem zs81(h:VQ n B w0 Q .normal env H):VQ n B w0 (Exit.inBlock id Q) (.exit id) env H:=Yfc h
theorem zs82{id':Nat}(h:VQ n B w0 Q (.exit id') env H)(hne:Nat.beq id' id=false:=by exact rfl):VQ n B w0 (Exit.inBlock id Q) (.exit id') env H:=Yc5 hne h
theorem zs83(h:VL Tryz.prog (some none) n B w0 l.toArray Q l env H)(hq:(l.all λo=>!eff o)=true:=by exact rfl)(hm:Tryz.prog.follows .mixedOrders=true:=by kernel_rfl)(hB:Region.lexB .any l.toArray=true:=by kernel_rfl):VC Tryz.prog n B w0 (.region id l.toArray true) Q env H:=Yqd hq hm hB h
theorem zs84(h:VL Tryz.prog (some none) n B w0 l.toArray Q l env H)(hq:(l.all λo=>!effW o)=true:=by exact rfl)(hm:Tryz.prog.follows .mixedOrders=true:=by kernel_rfl)(hB:Region.lexB .any l.toArray=true:=by kernel_rfl):VC Tryz.prog n B w0 (.region id l.toArray true) Q env H:=Yqc hq hm hB h
theorem zs87{HF:List HP}(h:VL Tryz.prog none n B w0 ops (Yil Tryz.prog B w0 ops Q H rest) [o] env HF)(he:eff o=true:=by exact rfl)(hg:o.guard=none:=by exact rfl)(happ:App H F HF:=by(exact zp;done)):VL Tryz.prog (some (some F)) n B w0 ops Q (o::rest) env H:=Ys0 he hg happ h
theorem zs90{t:OT}(h:VL Tryz.prog (some (some F)) n B w0 ops (Oq Tryz.prog B w0 ops l Q H t) [o] env H)(ho:nthO l i=o:=by(simp only[nthO];rfl)):VT Tryz.prog n B w0 ops l Q (.n1 i t) env H F:=Yw1 ho h
theorem zs91{t u:OT}{o':Oper}(h:VL Tryz.prog (some (some F)) n B w0 ops (Oq Tryz.prog B w0 ops l Q H t) [o] env H)(h':VL Tryz.prog (some (some F)) n B w0 ops (Oq Tryz.prog B w0 ops l Q H u) [o'] env H)(ho:nthO l i=o:=by(simp only[nthO];rfl))(ho':nthO l j=o':=by(simp only[nthO];rfl)):VT Tryz.prog n B w0 ops l Q (.n2 i t j u) env H F:=Yw2 ho ho' h h'
theorem zs93(h:VL Tryz.prog none n B w0 ops Q l env H):VQ n B w0 (Jx Tryz.prog ops Q l) .normal env H:=YqB h
theorem zs94(h:VQ n B w0 Q .normal env H):VQ n B w0 (Only Q) .normal env H:=Ytc h
theorem zg1{m:Mode}{d:Nat}{ty:TypeId}{pos:String}{after:Array Edge}{b:Bool}(h:VL Tryz.prog m n B w0 ops Q (⟨some d,op,ty,pos,after,some (j,b)⟩::rest) env H):VL Tryz.prog m n B w0 ops Q (⟨some d,op,ty,pos,after,some (j,b)⟩::rest) env H:=h
theorem zg2{s:Nat}{x:Operand}(h:VL Tryz.prog m n B w0 ops Q (⟨some d,.fieldAddr s x f,ty,pos,after,none⟩::rest) env H):VL Tryz.prog m n B w0 ops Q (⟨some d,.fieldAddr s x f,ty,pos,after,none⟩::rest) env H:=h
theorem zg3{t:Nat}{x:Operand}(h:VL Tryz.prog m n B w0 ops Q (⟨some d,.load t x,ty,pos,after,none⟩::rest) env H):VL Tryz.prog m n B w0 ops Q (⟨some d,.load t x,ty,pos,after,none⟩::rest) env H:=h
theorem zg4{x:Operand}(h:VL Tryz.prog m n B w0 ops Q (⟨some d,.call ⟨.builtin .len,#[x],#[tx]⟩,ty,pos,after,none⟩::rest) env H):VL Tryz.prog m n B w0 ops Q (⟨some d,.call ⟨.builtin .len,#[x],#[tx]⟩,ty,pos,after,none⟩::rest) env H:=h
theorem zg5{t:Nat}{x y:Operand}(h:VL Tryz.prog m n B w0 ops Q (⟨some d,.indexAddr t x y,ty,pos,after,none⟩::rest) env H):VL Tryz.prog m n B w0 ops Q (⟨some d,.indexAddr t x y,ty,pos,after,none⟩::rest) env H:=h
theorem zg6{x y:Operand}(h:VL Tryz.prog m n B w0 ops Q (⟨some d,.pick c x y,ty,pos,after,none⟩::rest) env H):VL Tryz.prog m n B w0 ops Q (⟨some d,.pick c x y,ty,pos,after,none⟩::rest) env H:=h
theorem zg7(h:VL Tryz.prog m n B w0 ops Q (⟨some d,.binOp .eql xt x y yt,ty,pos,after,none⟩::rest) env H):VL Tryz.prog m n B w0 ops Q (⟨some d,.binOp .eql xt x y yt,ty,pos,after,none⟩::rest) env H:=h
theorem zg8(h:VL Tryz.prog m n B w0 ops Q (⟨some d,.binOp .neq xt x y yt,ty,pos,after,none⟩::rest) env H):VL Tryz.prog m n B w0 ops Q (⟨some d,.binOp .neq xt x y yt,ty,pos,after,none⟩::rest) env H:=h
theorem zg13(h:VL Tryz.prog m n B w0 ops Q (⟨some d,.binOp .add xt x y yt,ty,pos,after,none⟩::rest) env H):VL Tryz.prog m n B w0 ops Q (⟨some d,.binOp .add xt x y yt,ty,pos,after,none⟩::rest) env H:=h
theorem zg14(h:VL Tryz.prog m n B w0 ops Q (⟨some d,.binOp .sub xt x y yt,ty,pos,after,none⟩::rest) env H):VL Tryz.prog m n B w0 ops Q (⟨some d,.binOp .sub xt x y yt,ty,pos,after,none⟩::rest) env H:=h
theorem zg15(h:VL Tryz.prog m n B w0 ops Q (⟨some d,.binOp .mul xt x y yt,ty,pos,after,none⟩::rest) env H):VL Tryz.prog m n B w0 ops Q (⟨some d,.binOp .mul xt x y yt,ty,pos,after,none⟩::rest) env H:=h
theorem zg16(h:VL Tryz.prog m n B w0 ops Q (⟨some d,.binOp .quo xt x y yt,ty,pos,after,none⟩::rest) env H):VL Tryz.prog m n B w0 ops Q (⟨some d,.binOp .quo xt x y yt,ty,pos,after,none⟩::rest) env H:=h
theorem zg17(h:VL Tryz.prog m n B w0 ops Q (⟨some d,.binOp .rem xt x y yt,ty,pos,after,none⟩::rest) env H):VL Tryz.prog m n B w0 ops Q (⟨some d,.binOp .rem xt x y yt,ty,pos,after,none⟩::rest) env H:=h
theorem zg18(h:VL Tryz.prog m n B w0 ops Q (⟨some d,.binOp .shr xt x y yt,ty,pos,after,none⟩::rest) env H):VL Tryz.prog m n B w0 ops Q (⟨some d,.binOp .shr xt x y yt,ty,pos,after,none⟩::rest) env H:=h
theorem zg19(h:VL Tryz.prog m n B w0 ops Q (⟨some d,.convert src dst x,ty,pos,after,none⟩::rest) env H):VL Tryz.prog m n B w0 ops Q (⟨some d,.convert src dst x,ty,pos,after,none⟩::rest) env H:=h
theorem zg20{x:Operand}{xt:TypeId}(h:VL Tryz.prog m n B w0 ops Q (⟨some d,.unOp .not xt x,ty,pos,after,none⟩::rest) env H):VL Tryz.prog m n B w0 ops Q (⟨some d,.unOp .not xt x,ty,pos,after,none⟩::rest) env H:=h
theorem zg21{t:Nat}{x y:Operand}(h:VL Tryz.prog m n B w0 ops Q (⟨some d,.call ⟨.builtin .append,#[x,y],#[t,t]⟩,ty,pos,after,none⟩::rest) env H):VL Tryz.prog m n B w0 ops Q (⟨some d,.call ⟨.builtin .append,#[x,y],#[t,t]⟩,ty,pos,after,none⟩::rest) env H:=h
theorem zg22{t:Nat}{x y:Operand}(h:VL Tryz.prog m n B w0 ops Q (⟨none,.store t x y,ty,pos,after,none⟩::rest) env H):VL Tryz.prog m n B w0 ops Q (⟨none,.store t x y,ty,pos,after,none⟩::rest) env H:=h
theorem zg23{t:TypeId}{x:Operand}(h:VL Tryz.prog m n B w0 ops Q (⟨some d,.box t x,ty,pos,after,none⟩::rest) env H):VL Tryz.prog m n B w0 ops Q (⟨some d,.box t x,ty,pos,after,none⟩::rest) env H:=h
theorem zg24{t:TypeId}(h:VL Tryz.prog m n B w0 ops Q (⟨some d,.alloc t,ty,pos,after,none⟩::rest) env H):VL Tryz.prog m n B w0 ops Q (⟨some d,.alloc t,ty,pos,after,none⟩::rest) env H:=h
theorem zg25{t:TypeId}(h:VL Tryz.prog m n B w0 ops Q (⟨some d,.build t parts.toArray,ty,pos,after,none⟩::rest) env H):VL Tryz.prog m n B w0 ops Q (⟨some d,.build t parts.toArray,ty,pos,after,none⟩::rest) env H:=h
theorem zg26{t len:Nat}(h:VL Tryz.prog m n B w0 ops Q (⟨some d,.buildSlice t len parts.toArray,ty,pos,after,none⟩::rest) env H):VL Tryz.prog m n B w0 ops Q (⟨some d,.buildSlice t len parts.toArray,ty,pos,after,none⟩::rest) env H:=h
theorem zg27{x y:Code}(h:VC Tryz.prog n B w0 (.cond c x y) Q env H):VC Tryz.prog n B w0 (.cond c x y) Q env H:=h
theorem zg28(h:VC Tryz.prog n B w0 (.region id l.toArray true) Q env H):VC Tryz.prog n B w0 (.region id l.toArray true) Q env H:=h
theorem zg29{fn:Fn}{caps:List Operand}(h:VL Tryz.prog m n B w0 ops Q (⟨some d,.makeFunc fn #[] caps.toArray,ty,pos,after,none⟩::rest) env H):VL Tryz.prog m n B w0 ops Q (⟨some d,.makeFunc fn #[] caps.toArray,ty,pos,after,none⟩::rest) env H:=h
end
end Go.Eng
