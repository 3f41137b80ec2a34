/- Lemmas. -/
import Derived.Sort.OwnSortedInts
import Derived.Lib.AppendIntMem
import Derived.WideLaws
import Derived.Lib.SmallJoins
import Derived.Lib.Builder
import Derived.Lib.AtoiAllCases
import Derived.Test.YtjommdkgfbhbdaaGreatDoorQ6
import Derived.Test.YtjommdkgfbhbdaaGreatDoorQ7
set_option maxRecDepth 100000
set_option maxHeartbeats 8000000
set_option linter.all false
namespace Go.Eng
open Go.RowKit
variable {B cap:Nat}{w0:World}{H:List HP}{A:Option Addr}
theorem UF{P:Program}{n:Shp}{Q:Exit->Act->World->Prop}{env:Env}{c:Code}{e size k:Nat}{xs:List Value}(hm:sl e size A k cap xs∈H)(h:k<=cap->VC P n B w0 c Q env H):VC P n B w0 c Q env H:=by
 refine⟨λa w ha hw=>?_⟩
 have hown:=hw.sl hm
 have hkc:k<=cap:=zc99
 exact(h hkc).run a w ha hw
end Go.Eng
namespace Go.Proofs.YtjommdkgfbhbdaaGreatDoor
open Go.RowKit Go.Eng Go.Nw
theorem Zm(A:Option Addr)(cap size:Nat):subA A 0 cap size=A:=by
 simp_all [subA,Go.Addr.add]
theorem YaG{α:Type}{f:α->List Value}{q:Nat}(hq:∀a,(f a).length=q):∀(l:List α) (i:Nat),i<l.length->(l.flatMap f).take (i*q)++(l.flatMap f).drop ((i+1)*q)=(l.eraseIdx i).flatMap f
 |x::l,0,_=>by
  simp_all
 |x::l,i+1,h=>by
  rw[Rf]at h
  have ih:=YaG hq l i (by omega)
  have e1:(i+1)*q=(f x).length+i*q:=by grind
  have e2:(i+1+1)*q=(f x).length+(i+1)*q:=by grind
  rw[Rk,List.eraseIdx_cons_succ,Rk,e2,List.drop_length_add_append,<-ih,<-Ro]
  grind
def cels(A:Option Addr)(cap:Nat)(l:List Cel):HP:=sl 162 5 A l.length cap (l.flatMap celF)
theorem YmN(A:Option Addr)(cap:Nat)(l:List Cel)(c:Cel):sl 162 5 A (l.length+1) cap (l.flatMap celF++celF c)=cels A cap (l++[c]):=by
 grind [cels]
theorem Z7(A:Option Addr)(cap:Nat)(l:List Cel)(c:Cel):sl 162 5 A (l.length+1) cap (l.flatMap celF++#[Value.int .i64 c.1,.int .i64 c.2.1,.int .i64 c.2.2.1,.int .i64 c.2.2.2.1,.int .i64 c.2.2.2.2].toList)=cels A cap (l++[c]):=YmN A cap l c
theorem Yc3(l:List Cel)(c:Cel):l.length+1=(l++[c]).length:=by simp
variable {B cap:Nat}{w0 w:World}{H:List HP}{A:Option Addr}
theorem Rd.cels{l:List Cel}(h:cels A cap l∈H):Rd B w0 H A (l.flatMap celF):=.sl h
theorem YoE{a b:Cel}(h:celF a=celF b):a=b:=by
 obtain⟨a1,a2,a3,a4,a5⟩:=a
 simp_all [celF]
section
variable {m:Eng.Mode}{n:Shp}{B d:Nat}{w0:World}{ops:Array Oper}{Q:Exit->Act->World->Prop}{rest:List Oper}{env:Env}{H:List HP}{ty:TypeId}{pos:String}{after:Array Edge}
theorem Yq7(a b:Cel){x y:Operand}(hx:evo env x=some (.agg (celF a).toArray))(hy:evo env y=some (.agg (celF b).toArray))(hn:Nat.ble (d+1) n.k=true)
 (h1:a≠b->VL Tryz.prog m n B w0 ops Q rest ((d,.bool true)::env) H) (h2:a=b->VL Tryz.prog m n B w0 ops Q rest ((d,.bool false)::env) H):
 VL Tryz.prog m n B w0 ops Q (⟨some d,.binOp .neq 162 x y 162,ty,pos,after,none⟩::rest) env H:=
 UG (xs:=celF a) (ys:=celF b) hx hy hn (by kernel_rfl) (by kernel_rfl) (λe=>h1 λh=>e (by rw[h])) (λe=>h2 (YoE e))
end
theorem YiK(l m:List Cel)(hl:l.length<=1000000000000)(hm:m.length<=1000000000000){A2:Option Addr}{cap2:Nat}(hr:Rd B w0 H A (l.flatMap celF))(hr2:Rd B w0 H A2 (m.flatMap celF))(hw:St B w0 H w):
 CX B w0 144 [.slice A l.length cap,.slice A2 m.length cap2] w λv K=>v=.bool (decide (l=m))/\K=H:=by
 refine Ya Tryz.func144 Tryz.ntmps144 rfl rfl hw ?_
 by_cases hll:l.length=m.length
 rotate_left
 ·exact zc6
 refine zX0 ?_<;>intros
 refine Ye (λ(i:Nat)=>[(5,.int .i64 i),(0,.slice A l.length cap),(1,.slice A2 m.length cap2)]) (λ_=>H) (λi=>i<=l.length/\l.take i=m.take i) (λi=>l.length-i) 0 ⟨Td _,rfl⟩ ?_ (λw hw=>hw) ?_
 ·exact zc1
 rintro i ⟨hi,he⟩ K hK
 by_cases hlt:i<l.length
 ·obtain⟨x,hx⟩:∃x,l[i]? =some x:=⟨_,Ta hlt⟩
  obtain⟨y,hy⟩:∃y,m[i]? =some y:=⟨_,Ta (by omega)⟩
  repeat'(first|(apply Yq7 x y;(iterate 3 exact rfl);all_goals intro hxy)|refine zgd ?_|(refine zge ?_ ?_<;>intro _<;>try exact zo)|fail)
  ·apply Yc;exact rfl;exact rfl
   have hne:l≠m:=by
    grind
   simp_all
  ·apply hK (i+1)
   ·exact⟨by omega,by exact zc78⟩
   ·omega
   ·exact zc1
   exact zc18
 ·obtain rfl:i=l.length:=by omega
  refine zX1 ?_<;>intros
  apply Yc;exact rfl;exact rfl
  rw[TC,hll,TC]at he
  exact⟨by rw[Ti he],rfl⟩
theorem YkK(s t:SchM)(hl:s.cells.length<=1000000000000)(hm:t.cells.length<=1000000000000)(hr:Rd B w0 H s.A (s.cells.flatMap celF))(hr2:Rd B w0 H t.A (t.cells.flatMap celF))(hw:St B w0 H w):
 CX B w0 57 [s.val,t.val] w λv K=>v=.bool (decide (s.len=t.len/\s.off=t.off/\s.cells=t.cells))/\K=H:=by
 refine Ya Tryz.func57 Tryz.ntmps57 rfl rfl hw ?_
 repeat'(first|((apply YT Ywj);exact za;exact rfl;exactλ_ hw=>(YiK s.cells t.cells hl hm hr.cons.cons hr2.cons.cons hw);all_goals(intro hB;(try simp only[Tm,Tv]at hB);try exact zo))|refine zgc ?_|(refine zge ?_ ?_<;>intro _<;>try exact zo)|(refine zgh ?_;intro _)|fail)
 all_goals(
  apply Yf H
  ·exact zk
  apply Yc;exact rfl;exact rfl
  first
   |exact⟨by rw[Ti ⟨by assumption,by assumption,by assumption⟩],rfl⟩
   |exact⟨by rw[Tn λh=>absurd h.1 (by assumption)],rfl⟩
   |exact⟨by rw[Tn λh=>absurd h.2.1 (by assumption)],rfl⟩
   |exact⟨by rw[Tn λh=>absurd h.2.2 (by assumption)],rfl⟩)
def inI(s:Sch)(slot:Int)(k:Nat):List Nat:=(List.range k).filter λi=>decide ((Yl s i).1=slot)
def inXs(s:Sch)(slot:Int):List (List Value):=(inI s slot s.cells.length).map λ(i:Nat)=>[Value.int .i64 (i:Int)]
variable {s:Sch}{slot:Int}{k B:Nat}
theorem YlB(h:(Yl s k).1=slot):inI s slot (k+1)=inI s slot k++[k]:=by
 grind [inI,RH]
theorem Ypr(h:(Yl s k).1≠slot):inI s slot (k+1)=inI s slot k:=by
 grind [inI,RH]
theorem YrJ{n:Nat}(h:(Yl s k).1=slot)(hk:k<n):(inI s slot n)[(inI s slot k).length]? =some k:=by
 obtain⟨m,rfl⟩:∃m,n=k+(m+1):=⟨n-k-1,by omega⟩
 have e:inI s slot (k+(m+1))=inI s slot k++((List.range (m+1)).map (k+·)).filter λi=>decide ((Yl s i).1=slot):=by
  grind [inI,List.range_add]
 simp_all [List.range_succ_eq_map]
theorem Og{i:Nat}:i∈inI s slot k↔i<k/\(Yl s i).1=slot:=by
 grind [inI]
def schB(g:Nat)(s:SchM):HP:=blk g (.cells #[.int .i64 s.len,.int .i64 s.off,.slice s.A s.cells.length s.cap] 33 (0,0))
def intB(g:Nat)(x:Int):HP:=blk g (.cells #[.int .i64 x] 3 (0,0))
variable {w0:World}
theorem Yh1(s:SchM)(slot:Int)(gs gt:Nat){HI:List HP}(hr:Rd B w0 HI s.A (s.cells.flatMap celF))(hl:s.cells.length<=1000000000000)
 (hms:blk gs (.cells #[.int .i64 s.len,.int .i64 s.off,.slice s.A s.cells.length s.cap] 33 (0,0))∈HI) (hmt:blk gt (.cells #[.int .i64 slot] 3 (0,0))∈HI):
 YbR Tryz.prog 385 [.pointer (some ⟨gs,0,none⟩),.pointer (some ⟨gt,0,none⟩)] (inXs s.sch slot) B w0 HI:=by
 refine YbS Tryz.func385 Tryz.ntmps385 rfl rfl ?_
 intro l SS X hy L0 h0
 refine zX9 ?_
 refine Ye (λ(x:Nat×List HP)=>[(9,.int .i64 x.1),(8,.int .i64 s.cells.length),(7,.slice s.A s.cells.length s.cap),(0,.func (.yield l) #[] #[]),(1,.pointer (some ⟨gs,0,none⟩)),(2,.pointer (some ⟨gt,0,none⟩))]) (λx=>many x.2::HI) (λx=>x.1<=s.cells.length/\SS (inI s.sch slot x.1).length x.2) (λx=>s.cells.length-x.1) (0,L0) ⟨Td _,h0⟩ ?_ (λw hw=>hw) ?_
 ·exact zc1
 rintro⟨i,L⟩ ⟨hi,hS⟩ K hK
 dsimp only at hi hS⊢
 have hr:=hr.cons (X:=many L)
 by_cases hlt:i<s.cells.length
 ·have hget:s.cells[i]? =some (Yl s.sch i):=YS (s:=s.sch) hlt
  have hlt2:i<s.sch.cells.length:=hlt
  iterate 22 (first|refine zgd ?_|(refine zge ?_ ?_<;>intro _<;>try exact zo)|(refine zgh ?_;intro _)|fail)
  refine YbT 7 rfl rfl Yjj ?_
  repeat'(first|refine zgc ?_|(refine zge ?_ ?_<;>intro _<;>try exact zo)|fail)
  ·rename_i g5 hs
   have hx:(inXs s.sch slot)[(inI s.sch slot i).length]? =some [.int .i64 (i:Int)]:=by
    rw[inXs,TU,YrJ hs hlt2];rfl
   have hY:=hy _ _ hx [blk g5 (.cells (celF (Yl s.sch i)).toArray 162 (0,0))] L hS
   apply Yb2 _ _ (hy:=hY)
   ·exact Ybc (j:=4) (s:=18) rfl rfl rfl
   ·exact rfl
   ·exact YqM
   ·exact rfl
   ·exact Yjj
   ·rintro _ ⟨L',hS',rfl⟩
    refine zX3 ?_
    apply hK (i+1,L')
    ·exact⟨by omega,by rw[YlB hs,Tt];exact hS'⟩
    ·exact zc73
    ·exact zc1
    ·exact QZ
   ·rintro _ ⟨L',hX',rfl⟩
    refine zX3 ?_
    apply Yf (many L'::HI)
    ·exact QZ
    apply W6;exact rfl
    exact .inr ⟨L',hX',rfl⟩
  ·rename_i hs
   apply Yg6 Yjj
   refine zX11 ?_
   apply hK (i+1,L)
   ·exact⟨by omega,by rw[Ypr hs];exact hS⟩
   ·exact zc73
   ·exact zc1
   ·exact QZ
 ·refine zX1 ?_<;>intros
  apply J8;exact rfl
  rw[show i=s.cells.length by omega]at hS
  exact .inl ⟨L,by rw[inXs,Tu];exact hS,rfl⟩
theorem Yh2(s:SchM)(slot:Int){H:List HP}{w:World}(hw:St B w0 H w):
 CX B w0 329 [s.val,.int .i64 slot] w λv K=>∃gs gt,v=.func (.func 385) #[] #[.pointer (some ⟨gs,0,none⟩),.pointer (some ⟨gt,0,none⟩)]/\K=intB gt slot::schB gs s::H:=by
 refine Ya Tryz.func329 Tryz.ntmps329 rfl rfl hw ?_
 refine zX28 ?_<;>intros
 apply Yc;exact rfl;exact rfl
 exact⟨_,_,rfl,rfl⟩
abbrev ints(A:Option Addr)(cap:Nat)(l:List Int):HP:=sl 3 1 A l.length cap (l.flatMap numF)
theorem Ym8(A:Option Addr)(cap:Nat)(l:List Int)(z:Int):sl 3 1 A (l.length+1) cap (l.flatMap numF++#[Value.int .i64 z].toList)=ints A cap (l++[z]):=by simp_all [ints,numF]
theorem YnL{l:List Int}{k:Nat}{a:Int}(h:l[k]? =some a):l.take (k+1)=l.take k++[a]:=zc78
variable {B:Nat}{w0:World}{H:List HP}
theorem NetM.In.mono{K:List HP}{n:NetM}(h:n.In B w0 H)(hH:∀w,St B w0 K w->St B w0 H w):n.In B w0 K:=
 ⟨h.pw.mono hH,λr hr=>(h.rw_ r hr).mono hH,h.lk.mono hH,h.mg.mono hH,h.s1,h.s2,h.s3,h.s4⟩
def fewE(n:Net):Bool:=decide ((∀r∈n.power,r.length<=40)/\n.power.length<=8/\n.links.length<=60/\n.margin.length<=60)
theorem YhI(n:NetM){w:World}(hin:n.In B w0 H)(hw:St B w0 H w):
 CX B w0 37 [n.val] w λv K=>v=.bool (fewE n.net)/\K=H:=by
 refine Ya Tryz.func37 Tryz.ntmps37 rfl rfl hw ?_
 obtain⟨hpw,hrw,hlk,hmg,hs1,hs2,hs3,hs4⟩:=id hin
 have e1:(∀r∈n.net.power,r.length<=40)↔∀r∈n.rows,r.xs.length<=40:=by simp[NetM.net]
 have e2:n.net.power.length=n.rows.length:=by simp[NetM.net]
 have e3:n.net.links=n.links:=rfl
 have e4:n.net.margin=n.margin:=rfl
 unfold fewE
 rw[e2,e3,e4]
 (apply Y5;apply YL;apply Yx;exact rfl;exact rfl;intro g)
 refine zX9 ?_
 refine Ye (λ(a:Nat)=>[(3,.int .i64 a),(1,.pointer (some ⟨g,0,none⟩))]) (λ_=>netB g n::H) (λa=>a<=n.rows.length/\∀j r,j<a->n.rows[j]? =some r->r.xs.length<=40) (λa=>n.rows.length-a) 0 ⟨Td _,by intro j r hj;omega⟩ ?_ (λw hw=>hw) ?_
 ·exact zc1
 rintro a ⟨ha,hai⟩ K hK
 by_cases hlt:a<n.rows.length
 ·obtain⟨r,hr⟩:∃r,n.rows[a]? =some r:=⟨_,Ta hlt⟩
  have hs2r:=hs2 r (Tc hr)
  repeat'(first|refine zgd ?_|(refine zgf ?_ ?_<;>intro _<;>try exact zo)|fail)
  ·rename_i h
   apply Yj;apply Yc;exact rfl;exact rfl
   exact⟨by rw[Tn λhc=>by have:=e1.1 hc.1 r (Tc hr);omega],rfl⟩
  ·rename_i h
   apply hK (a+1)
   ·refine⟨by omega,λj q hj hq=>?_⟩
    by_cases e:j=a
    ·subst e;rw[hr]at hq;rw[<-Tz hq];omega
    ·exact hai j q (by omega) hq
   ·omega
   ·exact zc1
   exact zc18
 obtain rfl:a=n.rows.length:=by omega
 have hall:∀r∈n.rows,r.xs.length<=40:=λr hr=>by
  obtain⟨j,hj⟩:=List.getElem?_of_mem hr
  exact hai j r (Tj.1 hj).1 hj
 repeat'(first|refine zgc ?_|(refine zgf ?_ ?_<;>intro _<;>try exact zo)|fail)
 ·apply Yj;apply Yc;exact rfl;exact rfl
  exact⟨by rw[Ti ⟨e1.2 hall,by omega,by omega,by omega⟩],rfl⟩
 all_goals(apply Yj;apply Yc;exact rfl;exact rfl;exact⟨by rw[Tn λhc=>by omega],rfl⟩)
def wordS:List UInt8:=[115,99,104,101,100,117,108,101]
def wordC:List UInt8:=[99,101,108,108]
def Wg(w:List UInt8)(l:List Int):List UInt8:=w++l.flatMap λn=>32::Lib.itoa n
def WM(w:List UInt8)(l:List Int):List UInt8:=Wg w l++[10]
def Yql(s:Sch):List UInt8:=WM wordS [s.len,s.off]++s.cells.flatMap λc=>WM wordC (nums c)
def ZG(s:Sch):List UInt8×Int:=if Xh s=false then([],1)else(Yql s,0)
theorem Ypv{n:Int}(h:0<=n):Lib.itoa n=Lib.decDigits n.toNat:=by simp_all [Go.Lib.itoa,if_neg]
theorem Yai{s:Sch}(h:Frm s):(∀n∈[s.len,s.off],0<=n/\n<10000)/\∀c∈s.cells,∀n∈nums c,0<=n/\n<10000:=by
 have h1:=h.sized
 unfold Zf at h1
 constructor
 ·grind
 ·intro c hc n hn
  have h3:=h.formed c hc
  unfold XA XB insE at h3
  unfold nums at hn
  grind
structure Tabs(w:World):Prop where
 pow:Lib.TabIs Tryz.prog w "internal/strconv.uint64pow10" .u64 Lib.pow10Tab
def TabsB(B:Nat)(w0:World):Prop:=∀w,Below B w0 w->Tabs w
variable {B:Nat}{w0 w:World}{H:List HP}
theorem TabsB.here(h:TabsB B w0)(hw:St B w0 H w):TabsB w.heap.size w:=λw1 h1=>h w1 (hw.below.trans (h1.mono hw.le))
abbrev strV(l:List UInt8):Value:=.string ⟨l.toArray⟩
theorem Ynb(n:Int)(h0: -9223372036854775808<=n)(h1:n<=9223372036854775807)(ht:TabsB B w0)(hw:St B w0 H w):
 CX B w0 166 [.int .i64 n] w λv K=>v=strV (Lib.itoa n)/\K=H:=
 YjG hw ((Tryz.strconv_Itoa n h0 h1 w (ht w hw.below).pow).mono λe w' ⟨h1,k,os,h2⟩=>⟨h1,by simp_all [Go.Lib.below_grow]⟩)
theorem Qv{s:Sch}{slot:Int}{k:Nat}{args:List Value}(h:(inXs s slot)[k]? =some args):∃i,(inI s slot s.cells.length)[k]? =some i/\i<s.cells.length/\args=[.int .i64 (i:Int)]:=by
 unfold inXs at h
 rw[TU]at h
 cases hi:(inI s slot s.cells.length)[k]? with
 |none=>simp_all
 |some i=>
  rw[hi]at h
  cases h
  exact⟨i,rfl,(Og.1 (Tc hi)).1,rfl⟩
section
variable {m:Eng.Mode}{n:Shp}{B d:Nat}{w0:World}{ops:Array Oper}{Q:Exit->Act->World->Prop}{rest:List Oper}{env:Env}{H:List HP}{ty:TypeId}{pos:String}{after:Array Edge}{x y:Operand}
theorem Yjt(a b:List UInt8)(hx:evo env x=some (strV a))(hy:evo env y=some (strV b))(hn:Nat.ble (d+1) n.k=true)(hb:a.length+b.length<=1000000)(h:VL Tryz.prog m n B w0 ops Q rest ((d,strV (a++b))::env) H):
 VL Tryz.prog m n B w0 ops Q (⟨some d,.binOp .add 9 x y 9,ty,pos,after,none⟩::rest) env H:=by
 have hs:∀l:List UInt8,(⟨l.toArray⟩:ByteArray).size=l.length:=by grind [ByteArray.size]
 refine Yrh hx hy hn (by grind) ?_
 have e:(⟨a.toArray⟩:ByteArray)++⟨b.toArray⟩=⟨(a++b).toArray⟩:=by
  apply ByteArray.ext
  simp
 simp_all
variable {g:Nat}{cs:Array Value}{fr:Nat×Nat}
theorem Yoj(hx:evo env x=some (.pointer (some ⟨g,0,none⟩)))(hm:blk g (.cells cs 121 fr)∈H)(hc:cs.size=2)(hn:Nat.ble (d+1) n.k=true)
 (h:VL Tryz.prog none n B w0 ops Q rest ((d,.pointer (some ⟨g,0,none⟩))::env) H):VL Tryz.prog none n B w0 ops Q (⟨some d,.convert 118 274 x,ty,pos,after,none⟩::rest) env H:=by
 refine XG (λv K'=>v=.pointer (some ⟨g,0,none⟩)/\K'=H) rfl rfl hn (λa w ha hw=>?_) (by rintro _ _ ⟨rfl,rfl⟩;exact h)
 have hb:=(hw.blk hm).1
 obtain⟨j,hj,hjs⟩:=Nb.1 (show(Tryz.prog.info? 121).map (·.size)=some 2 by kernel_rfl)
 have hr:=Lib.run_to_unsafe (P:=Tryz.prog) w ⟨g,0,none⟩ Tryz.underlying118 Tryz.underlying274 hj (by rw[hjs];decide) (show w.shape? g=some (121,2) by simp[World.shape?,hb,hc]) (Nat.zero_lt_succ 1)
 exact⟨_,H,w,by simp[execOp,ha.eval hx,hr],hw,rfl,rfl⟩
theorem Yod(hx:evo env x=some (.pointer (some ⟨g,0,none⟩)))(hm:blk g (.cells cs 121 fr)∈H)(hc:cs.size=2)(hn:Nat.ble (d+1) n.k=true)
 (h:VL Tryz.prog none n B w0 ops Q rest ((d,.pointer (some ⟨g,0,none⟩))::env) H):VL Tryz.prog none n B w0 ops Q (⟨some d,.convert 274 118 x,ty,pos,after,none⟩::rest) env H:=by
 refine XG (λv K'=>v=.pointer (some ⟨g,0,none⟩)/\K'=H) rfl rfl hn (λa w ha hw=>?_) zc69
 have hb:=(hw.blk hm).1
 obtain⟨j,hj,hjs⟩:=Nb.1 (show(Tryz.prog.info? 121).map (·.size)=some 2 by kernel_rfl)
 have hr:=Lib.run_from_unsafe (P:=Tryz.prog) w ⟨g,0,none⟩ Tryz.underlying274 Tryz.underlying118 hj (show w.shape? g=some (121,2) by simp[World.shape?,hb,hc]) (by kernel_rfl)
 exact⟨_,H,w,by simp[execOp,ha.eval hx,hr],hw,rfl,rfl⟩
theorem Yob{v:Value}{tys:Array TypeId}(hx:evo env x=some v)(hn:Nat.ble (d+1) n.k=true)(h:VL Tryz.prog none n B w0 ops Q rest ((d,v)::env) H):
 VL Tryz.prog none n B w0 ops Q (⟨some d,.call ⟨.value (.func 246),#[x],tys⟩,ty,pos,after,none⟩::rest) env H:=by
 refine XG (λu K'=>u=v/\K'=H) rfl rfl hn (λa w ha hw=>⟨v,H,w,?_,hw,rfl,rfl⟩) zc69
 have hr:=run_callFunc_extern (P:=Tryz.prog) Tryz.func246 (by kernel_rfl) (by kernel_rfl) (by kernel_rfl) (e:=Extern.AbiNoEscape.same) (by kernel_rfl) #[v] w
 have he:a.eval (.func 246)=.func (.func 246) #[] #[]:=rfl
 simp[execOp,resolve,invoke,ha.eval hx,he,Deferred.ofValue,hr,Lib.run_noEscape,Result.andThen]
theorem Yg1{g:Addr}(hx:evo env x=some (.pointer (some g)))(hy:evo env y=some (.pointer (some g)))(hn:Nat.ble (d+1) n.k=true)(h:VL Tryz.prog m n B w0 ops Q rest ((d,.bool false)::env) H):
 VL Tryz.prog m n B w0 ops Q (⟨some d,.binOp .neq 118 x y 118,ty,pos,after,none⟩::rest) env H:=by
 obtain⟨j,hj,hjs⟩:=Nb.1 (show(Tryz.prog.info? 121).map (·.size)=some 2 by kernel_rfl)
 exact Xj hx hy hn (λ_=>rfl) (λw=>Lib.run_neq_ptr_same w g Tryz.underlying118 hj) h
end
variable {B b cap:Nat}{w0 w:World}{H:List HP}
theorem Yck(b:Nat)(p v:Value)(hp:p=.pointer none\/p=.pointer (some ⟨b,0,none⟩))(hw:St B w0 (blk b (.cells #[p,v] 121 (0,0))::H) w):
 CX B w0 165 [.pointer (some ⟨b,0,none⟩)] w λu K=>u=.tuple #[]/\K=blk b (.cells #[.pointer (some ⟨b,0,none⟩),v] 121 (0,0))::H:=by
 refine Ya Tryz.func165 Tryz.ntmps165 rfl rfl hw ?_
 rcases hp with rfl|rfl
 ·skip
  repeat'(first|(apply Yg0;exact rfl;exact rfl;kernel_rfl)|(apply Yoj;exact rfl;exact zm;exact rfl;exact rfl)|(apply Yod;exact rfl;exact zm;exact rfl;exact rfl)|(apply Yob;exact rfl;exact rfl)|(apply Yg1;(iterate 3 exact rfl))|refine zgd ?_|fail)
  exact Yjk
 ·skip
  repeat'(first|(apply Yg0;exact rfl;exact rfl;kernel_rfl)|(apply Yg1;(iterate 3 exact rfl))|refine zgd ?_|fail)
  exact Yjk
def bdP(b:Nat)(p:Value)(A:Option Addr)(cap:Nat)(l:List UInt8)(H:List HP):List HP:=blk b (.cells #[p,.slice A l.length cap] 121 (0,0))::sl 5 1 A l.length cap (Lib.byteCells l)::H
theorem YdR(b:Nat)(p:Value)(hp:p=.pointer none\/p=.pointer (some ⟨b,0,none⟩))(A:Option Addr)(cap:Nat)(l s:List UInt8)(hl:l.length+s.length<=1000000)(hw:St B w0 (bdP b p A cap l H) w):
 CX B w0 80 [.pointer (some ⟨b,0,none⟩),strV s] w λu K=>u=.tuple #[.int .i64 s.length,.nilIface]/\∃A' cap',K=bdP b (.pointer (some ⟨b,0,none⟩)) A' cap' (l++s) H:=by
 have hs:(⟨s.toArray⟩:ByteArray).size=s.length:=by simp[ByteArray.size]
 refine Ya Tryz.func80 Tryz.ntmps80 rfl rfl hw ?_
 unfold bdP
 refine zX2 ?_
 apply Yg _ Ywq
 exact za
 exact rfl
 exactλ_ hw=>(Yck b p _ hp (hw))
 rintro _ _ ⟨rfl,rfl⟩
 repeat'(first|(apply Yfy T (e:=5);(iterate 3 exact rfl);kernel_rfl;exact rfl;exact rfl;(intro _ _;exact zd);(rw[hs];omega);intro A' cap')|refine zgd ?_|fail)
 have e1:Lib.byteCells l++Lib.strCells ⟨s.toArray⟩=Lib.byteCells (l++s):=by
  grind [Go.Lib.byteCells,Go.Lib.strCells]
 have e2:l.length+(⟨s.toArray⟩:ByteArray).size=(l++s).length:=by simp_all
 apply YJ;(iterate 3 exact rfl)
 refine⟨by rw[hs],A',cap',?_⟩
 simp_all
variable {p:Value}{A:Option Addr}{l:List UInt8}
theorem Yvj(hp:p=.pointer none\/p=.pointer (some ⟨b,0,none⟩))(hw:St B w0 (bdP b p A cap l H) w):Lib.IsBuilder 121 5 B b (Lib.byteCells l) w:=by
 obtain⟨_,_,S1,S2,k1,k2,k3,⟨k4,k5⟩,S3,S4,j1,j2,j3,⟨⟨j4,j5⟩,j6⟩,j7⟩:=hw
 have hl:(Lib.byteCells l).length=l.length:=by omega
 have hat:Lib.BuilderAt 121 5 B b p (Lib.byteCells l) w:=by
  refine⟨(k1 b k4).1,.slice A l.length cap,k5,⟨by omega,?_⟩,?_⟩
  ·rw[hl]
   rcases j5 with j5|⟨g,c,cur,e1,e2,e3⟩
   ·simp_all
   ·refine .inr ⟨g,c,cur,e1,?_,e3⟩
    simp_all
  exact Ymb
 rcases hp with rfl|rfl
 ·exact .inl hat
 ·exact .inr hat
theorem Yi0(hp:p=.pointer none\/p=.pointer (some ⟨b,0,none⟩))(hw:St B w0 (bdP b p A cap l H) w):
 CX B w0 84 [.pointer (some ⟨b,0,none⟩)] w λv K=>v=strV l/\K=[]:=by
 refine(Tryz.Builder_String_any B b l w (Yvj hp hw) hw.le).mono ?_
 rintro e w' ⟨rfl,hb⟩
 exact⟨_,[],rfl,⟨hw.below.trans hb,TX hw.le hb.size,trivial⟩,rfl,rfl⟩
theorem Yh5{n:Int}(h:0<=n/\n<10000):(Lib.itoa n).length<=4:=by
 grind [Ypv,Yry]
theorem Yb8{w:List UInt8}:∀{l:List Int},(∀n∈l,0<=n/\n<10000)->(Wg w l).length<=w.length+5*l.length
 |[],_=>by simp[Wg]
 |n::l,h=>by
  have ih:=Yb8 (w:=w) (l:=l) λm hm=>h m (TK _ hm)
  grind [Yh5,Wg]
theorem YmH(w:List UInt8)(l:List Int)(n:Int):Wg w (l++[n])=Wg w l++([32]++Lib.itoa n):=by
 grind [Wg]
theorem Ye0(word:List UInt8)(l:List Int)(h:∀n∈l,0<=n/\n<10000)(h5:l.length<=100)(hwd:word.length<=100)(ht:TabsB B w0)(hr:Rd B w0 H A (l.flatMap numF))(hw:St B w0 H w):
 CX B w0 168 [strV word,.slice A l.length cap] w λv K=>v=strV (WM word l)/\K=H:=by
 refine Ya Tryz.func168 Tryz.ntmps168 rfl rfl hw ?_
 refine zX9 ?_
 refine Ye (λ(i:Nat)=>[(9,.int .i64 i),(8,.int .i64 l.length),(7,.slice A l.length cap),(0,strV (Wg word (l.take i)))]) (λ_=>H) (λi=>i<=l.length) (λi=>l.length-i) 0 (Td _) ?_ (λw hw=>hw) ?_
 ·have e0:Wg word (l.take 0)=word:=by simp[Wg]
  rw[e0]
  exact zc1
 intro i hi K hK
 have hbl:=Yb8 (w:=word) (l:=l.take i) λn hn=>h n (SJ hn)
 have hlt0:(l.take i).length<=100:=by grind
 by_cases hlt:i<l.length
 ·obtain⟨n,hn⟩:∃n,l[i]? =some n:=⟨_,Ta hlt⟩
  have hnb:=h n (Tc hn)
  have hil:=Yh5 hnb
  repeat'(first|((apply Yb Ywr);exact za;exact rfl;exactλ_ hw=>(Ynb n (by omega) (by omega) ht hw))|(apply Yjt [32] (Lib.itoa n);(iterate 3 exact rfl);(show 1+_<=_;omega))|(apply Yjt (Wg word (l.take i)) ([32]++Lib.itoa n);(iterate 3 exact rfl);(rw[Tt];show _+(1+_)<=_;omega))|refine zgd ?_|(refine zge ?_ ?_<;>intro _<;>try exact zo)|fail)
  apply hK (i+1)
  ·show i+1<=l.length
   omega
  ·omega
  ·rw[TD,hn,Rx,YmH]
   exact zc1
  exact zc18
 ·skip
  repeat'(first|(apply Yjt (Wg word (l.take i)) [10];(iterate 3 exact rfl);(show _+1<=_;omega))|refine zgc ?_|(refine zge ?_ ?_<;>intro _<;>try exact zo)|fail)
  apply Yc;exact rfl;exact rfl
  rw[show i=l.length by omega,TC]
  exact Q3
def Jt(s:Sch)(i:Nat):List UInt8:=WM wordS [s.len,s.off]++(s.cells.take i).flatMap λc=>WM wordC (nums c)
theorem Ya7{s:Sch}{i:Nat}(h:i<s.cells.length):Jt s (i+1)=Jt s i++WM wordC (nums (Yl s i)):=by
 grind [Jt,TD,YS]
theorem QA{w:List UInt8}{l:List Int}(h:∀n∈l,0<=n/\n<10000):(WM w l).length<=w.length+5*l.length+1:=by
 grind [WM,Yb8]
theorem YdI{s:Sch}(h:Frm s):∀i,i<=s.cells.length->(Jt s i).length<=100+40*i
 |0,_=>by
  have h1:=QA (w:=wordS) (Yai h).1
  grind [Jt,wordS,Rf]
 |i+1,hi=>by
  have ih:=YdI h i (by omega)
  have h1:=QA (w:=wordC) ((Yai h).2 _ (Jc (s:=s) (i:=i) (by omega)))
  rw[Ya7 (by omega),Tt]
  have:wordC.length=4:=rfl
  have h2:(nums (Yl s i)).length=5:=rfl
  omega
theorem YpZ(s:SchM)(ht:TabsB B w0)(hr:Rd B w0 [] s.A (s.cells.flatMap celF))(hl:s.cells.length<=1000000000000)(hw:St B w0 [] w):
 CX B w0 82 [s.val] w λv _=>v=.tuple #[strV (ZG s.sch).1,.int .i64 (ZG s.sch).2]:=by
 refine Ya Tryz.func82 Tryz.ntmps82 rfl rfl hw ?_
 have e1:s.sch.cells=s.cells:=rfl
 cases hf:Xh s.sch with
 |false=>
  refine zX33 ?_<;>intros
  apply YJ;(iterate 3 exact rfl)
  simp_all [ZG]
 |true=>
  have hfr:=Xm.1 hf
  have hle:s.cells.length<=512:=hfr.few
  have hnm:=Yai hfr
  have hln1:=QA (w:=wordS) hnm.1
  refine zX33 ?_<;>intros
  rename_i gs gb gl
  have hrl:Rd B w0 [blk gl (.cells #[.int .i64 s.len,.int .i64 s.off] 3 (0,0)),blk gb (.cells (Value.agg #[.pointer none,.slice none 0 0]).cells 121 (0,0)),blk gs (.cells #[.int .i64 s.len,.int .i64 s.off,.slice s.A s.cells.length s.cap] 33 (0,0))] (some ⟨gl,0,none⟩) ([s.sch.len,s.sch.off].flatMap numF):=Rd.blk (cs:=#[.int .i64 s.len,.int .i64 s.off]) (.head _)
  apply Yb YsN
  exact za
  exact rfl
  exactλ_ hw=>(Ye0 wordS [s.sch.len,s.sch.off] hnm.1 (by show 2<=100;decide) (by decide) ht hrl hw)
  apply ZV (bdP gb (.pointer none) none 0 [] [blk gs (.cells #[.int .i64 s.len,.int .i64 s.off,.slice s.A s.cells.length s.cap] 33 (0,0))])
  ·unfold bdP
   intro w hw
   have h5:St B w0 [blk gb (.cells (Value.agg #[.pointer none,.slice none 0 0]).cells 121 (0,0)),blk gs (.cells #[.int .i64 s.len,.int .i64 s.off,.slice s.A s.cells.length s.cap] 33 (0,0))] w:=by
    revert w
    exact zc0
   exact(h5.nilSlice _ _).perm (.swap _ _ _)
  apply Yg _ en80
  exact za
  exact rfl
  exactλ_ hw=>(YdR gb _ (.inl rfl) none 0 [] (WM wordS [s.sch.len,s.sch.off]) (by simp only[RV];have:wordS.length=8:=rfl;simp only[Rf,RV]at hln1;omega) (hw))
  rintro _ _ ⟨rfl,A1,cap1,rfl⟩
  unfold bdP
  refine zX9 ?_
  refine Ye (λ(z:Nat×Option Addr×Nat)=>[(21,.int .i64 z.1),(20,.int .i64 s.cells.length),(19,.slice s.A s.cells.length s.cap),(4,.pointer (some ⟨gb,0,none⟩))]) (λz=>bdP gb (.pointer (some ⟨gb,0,none⟩)) z.2.1 z.2.2 (Jt s.sch z.1) [blk gs (.cells #[.int .i64 s.len,.int .i64 s.off,.slice s.A s.cells.length s.cap] 33 (0,0))]) (λz=>z.1<=s.cells.length) (λz=>s.cells.length-z.1) (0,A1,cap1) (Td _) ?_ ?_ ?_
  ·exact zc1
  ·have e0:Jt s.sch 0=[]++WM wordS [s.sch.len,s.sch.off]:=by unfold Jt;simp
   rw[e0]
   unfold bdP
   exactλw hw=>hw
  rintro⟨i,A2,cap2⟩ hi K hK
  dsimp only at hi⊢
  have htl:=YdI hfr i hi
  by_cases hlt:i<s.cells.length
  ·have hget:s.cells[i]? =some (Yl s.sch i):=YS (s:=s.sch) hlt
   have hnc:=hnm.2 _ (Jc (s:=s.sch) hlt)
   have hln:=QA (w:=wordC) hnc
   have hr':Rd B w0 (bdP gb (.pointer (some ⟨gb,0,none⟩)) A2 cap2 (Jt s.sch i) [blk gs (.cells #[.int .i64 s.len,.int .i64 s.off,.slice s.A s.cells.length s.cap] 33 (0,0))]) s.A (s.cells.flatMap celF):=hr.cons.cons.cons
   repeat'(first|((apply Yb YsO);exact za;exact rfl;exactλ_ hw=>(QG _ hw))|(apply O8 T (e:=3);(iterate 3 exact rfl))|refine zgd ?_|(refine zge ?_ ?_<;>intro _<;>try exact zo)|(refine zgh ?_;intro _)|fail)
   rename_i gc ga
   have hra:∀X,Rd B w0 (blk ga (.cells (celF (Yl s.sch i)).toArray 203 (0,0))::X) (some ⟨ga,0,none⟩) ((nums (Yl s.sch i)).flatMap numF):=λX=>Rd.blk (cs:=(celF (Yl s.sch i)).toArray) (.head _)
   apply Yb YsN
   exact za
   exact rfl
   exactλ_ hw=>(Ye0 wordC (nums (Yl s.sch i)) hnc (by show 5<=100;decide) (by decide) ht (hra _) hw)
   apply ZV (bdP gb (.pointer (some ⟨gb,0,none⟩)) A2 cap2 (Jt s.sch i) [blk gs (.cells #[.int .i64 s.len,.int .i64 s.off,.slice s.A s.cells.length s.cap] 33 (0,0))])
   ·exactλw hw=>hw.tail.tail
   have h5n:(nums (Yl s.sch i)).length=5:=rfl
   have h4w:wordC.length=4:=rfl
   apply Yg _ en80
   exact za
   exact rfl
   exactλ_ hw=>(YdR gb _ (.inr rfl) A2 cap2 (Jt s.sch i) (WM wordC (nums (Yl s.sch i))) (by omega) (hw))
   rintro _ _ ⟨rfl,A3,cap3,rfl⟩
   rw[<-Ya7 hlt]
   refine zX11 ?_
   apply hK (i+1,A3,cap3)
   ·show i+1<=s.cells.length
    omega
   ·exact zc73
   ·exact zc1
   exact zc18
  ·refine zX1 ?_<;>intros
   apply Yg _ en84
   exact za
   exact rfl
   exactλ_ hw=>(Yi0 (l:=Jt s.sch i) (.inr rfl) (hw))
   rintro _ _ ⟨rfl,rfl⟩
   refine zX2 ?_
   apply YJ;(iterate 3 exact rfl)
   rw[ZG,Tf (by simp[hf])]
   rw[show i=s.sch.cells.length from(by have:s.sch.cells.length=s.cells.length:=rfl;omega),show Jt s.sch s.sch.cells.length=Yql s.sch from(by unfold Jt Yql;rw[TC])]
theorem OY(s:SchM)(ht:TabsB B w0)(hr:Rd B w0 H s.A (s.cells.flatMap celF))(hl:s.cells.length<=1000000000000)(hw:St B w0 H w):
 CX B w0 82 [s.val] w λv K=>v=.tuple #[strV (ZG s.sch).1,.int .i64 (ZG s.sch).2]/\K=H:=
 Yhi hw (YpZ s (ht.here hw) (hr.here hw) hl (St.start w))
open Go.RowKit Go.Eng Go.Nw Go.Rt
variable {n:Net}
theorem YgC(h:Yo n=0)(a b:Int):JK n (Zb n a b)=YZ n a b:=by
 have hok:=YP h
 unfold JK Zb
 rw[Tf (by simp[h]),Ti h,RN]
 by_cases h1:0<=Yv n a b
 ·have h2:=XP h1
  rw[Ti ⟨h1,by omega⟩,RN,Ya8 hok h2]
  grind [WJ]
 simp_all [decide_eq_false,YZ]
def Yb4(n:Net)(i:Nat):Lk:=((lnk n i).1,(lnk n i).2.1,(lnk n i).2.2+1)
def ZR(n:Net)(k:Nat):List Lk:=(List.range k).flatMap λi=>if Z4 n i=true then [Yb4 n i]else []
def Jx(n:Net):List Lk:=ZR n n.links.length
variable {k:Nat}
theorem Yb6(h:Z4 n k=true):ZR n (k+1)=ZR n k++[Yb4 n k]:=by
 grind [ZR,RH]
theorem Yez(h:Z4 n k=false):ZR n (k+1)=ZR n k:=by
 grind [ZR,RH]
theorem UL(n:Net):∀k,(ZR n k).length<=k
 |0=>by simp[ZR]
 |k+1=>by
  have:=UL n k
  grind [Z4,Yez,Yb6]
theorem Yij{a:Lk}:a∈ZR n k↔∃i,i<k/\Z4 n i=true/\Yb4 n i=a:=by
 unfold ZR
 grind
theorem Ylf(h:Ok n){nodes:Nat}(hn:n.nodes=nodes):ArcsOk nodes (Jx n):=by
 intro a ha
 obtain⟨i,hi,_,rfl⟩:=Yij.1 ha
 have hl:=h.lk i hi
 have h1:=hl.f0;have h2:=hl.f1;have h3:=hl.t0;have h4:=hl.t1;have h5:=hl.l0;have h6:=hl.l1
 grind [Yb4]
def offE(n:Net)(a:Int):Bool:=decide (a<0\/n.nodes<=a)
def Zq(n:Net)(s t:Int):Int:=if Yo n≠0 then 1 else if offE n s=true\/offE n t=true\/s=t then 2 else 0
def W4(r:List Int):Bool:=(List.range r.length).any λi=>(r.take i).contains (r.getD i 0)
def JM(n:Net)(r:List Int):Bool:=(List.range (r.length-1)).any λi=>!YZ n (r.getD i 0) (r.getD (i+1) 0)
def Jk(n:Net)(s t:Int)(r:List Int):Int:=
 if r.length<2 then 9 else if 9<r.length then 8 else if r.any (offE n)=true then 2 else if r.getD 0 0≠s\/r.getD (r.length-1) 0≠t then 11
 else if W4 r=true then 6 else if JM n r=true then 17 else 0
def QB(n:Net)(a b:Int):Int:=(lnk n (Yv n a b).toNat).2.2
def UO(n:Net)(r:List Int):Nat->Int
 |0=>0
 |k+1=>UO n r k+(QB n (r.getD k 0) (r.getD (k+1) 0)+1)
def YoJ(n:Net)(r:List Int):Int:=UO n r (r.length-1)
def YgE(n:Net)(r:List Int):Int×Int:=
 if Yo n≠0 then(0,1)else
  let e:=Jk n (r.getD 0 0) (r.getD (r.length-1) 0) r
  if e≠0 then(0,e)else(YoJ n r,0)
def Xw(n:Net)(s t:Int)(r:List Int):Int:=if Zq n s t≠0 then Zq n s t else Jk n s t r
theorem Xq{l:List Int}{i:Nat}(h:i<l.length):l[i]? =some (l.getD i 0):=by
 simp_all
theorem YbE(h:Ok n)(a b:Int):0<=QB n a b/\QB n a b<=7:=by
 unfold QB
 by_cases hi:(Yv n a b).toNat<n.links.length
 ·have:=h.lk _ hi
  exact⟨this.l0,this.l1⟩
 grind [lnk]
theorem YeD{n:Net}(h:Ok n)(r:List Int):∀k,0<=UO n r k/\UO n r k<=8*k
 |0=>by simp[UO]
 |k+1=>by
  have h1:=YeD h r k
  have h2:=YbE h (r.getD k 0) (r.getD (k+1) 0)
  grind [UO]
variable {l:List Flw}
theorem Yph{id:Int}(h:0<=Zr l id):∃f∈l,f.1=id:=by
 have:=(Vc (λf:Flw=>decide (f.1=id)) l 0 (RP _)).1 h
 simp_all
theorem Yae{nodes:Int}(h:(Yt nodes l).2=0):∀f∈l,0<=f.1/\f.1<=255/\1<=f.2.2.2.1/\f.2.2.2.1<=512:=by
 intro f hf
 obtain⟨i,hi⟩:=TL.1 hf
 have hl:=(Tj.1 hi).1
 unfold Yt at h
 split at h
 ·cases h
 split at h
 ·cases h
 have:=YF.1 h i (Td _) (by omega)
 unfold YV at this
 have e:Y4 l i=f:=by grind [Y4]
 split at this
 ·omega
 ·grind [Xl]
structure Val(n:Net)(l:List Flw)(s:Sch):Prop where
 whole:Xv n l s=0
 cells:(XZ n l s).2=0
 twice:(Zn s).2=0
 dist:(Yco n s).2=0
variable {n:Net}{s:Sch}
theorem Z5:(schE n l s).2=0↔Val n l s:=by
 unfold schE
 by_cases h1:Xv n l s≠0
 ·rw[To h1]
  exact⟨λh=>absurd h h1,λh=>absurd h.whole h1⟩
 rw[Tf h1]
 by_cases h2:(XZ n l s).2≠0
 ·rw[To h2]
  exact⟨λh=>absurd h h2,λh=>absurd h.cells h2⟩
 rw[Tf h2]
 by_cases h3:(Zn s).2≠0
 ·rw[To h3]
  exact⟨λh=>absurd h h3,λh=>absurd h.twice h3⟩
 rw[Tf h3]
 exact⟨λh=>⟨TQ.1 h1,TQ.1 h2,TQ.1 h3,h⟩,λh=>h.dist⟩
theorem J1(h:Xv n l s=0):Yo n=0/\(Yt n.nodes l).2=0/\Zf s=true/\(∀f∈l,s.len.tmod f.2.2.2.1=0)/\s.cells.length<=512:=by
 unfold Xv at h
 grind
theorem Val.frm(h:Val n l s):Frm s:=by
 obtain⟨h1,h2,h3,h4,h5⟩:=J1 h.whole
 have hok:=YP h1
 have k1:=YF.1 h.cells
 have hids:=Yae h2
 have hn:=hok.n1
 have hcell:∀i,i<s.cells.length->XB s (Yl s i)=true/\YZ n (YM (Yl s i)) (toC (Yl s i))=true/\0<=Zr l (Y6 (Yl s i))/\(0<i->Xp (Yl s (i-1)) (Yl s i)=true):=λi hi=>by
  have:=k1 i (Td _) (by omega)
  unfold Zy at this
  grind
 refine⟨h3,h5,λc hc=>?_,?_⟩
 ·obtain⟨i,hi⟩:=TL.1 hc
  obtain⟨a1,a2,a3,_⟩:=hcell i (Tj.1 hi).1
  rw[X9 hi]at a1 a2 a3
  have hg:=Xu hok a2
  obtain⟨f,hf,hfe⟩:=Yph a3
  grind [YM,toC,Y6,XA,insE]
 ·refine QH (lt:=Xp) (λh1 h2=>Uc h1 h2) λi a b ha hb=>?_
  grind [X9]
end Go.Proofs.YtjommdkgfbhbdaaGreatDoor
namespace Go.Eng
open Go.RowKit
inductive OV where
 |done
 |p1 (i:Nat) (t:OV)
 |d1 (i:Nat) (t:OV)
 |d2 (i:Nat) (t:OV) (j:Nat) (u:OV)
section
variable {P:Program}{n:Shp}{B:Nat}{w0:World}{Q:Exit->Act->World->Prop}{env:Env}{H:List HP}{ops:Array Oper}
def wpD(P:Program)(ops:Array Oper)(K:Act->World->Prop)(o:Oper)(a:Act)(w:World):Prop:=
 if Region.wanted o (yielded ops a.tmps)then o.wp P a w K (λ_ _ _=>False)else K (a.put o.dst undef) w
def Zo(P:Program)(ops:Array Oper)(l:List Oper)(Q:Exit->Act->World->Prop)(S:World->Prop):OV->Act->World->Prop
 |.done,a,w=>Q .normal a w
 |.p1 i t,a,w=>YA P ops (λe a w=>match e with|.normal=>S w/\Zo P ops l Q S t a w|_=>False) S [nthO l i] a w
 |.d1 i t,a,w=>wpD P ops (λa w=>S w/\Zo P ops l Q S t a w) (nthO l i) a w
 |.d2 i t j u,a,w=>wpD P ops (λa w=>S w/\Zo P ops l Q S t a w) (nthO l i) a w/\wpD P ops (λa w=>S w/\Zo P ops l Q S u a w) (nthO l j) a w
def Wd(ops:Array Oper)(last:List Nat):OV->Array Bool->Nat->Bool
 |.done,listed,0=>J2 ops last listed
 |.done,_,_+1=>false
 |.p1 i t,listed,k+1=>!last.contains i&&(match ops[i]? with
  |some o=>!eff o&&((Region.ready .any ops listed).contains i&&Region.free .any ops listed i)
  |none=>false)&&Wd ops last t (listed.setIfInBounds i true) k
 |.d1 i t,listed,k+1=>!last.contains i&&(ops[i]?).isSome&&decide (Region.ready .any ops listed=[i])&&Wd ops last t (listed.setIfInBounds i true) k
 |.d2 i t j u,listed,k+1=>!last.contains i&&!last.contains j&&(ops[i]?).isSome&&(ops[j]?).isSome&&((Region.ready .any ops listed).all λx=>x==i||x==j)&&!(Region.ready .any ops listed).isEmpty&&Wd ops last t (listed.setIfInBounds i true) k&&Wd ops last u (listed.setIfInBounds j true) k
 |.p1 _ _,_,0=>false
 |.d1 _ _,_,0=>false
 |.d2 _ _ _ _,_,0=>false
variable {i:Nat}{o:Oper}{a:Act}{w:World}
theorem Ycl{S:World->Prop}{K:Act->World->Prop}{last:List Nat}{k:Nat}{listed:Array Bool}(ho:ops[i]? =some o)
 (h:wpD P ops K o a w) (hk:∀a w,K a w->S w/\Zg P ops Q S last k (listed.setIfInBounds i true) a w):
 wpOp P ops Q i (λa' w'=>(last.contains i=false->S w')/\Zg P ops Q S last k (listed.setIfInBounds i true) a' w') a w:=by
 unfold wpD at h
 unfold wpOp
 simp only[ho]
 by_cases hw:Region.wanted o (yielded ops a.tmps)=true
 ·rw[To hw]at h⊢
  exact .inl (Oper.wp_mono_noQ (λ_ _ _ h=>h) zc59 (Oper.wp_mono (λa' w' h'=>⟨λ_=>(hk a' w' h').1,(hk a' w' h').2⟩) h))
 grind
theorem J0{S:World->Prop}{last:List Nat}(hs:Region.noSelect ops=true)(hQ:∀c (a:Act) (w:World),¬Q (.panic c) a w)(hlo:¬LetsOut Q)(l:List Oper)(hl:ops=l.toArray)(hlast:Yc0 ops last=true):
 ∀(t:OV) (k:Nat) (listed:Array Bool) (a:Act) (w:World),Closed ops listed->Wd ops last t listed k=true->S w->Zo P ops l (Ja P ops Q (Yd l last)) S t a w->
  Zg P ops Q S last (k+last.length) listed a w
 |.done,0,listed,a,w,_,hB,_,h=>by
  exact Yuk
 |.done,_+1,_,_,_,_,hB,_,_=>by cases hB
 |.p1 _ _,0,_,_,_,_,hB,_,_=>by cases hB
 |.d1 _ _,0,_,_,_,_,hB,_,_=>by cases hB
 |.d2 _ _ _ _,0,_,_,_,_,hB,_,_=>by cases hB
 |.p1 i t,k+1,listed,a,w,hcl,hB,hS,h=>by
  simp only[Wd,Tq]at hB
  obtain⟨⟨h0,h1⟩,h2⟩:=hB
  have hno:last.contains i=false:=by simp_all
  cases ho:ops[i]? with
  |none=>simp_all
  |some o=>
   rw[ho]at h1
   have hget:=Xz hl ho
   unfold Zo at h
   rw[hget]at h
   rw[Sr]
   simp only[Tq,RO]at h1
   obtain⟨he,h3,h4⟩:=h1
   unfold YA at h
   rw[Tf (by simp_all)]at h
   obtain⟨v,hy,h5⟩:=h
   have hr:i∈Region.ready .any ops listed:=by simp_all
   exact Jw ho (Region.noSelect_spec hs) hQ ((Vv hlast).2 i o ho he hno) hno _ listed a w hcl (Region.free_spec ho h4) hr hy hS (J0 hs hQ hlo l hl hlast t k _ _ w (hcl.set hr) h2 hS h5.2)
 |.d1 i t,k+1,listed,a,w,hcl,hB,hS,h=>by
  simp only[Wd,Tq,Tm]at hB
  obtain⟨⟨⟨h0,h1⟩,h3⟩,h2⟩:=hB
  obtain⟨o,ho⟩:=SZ.1 h1
  unfold Zo at h
  rw[Xz hl ho]at h
  rw[Sr]
  refine⟨λh0=>(by simp_all),λj hj=>?_⟩
  have hj':=hj
  rw[h3]at hj
  obtain rfl:j=i:=by simp_all
  exact Ycl ho h λa w ⟨hS',h'⟩=>⟨hS',J0 hs hQ hlo l hl hlast t k _ a w (hcl.set hj') h2 hS' h'⟩
 |.d2 i t j u,k+1,listed,a,w,hcl,hB,hS,h=>by
  simp only[Wd,Tq]at hB
  obtain⟨⟨⟨⟨⟨⟨⟨b1,b2⟩,b3⟩,b4⟩,b5⟩,b6⟩,b7⟩,b8⟩:=hB
  obtain⟨o,ho⟩:=SZ.1 b3
  obtain⟨o',ho'⟩:=SZ.1 b4
  unfold Zo at h
  rw[Xz hl ho,Xz hl ho']at h
  rw[Sr]
  refine⟨λh0=>(by simp_all),λx hx=>?_⟩
  have h5:=Rh.1 b5 x hx
  simp only[R7,NL]at h5
  rcases h5 with rfl|rfl
  ·exact Ycl ho h.1 λa w ⟨hS',h'⟩=>⟨hS',J0 hs hQ hlo l hl hlast t k _ a w (hcl.set hx) b7 hS' h'⟩
  ·exact Ycl ho' h.2 λa w ⟨hS',h'⟩=>⟨hS',J0 hs hQ hlo l hl hlast u k _ a w (hcl.set hx) b8 hS' h'⟩
structure VV(P:Program)(n:Shp)(B:Nat)(w0:World)(ops:Array Oper)(l:List Oper)(Q:Exit->Act->World->Prop)(t:OV)(env:Env)(H F:List HP):Prop where
 run:∀a,Fits n a env->∀w,St B w0 (H++F) w->Zo P ops l Q (St B w0 H) t a w
def UE(P:Program)(B:Nat)(w0:World)(ops:Array Oper)(l:List Oper)(Q:Exit->Act->World->Prop)(Hc:List HP)(t:OV):Exit->Act->World->Prop
 |.normal,a,w=>St B w0 Hc w/\Zo P ops l Q (St B w0 Hc) t a w
 |_,_,_=>False
variable {l:List Oper}{t:OV}
theorem YnM:UE P B w0 ops l Q H t=λe a w=>match e with|.normal=>St B w0 H w/\Zo P ops l Q (St B w0 H) t a w|_=>False:=by
 funext e a w
 cases e<;>rfl
theorem Yk2(h:wpList P ops (UE P B w0 ops l Q H t) [o] a w):wpD P ops (λa w=>St B w0 H w/\Zo P ops l Q (St B w0 H) t a w) o a w:=by
 have hno:¬LetsOut (UE P B w0 ops l Q H t):=zc59
 unfold wpList at h
 unfold wpD
 by_cases hw:Region.wanted o (yielded ops a.tmps)=true
 ·rw[To hw]at h⊢
  rcases h with h|⟨_,h⟩
  ·exact Oper.wp_mono_noQ (λ_ _ _ h=>h) hno (Oper.wp_mono (λa' w' h'=>h') h)
  simp_all
 ·rw[Tf hw]at h⊢
  exact h
variable {F HF Hc:List HP}
theorem Yro(happ:App H F HF)(h:VQ n B w0 Q .normal env HF):VV P n B w0 ops l Q .done env H F:=
 ⟨λa ha w hw=>by exact Yl2⟩
theorem Yos(ho:nthO l i=o)(h:VL P (some (some F)) n B w0 ops (UE P B w0 ops l Q H t) [o] env H):VV P n B w0 ops l Q (.p1 i t) env H F:=by
 refine⟨λa ha w hw=>?_⟩
 have h1:YA P ops (UE P B w0 ops l Q H t) (St B w0 H) [o] a w:=h.run a ha w hw
 grind [Zo,YnM]
theorem Yoq(ho:nthO l i=o)(happ:App H F HF)(h:VL P none n B w0 ops (UE P B w0 ops l Q H t) [o] env HF):VV P n B w0 ops l Q (.d1 i t) env H F:=by
 refine⟨λa ha w hw=>?_⟩
 unfold Zo
 rw[ho]
 rw[<-Q5 happ]at hw
 exact Yk2 (h.run a ha w hw)
theorem Yor{j:Nat}{u:OV}{o':Oper}(ho:nthO l i=o)(ho':nthO l j=o')(happ:App H F HF)(h:VL P none n B w0 ops (UE P B w0 ops l Q H t) [o] env HF)
 (h':VL P none n B w0 ops (UE P B w0 ops l Q H u) [o'] env HF):VV P n B w0 ops l Q (.d2 i t j u) env H F:=by
 refine⟨λa ha w hw=>?_⟩
 unfold Zo
 rw[ho,ho']
 rw[<-Q5 happ]at hw
 exact⟨Yk2 (h.run a ha w hw),Yk2 (h'.run a ha w hw)⟩
theorem Yb1{H':List HP}(hp:Pull Hc H' F)(h:VV P n B w0 ops l Q t env Hc F):VQ n B w0 (UE P B w0 ops l Q Hc t) .normal env H':=
 ⟨λa w ha hw=>⟨(hw.perm hp).prefix_,h.run a ha w (hw.perm hp)⟩⟩
theorem YbU{id:Nat}(t:OV)(last:List Nat)(mask:List Bool)(hm:P.follows .mixedOrders=true)
 (hB:(Region.noSelect l.toArray&&decide (last.length<=l.toArray.size)&&Yc0 l.toArray last&&Wd l.toArray last t (Array.replicate l.toArray.size false) (l.toArray.size-last.length))=true)
 (hsp:Split mask H Hc F) {l2:List Oper}(hl2:Yd l last=l2) (h:VV P n B w0 l.toArray l (Ja P l.toArray (Only Q) l2) t env Hc F):VC P n B w0 (.region id l.toArray true) Q env H:=by
 simp only[Tq,Tm]at hB
 obtain⟨⟨⟨h1,h2⟩,h3⟩,h5⟩:=hB
 refine⟨λa w ha hw=>ZZ (Q:=Only Q) ?_ λe a w h=>by exact zc81⟩
 have hst:St B w0 (Hc++F) w.drew:=(hw.perm (XO hsp)).drew
 have hr:=h.run a ha w.drew hst
 rw[<-hl2]at hr
 have:=J0 (S:=St B w0 Hc) h1 (λc a w h=>h) zc59 l rfl h3 t _ _ a w.drew (XV _ _) h5 hst.prefix_ hr
 exact YqS
end
end Go.Eng
namespace Go.Proofs.YtjommdkgfbhbdaaGreatDoor
open Go.RowKit Go.Eng Go.Nw
def cpN(n:Net)(node:Int)(d:Cel):Int:=powN n (YM d) node+powN n (toC d) node
def sumC(n:Net)(node:Int)(l:List Cel):Int:=(l.map (cpN n node)).sum
theorem Yi2(n:Net)(node:Int):sumC n node []=0:=rfl
theorem Zv(n:Net)(node:Int)(d:Cel)(l:List Cel):sumC n node (d::l)=cpN n node d+sumC n node l:=by grind [sumC]
theorem Ya6(n:Net)(node:Int):∀l m:List Cel,sumC n node (l++m)=sumC n node l+sumC n node m
 |[],m=>by grind [Yi2]
 |d::l,m=>by rw[TJ,Zv,Zv,Ya6 n node l m];omega
variable {n:Net}
theorem Yqf(h:Ok n)(node:Int){l m:List Cel}(hs:l.Sublist m):sumC n node l<=sumC n node m:=by
 induction hs with
 |slnil=>omega
 |@cons l m d _ ih=>
  rw[Zv]
  have h1:=Jq h (YM d) node
  have h2:=Jq h (toC d) node
  grind [cpN]
 |cons_cons d _ ih=>simp_all [Zv]
theorem Ycr{n:Net}{l:List Cel}(hnd:l.Nodup){j:Nat}{c:Cel}(hj:l[j]? =some c)(node:Int):∀k,k<=l.length->Yy n l j node k=sumC n node ((l.take k).filter λd=>decide (d≠c))
 |0,_=>rfl
 |k+1,hk=>by
  obtain⟨d,hd⟩:∃d,l[k]? =some d:=⟨_,Ta hk⟩
  have hc:celL l k=d:=by grind [celL]
  unfold Yy
  rw[Ycr hnd hj node k (by omega),TD,hd,SE,Ya6,hc]
  by_cases e:k=j
  ·simp_all [sumC]
  ·have hne:d≠c:=YqZ
   simp_all [Zv,Yi2,cpN]
def Ug(n:Net)(l:List Cel)(c:Cel)(node:Int):Int:=sumC n node (l.filter λd=>Xg c d&&decide (d≠c))
def Vp(n:Net)(l:List Cel)(c:Cel):Bool:=XM n (mar n (Yv n (YM c) (toC c)).toNat) (Ug n l c (toC c))&&XM n (mar n (Yv n (toC c) (YM c)).toNat) (Ug n l c (YM c))
variable {s:Sch}
theorem Ycp(hck:Yo n=0)(hf:Fine n s)(ho:Ord s.cells){i:Nat}(hi:i<s.cells.length):ZX n s i=!(Vp n s.cells (Yl s i)):=by
 rw[Yhq hck hf hi]
 have hnd:=Yan ho
 have hat:=W0 hi
 have hsub:(YH s i).Sublist s.cells:=SK
 have hnds:=hnd.sublist hsub
 have hc:celL (YH s i) (YK s i)=Yl s i:=by grind [celL]
 have hd:∀node,Yy n (YH s i) (YK s i) node (YH s i).length=Ug n s.cells (Yl s i) node:=by simp_all [Ycr,Ug,YH,Bool.and_comm]
 have hg:=hf.good _ (Jc hi)
 have hto:((List.range (YH s i).length).any λk=>decide (k≠YK s i)&&YE (celL (YH s i) (YK s i)) (celL (YH s i) k))=false:=by
  have hpw:(YH s i).Pairwise λa b=>YE a b=false:=zc51
  rw[RG]
  intro k hk
  have hk:=Rq.1 hk
  by_cases e:k=YK s i
  ·simp_all
  ·have hpk:=TT.1 hpw
   have e1:celL (YH s i) k=(YH s i)[k]:=by grind [celL]
   grind [Z9]
 grind [Vd,Vp]
structure Sem(n:Net)(l:List Flw)(s:Sch):Prop where
 ck:Yo n=0
 fl:(Yt n.nodes l).2=0
 per:∀f∈l,s.len.tmod f.2.2.2.1=0
 frm:Frm s
 good:∀c∈s.cells,YZ n (YM c) (toC c)=true/\0<=Zr l (Y6 c)
 once:s.cells.Pairwise λa b=>a.1=b.1->YE a b=false
 clear:∀c∈s.cells,Vp n s.cells c=true
variable {l:List Flw}
theorem Yk1(h1:Yo n=0)(h2:(Yt n.nodes l).2=0)(h3:Zf s=true)(h4:∀f∈l,s.len.tmod f.2.2.2.1=0)(h5:s.cells.length<=512):Xv n l s=0:=by
 unfold Xv
 grind
theorem YjJ(hf:Frm s)(hg:∀c∈s.cells,YZ n (YM c) (toC c)=true/\0<=Zr l (Y6 c)):(XZ n l s).2=0:=by
 refine YF.2 λk _ hk=>?_
 have hk:k<s.cells.length:=by omega
 have hm:=Jc hk
 have hfo:=hf.formed _ hm
 unfold XA at hfo
 simp only[Tq]at hfo
 obtain⟨g1,g2⟩:=hg _ hm
 unfold Zy
 rw[hfo.1.1.1,Tf (by decide),g1,Tf (by simp_all),Tf]
 rintro⟨h1,h2⟩
 have:=YfN (Rh.2 λi hi=>by
  have h:=Xm.2 hf
  unfold Xh at h
  simp only[Tq]at h
  exact Rh.1 h.2 i hi) hk
 simp_all [Zh]
theorem Yk0(h:s.cells.Pairwise λa b=>a.1=b.1->YE a b=false):(Zn s).2=0:=by
 refine YF.2 λk _ hk=>?_
 have hk:k<s.cells.length:=by omega
 have hb:X5 s k=false:=by
  unfold X5
  rw[RG]
  intro i hi
  have hi:=Rq.1 hi
  have e1:Yl s i=s.cells[i]'(by omega):=X9 (Ta _)
  have e2:Yl s k=s.cells[k]:=X9 (Ta hk)
  have:=TT.1 h i k (by omega) hk hi
  simp_all [Z9]
 simp_all
theorem We:Val n l s↔Sem n l s:=by
 constructor
 ·intro h
  obtain⟨h1,h2,h3,h4,h5⟩:=J1 h.whole
  have hf:=h.frm
  have hfine:=YfZ h.cells h.twice
  have k1:=YF.1 h.cells
  have k3:=YF.1 h.dist
  refine⟨h1,h2,h4,hf,λc hc=>⟨hfine.good c hc,?_⟩,hfine.once,λc hc=>?_⟩
  ·obtain⟨i,hi⟩:=TL.1 hc
   grind [Zy,X9]
  ·obtain⟨i,hi⟩:=TL.1 hc
   have hl:=(Tj.1 hi).1
   have:=k3 i (Td _) (by omega)
   simp_all [Ycp,Go.Proofs.YtjommdkgfbhbdaaGreatDoor.Frm.ord,X9]
 ·intro h
  refine⟨Yk1 h.ck h.fl h.frm.sized h.per h.frm.few,YjJ h.frm h.good,Yk0 h.once,YF.2 λk _ hk=>?_⟩
  have hk:k<s.cells.length:=by omega
  simp only[Ycp h.ck ⟨λc hc=>(h.good c hc).1,h.once⟩ h.frm.ord hk,h.clear _ (Jc hk)]
  rfl
theorem YcQ(h:Ok n){s d e:Int}(he:e<=d)(hd:XM n s d=true):XM n s e=true:=by
 unfold XM at hd⊢
 have h2:=h.t0
 have h3:n.thr*(n.noise+e)<=n.thr*(n.noise+d):=SI (by omega) (by omega)
 grind
theorem Sem.sub{t:Sch}(h:Sem n l s)(h1:t.len=s.len)(h2:t.off=s.off)(hs:t.cells.Sublist s.cells):Sem n l t:=by
 have hok:=YP h.ck
 have hlen:=hs.length_le
 have hfew:=h.frm.few
 refine⟨h.ck,h.fl,by rw[h1];exact h.per,⟨?_,by omega,λc hc=>?_,h.frm.ord.sublist hs⟩,λc hc=>h.good c (hs.subset hc),h.once.sublist hs,λc hc=>?_⟩
 ·have:=h.frm.sized
  grind [Zf]
 ·have:=h.frm.formed c (hs.subset hc)
  grind [XA,XB]
 ·have:=h.clear c (hs.subset hc)
  unfold Vp at this⊢
  simp only[Tq]at this⊢
  have hd:∀node,Ug n t.cells c node<=Ug n s.cells c node:=λnode=>Yqf hok node (hs.filter _)
  exact⟨YcQ hok (hd _) this.1,YcQ hok (hd _) this.2⟩
open Go.RowKit Go.Eng Go.Nw Go.Rt
abbrev Yb5(A:Option Addr)(cap:Nat)(l:List Lk):HP:=sl 268 3 A l.length cap (l.flatMap lkF)
theorem YmE(A:Option Addr)(cap:Nat)(l:List Lk)(a:Lk):sl 268 3 A (l.length+1) cap (l.flatMap lkF++#[Value.int .i64 a.1,.int .i64 a.2.1,.int .i64 a.2.2].toList)=Yb5 A cap (l++[a]):=by simp[Yb5,List.flatMap_append,lkF]
theorem YeA(n:NetM){B:Nat}{w0:World}{H:List HP}{w:World}(hin:n.In B w0 H)(hck:Yo n.net=0)(hw:St B w0 H w):
 CX B w0 237 [n.val] w λv K=>∃A cap,v=.slice A (Jx n.net).length cap/\K=Yb5 A cap (Jx n.net)::H:=by
 have hok:=YP hck
 obtain⟨hpw,hrw,hlk,hmg,hs1,hs2,hs3,hs4⟩:=id hin
 have hk0:n.links.length<=128:=hok.k0
 refine Ya Tryz.func237 Tryz.ntmps237 rfl rfl hw ?_
 (apply Y5;apply YL;apply Yx;exact rfl;exact rfl;intro g)
 refine zX9 ?_
 refine YgI (λ(k:Nat) (A:Option Addr) (cap:Nat)=>[(9,.int .i64 k),(8,.int .i64 n.links.length),(7,.slice n.lA n.links.length n.lcap),(3,.slice A (ZR n.net k).length cap),(1,.pointer (some ⟨g,0,none⟩))])
  (λk A cap=>Yb5 A cap (ZR n.net k)::netB g n::H) (λk _ _=>k<=n.links.length) (λk _ _=>n.links.length-k) 0 none 0 (Td _) ?_ (λw hw=>hw.nilSlice _ _) ?_
 ·exact zc1
 rintro k A cap hk K hK
 have hal:=UL n.net k
 by_cases hlt:k<n.links.length
 ·have hlx:n.links[k]? =some (lnk n.net k):=WQ n.net hlt
  have hus:JK n.net (k:Int)=Z4 n.net k:=by
   unfold JK
   have e7:n.net.links=n.links:=rfl
   rw[Ti hck,e7,Ti (by omega)]
   rfl
  have hl:=hok.lk k hlt
  have h5:=hl.l0
  have h6:=hl.l1
  have hU:=λ{H:List HP}{w:World}(hin:n.In B w0 H) (hw:St B w0 H w)=>VF n (k:Int) hin hw
  rw[hus]at hU
  cases hu:Z4 n.net k
  ·rw[hu]at hU
   have e2:=Yez hu
   repeat'(first|((apply Yb Qm);exact za;exact rfl;exactλ_ hw=>(hU (((hin.cons).cons).cons) hw))|refine zgd ?_|(refine zge ?_ ?_<;>intro _<;>try exact zo)|(refine zgh ?_;intro _)|fail)
   apply hK (k+1) A cap
   ·omega
   ·omega
   ·rw[e2];exact zc1
   ·rw[e2];exact QZ
  ·rw[hu]at hU
   have e2:=Yb6 hu
   repeat'(first|((apply Yb Qm);exact za;exact rfl;exactλ_ hw=>(hU (((hin.cons).cons).cons) hw))|refine zgd ?_|(refine zge ?_ ?_<;>intro _<;>try exact zo)|(refine zgh ?_;intro _)|(refine zgi ?_;intro _ _)|fail)
   rename_i A3 cap3
   apply hK (k+1) A3 cap3
   ·omega
   ·omega
   ·rw[e2,Tt,TP];exact zc1
   ·rw[e2,show Yb5 A3 cap3 (ZR n.net k++[Yb4 n.net k])=sl 268 3 A3 ((ZR n.net k).length+1) cap3 ((ZR n.net k).flatMap lkF++#[Value.int .i64 (lnk n.net k).1,Value.int .i64 (lnk n.net k).2.1,Value.int .i64 ((lnk n.net k).2.2+1)].toList) from(YmE A3 cap3 _ (Yb4 n.net k)).symm]
    exact zc0
 ·obtain rfl:k=n.links.length:=by omega
  clear hK
  refine zX1 ?_<;>intros
  apply Yf (Yb5 A cap (Jx n.net)::H)
  ·exactλw hw=>(hw.perm (.cons _ (.drop _ _)))
  apply Yc;exact rfl;exact rfl
  exact⟨A,cap,rfl,rfl⟩
variable {B:Nat}{w0 w:World}{H:List HP}
theorem Uj(n:NetM)(s t:Int)(hin:n.In B w0 H)(hw:St B w0 H w):
 CX B w0 236 [n.val,.int .i64 s,.int .i64 t] w λv K=>v=.int .i64 (Zq n.net s t)/\K=H:=by
 refine Ya Tryz.func236 Tryz.ntmps236 rfl rfl hw ?_
 have e7:n.net.nodes=n.nodes:=rfl
 unfold Zq offE
 rw[e7]
 by_cases h0:Yo n.net=0
 rotate_left
 ·rw[To h0]
  refine zX48 ?_<;>intros
  all_goals((repeat apply Yj);exact zc3)
 rw[Tf (λh=>h h0)]
 have hck:=λ{H:List HP}{w:World}(hin:n.In B w0 H) (hw:St B w0 H w)=>Xa n hin hw
 rw[h0]at hck
 simp only[Tm]
 by_cases h1:(s<0\/n.nodes<=s)\/(t<0\/n.nodes<=t)\/s=t
 ·rw[To h1]
  repeat'(first|((apply Yb XQ);exact za;exact rfl;exactλ_ hw=>(hck hin.cons hw))|refine zgc ?_|(refine zgf ?_ ?_<;>intro _<;>try exact zo)|(refine zgh ?_;intro _)|fail)
  all_goals((repeat apply Yj);apply Yc;exact rfl;exact rfl;exact⟨rfl,rfl⟩)
 ·rw[Tf h1]
  repeat'(first|((apply Yb XQ);exact za;exact rfl;exactλ_ hw=>(hck hin.cons hw))|refine zgc ?_|(refine zgf ?_ ?_<;>intro _<;>try exact zo)|(refine zgh ?_;intro _)|fail)
  all_goals((repeat apply Yj);apply Yc;exact rfl;exact rfl;exact⟨rfl,rfl⟩)
theorem Ydz(k:Nat){A:Option Addr}{cap:Nat}(hk:k<=9223372036854775807)(hw:St B w0 H w):
 CX B w0 239 [.slice A k cap] w λv K=>v=.int .i64 (if 9<k then 21 else 0)/\K=H:=by
 refine Ya Tryz.func239 Tryz.ntmps239 rfl rfl hw ?_
 by_cases h:9<k
 ·rw[To h]
  refine zX49 ?_<;>intros
  exact zc25
 ·rw[Tf h]
  refine zX49 ?_<;>intros
  exact zc25
theorem YhG(n:NetM)(a:Int)(g:Nat)(hm:netB g n∈H)(hw:St B w0 H w):
 CX B w0 284 [.int .i64 a,.pointer (some ⟨g,0,none⟩)] w λv K=>v=.bool (offE n.net a)/\K=H:=by
 refine Ya Tryz.func284 Tryz.ntmps284 rfl rfl hw ?_
 have e7:n.net.nodes=n.nodes:=rfl
 unfold offE
 rw[e7]
 by_cases h:a<0\/n.nodes<=a
 ·rw[Ti h]
  repeat'(first|refine zgc ?_|(refine zgf ?_ ?_<;>intro _<;>try exact zo)|fail)
  all_goals(apply Yc;exact rfl;exact rfl;simp_all)
 ·rw[Tn h]
  repeat'(first|refine zgc ?_|(refine zgf ?_ ?_<;>intro _<;>try exact zo)|fail)
  all_goals(apply Yc;exact rfl;exact rfl;exact⟨rfl,rfl⟩)
def OutS(H:List HP)(R:Sch×Int)(v:Value)(K:List HP):Prop:=∃A cap,v=.tuple #[.agg #[.int .i64 R.1.len,.int .i64 R.1.off,.slice A R.1.cells.length cap],.int .i64 R.2]/\K=cels A cap R.1.cells::H
variable {H:List HP}
theorem U3{R:Sch×Int}{v:Value}(e:Int)(hR:R=(Jz,e))(hv:v=.tuple #[.agg #[.int .i64 0,.int .i64 0,.slice none 0 0],.int .i64 e]):OutS H R v (cels none 0 []::H):=⟨none,0,by rw[hR];exact hv,by rw[hR];rfl⟩
theorem JS(l:List Cel)(hlen:l.length<=1000000){A:Option Addr}{cap B:Nat}{w0:World}{w:World}(hr:Rd B w0 H A (l.flatMap celF))(hw:St B w0 H w):
 CX B w0 155 [.slice A l.length cap] w λv K=>∃A' cap',v=.slice A' l.length cap'/\K=cels A' cap' l::H:=by
 cases A with
 |none=>
  have hl:l=[]:=by
   cases l with
   |nil=>rfl
   |cons x l=>
    exact zc53
  subst hl
  refine Ya Tryz.func155 Tryz.ntmps155 rfl rfl hw ?_
  refine zX8 ?_
  apply Xx 162 5;exact zc64
 |some a=>
  refine Ya Tryz.func155 Tryz.ntmps155 rfl rfl hw ?_
  repeat'(first|(apply ZN;(iterate 3 exact rfl))|(apply Yw T;exact rfl;exact rfl;intro g2)|refine zga ?_|fail)
  apply YI T (f:=celF) (l2:=l) (e:=162) (size:=5) (xs:=[]);(iterate 3 exact rfl);exact hr.cons;exact(λ_=>rfl);exact(λ_=>rfl);exact rfl;(intro _ _;exact zd);omega;intro A' cap'
  exact zc82
theorem Vs{f:Nat->Int}:∀{r i:Nat},(Yz f r i).2≠0->∃k,i<=k/\k<i+r/\(Yz f r i).2=f k/\f k≠0
 |0,i,h=>absurd rfl h
 |r+1,i,h=>by
  unfold Yz at h⊢
  split at h
  ·rename_i h0
   rw[To h0]
   obtain⟨k,h1,h2,h3,h4⟩:=Vs h
   grind
  grind
def YnU(n:Net)(l:List Flw)(s:Sch):Prop:=∀c∈s.cells,YZ n (YM c) (toC c)=true/\0<=Zr l (Y6 c)
def YnV(s:Sch):Prop:=s.cells.Pairwise λa b=>a.1=b.1->YE a b=false
def Yjp(n:Net)(s:Sch):Prop:=∀c∈s.cells,Vp n s.cells c=true
theorem Yp3(s:Sch)(k:Nat):repC s (k+1)=repC s k++s.cells.map (movC ((k:Int)*s.len)):=by
 grind [repC,RH]
variable {s t:Sch}{k i j:Nat}
theorem YbH{x:Cel}:x∈repC s k↔∃i,i<k/\∃c∈s.cells,x=movC ((i:Int)*s.len) c:=by
 unfold repC
 grind
theorem Yio{L:Int}(hL:0<=L)(h:i<j):(i:Int)*L+L<=(j:Int)*L:=by
 have h1:((i:Int)+1)*L<=(j:Int)*L:=SD (by omega) hL
 grind
variable {c:Cel}
theorem YlP(hf:Frm s)(hc:c∈s.cells):0<=c.1/\c.1<s.len:=by
 have:=hf.formed c hc
 simp_all [XA,XB,insE]
theorem Yfm(hf:Frm s){d:Cel}(hc:c∈s.cells)(hd:d∈s.cells)(h:c.1+(i:Int)*s.len=d.1+(j:Int)*s.len):i=j/\c.1=d.1:=by
 have h1:=YlP hf hc
 have h2:=YlP hf hd
 rcases Nl i j with h3|h3|h3
 ·have:=Yio (L:=s.len) (by omega) h3;omega
 ·simp_all
 ·have:=Yio (L:=s.len) (by omega) h3;omega
structure Rep(s t:Sch)(k:Nat):Prop where
 k1:1<=k
 frm:Frm s
 len:t.len=s.len*k
 off:t.off=s.off
 cells:t.cells=repC s k
 l512:s.len*k<=512
 c512:s.cells.length*k<=512
theorem Ydn{s:Sch}{p q:Cel->Bool}{j0:Nat}(hq:∀d∈s.cells,p (movC ((j0:Int)*s.len) d)=q d):∀{m:Nat},(∀j,j<m->j≠j0->∀d∈s.cells,p (movC ((j:Int)*s.len) d)=false)->(repC s m).filter p=if j0<m then(s.cells.filter q).map (movC ((j0:Int)*s.len))else []
 |0,_=>by simp[repC]
 |m+1,h=>by
  rw[Yp3,SE,Ydn hq λj hj=>h j (by omega),List.filter_map]
  by_cases e:m=j0
  ·simp_all [List.filter_congr]
  ·have hz:s.cells.filter (p∘movC ((m:Int)*s.len))=[]:=by
    simp_all
   grind
theorem Ysq(n:Net)(node d:Int)(l:List Cel):sumC n node (l.map (movC d))=sumC n node l:=by
 unfold sumC
 rw[Ny]
 rfl
theorem Rep.dist(h:Rep s t k)(n:Net)(hi:i<k)(hc:c∈s.cells)(node:Int):Ug n t.cells (movC ((i:Int)*s.len) c) node=Ug n s.cells c node:=by
 unfold Ug
 rw[h.cells,Ydn (j0:=i) (q:=λd=>Xg c d&&decide (d≠c)),To hi,Ysq]
 ·intro d hd
  have h2:(movC ((i:Int)*s.len) d≠movC ((i:Int)*s.len) c)↔d≠c:=by
   grind [movC]
  simp_all [Xg,movC]
 ·intro j hj hne d hd
  have:Xg (movC ((i:Int)*s.len) c) (movC ((j:Int)*s.len) d)=false:=by
   refine Tn ?_
   rintro⟨h3,_⟩
   exact hne (Yfm h.frm hd hc h3).1
  simp_all
theorem Rep.good(h:Rep s t k)(n:Net)(l:List Flw):YnU n l t↔YnU n l s:=by
 unfold YnU
 rw[h.cells]
 constructor
 ·intro hg c hc
  exact hg (movC (((0:Nat):Int)*s.len) c) (YbH.2 ⟨0,h.k1,c,hc,rfl⟩)
 ·intro hg x hx
  obtain⟨i,_,c,hc,rfl⟩:=YbH.1 hx
  exact hg c hc
theorem Rep.once(h:Rep s t k):YnV t↔YnV s:=by
 unfold YnV
 rw[h.cells]
 unfold repC
 rw[List.pairwise_flatMap]
 constructor
 ·rintro⟨h1,_⟩
  have:=h1 0 (Rq.2 h.k1)
  rw[Nq]at this
  exact this.imp λ{a b} hab e=>hab (by grind [movC])
 ·intro ho
  refine⟨λi _=>?_,?_⟩
  ·rw[Nq]
   exact ho.imp λ{a b} hab e=>hab (by grind [movC])
  ·refine List.pairwise_lt_range.imp λ{i j} hij x hx y hy e=>?_
   obtain⟨a,ha,rfl⟩:=TG.1 hx
   obtain⟨b,hb,rfl⟩:=TG.1 hy
   have:=(Yfm h.frm ha hb e).1
   omega
theorem Rep.clear(h:Rep s t k)(n:Net):Yjp n t↔Yjp n s:=by
 have hc:∀i,i<k->∀c∈s.cells,Vp n t.cells (movC ((i:Int)*s.len) c)=Vp n s.cells c:=λi hi c hc=>by
  unfold Vp
  have e1:YM (movC ((i:Int)*s.len) c)=YM c:=rfl
  have e2:toC (movC ((i:Int)*s.len) c)=toC c:=rfl
  rw[e1,e2,h.dist n hi hc,h.dist n hi hc]
 unfold Yjp
 constructor
 ·intro hg c hcm
  rw[<-hc 0 h.k1 c hcm]
  exact hg _ (by rw[h.cells];exact YbH.2 ⟨0,h.k1,c,hcm,rfl⟩)
 ·intro hg x hx
  rw[h.cells]at hx
  grind [YbH]
variable {A:Option Addr}{cap B:Nat}{w0 w:World}{H:List HP}
theorem Yh3(l:List Int)(v:Int)(hlen:l.length<=9223372036854775807)(hr:Rd B w0 H A (l.flatMap numF))(hw:St B w0 H w):
 CX B w0 345 [.slice A l.length cap,.int .i64 v] w λu K=>u=.int .i64 (Yp (λx=>decide (v=x)) l 0)/\K=H:=by
 refine Ya Tryz.func345 Tryz.ntmps345 rfl rfl hw ?_
 refine zX9 ?_
 refine Ye (λ(k:Nat)=>[(8,.int .i64 k),(7,.int .i64 l.length),(0,.slice A l.length cap),(1,.int .i64 v)]) (λ_=>H) (λk=>k<=l.length/\Yp (λx=>decide (v=x)) l 0=Yp (λx=>decide (v=x)) (l.drop k) k) (λk=>l.length-k) 0 ⟨Td _,by simp⟩ ?_ (λw hw=>hw) ?_
 ·exact zc1
 rintro k ⟨hk,hi⟩ K hK
 by_cases hlt:k<l.length
 ·obtain⟨a,ha⟩:∃a,l[k]? =some a:=⟨_,Ta hlt⟩
  rw[Jo _ l ha]at hi
  repeat'(first|refine zgd ?_|(refine zge ?_ ?_<;>intro _<;>try exact zo)|fail)
  ·rename_i h
   rw[To (Ti h)]at hi
   exact zc85
  ·rename_i h
   rw[Tf (by simp[h])]at hi
   refine zX6 ?_
   apply hK (k+1)
   ·grind
   ·omega
   ·exact zc1
   exact zc18
 ·refine zX1 ?_<;>intros
  exact zc58
theorem Ycj(l:List Int)(v:Int)(hlen:l.length<=9223372036854775807)(hr:Rd B w0 H A (l.flatMap numF))(hw:St B w0 H w):
 CX B w0 285 [.slice A l.length cap,.int .i64 v] w λu K=>u=.bool (decide (v∈l))/\K=H:=by
 refine Ya Tryz.func285 Tryz.ntmps285 rfl rfl hw ?_
 have hia:=Vc (λx=>decide (v=x)) l 0 (by omega)
 have hmm:l.any (λx=>decide (v=x))=true↔v∈l:=by simp[List.any_eq_true]
 repeat'(first|((apply Yb Yxs);exact za;exact rfl;exactλ_ hw=>(Yh3 l v hlen hr hw))|refine zga ?_|(refine zgf ?_ ?_<;>intro _<;>try exact zo)|fail)
 all_goals(apply Yc;exact rfl;exact rfl)
 ·rename_i h;exact⟨by rw[Ti (hmm.1 (hia.1 h))],rfl⟩
 ·rename_i h
  exact⟨by rw[Tn λe=>by have:=hia.2 (hmm.2 e);omega],rfl⟩
theorem YaF(l m:List Int)(hlen:l.length<=9223372036854775807)(_hlen2:m.length<=9223372036854775807){A2:Option Addr}{cap2:Nat}(hr:Rd B w0 H A (l.flatMap numF))(hr2:Rd B w0 H A2 (m.flatMap numF))(hw:St B w0 H w):
 CX B w0 266 [.slice A l.length cap,.slice A2 m.length cap2] w λu K=>u=.bool (decide (l=m))/\K=H:=by
 refine Ya Tryz.func266 Tryz.ntmps266 rfl rfl hw ?_
 by_cases hll:l.length=m.length
 rotate_left
 ·exact zc6
 refine zX0 ?_<;>intros
 refine Ye (λ(k:Nat)=>[(13,.int .i64 k),(12,.int .i64 l.length),(0,.slice A l.length cap),(1,.slice A2 m.length cap2)]) (λ_=>H) (λk=>k<=l.length/\l.take k=m.take k) (λk=>l.length-k) 0 ⟨Td _,by simp⟩ ?_ (λw hw=>hw) ?_
 ·exact zc1
 rintro k ⟨hk,hi⟩ K hK
 by_cases hlt:k<l.length
 ·obtain⟨a,ha⟩:∃a,l[k]? =some a:=⟨_,Ta hlt⟩
  obtain⟨b,hb⟩:∃b,m[k]? =some b:=⟨_,Ta (by omega)⟩
  repeat'(first|refine zgd ?_|(refine zge ?_ ?_<;>intro _<;>try exact zo)|fail)
  ·exact zc39
  ·rename_i h
   apply hK (k+1)
   ·exact YqV
   ·omega
   ·exact zc1
   exact zc18
 exact zc8
theorem YcT{α:Type}(p:α->Bool):∀(l:List α) (k:Int),(l.filter (λa=>!p a)=l/\Yp p l k= -1)\/∃j,j<l.length/\Yp p l k=k+j/\(l.take j).filter (λa=>!p a)=l.take j/\∃a,l[j]? =some a/\p a=true
 |[],_=>.inl ⟨rfl,rfl⟩
 |a::l,k=>by
  unfold Yp
  cases h:p a with
  |true=>exact .inr ⟨0,by simp,by simp,rfl,a,rfl,h⟩
  |false=>
   rw[Tf (by decide)]
   have hn:(!p a)=true:=by simp_all
   rcases YcT p l (k+1)with⟨h1,h2⟩|⟨j,h1,h2,h3,b,h4,h5⟩
   ·simp_all
   ·refine .inr ⟨j+1,by simp_all,by omega,?_,b,h4,h5⟩
    simp_all
variable {A:Option Addr}{cap B:Nat}{w0 w:World}{H:List HP}
theorem YcW(p:Cel->Bool)(l:List Cel)(f:Nat)(cs:List Value)(hen:∀xs w,(callFunc f xs).run Tryz.prog w=.ok (.enter f xs) w)(hlen:l.length<=1000)(hr:Rd B w0 H A (l.flatMap celF))
 (hp:∀a∈l,∀w,St B w0 H w->Calls Tryz.prog f ([celV a]++cs).toArray w (Post B w0 λv K=>v=.bool (p a)/\K=H)) (hw:St B w0 H w):
 CX B w0 242 [.slice A l.length cap,.func (.func f) #[] cs.toArray] w λv K=>v=.int .i64 (Yp p l 0)/\K=H:=by
 refine Ya Tryz.func242 Tryz.ntmps242 rfl rfl hw ?_
 refine zX9 ?_
 refine Ye (λ(k:Nat)=>[(8,.int .i64 k),(7,.int .i64 l.length),(0,.slice A l.length cap),(1,.func (.func f) #[] cs.toArray)]) (λ_=>H) (λk=>k<=l.length/\Yp p l 0=Yp p (l.drop k) k) (λk=>l.length-k) 0 ⟨Td _,by simp⟩ ?_ (λw hw=>hw) ?_
 ·exact zc1
 rintro k ⟨hk,hi⟩ K hK
 by_cases hlt:k<l.length
 ·obtain⟨a,ha⟩:∃a,l[k]? =some a:=⟨_,Ta hlt⟩
  have hpa:=hp a (Tc ha)
  rw[Jo p l ha]at hi
  refine zX10 ?_<;>intros
  cases hpv:p a
  ·rw[hpv]at hi
   refine zX11 ?_
   apply hK (k+1)
   ·grind
   ·omega
   ·exact zc1
   exact zc18
  exact zc11
 exact zc7
structure Kc where
 i:Nat
 j:Nat
 M:List Cel
theorem WD(p:Cel->Bool)(l:List Cel)(f:Nat)(cs:List Value)(hen:∀xs w,(callFunc f xs).run Tryz.prog w=.ok (.enter f xs) w)(hlen:l.length<=1000)
 (hp:∀a∈l,∀(X:List HP) w,St B w0 (X++H) w->Calls Tryz.prog f ([celV a]++cs).toArray w (Post B w0 λv K=>v=.bool (p a)/\K=X++H)) (hw:St B w0 (cels A cap l::H) w):
 CX B w0 162 [.slice A l.length cap,.func (.func f) #[] cs.toArray] w λv K=>v=.slice A (l.filter λa=>!p a).length cap/\K=cels A cap (l.filter λa=>!p a)::H:=by
 refine Ya Tryz.func162 Tryz.ntmps162 rfl rfl hw ?_
 refine UF (e:=162) (size:=5) (A:=A) (xs:=l.flatMap celF) (k:=l.length) (cap:=cap) TN λhcap=>?_
 have hif:=λ{w:World}(hw:St B w0 (cels A cap l::H) w)=>YcW p l f cs hen hlen (cap:=cap) (.sl TN) (λa ha w hw=>hp a ha [cels A cap l] w hw) hw
 rcases YcT p l 0 with⟨h1,h2⟩|⟨i0,h1,h2,h3,a0,h4,h5⟩
 ·rw[h2]at hif
  rw[h1]
  repeat'(first|((apply Yb YoY);exact za;exact rfl;exactλ_ hw=>(hif hw))|refine zgb ?_|(refine zge ?_ ?_<;>intro _<;>try exact zo)|fail)
  exact zc3
 rw[h2,Int.zero_add]at hif
 repeat'(first|((apply Yb YoY);exact za;exact rfl;exactλ_ hw=>(hif hw))|refine zgc ?_|(refine zge ?_ ?_<;>intro _<;>try exact zo)|fail)
 refine Ye (λ(z:Kc)=>[(6,.int .i64 z.j),(5,.int .i64 z.i),(0,.slice A z.M.length cap),(1,.func (.func f) #[] cs.toArray)]) (λz=>cels A cap z.M::H) (λz=>z.M.length=l.length/\z.i<z.j/\z.j<=l.length/\z.M.take z.i=(l.take z.j).filter (λa=>!p a)/\z.M.drop z.j=l.drop z.j) (λz=>l.length-z.j) ⟨i0,i0+1,l⟩ ⟨rfl,by exact zc62,by exact zc62,?_,rfl⟩ ?_ (λw hw=>hw) ?_
 ·simp only
  rw[TD,h4,SE,h3]
  simp[h5]
 ·exact zc1
 rintro⟨i,j,M⟩ ⟨hM,hij,hj,ht,hd⟩ K hK
 simp only at hM hij hj ht hd⊢
 unfold cels
 by_cases hlt:j<l.length
 ·obtain⟨a,ha⟩:∃a,l[j]? =some a:=⟨_,Ta hlt⟩
  have hMa:M[j]? =some a:=by
   have e1:(M.drop j)[0]? =(l.drop j)[0]? :=by rw[hd]
   rw[RZ,RZ,S9,ha]at e1
   exact e1
  have hpa:=λ{X1 X2:HP}{w:World}(hw:St B w0 (X1::X2::H) w)=>hp a (Tc ha) [X1,X2] w hw
  have hft:(l.take (j+1)).filter (λa=>!p a)=M.take i++(if p a=true then []else [a]):=by
   rw[TD,ha,SE,ht]
   cases hpv:p a<;>simp[hpv]
  obtain⟨b,hb⟩:∃b,p a=b:=⟨_,rfl⟩
  rw[hb]at hft hpa
  have hd1:∀x:Cel,(M.set i x).drop (j+1)=l.drop (j+1):=λx=>by
   rw[List.drop_set_of_lt (by omega),<-Nu,<-Nu,hd]
  cases b with
  |true=>
   rw[To rfl,Ru]at hft
   repeat'(first|((first|apply Xr (cs:=cs));exact rfl;exact hen;exact za;exact rfl;exactλ_ hw=>hpa hw)|refine zgd ?_|(refine zge ?_ ?_<;>intro _<;>try exact zo)|(refine zgh ?_;intro _)|fail)
   apply hK ⟨i,j+1,M⟩
   ·exact⟨hM,by exact zc62,by exact zc62,hft.symm,by simp only;rw[<-Nu,<-Nu,hd]⟩
   ·exact zc62
   ·exact zc1
   ·exact QZ
  |false=>
   rw[Tf (by decide)]at hft
   have hMl:(M.set i a).length=M.length:=T8
   repeat'(first|((first|apply Xr (cs:=cs));exact rfl;exact hen;exact za;exact rfl;exactλ_ hw=>hpa hw)|(apply JL T (f:=celF) (l:=M) (i:=i) (a:=a);(iterate 3 exact rfl);exact zd;exactλ_=>rfl;(iterate 3 exact rfl);omega)|refine zgd ?_|(refine zge ?_ ?_<;>intro _<;>try exact zo)|(refine zgh ?_;intro _)|fail)
   apply hK ⟨i+1,j+1,M.set i a⟩
   ·refine⟨by exact zc62,by exact zc62,by exact zc62,?_,hd1 a⟩
    simp only
    rw[hft,TD,Nc (by omega),List.take_set_of_le (TS _)]
    rfl
   ·exact zc62
   ·dsimp only
    rw[hMl]
    exact zc1
   ·unfold cels
    dsimp only
    rw[hMl]
    exact QZ
 ·obtain rfl:j=l.length:=by omega
  clear hK
  rw[TC]at ht
  have hil:(l.filter λa=>!p a).length=i:=by rw[<-ht,TO];omega
  have hfl:(M.flatMap celF).take (i*5)=(l.filter λa=>!p a).flatMap celF:=by rw[<-Za (q:=5) (λ_=>rfl),ht]
  repeat'(first|(apply JQ T (n':=M.length-i);(iterate 4 exact rfl);omega;omega)|refine zgc ?_|(refine zge ?_ ?_<;>intro _<;>try exact zo)|fail)
  rw[Rm]
  apply ZV (sl 162 5 A i cap ((l.filter λa=>!p a).flatMap celF)::H)
  ·intro w hw
   refine hw.shrink (e:=162) (size:=5) (cap:=cap) (A:=A) (xs:=M.flatMap celF) (k:=M.length) (k':=i) (by omega) ?_
   rw[hfl]
   exact Upd.here _
  apply YgO T T2 (e:=162) (size:=5) (k:=i) (xs:=(l.filter λa=>!p a).flatMap celF);exact rfl;exact TN;(iterate 3 exact rfl);omega
  repeat'(first|(apply Xf T (l:=M) (n':=i);(iterate 4 exact rfl);omega;omega;omega)|refine zga ?_|fail)
  rw[Zm]
  refine zX6 ?_
  apply Yc;exact rfl;exact rfl
  exact⟨by rw[hil],by rw[hil]⟩
variable {l:List Int}{A:Option Addr}{cap B k:Nat}{w0:World}{H:List HP}
theorem Yx1(k:Nat)(hr:Rd B w0 H A (l.flatMap numF))(hc:l.length<=cap):Rd B w0 H (subA A 0 cap 1) ((l.take k).flatMap numF):=by
 have h:=Rd.sub (f:=numF) (q:=1) (o:=0) (k:=k) (λ_=>rfl) hr hc
 simp_all
theorem Yx2(o:Nat)(hr:Rd B w0 H A (l.flatMap numF))(hc:l.length<=cap):Rd B w0 H (subA A o cap 1) ((l.drop o).flatMap numF):=by
 have h:=Rd.sub (f:=numF) (q:=1) (o:=o) (k:=(l.drop o).length) (λ_=>rfl) hr hc
 grind
variable {p:Nat->Bool}
theorem W7(h:(List.range k).any p=false)(h2:p k=false):(List.range (k+1)).any p=false:=by
 grind
theorem Qg{n:Nat}(hk:k<n)(h:p k=true):(List.range n).any p=true:=by grind
theorem YcD(n:NetM)(s t:Int)(r:List Int){w:World}(hin:n.In B w0 H)(hck:Yo n.net=0)(hr:Rd B w0 H A (r.flatMap numF))(hlen:r.length<=9223372036854775807)(hcap:r.length<=cap)(hw:St B w0 H w):
 CX B w0 210 [n.val,.int .i64 s,.int .i64 t,.slice A r.length cap] w λv K=>v=.int .i64 (Jk n.net s t r)/\K=H:=by
 refine Ya Tryz.func210 Tryz.ntmps210 rfl rfl hw ?_
 (apply Y5;apply YL;apply Yx;exact rfl;exact rfl;intro g)
 have hnm:netB g n∈netB g n::H:=TN
 unfold Jk
 by_cases h1:r.length<2
 ·rw[To h1]
  refine zX50 ?_<;>intros
  exact zc21
 rw[Tf h1]
 by_cases h2:9<r.length
 ·rw[To h2]
  refine zX25 ?_<;>intros
  exact zc21
 rw[Tf h2]
 have hoff:=λ{w:World}(hw:St B w0 (netB g n::H) w)=>Qk (λa:Int=>Value.int .i64 a) (offE n.net) r 284 [.pointer (some ⟨g,0,none⟩)] Yw8 hlen (cap:=cap) (hr.cons) (λa _ w hw=>YhG n a g hnm hw) hw
 obtain⟨b3,h3⟩:∃b,r.any (offE n.net)=b:=⟨_,rfl⟩
 rw[h3]at hoff⊢
 cases b3 with
 |true=>
  rw[To rfl]
  refine zX51 ?_<;>intros
  exact zc21
 |false=>
  rw[Tf (by decide)]
  have hg0:=Xq (l:=r) (i:=0) (by omega)
  have hg1:=Xq (l:=r) (i:=r.length-1) (by omega)
  have hgi:((r.length:Int)-1).toNat=r.length-1:=by omega
  rw[<-hgi]at hg1
  by_cases h4:r.getD 0 0≠s\/r.getD (r.length-1) 0≠t
  ·rw[To h4]
   rw[<-hgi]at h4
   repeat'(first|((apply Yb Ytf);exact za;exact rfl;exactλ_ hw=>(hoff hw))|(apply zg29;(apply Yu;exact za;exact rfl))|refine zgd ?_|(refine zgf ?_ ?_<;>intro _<;>try exact zo)|fail)
   all_goals first
    |((repeat apply Yj);apply Yc;exact rfl;exact rfl;exact⟨rfl,rfl⟩)
    |skip
   done
  rw[Tf h4]
  rw[<-hgi]at h4
  refine zX51 ?_<;>intros
  refine Ye (λ(k:Nat)=>[(43,.int .i64 k),(42,.int .i64 r.length),(41,.slice A r.length cap),(3,.slice A r.length cap),(4,.pointer (some ⟨g,0,none⟩))]) (λ_=>netB g n::H) (λk=>k<=r.length/\((List.range k).any λi=>(r.take i).contains (r.getD i 0))=false) (λk=>r.length-k) 0 ⟨Td _,rfl⟩ ?_ (λw hw=>hw) ?_
  ·exact zc1
  rintro k ⟨hk,hi⟩ K hK
  by_cases hlt:k<r.length
  ·have hgk:=Xq (l:=r) (i:=k) hlt
   obtain⟨b,hb⟩:∃b,(r.take k).contains (r.getD k 0)=b:=⟨_,rfl⟩
   have hbm:decide (r.getD k 0∈r.take k)=b:=by rw[<-hb];simp
   have hcon:=λ{w:World}(hw:St B w0 (netB g n::H) w)=>Ycj (r.take k) (r.getD k 0) YdT (cap:=cap) (Yx1 k (hr.cons (X:=netB g n)) hcap) hw
   rw[hbm]at hcon
   cases b with
   |true=>
    refine zX52 ?_<;>intros
    (repeat apply Yj);apply Yc;exact rfl;exact rfl
    have htw:W4 r=true:=Qg hlt hb
    exact⟨by rw[To htw],rfl⟩
   |false=>
    refine zX52 ?_<;>intros
    apply hK (k+1)
    ·exact⟨by omega,W7 hi hb⟩
    ·omega
    ·exact zc1
    exact zc18
  obtain rfl:k=r.length:=by omega
  clear hK
  have htw:W4 r=false:=hi
  rw[Tf (by rw[htw];decide)]
  have hdl:(r.drop 1).length=r.length-1:=TZ
  repeat'(first|(apply JQ T (n':=(r.drop 1).length);(iterate 4 exact rfl);omega;(rw[hdl];rfl))|refine zgc ?_|(refine zge ?_ ?_<;>intro _<;>try exact zo)|fail)
  refine Ye (λ(k:Nat)=>[(57,.int .i64 k),(56,.int .i64 (r.drop 1).length),(55,.slice (subA A 1 cap 1) (r.drop 1).length (cap-1)),(3,.slice A r.length cap),(4,.pointer (some ⟨g,0,none⟩))]) (λ_=>netB g n::H) (λk=>k<=(r.drop 1).length/\((List.range k).any λi=>!YZ n.net (r.getD i 0) (r.getD (i+1) 0))=false) (λk=>(r.drop 1).length-k) 0 ⟨Td _,rfl⟩ ?_ (λw hw=>hw) ?_
  ·exact zc1
  rintro k ⟨hk,hi⟩ K hK
  have hr1:Rd B w0 (netB g n::H) (subA A 1 cap 1) ((r.drop 1).flatMap numF):=Yx2 1 (hr.cons) hcap
  have hr0:Rd B w0 (netB g n::H) A (r.flatMap numF):=hr.cons
  by_cases hlt:k<(r.drop 1).length
  ·have hgk:=Xq (l:=r) (i:=k) (by omega)
   have hgk1:(r.drop 1)[k]? =some (r.getD (k+1) 0):=by
    rw[RZ,Nat.add_comm];exact Xq (by omega)
   obtain⟨b,hb⟩:∃b,YZ n.net (r.getD k 0) (r.getD (k+1) 0)=b:=⟨_,rfl⟩
   have hus:=λ{w:World}(hw:St B w0 (netB g n::H) w)=>VF n (Zb n.net (r.getD k 0) (r.getD (k+1) 0)) (hin.cons (X:=netB g n)) hw
   rw[YgC hck,hb]at hus
   cases b with
   |true=>
    refine zX54 ?_<;>intros
    apply hK (k+1)
    ·exact⟨by omega,W7 hi (by rw[hb];rfl)⟩
    ·omega
    ·exact zc1
    exact zc18
   |false=>
    refine zX54 ?_<;>intros
    (repeat apply Yj);apply Yc;exact rfl;exact rfl
    have hbr:JM n.net r=true:=Qg (k:=k) (by omega) (by rw[hb];rfl)
    exact⟨by rw[To hbr],rfl⟩
  ·obtain rfl:k=(r.drop 1).length:=by omega
   clear hK
   refine zX1 ?_<;>intros
   (repeat apply Yj);apply Yc;exact rfl;exact rfl
   have hbr:JM n.net r=false:=by rw[hdl]at hi;exact hi
   exact⟨by rw[Tf (by rw[hbr];decide)],rfl⟩
def ZB(n:Net)(l:List Cel)(i:Nat):Bool:=
 !(JK n (Zb n (YM (celL l i)) (toC (celL l i))))||((List.range l.length).any λk=>decide (k≠i)&&YE (celL l i) (celL l k))
   ||(!(Zk n (mar n (Yv n (YM (celL l i)) (toC (celL l i))).toNat) (Yy n l i (toC (celL l i)) l.length))||!(Zk n (mar n (Yv n (toC (celL l i)) (YM (celL l i))).toNat) (Yy n l i (YM (celL l i)) l.length)))
def Jn(n:Net)(l:List Cel):Bool:=decide (Yo n=0)&&(List.range l.length).all λi=>!(ZB n l i)
def atP(slot off:Int)(c:Cel):Bool:=decide (c.1=slot/\c.2.1=off)
def onP(id a b:Int)(c:Cel):Bool:=decide (Y6 c=id/\YM c=a/\toC c=b)
def X6(s:Sch)(id:Int)(l:Lk):List Cel:=s.cells.filter (onP id l.1 l.2.1)
def Xd(len a:Int):List Cel->Nat->List (Cel×Int)
 |[],_=>[]
 |c::cs,k=>if c.1=a.tmod len/\k≠0 then(c,a)::Xd len a cs (k-1)else Xd len a cs k
def hopP(len:Int)(cs:List Cel):Nat->Nat->Int->List (Cel×Int)
 |0,_,_=>[]
 |f+1,k,a=>Xd len a cs k++hopP len cs f (k-(Xd len a cs k).length) (a+1)
def Y2(x:List (Cel×Int))(a:Int):Int:=match x.getLast? with|some z=>z.2+1|none=>a
def Y1(l:Lk):Nat:=(l.2.2+1).toNat
def runP(len:Int)(C:Lk->List Cel)(endd:Int):List Lk->Int->List (Cel×Int)
 |[],_=>[]
 |l::ls,a=>if(hopP len (C l) (endd-a).toNat (Y1 l) a).length<Y1 l then hopP len (C l) (endd-a).toNat (Y1 l) a
  else hopP len (C l) (endd-a).toNat (Y1 l) a++runP len C endd ls (Y2 (hopP len (C l) (endd-a).toNat (Y1 l) a) a)
def XF(ls:List Lk):Nat:=(ls.map Y1).sum
theorem QS(len a:Int):∀(cs:List Cel) (k:Nat),(Xd len a cs k).length<=k
 |[],k=>Td _
 |c::cs,k=>by
  unfold Xd
  split
  ·have:=QS len a cs (k-1)
   grind
  ·exact QS len a cs k
theorem UC{len a:Int}:∀{cs:List Cel}{k:Nat}{z:Cel×Int},z∈Xd len a cs k->z.2=a
 |[],k,z,h=>by cases h
 |c::cs,k,z,h=>by
  unfold Xd at h
  split at h
  ·rcases Rr.1 h with rfl|h
   ·rfl
   ·exact UC h
  ·exact UC h
theorem YnA(len a:Int):∀cs:List Cel,Xd len a cs 0=[]:=λcs=>Si (Nat.le_zero.1 (QS len a cs 0))
theorem UW(len:Int)(cs:List Cel):∀(f k:Nat) (a:Int),(hopP len cs f k a).length<=k
 |0,k,a=>Td _
 |f+1,k,a=>by
  unfold hopP
  have h1:=QS len a cs k
  have h2:=UW len cs f (k-(Xd len a cs k).length) (a+1)
  grind
theorem YcS(len:Int)(cs:List Cel)(f:Nat)(a:Int):hopP len cs f 0 a=[]:=Si (Nat.le_zero.1 (UW len cs f 0 a))
theorem Qs{len:Int}{cs:List Cel}:∀{f k:Nat}{a:Int}{z:Cel×Int},z∈hopP len cs f k a->a<=z.2/\z.2<a+f
 |0,k,a,z,h=>by cases h
 |f+1,k,a,z,h=>by
  rcases T9.1 h with h|h
  ·grind [UC]
  ·have:=Qs h;omega
theorem QP(len:Int)(C:Lk->List Cel)(endd:Int):∀(ls:List Lk) (a:Int),(runP len C endd ls a).length<=XF ls
 |[],a=>Td _
 |l::ls,a=>by
  have h1:=UW len (C l) (endd-a).toNat (Y1 l) a
  have h2:=QP len C endd ls (Y2 (hopP len (C l) (endd-a).toNat (Y1 l) a) a)
  grind [XF,runP]
variable {x:List (Cel×Int)}{a b endd:Int}
theorem Yg8(h:∀z∈x,a<=z.2/\z.2<b)(hab:a<=b):a<=Y2 x a/\Y2 x a<=b:=by
 unfold Y2
 grind
theorem YbL{len:Int}{C:Lk->List Cel}{endd:Int}:∀{ls:List Lk}{a:Int}{z:Cel×Int},a<=endd->z∈runP len C endd ls a->a<=z.2/\z.2<endd
 |[],a,z,_,h=>by cases h
 |l::ls,a,z,hae,h=>by
  have hb:∀z∈hopP len (C l) (endd-a).toNat (Y1 l) a,a<=z.2/\z.2<endd:=λz hz=>by
   have:=Qs hz;omega
  unfold runP at h
  split at h
  ·grind
  ·rcases T9.1 h with h|h
   ·grind
   ·have h1:=Yg8 hb hae
    have:=YbL h1.2 h
    omega
def Wp(len:Int)(C:Lk->List Cel)(endd:Int)(cs:List Cel)(ls:List Lk)(f k:Nat)(a at_:Int):List (Cel×Int):=
 if(hopP len cs f k a).length<k then hopP len cs f k a else hopP len cs f k a++runP len C endd ls (Y2 (hopP len cs f k a) at_)
theorem Yqa(len:Int)(C:Lk->List Cel)(endd:Int)(l:Lk)(ls:List Lk)(a:Int):runP len C endd (l::ls) a=Wp len C endd (C l) ls (endd-a).toNat (Y1 l) a a:=rfl
theorem YnJ(len:Int)(C:Lk->List Cel)(endd:Int)(cs:List Cel)(ls:List Lk)(f:Nat)(a at_:Int):Wp len C endd cs ls f 0 a at_=runP len C endd ls at_:=by
 unfold Wp
 rw[YcS,Tf (Re _)]
 rfl
variable {C:Lk->List Cel}{cs cs':List Cel}{ls:List Lk}{k f:Nat}
theorem Yqi{len:Int}{at_:Int}(hk:k≠0):Wp len C endd cs ls 0 k a at_=[]:=by
 unfold Wp
 rw[To (by grind [hopP])]
 rfl
theorem Ymx{y:List (Cel×Int)}(hy:∀z∈y,z.2+1=b):Y2 (y++x) a=Y2 x (if y=[]then a else b):=by
 unfold Y2
 cases hx:x.getLast? with
 |some z=>simp_all
 |none=>
  cases hy2:y.getLast? with
  |none=>
   simp_all
  |some z=>
   grind
theorem YnK(len:Int)(C:Lk->List Cel)(endd:Int)(cs:List Cel)(ls:List Lk)(f k:Nat)(a at_:Int):
 Wp len C endd cs ls (f+1) k a at_=Xd len a cs k++Wp len C endd cs ls f (k-(Xd len a cs k).length) (a+1) (if Xd len a cs k=[]then at_ else a+1):=by
 have h1:hopP len cs (f+1) k a=Xd len a cs k++hopP len cs f (k-(Xd len a cs k).length) (a+1):=rfl
 unfold Wp
 rw[h1,Tt]
 by_cases h2:(hopP len cs f (k-(Xd len a cs k).length) (a+1)).length<k-(Xd len a cs k).length
 ·grind
 ·rw[Tf h2,Tf (by omega),Ymx (b:=a+1) (λz hz=>by rw[UC hz]),Ro]
def OH(len:Int)(C:Lk->List Cel)(endd:Int)(cs cs':List Cel)(ls:List Lk)(f k:Nat)(a at_:Int):List (Cel×Int):=
 Xd len a cs' k++Wp len C endd cs ls f (k-(Xd len a cs' k).length) (a+1) (if Xd len a cs' k=[]then at_ else a+1)
theorem Yp5(len:Int)(C:Lk->List Cel)(endd:Int)(cs:List Cel)(ls:List Lk)(f k:Nat)(a at_:Int):OH len C endd cs cs ls f k a at_=Wp len C endd cs ls (f+1) k a at_:=(YnK ..).symm
theorem Yp6(len:Int)(C:Lk->List Cel)(endd:Int)(cs:List Cel)(ls:List Lk)(f k:Nat)(a at_:Int):OH len C endd cs [] ls f k a at_=Wp len C endd cs ls f k (a+1) at_:=by
 simp[OH,Xd]
variable {c:Cel}
theorem Yp7{len:Int}{at_:Int}(h:c.1=a.tmod len)(hk:k≠0):
 OH len C endd cs (c::cs') ls f k a at_=(c,a)::OH len C endd cs cs' ls f (k-1) a (a+1):=by
 have h1:Xd len a (c::cs') k=(c,a)::Xd len a cs' (k-1):=by rw[Xd,To ⟨h,hk⟩]
 unfold OH
 grind
theorem Ysi{len:Int}{at_:Int}(h:¬(c.1=a.tmod len/\k≠0)):
 OH len C endd cs (c::cs') ls f k a at_=OH len C endd cs cs' ls f k a at_:=by
 unfold OH
 rw[Xd,Tf h]
def runR(len:Int)(C:Lk->List Cel)(endd:Int):List Lk->Int->Option (List Int)
 |[],_=>some []
 |l::ls,a=>if(hopP len (C l) (endd-a).toNat (Y1 l) a).length<Y1 l then none
  else(runR len C endd ls (Y2 (hopP len (C l) (endd-a).toNat (Y1 l) a) a)).map λy=>(hopP len (C l) (endd-a).toNat (Y1 l) a).map Prod.snd++y
theorem YbK(len:Int)(C:Lk->List Cel)(endd:Int):∀(ls:List Lk) (a:Int),runR len C endd ls a=if(runP len C endd ls a).length<XF ls then none else some ((runP len C endd ls a).map Prod.snd)
 |[],a=>rfl
 |l::ls,a=>by
  have h3:XF (l::ls)=Y1 l+XF ls:=by grind [XF]
  have hl:=UW len (C l) (endd-a).toNat (Y1 l) a
  unfold runR runP
  by_cases h:(hopP len (C l) (endd-a).toNat (Y1 l) a).length<Y1 l
  ·grind
  ·rw[Tf h,Tf h,YbK len C endd ls]
   grind
def XN(n:Net)(r:List Int)(i:Nat):Lk:=lnk n (Yv n (r.getD i 0) (r.getD (i+1) 0)).toNat
def Yr(n:Net)(r:List Int):List Lk:=(List.range (r.length-1)).map (XN n r)
def Zx(n:Net)(s:Sch)(f:Flw)(r:List Int)(release:Int):Option (List Int):=runR s.len (X6 s f.1) (release+f.2.2.2.1) (Yr n r) release
def XR(l:List Int):Int:=l.getD (l.length-1) 0
def Ji(S:Int->Option (List Int))(len period:Int):Nat->Int->Int×Int×List Int->Option (Int×Int×List Int)
 |0,_,b=>some b
 |k+1,rel,b=>if len<=rel then some b else match S rel with
  |none=>none
  |some l=>Ji S len period k (rel+period) (if b.1<XR l-rel+1 then(XR l-rel+1,rel,l.map λz=>z-rel)else b)
def ZS(n:Net)(s:Sch)(f:Flw)(r:List Int):Option (Int×Int×List Int):=Ji (Zx n s f r) s.len f.2.2.2.1 s.len.toNat f.2.2.2.2.1 (0,0,[])
def wayE(n:Net)(s:Sch)(f:Flw)(r:List Int):Int:=
 if Yo n≠0\/Xh s=false\/Xl n.nodes f≠0 then 1 else if s.len.tmod f.2.2.2.1≠0 then 11 else Xw n f.2.1 f.2.2.1 r
def YY(n:Net)(s:Sch)(f:Flw)(r:List Int):(Int×Int×List Int)×Int:=
 if wayE n s f r≠0 then((0,0,[]),wayE n s f r)else match ZS n s f r with
  |none=>((0,0,[]),15)
  |some b=>(b,0)
open Go.ChangeShapes Go.WideShapes Go.ChangeAt Go.RowKit Go.Eng Go.Nw
open Go.ChangeMaps (open_string)
def flwF(f:Flw):List Value:=[.int .i64 f.1,.int .i64 f.2.1,.int .i64 f.2.2.1,.int .i64 f.2.2.2.1,.int .i64 f.2.2.2.2.1,.int .i64 f.2.2.2.2.2]
section
variable {H:Type}{enc:TypeId×Value->H}{W:World}{spare:Nat->Bool}{held:Bool}
abbrev CelG(c:Cel):Prop:=I64 c.1/\I64 c.2.1/\I64 c.2.2.1/\I64 c.2.2.2.1/\I64 c.2.2.2.2
abbrev FlwG(f:Flw):Prop:=I64 f.1/\I64 f.2.1/\I64 f.2.2.1/\I64 f.2.2.2.1/\I64 f.2.2.2.2.1/\I64 f.2.2.2.2.2
theorem Yr3:Opn enc Tryz.prog W spare held 162 celF CelG:=
 JH (Ze (ts:=[3,3,3,3,3]) (by kernel_rfl) (Ys op_i (Ys op_i (Ys op_i (Ys op_i (Ys op_i Jm)))))) (λx=>(x.1,x.2.1,x.2.2.1,x.2.2.2.1,x.2.2.2.2.1)) (λ_=>rfl) (λ_ h=>⟨h.1,h.2.1,h.2.2.1,h.2.2.2.1,h.2.2.2.2.1⟩)
theorem YpP:Opn enc Tryz.prog W spare held 31 (λs:SlM Cel=>[s.val]) (SlG W celF CelG):=Zs (q:=5) Tryz.underlying31 (by kernel_rfl) (by decide) Yr3
theorem Yr4:Opn enc Tryz.prog W spare held 45 flwF FlwG:=
 JH (Ze (ts:=[3,3,3,3,3,3]) (by kernel_rfl) (Ys op_i (Ys op_i (Ys op_i (Ys op_i (Ys op_i (Ys op_i Jm))))))) (λx=>(x.1,x.2.1,x.2.2.1,x.2.2.2.1,x.2.2.2.2.1,x.2.2.2.2.2.1)) (λ_=>rfl) (λ_ h=>⟨h.1,h.2.1,h.2.2.1,h.2.2.2.1,h.2.2.2.2.1,h.2.2.2.2.2.1⟩)
structure SchG(W:World)(s:SchM):Prop where
 len:I64 s.len
 off:I64 s.off
 old:Old W s.A (s.cells.flatMap celF)
 few:s.cells.length<=9223372036854775807
 good:∀c∈s.cells,CelG c
 cap:s.cells.length<=s.cap
def schF(s:SchM):List Value:=[.int .i64 s.len,.int .i64 s.off,.slice s.A s.cells.length s.cap]
theorem Yvw:Opn enc Tryz.prog W spare held 33 schF (SchG W):=
 JH (Ze (ts:=[3,3,31]) (by kernel_rfl) (Ys op_i (Ys op_i (Ys YpP Jm))))
  (λx=>⟨x.1,x.2.1,x.2.2.1.A,x.2.2.1.cap,x.2.2.1.xs⟩) (λx=>by simp[schF,numF,SlM.val])
  (λx h=>by
   obtain⟨h1,h2,h3,_⟩:=h
   exact⟨h1,h2,h3.old,TX h3.len maxL,h3.good,h3.cap⟩)
end
abbrev nrs(A:Option Addr)(cap:Nat)(l:List Int):HP:=sl 3 1 A l.length cap (l.flatMap numF)
theorem JW(A:Option Addr)(cap:Nat)(l:List Int)(z:Int):sl 3 1 A (l.length+1) cap (l.flatMap numF++#[Value.int .i64 z].toList)=nrs A cap (l++[z]):=by simp_all [nrs,numF]
end Go.Proofs.YtjommdkgfbhbdaaGreatDoor
