/- Lemmas. -/
import Derived.Test.YtambgjgljcadlaaGreatDoorQ16
import Derived.Test.YtambgjgljcadlaaGreatDoorQ17
set_option maxRecDepth 100000
set_option maxHeartbeats 8000000
set_option linter.all false
namespace Go.Proofs.YtambgjgljcadlaaGreatDoor
open Go.RowKit Go.Eng Go.Nw Go.Rt
def keyA(a:AttM):List Int:=[Y7 a.c,a.frame,Yr a.c,toC a.c]
def runO:List Int->Nat->Nat
 |[],r=>r
 |o::os,r=>if o=1 then runO os 0 else runO os (r+1)
theorem Yau(o:Int):∀(os:List Int) (r:Nat),runO (os++[o]) r=if o=1 then 0 else runO os r+1
 |[],r=>by simp only[TD,runO]
 |x::os,r=>by
  simp only[TA,runO,Yau o os]
  by_cases h:x=1
  ·rw[Tj h,Tj h]
  ·rw[Tf h,Tf h]
theorem Yca(loss o:Int):∀(os:List Int) (r:Nat),brO loss (os++[o]) r=(brO loss os r||(decide (o≠1)&&decide (loss<(runO os r:Nat)+1)))
 |[],r=>by
  simp only[TD,brO,runO,NH]
  by_cases h:o=1
  ·simp[h]
  ·by_cases h2:loss<(r:Int)+1<;>simp[h,h2]
 |x::os,r=>by
  simp only[TA,brO,runO,Yca loss o os]
  by_cases h:x=1
  ·simp only[Tj h]
  ·simp only[Tf h]
   by_cases h2:loss<(r:Int)+1
   ·simp only[Tj h2,Bool.true_or]
   ·simp only[Tf h2]
def osK(al:List AttM)(K:List Int):List Int:=(al.filter λa=>keyA a==K).map AttM.o
theorem Yqf(al:List AttM)(id k u v:Int):osK al [id,k,u,v]=(keyL al id k u v).map AttM.o:=by
 unfold osK keyL
 congr 2
 funext a
 unfold keyA onK
 rw[SV]
 simp
theorem Yc9(al:List AttM)(a:AttM)(K:List Int):osK (al++[a]) K=if keyA a=K then osK al K++[a.o]else osK al K:=by
 unfold osK
 rw[Sv]
 by_cases h:keyA a=K<;>simp[h]
def BrI(loss:List Int->Option Int)(al:List AttM)(rows:List Int->Nat)(found:List Int->Bool):Prop:=
 ∀K b,loss K=some b->found K=true\/(brO b (osK al K) 0=false/\rows K=runO (osK al K) 0)
theorem BrI.start(loss:List Int->Option Int):BrI loss [] (λ_=>0) (λ_=>false):=λ_ _ _=>.inr ⟨rfl,rfl⟩
variable {loss:List Int->Option Int}{al:List AttM}{rows rows':List Int->Nat}{found:List Int->Bool}{a:AttM}
theorem BrI.skip(h:BrI loss al rows found)(ha:loss (keyA a)=none\/found (keyA a)=true):BrI loss (al++[a]) rows found:=λK b hb=>by
 by_cases e:keyA a=K
 ·rcases ha with ha|ha
  ·rw[e,hb]at ha;cases ha
  ·exact .inl (e▸ha)
 ·rw[Yc9,Tf e]
  exact h K b hb
theorem BrI.acked(h:BrI loss al rows found)(ha:a.o=1)(h1:rows' (keyA a)=0)(h2:∀K,K≠keyA a->rows' K=rows K):BrI loss (al++[a]) rows' found:=λK b hb=>by
 rw[Yc9]
 by_cases e:keyA a=K
 ·rw[Tj e]
  rcases h K b hb with h3|⟨h3,_⟩
  ·exact .inl h3
  ·right
   rw[Yca,Yau,Tj ha,h3,ha,<-e]
   exact⟨rfl,h1⟩
 ·rw[Tf e,h2 K (Nk e)]
  exact h K b hb
variable {b:Int}
theorem BrI.lost{found':List Int->Bool}(h:BrI loss al rows found)(hb:loss (keyA a)=some b)(ha:a.o≠1)(h1:rows' (keyA a)=rows (keyA a)+1)(h2:∀K,K≠keyA a->rows' K=rows K)
 (h3:b<(rows (keyA a):Nat)+1->found' (keyA a)=true) (h4:∀K,found K=true->found' K=true):BrI loss (al++[a]) rows' found':=λK b' hb'=>by
 rw[Yc9]
 by_cases e:keyA a=K
 ·subst e
  rw[Tj rfl]
  rw[hb]at hb'
  cases hb'
  rcases h _ b hb with h5|⟨h5,h6⟩
  ·exact .inl (h4 _ h5)
  ·by_cases h7:b<(rows (keyA a):Nat)+1
   ·exact .inl (h3 h7)
   ·right
    rw[Yca,Yau,Tf ha,h5,h1,h6]
    refine⟨?_,rfl⟩
    rw[h6]at h7
    rw[Tn h7,Bool.and_false,NJ]
 ·rw[Tf e,h2 K (Nk e)]
  rcases h K b' hb' with h5|h5
  ·exact .inl (h4 K h5)
  ·exact .inr h5
theorem BrI.all(h:BrI loss al rows found){K:List Int}(hb:loss K=some b)(hbr:brO b (osK al K) 0=true):found K=true:=by
 rcases h K b hb with h|⟨h,_⟩
 ·exact h
 ·rw[hbr]at h;cases h
structure RwM where
 key:KL
 A:Option Addr
 cap:Nat
 xs:List Int
 born:Nat
def rwP(r:RwM):KL×Value×Nat:=(r.key,.slice r.A r.xs.length r.cap,r.born)
abbrev rwV(R:List RwM):YR:=R.map rwP
def rwQ(r:RwM):HP:=nrs r.A r.cap r.xs
def Oa(R:List RwM)(K:KL):Nat:=((R.find? λr=>r.key==K).map (·.xs.length)).getD 0
def YcF(F:YR)(K:KL):Bool:=(vget F K).isSome
inductive Up (R:List RwM) (cR:Nat) (k:KL):List RwM->Option Addr->Nat->List Int->Nat->List RwM->Nat->Prop
 |old (l1:List RwM) (A:Option Addr) (cap:Nat) (xs:List Int) (b:Nat) (l2:List RwM) (h:R=l1++⟨k,A,cap,xs,b⟩::l2) (hn:∀r∈l1,r.key≠k):Up R cR k l1 A cap xs b l2 cR
 |new (hn:∀r∈R,r.key≠k):Up R cR k R none 0 [] cR [] (cR+1)
theorem YwN(R:List RwM)(cR:Nat)(k:KL):∃l1 A cap xs b l2 c',Up R cR k l1 A cap xs b l2 c':=by
 by_cases h:∃r∈R,r.key=k
 ·have:∃l1 r l2,R=l1++r::l2/\r.key=k/\∀r∈l1,r.key≠k:=by
   clear cR
   induction R with
   |nil=>obtain⟨r,hr,_⟩:=h;cases hr
   |cons a R ih=>
    by_cases ha:a.key=k
    ·exact⟨[],a,R,rfl,ha,λr hr=>by cases hr⟩
    ·obtain⟨r,hr,e⟩:=h
     rcases TV.1 hr with rfl|hr
     ·exact absurd e ha
     ·obtain⟨l1,r2,l2,e1,e2,e3⟩:=ih ⟨r,hr,e⟩
      exact⟨a::l1,r2,l2,by rw[e1];rfl,e2,λy hy=>by
       rcases TV.1 hy with rfl|hy
       ·exact ha
       ·exact e3 y hy⟩
  obtain⟨l1,⟨k',A,cap,xs,b⟩,l2,e1,e2,e3⟩:=this
  obtain rfl:k'=k:=e2
  exact⟨l1,A,cap,xs,b,l2,cR,.old _ _ _ _ _ _ e1 e3⟩
 ·exact⟨R,none,0,[],cR,[],cR+1,.new λr hr e=>h ⟨r,hr,e⟩⟩
variable {R l1 l2:List RwM}{cR cap b c':Nat}{k:KL}{A:Option Addr}{xs:List Int}
theorem Up.ne(h:Up R cR k l1 A cap xs b l2 c'):∀r∈l1,r.key≠k:=by
 cases h with
 |old _ _ _ _ _ _ _ hn=>exact hn
 |new hn=>exact hn
theorem ZJ(l1 l2:List RwM)(k:KL)(A:Option Addr)(cap:Nat)(xs:List Int)(b:Nat):rwV (l1++⟨k,A,cap,xs,b⟩::l2)=rwV l1++(k,.slice A xs.length cap,b)::rwV l2:=by
 unfold rwV;rw[Rb,Rh];rfl
theorem Up.ok(h:Up R cR k l1 A cap xs b l2 c')(lk:k.length=4)(hok:VOk 4 (rwV R) cR)(v:Value):VOk 4 (rwV l1++(k,v,b)::rwV l2) c':=by
 cases h with
 |old _ _ _ _ _ _ e hn=>
  subst e
  rw[ZJ]at hok
  exact hok.set v
 |new hn=>exact hok.snoc lk v
theorem Up.nek(h:Up R cR k l1 A cap xs b l2 c'):∀e∈rwV l1,e.1≠k:=λe he=>by
 obtain⟨r,hr,rfl⟩:=TE.1 he
 exact h.ne r hr
variable {v:Value}
theorem YqL{l1 l2:YR}(h:∀e∈l1,e.1≠k):vget (l1++(k,v,b)::l2) k=some v:=by
 unfold vget
 rw[Nr,SN.2 (λe he=>by simpa using h e he)]
 simp
theorem Wg(h:∀r∈l1,r.key≠k):Oa (l1++⟨k,A,cap,xs,b⟩::l2) k=xs.length:=by
 unfold Oa
 rw[Nr,SN.2 (λe he=>by simpa using h e he)]
 simp
theorem YkF{K:KL}{A':Option Addr}{cap':Nat}{xs':List Int}{b':Nat}(hK:K≠k):Oa (l1++⟨k,A,cap,xs,b⟩::l2) K=Oa (l1++⟨k,A',cap',xs',b'⟩::l2) K:=by
 unfold Oa
 rw[Nr,Nr,S8,S8]
 have:(k==K)=false:=by simpa using Nk hK
 simp only[this]
theorem Up.get(h:Up R cR k l1 A cap xs b l2 c'):Oa R k=xs.length:=by
 cases h with
 |old _ _ _ _ _ _ e hn=>subst e;exact Wg hn
 |new hn=>
  unfold Oa
  rw[SN.2 (λe he=>by simpa using hn e he)]
  rfl
theorem Up.other(h:Up R cR k l1 A cap xs b l2 c')(A':Option Addr)(cap':Nat)(xs':List Int):∀K,K≠k->Oa (l1++⟨k,A',cap',xs',b⟩::l2) K=Oa R K:=λK hK=>by
 cases h with
 |old _ _ _ _ _ _ e hn=>subst e;exact YkF hK
 |new hn=>
  unfold Oa
  rw[Nr,S8]
  have:(k==K)=false:=by simpa using Nk hK
  simp only[this,List.find?_nil,Option.or_none]
theorem Up.lens(h:Up R cR k l1 A cap xs b l2 c'){j:Nat}(hj:∀r∈R,r.xs.length<=j):xs.length<=j/\∀(A':Option Addr) (cap':Nat) (xs':List Int),xs'.length<=j+1->∀r∈l1++⟨k,A',cap',xs',b⟩::l2,r.xs.length<=j+1:=by
 have h1:(∀r∈l1,r.xs.length<=j)/\(∀r∈l2,r.xs.length<=j)/\xs.length<=j:=by
  cases h with
  |old _ _ _ _ _ _ e hn=>
   subst e
   exact⟨λr hr=>hj r (by simp[hr]),λr hr=>hj r (by simp[hr]),hj ⟨k,A,cap,xs,b⟩ (by simp)⟩
  |new hn=>exact⟨hj,(λr hr=>by cases hr),Tm _⟩
 refine⟨h1.2.2,λA' cap' xs' hx r hr=>?_⟩
 rcases TF.1 hr with hr|hr
 ·have:=h1.1 r hr;omega
 ·rcases TV.1 hr with rfl|hr
  ·exact hx
  ·have:=h1.2.1 r hr;omega
theorem Up.open_(h:Up R cR k l1 A cap xs b l2 c'){B:Nat}{w0:World}{H:List HP}{w:World}(hw:St B w0 (many (R.map rwQ)::H) w):St B w0 (nrs A cap xs::many (l1.map rwQ++l2.map rwQ)::H) w:=by
 cases h with
 |old _ _ _ _ _ _ e hn=>
  subst e
  rw[Rb,Rh]at hw
  exact hw.perm (.pull _ _ _ _)
 |new hn=>
  rw[N5,Ri]
  exact hw.nilSlice _ _
theorem Ydo(k:KL)(A:Option Addr)(cap:Nat)(xs:List Int)(b:Nat)(H:List HP):Perm (nrs A cap xs::many (l1.map rwQ++l2.map rwQ)::H) (many ((l1++⟨k,A,cap,xs,b⟩::l2).map rwQ)::H):=by
 rw[Rb,Rh]
 exact .push _ _ _ _
variable {es:YR}
theorem VOk.nodup{N ct:Nat}(h:VOk N es ct):(es.map (·.2.2)).Nodup:=N8.2 h.ne
variable {seen:Array Nat}
theorem YkN{e:KL×Value×Nat}(he:e∈es)(hs:seen.contains e.2.2=false):(es.filter λx=>!(seen.push e.2.2).contains x.2.2).length<(es.filter λx=>!seen.contains x.2.2).length:=by
 have h1:(es.filter λx=>!(seen.push e.2.2).contains x.2.2)=(es.filter λx=>!seen.contains x.2.2).filter λx=>!(x.2.2==e.2.2):=by
  rw[Nc]
  congr 1
  funext x
  rw[Array.contains_push]
  cases seen.contains x.2.2<;>cases x.2.2==e.2.2<;>rfl
 rw[h1]
 refine List.length_filter_lt_length_iff_exists.2 ⟨e,Rr.2 ⟨he,by rw[hs];rfl⟩,by simp⟩
theorem Ym6(hn:(es.map λe=>e.2.2).Nodup){x y:KL×Value×Nat}(hx:x∈es)(hy:y∈es)(e:x.2.2=y.2.2):x=y:=by
 induction es with
 |nil=>cases hx
 |cons a l ih=>
  rw[Rh,List.nodup_cons]at hn
  rcases TV.1 hx with h1|h1<;>rcases TV.1 hy with h2|h2
  ·rw[h1,h2]
  ·exact absurd (TE.2 ⟨y,h2,by rw[<-e,h1]⟩) hn.1
  ·exact absurd (TE.2 ⟨x,h1,by rw[e,h2]⟩) hn.1
  ·exact ih hn.2 h1 h2
def Ya4(n:Net):KL->Option Int
 |[_,_,u,v]=>if 0<=Yy n u v then some (lnk n (Yy n u v).toNat).2.2 else none
 |_=>none
section
variable {P:Program}{n:Shp}{B:Nat}{w0:World}{Q:Exit->Act->World->Prop}{env:Env}{H:List HP}{m:Eng.Mode}{ops:Array Oper}{rest:List Oper}{d:Nat}{ty:TypeId}{pos:String}{after:Array Edge}
variable {x y:Operand}{A:Option Addr}{cap cR b c' g:Nat}
theorem Q7{xt yt:TypeId}{k:Nat}(hx:evo env x=some (.slice A k cap))(hn:Nat.ble (d+1) n.k=true)(hu:isSl P xt=true)
 (h:VL P m n B w0 ops Q rest ((d,.bool (!A.isNone))::env) H):VL P m n B w0 ops Q (⟨some d,.binOp .neq xt x (.const (.slice none 0 0)) yt,ty,pos,after,none⟩::rest) env H:=by
 obtain⟨e,hu⟩:=YeZ hu
 refine Y8 hx (y:=.const (.slice none 0 0)) rfl hn (λw=>by simp[eqGuard]) (λw=>?_) h
 simp only[binOp,Op.equal]
 rw[Sem.run_bind,show Op.maxDepth=9999+1 from rfl]
 unfold Op.equalIn
 cases A<;>simp[run_underlying hu]
variable {R l1 l2:List RwM}{k:KL}{xs:List Int}{t kt et:TypeId}{v:Value}{K:List HP}
theorem Yru(hU:Up R cR k l1 A cap xs b l2 c'){u:Operand}(hx:evo env x=some (.map (some g)))(hy:evo env y=some (kv k))(hv:evo env u=some v)(ht:V2 P t kt et 4=true)(lk:k.length=4)(hok:VOk 4 (rwV R) cR)
 (hu:Upd (blk g (vobj (rwV R) cR)) (blk g (vobj (rwV l1++(k,v,b)::rwV l2) c')) H K) (h:VL P none n B w0 ops Q rest env K):VL P none n B w0 ops Q (⟨none,.mapUpdate t x y u,ty,pos,after,none⟩::rest) env H:=by
 have hne:=hU.nek
 cases hU with
 |old _ _ _ _ _ _ e hn=>
  subst e
  rw[ZJ]at hu hok
  exact YbY k hx hy hv ht lk (λe he=>hok.len e (by simp[he])) hu hne h
 |new hn=>
  refine US k hx hy hv ht lk hok.len hu ?_ h
  unfold vget
  rw[SN.2 (λe he=>by simpa using hne e he)]
  rfl
theorem YjB(hU:Up R cR k l1 A cap xs b l2 c')(hx:evo env x=some (.map (some g)))(hy:evo env y=some (kv k))(ht:V2 P t kt et 4=true)(lk:k.length=4)(hok:VOk 4 (rwV R) cR)(hn:Nat.ble (d+1) n.k=true)(hz:∀w,(zeroValue et).run P w=.ok (.slice none 0 0) w)
 (hu:Upd (blk g (vobj (rwV R) cR)) (blk g (vobj (rwV l1++(k,.slice A xs.length cap,b)::rwV l2) c')) H K) (h:VL P none n B w0 ops Q rest ((d,.tuple #[.slice A xs.length cap,goInt b])::env) K):VL P none n B w0 ops Q (⟨some d,.mapEntry t x y,ty,pos,after,none⟩::rest) env H:=by
 have hne:=hU.nek
 cases hU with
 |old _ _ _ _ _ _ e hn=>
  subst e
  rw[ZJ]at hu hok
  exact YbX k hx hy ht lk (λe he=>hok.len e (by simp[he])) (by assumption) hu hne h
 |new hn=>
  refine YbW k hx hy ht lk hok.len (by assumption) hu ?_ hz h
  unfold vget
  rw[SN.2 (λe he=>by simpa using hne e he)]
  rfl
variable {seen:Array Nat}{es:YR}
theorem YjA{r clock since:Nat}{a b c e:Int}{bb:Nat}(hx:evo env x=some (.pointer (some ⟨r,0,none⟩)))(hm:blk g (vobj es clock)∈H)(hr:blk r (.mapIter (some g) since (seen.push bb) clock)∈H)(hn:Nat.ble (d+1) n.k=true)
 (he:([a,b,c,e],v,bb)∈es) (hnd:(es.map (·.2.2)).Nodup)
 (h:VL P none n B w0 ops Q rest ((d,.tuple #[.agg #[.int .i64 a,.int .i64 b,.int .i64 c,.int .i64 e],v])::env) H):VL P none n B w0 ops Q (⟨some d,.entry x,ty,pos,after,none⟩::rest) env H:=
 YmF (e:=([a,b,c,e],v,bb)) hx hm hr hn he hnd h
end
structure FOk(F:YR)(cF:Nat):Prop where
 ok:VOk 4 F cF
 sl:∀e∈F,∃g n cap,e.2.1=.slice (some ⟨g,0,none⟩) n cap
theorem YkZ(w:World):(zeroValue 24).run Tryz.prog w=.ok (.slice none 0 0) w:=by kernel_rfl
theorem Yfx{F:YR}{k:KL}{v:Value}{b:Nat}(h:vget F k=none)(K:KL):vget (F++[(k,v,b)]) K=if K=k then some v else vget F K:=by
 unfold vget at h⊢
 grind
theorem YdT(n:NetM)(atts:List AttM)(hat:atts.length<=50000000)(dA:Option Addr)(dn dc:Nat){tA:Option Addr}{tc B:Nat}{w0:World}{H:List HP}{w:World}(hin:n.In B w0 H)(hr:Rd B w0 H tA (atts.flatMap attF))(hw:St B w0 H w):
 CX B w0 12 [n.val,.agg #[.slice tA atts.length tc,.slice dA dn dc]] w λv K=>∃(out:List BrM) (A:Option Addr) (cap:Nat),v=.slice A out.length cap/\out.length<=50000000/\(Yp n.net=0->∀(k:KL) b,Ya4 n.net k=some b->brO b (osK atts k) 0=true->∃x∈out,[x.f,x.k,x.u,x.v]=k)/\K=brP A cap out::H:=by
 refine Ya Tryz.func12 Tryz.ntmps12 rfl rfl hw ?_
 have hop:∀w,St B w0 [many H] w->St B w0 H w:=λw hw=>hw.perm (.openT H)
 have hin:=hin.mono hop
 have hr:=hr.mono hop
 refine XM [many H] (λw hw=>hw.perm (.closeT H)) ?_
 have p1:=λ{H':List HP}{w:World}(hin:n.In B w0 H') (hw:St B w0 H' w)=>Y1 n hin hw
 have p2:=λ(a b:Int) {H':List HP}{w:World}(hin:n.In B w0 H') (hw:St B w0 H' w)=>XP n a b hin hw
 unfold NetM.val at p1 p2⊢
 refine zX97 ?_<;>intros
 rename_i gn gr
 first|apply Yb en44|apply Yc en44
 exact za
 exact rfl
 exactλ_ hw=>(p1 (hin.mono zc0) hw)
 by_cases hc:Yp n.net=0
 rotate_left
 ·refine zX98 ?_<;>intros
  apply Yg (brP none 0 []::H)
  ·intro w hw
   have h5:St B w0 [many H] w:=by
    revert w
    exact zc0
   exact(h5.perm (.openT H)).nilSlice _ _
  apply Yf;exact rfl;exact rfl
  exact⟨[],none,0,rfl,Tm _,λh=>absurd h hc,rfl⟩
 have hix:∀a b,XG n.net a b=Yy n.net a b:=λa b=>by unfold XG;rw[Tf (by rw[hc];simp)]
 simp only[hix]at p2
 repeat'(first|(apply YaE;exact rfl;intro _)|refine zgc ?_|(refine zge ?_ ?_<;>intro _<;>try exact zo)|fail)
 rename_i gR gF
 refine Yh (λ(z:Nat×List RwM×Nat×YR×Nat)=>[(22,.int .i64 (z.1:Nat)),(21,.int .i64 atts.length),(20,.slice tA atts.length tc),(2,.pointer (some ⟨gn,0,none⟩)),(5,.map (some gR)),(6,.map (some gF))])
  (λz=>blk gR (vobj (rwV z.2.1) z.2.2.1)::blk gF (vobj z.2.2.2.1 z.2.2.2.2)::many (z.2.1.map rwQ)::blk gn (.cells #[.int .i64 n.nodes,.slice n.pA n.rows.length n.pcap,.int .i64 n.noise,.int .i64 n.thr,.slice n.lA n.links.length n.lcap,.slice n.mA n.margin.length n.mcap] 26 (0,0))::[many H])
  (λz=>z.1<=atts.length/\VOk 4 (rwV z.2.1) z.2.2.1/\FOk z.2.2.2.1 z.2.2.2.2/\(∀r∈z.2.1,r.xs.length<=z.1)/\z.2.2.2.1.length<=z.1/\BrI (Ya4 n.net) (atts.take z.1) (Oa z.2.1) (YcF z.2.2.2.1)) (λz=>atts.length-z.1) (0,[],0,[],0) ⟨Tm _,VOk.nil,⟨VOk.nil,λe h=>by cases h⟩,(λr h=>by cases h),Tm _,BrI.start _⟩ ?_ ?_ ?_
 ·exact zc1
 ·intro w hw
  have h5:St B w0 (blk gR (vobj [] 0)::blk gF (vobj [] 0)::blk gn (.cells #[.int .i64 n.nodes,.slice n.pA n.rows.length n.pcap,.int .i64 n.noise,.int .i64 n.thr,.slice n.lA n.links.length n.lcap,.slice n.mA n.margin.length n.mcap] 26 (0,0))::[many H]) w:=by
   revert w
   exact zc0
  exact h5.perm (.cons _ (.cons _ (.noMany _)))
 rintro⟨j,R,cR,F,cF⟩ ⟨hj,hR,hF,hl,hfl,hI⟩ K hK
 dsimp only at hj hR hF hl hfl hI⊢
 by_cases hlt:j<atts.length
 ·obtain⟨a,ha⟩:∃a,atts[j]? =some a:=⟨_,Ta hlt⟩
  have htk:atts.take (j+1)=atts.take j++[a]:=by rw[TG,ha];rfl
  have hka:keyA a=[a.c.2.2.2.2,a.frame,a.c.2.2.1,a.c.2.2.2.1]:=rfl
  obtain⟨k,hk⟩:∃k,k=keyA a:=⟨_,rfl⟩
  obtain⟨fi,hfi⟩:∃fi,Yy n.net a.c.2.2.1 a.c.2.2.2.1=fi:=⟨_,rfl⟩
  have p3:=λ{H':List HP}{w:World}(hin:n.In B w0 H') (hw:St B w0 H' w)=>p2 a.c.2.2.1 a.c.2.2.2.1 hin hw
  rw[hfi]at p3
  have hloss:Ya4 n.net (keyA a)=if 0<=fi then some (lnk n.net fi.toNat).2.2 else none:=by rw[hka,<-hfi];rfl
  obtain⟨l1,A,cap,xs,b,l2,c',hU⟩:=YwN R cR (keyA a)
  have hkv:∀z,vget F (keyA a)=z->vget F [a.c.2.2.2.2,a.frame,a.c.2.2.1,a.c.2.2.2.1]=z:=λz h=>h
  have hxl:=hU.lens hl
  have hbir:∀e∈rwV l1,e.2.2≠b:=(hU.ok rfl hR (.bool true)).births
  by_cases hlost:0<=fi/\vget F (keyA a)=none/\a.o≠1
  ·obtain⟨hf0,hfd,ho⟩:=hlost
   have hfd2:=hkv _ hfd
   obtain⟨ix,rfl⟩:∃ix:Nat,fi=ix:=⟨fi.toNat,by omega⟩
   obtain⟨l,hln⟩:∃l,n.links[ix]? =some l:=zc82
   have hlk:(lnk n.net ix).2.2=l.2.2:=YtY
   have hixl:ix<n.links.length:=(Td.1 hln).1
   have hloss:Ya4 n.net (keyA a)=some l.2.2:=by rw[hloss,Tj (by omega),<-hlk];rfl
   have hok2:∀v,VOk 4 (rwV l1++(keyA a,v,b)::rwV l2) c':=λv=>hU.ok rfl hR v
   have hvg:∀v,vget (rwV l1++(keyA a,v,b)::rwV l2) (keyA a)=some v:=λv=>YqL hU.nek
   have hlr:Rd B w0 [many H] n.lA (n.links.flatMap lkF):=hin.lk
   have hxs:=hxl.1
   refine XM (nrs A cap xs::many (l1.map rwQ++l2.map rwQ)::blk gR (vobj (rwV R) cR)::blk gF (vobj F cF)::blk gn (.cells #[.int .i64 n.nodes,.slice n.pA n.rows.length n.pcap,.int .i64 n.noise,.int .i64 n.thr,.slice n.lA n.links.length n.lcap,.slice n.mA n.margin.length n.mcap] 26 (0,0))::[many H]) (λw hw=>?_) ?_
   ·refine hU.open_ ?_
    revert w
    exact zc0
   refine zX44 ?_<;>intros
   rename_i ga gk
   first|apply Yb en45|apply Yc en45
   exact za
   exact rfl
   exactλ_ hw=>(p3 (hin.mono zc0) hw)
   have hlen1:(xs++[a.slot]).length=xs.length+1:=by simp
   by_cases hgt:l.2.2<(xs.length:Int)+1
   ·skip
    refine Ytr ?_<;>intros
    rename Option Addr=>A'
    rename Nat=>cap'
    refine YfF (e:=3) (size:=1) (A:=A') (k:=xs.length+1) (cap:=cap') (xs:=xs.flatMap numF++#[Value.int .i64 a.slot].toList) (by(focus exact zc2)) (by omega) ?_
    intro gA eA
    subst eA
    apply YD [0,1,2,3,4] [5] [true,true,true,true,true,true,true,true]
    kernel_rfl
    kernel_rfl
    exact zy
    (simp only[Yd,nthO];rfl)
    (simp only[Yd,nthO];rfl)
    repeat'(first|(apply Z4 (kt:=121) (et:=24) (keyA a);exact rfl;exact rfl;exact zm;kernel_rfl;exact rfl;exact(hok2 _).len;exact rfl;exact hvg _)|(apply US (kt:=121) (et:=24) (keyA a);(iterate 3 exact rfl);kernel_rfl;exact rfl;exact hF.ok.len;exact zd;exact hfd)|refine zgd ?_|fail)
    apply hK (j+1,l1++⟨keyA a,some ⟨gA,0,none⟩,cap',xs++[a.slot],b⟩::l2,c',F++[(keyA a,.slice (some ⟨gA,0,none⟩) (xs.length+1) cap',cF)],cF+1)
    ·refine⟨by omega,by rw[ZJ];exact hok2 _,⟨hF.ok.snoc rfl _,λe he=>?_⟩,hxl.2 _ _ _ (by omega),by rw[To];simp;omega,?_⟩
     ·rcases TF.1 he with he|he
      ·exact hF.sl e he
      ·rw[TO.1 he];exact⟨_,_,_,rfl⟩
     ·rw[htk]
      refine hI.lost hloss ho ?_ (hU.other _ _ _) (λ_=>?_) (λK hK=>?_)
      ·rw[Wg hU.ne,hU.get,hlen1]
      ·unfold YcF;rw[Yfx hfd,Tj rfl];rfl
      ·unfold YcF at hK⊢
       rw[Yfx hfd]
       split
       ·rfl
       ·exact hK
    ·exact zc36
    ·exact zc1
    ·intro w hw
     have h5:St B w0 (sl 3 1 (some ⟨gA,0,none⟩) (xs.length+1) cap' (xs.flatMap numF++#[Value.int .i64 a.slot].toList)::many (l1.map rwQ++l2.map rwQ)::blk gR (vobj (rwV l1++(keyA a,.slice (some ⟨gA,0,none⟩) (xs.length+1) cap',b)::rwV l2) c')::blk gF (vobj (F++[(keyA a,.slice (some ⟨gA,0,none⟩) (xs.length+1) cap',cF)]) (cF+1))::blk gn (.cells #[.int .i64 n.nodes,.slice n.pA n.rows.length n.pcap,.int .i64 n.noise,.int .i64 n.thr,.slice n.lA n.links.length n.lcap,.slice n.mA n.margin.length n.mcap] 26 (0,0))::[many H]) w:=by
      revert w
      exact zc0
     rw[W4]at h5
     have h7:=h5.perm (Ydo (keyA a) _ _ _ b _)
     dsimp only
     rw[ZJ,hlen1]
     clear h5 hw
     revert w
     exact zc0
   ·skip
    refine Ytr ?_<;>intros
    rename Option Addr=>A'
    rename Nat=>cap'
    apply hK (j+1,l1++⟨keyA a,A',cap',xs++[a.slot],b⟩::l2,c',F,cF)
    ·refine⟨by omega,by rw[ZJ];exact hok2 _,hF,hxl.2 _ _ _ (by omega),Ns hfl,?_⟩
     rw[htk]
     refine hI.lost hloss ho ?_ (hU.other _ _ _) (λh=>?_) (λK hK=>hK)
     ·rw[Wg hU.ne,hU.get,hlen1]
     ·rw[hU.get]at h
      exact absurd h hgt
    ·exact zc36
    ·exact zc1
    ·intro w hw
     have h5:St B w0 (sl 3 1 A' (xs.length+1) cap' (xs.flatMap numF++#[Value.int .i64 a.slot].toList)::many (l1.map rwQ++l2.map rwQ)::blk gR (vobj (rwV l1++(keyA a,.slice A' (xs.length+1) cap',b)::rwV l2) c')::blk gF (vobj F cF)::blk gn (.cells #[.int .i64 n.nodes,.slice n.pA n.rows.length n.pcap,.int .i64 n.noise,.int .i64 n.thr,.slice n.lA n.links.length n.lcap,.slice n.mA n.margin.length n.mcap] 26 (0,0))::[many H]) w:=by
      revert w
      exact zc0
     rw[W4]at h5
     have h7:=h5.perm (Ydo (keyA a) _ _ _ b _)
     dsimp only
     rw[ZJ,hlen1]
     clear h5 hw
     revert w
     exact zc0
  refine zX44 ?_<;>intros
  rename_i ga gk
  first|apply Yb en45|apply Yc en45
  exact za
  exact rfl
  exactλ_ hw=>(p3 (hin.mono zc0) hw)
  by_cases hneg:fi<0
  ·refine zX0 ?_<;>intros
   apply hK (j+1,R,cR,F,cF)
   ·exact⟨by omega,hR,hF,λr hr=>Ns (hl r hr),Ns hfl,by rw[htk];exact hI.skip (.inl (by rw[hloss,Tf (by omega)]))⟩
   ·exact zc36
   ·exact zc1
   ·exact zc0
  obtain⟨ix,rfl⟩:∃ix:Nat,fi=ix:=⟨fi.toNat,by omega⟩
  obtain⟨l,hln⟩:∃l,n.links[ix]? =some l:=zc82
  have hlk:(lnk n.net ix).2.2=l.2.2:=YtY
  have hixl:ix<n.links.length:=(Td.1 hln).1
  have hloss:Ya4 n.net (keyA a)=some l.2.2:=by rw[hloss,Tj (by omega),<-hlk];rfl
  have hkv:∀z,vget F (keyA a)=z->vget F [a.c.2.2.2.2,a.frame,a.c.2.2.1,a.c.2.2.2.1]=z:=λz h=>h
  cases hfd:vget F (keyA a)with
  |some v0=>
   have hfd2:=hkv _ hfd
   obtain⟨g3,n3,c3,rfl⟩:∃g3 n3 c3,v0=.slice (some ⟨g3,0,none⟩) n3 c3:=by
    obtain⟨l1,b,l2,e,-⟩:=JO hfd
    exact hF.sl (keyA a,v0,b) (by rw[e];simp)
   repeat'(first|(apply Q7;exact rfl;exact rfl;kernel_rfl)|(apply Z4 (kt:=121) (et:=24) [a.c.2.2.2.2,a.frame,a.c.2.2.1,a.c.2.2.2.1];exact rfl;exact rfl;exact zm;kernel_rfl;exact rfl;exact hF.ok.len;exact rfl;exact hfd2)|refine zgc ?_|(refine zge ?_ ?_<;>intro _<;>try exact zo)|fail)
   apply hK (j+1,R,cR,F,cF)
   ·exact⟨by omega,hR,hF,λr hr=>Ns (hl r hr),Ns hfl,by rw[htk];exact hI.skip (.inr (by unfold YcF;rw[hfd];rfl))⟩
   ·exact zc36
   ·exact zc1
   ·exact zc0
  |none=>
  have hfd2:=hkv _ hfd
  have ho:a.o=1:=Classical.byContradiction λh=>hlost ⟨by omega,hfd,h⟩
  repeat'(first|(apply Q7;exact rfl;exact rfl;kernel_rfl)|(apply V5 (kt:=121) (et:=24) [a.c.2.2.2.2,a.frame,a.c.2.2.1,a.c.2.2.2.1];exact rfl;exact rfl;exact zm;kernel_rfl;exact rfl;exact hF.ok.len;exact rfl;exact hfd2;exact YkZ)|(apply Yru hU (kt:=121) (et:=24) (v:=.slice none 0 0);(iterate 3 exact rfl);kernel_rfl;exact rfl;exact hR;exact zd)|refine zgc ?_|(refine zge ?_ ?_<;>intro _<;>try exact zo)|fail)
  apply hK (j+1,l1++⟨keyA a,none,0,[],b⟩::l2,c',F,cF)
  ·refine⟨by omega,by rw[ZJ];exact hU.ok rfl hR _,hF,hxl.2 none 0 [] (Tm _),Ns hfl,?_⟩
   rw[htk]
   exact hI.acked ho (Wg hU.ne) (hU.other none 0 [])
  ·exact zc36
  ·exact zc1
  ·intro w hw
   have h5:St B w0 (many (R.map rwQ)::blk gR (vobj (rwV l1++(keyA a,.slice none 0 0,b)::rwV l2) c')::blk gF (vobj F cF)::blk gn (.cells #[.int .i64 n.nodes,.slice n.pA n.rows.length n.pcap,.int .i64 n.noise,.int .i64 n.thr,.slice n.lA n.links.length n.lcap,.slice n.mA n.margin.length n.mcap] 26 (0,0))::[many H]) w:=by
    revert w
    exact zc0
   have h6:St B w0 (nrs none 0 []::many (l1.map rwQ++l2.map rwQ)::blk gR (vobj (rwV l1++(keyA a,.slice none 0 0,b)::rwV l2) c')::blk gF (vobj F cF)::blk gn (.cells #[.int .i64 n.nodes,.slice n.pA n.rows.length n.pcap,.int .i64 n.noise,.int .i64 n.thr,.slice n.lA n.links.length n.lcap,.slice n.mA n.margin.length n.mcap] 26 (0,0))::[many H]) w:=((hU.open_ h5).perm (.drop _ _)).nilSlice _ _
   have h7:=h6.perm (Ydo (keyA a) none 0 [] b _)
   dsimp only
   rw[ZJ,Rj]
   clear h5 h6 hw
   revert w
   exact zc0
 obtain rfl:j=atts.length:=by omega
 clear hK
 rw[TP]at hI
 repeat'(first|(apply YmG (N:=4) (kt:=121) (et:=24) (g:=gF);exact rfl;exact zm;kernel_rfl;exact rfl;intro _)|refine zgc ?_|(refine zge ?_ ?_<;>intro _<;>try exact zo)|fail)
 rename Nat=>it
 refine Yh (λ(z:Array Nat×List BrM×Option Addr×Nat)=>[(84,.pointer (some ⟨it,0,none⟩)),(11,.slice z.2.2.1 z.2.1.length z.2.2.2)])
  (λz=>blk it (.mapIter (some gF) cF z.1 cF)::blk gF (vobj F cF)::brP z.2.2.1 z.2.2.2 z.2.1::[many H])
  (λz=>z.2.1.length+(F.filter λx=>!z.1.contains x.2.2).length<=F.length/\∀e∈F,z.1.contains e.2.2=true->∃x∈z.2.1,[x.f,x.k,x.u,x.v]=e.1) (λz=>(F.filter λx=>!z.1.contains x.2.2).length) (#[],[],none,0) ⟨by dsimp only;have:=RB (λx:KL×Value×Nat=>!(#[]:Array Nat).contains x.2.2) F;simp only[Rj];omega,λe _ h=>by simp at h⟩ ?_ ?_ ?_
 ·exact zc1
 ·intro w hw
  have h5:St B w0 (blk it (.mapIter (some gF) cF #[] cF)::blk gF (vobj F cF)::[many H]) w:=by
   revert w
   exact zc0
  have h6:=h5.nilSlice 67 5
  exact h6.perm (.trans (.swap _ _ _) (.cons _ (.swap _ _ _)))
 rintro⟨seen,out,A,cap⟩ ⟨hlen,hseen⟩ K hK
 dsimp only at hlen hseen⊢
 repeat'(first|apply Xm|apply YbO|apply YY|fail)
 apply YoS (g:=gF)
 ·exact rfl
 ·(focus exact zc2)
 ·exact rfl
 ·exact YtT
 ·exact hF.ok.lt
 ·exact Ybk
 ·intro hall
  clear hK
  have p5:=λ{H':List HP}{w:World}(hin:∀w,St B w0 H' w->St B w0 (brP A cap out::[many H]) w) (hw:St B w0 H' w)=>YiZ out (by omega) hin hw
  refine zX9 ?_
  apply Ye _ en46
  exact za
  exact rfl
  exactλ_ hw=>(p5 zc0 (hw))
  rintro _ _ ⟨rfl,l',hp,rfl⟩
  refine zX4 ?_
  apply Yg (brP A cap l'::H)
  ·intro w hw
   have h5:St B w0 (brP A cap l'::[many H]) w:=by
    revert w
    exact zc0
   exact Yjm
  apply Yf;exact rfl;exact rfl
  refine⟨l',A,cap,by rw[hp.length_eq],by rw[hp.length_eq];omega,λ_ k b hb hbr=>?_,rfl⟩
  have h1:=hI.all hb hbr
  unfold YcF at h1
  obtain⟨v,hv⟩:=S5.1 h1
  obtain⟨l1,bb,l2,e,-⟩:=JO hv
  have hm:(k,v,bb)∈F:=by rw[e];simp
  obtain⟨x,hx,hxk⟩:=hseen _ hm (hall _ hm)
  exact⟨x,hp.mem_iff.2 hx,hxk⟩
 ·rintro⟨ek,ev,eb⟩ he hs
  simp only at hs⊢
  obtain⟨g3,n3,c3,rfl⟩:=hF.sl _ he
  have hek:=hF.ok.len _ he
  obtain⟨e1,e2,e3,e4,rfl⟩:∃a b c d,ek=[a,b,c,d]:=by
   match ek,hek with
   |[a,b,c,d],_=>exact⟨a,b,c,d,rfl⟩
  repeat'(first|(apply YjA (g:=gF) (es:=F) (bb:=eb);exact rfl;exact zm;exact zm;exact rfl;exact he;exact hF.ok.nodup)|refine zgd ?_|(refine zgh ?_;intro _)|(refine zgi ?_;intro _ _)|fail)
  rename Option Addr=>A'
  rename Nat=>cap'
  have e5:sl 67 5 A' (out.length+1) cap' (out.flatMap brF++#[Value.int .i64 e1,.int .i64 e2,.int .i64 e3,.int .i64 e4,.slice (some ⟨g3,0,none⟩) n3 c3].toList)=brP A' cap' (out++[(⟨e1,e2,e3,e4,some ⟨g3,0,none⟩,n3,c3⟩:BrM)]):=by simp[brP,List.flatMap_append,brF]
  have hls:=YkN (seen:=seen) he hs
  dsimp only at hls
  apply hK (seen.push eb,out++[(⟨e1,e2,e3,e4,some ⟨g3,0,none⟩,n3,c3⟩:BrM)],A',cap')
  ·refine⟨by dsimp only;rw[To];simp only[TL];omega,λe he2 h=>?_⟩
   dsimp only at h⊢
   rw[Array.contains_push]at h
   rcases RO _ _▸h with h|h
   ·obtain⟨x,hx,hxe⟩:=hseen e he2 h
    exact⟨x,TF.2 (.inl hx),hxe⟩
   ·have:e=([e1,e2,e3,e4],.slice (some ⟨g3,0,none⟩) n3 c3,eb):=Ym6 hF.ok.nodup he2 he (by simpa using h)
    rw[this]
    exact⟨_,TF.2 (.inr (TO.2 rfl)),rfl⟩
  ·exact hls
  ·dsimp only
   rw[show(out++[(⟨e1,e2,e3,e4,some ⟨g3,0,none⟩,n3,c3⟩:BrM)]).length=out.length+1 by simp]
   exact zc1
  ·dsimp only
   rw[<-e5]
   exact zc0
theorem Yn6(c:PlC)(n:Int)(hn:0<=n/\n<=1000000)(hl:c.l.length<=1000)(hid:c.l.Pairwise λa b=>a.1≠b.1)(hf:∀f∈c.l,YX 32 f=0)(hxl:c.xs.length<=1000000)(hsl:c.s.cells.length<=1000){g:Nat}{sA:Option Addr}{sc:Nat}{ss:List SM}
 {tA:Option Addr}{tc:Nat}{atts:List AttM}{dA:Option Addr}{dc:Nat}{dels:List (Int×Int×Int)}(hp:PInvY c n 0 ss atts dels) (hat:atts.length<=50000000) {B:Nat}{w0:World}{Z:HP}{w:World}(hr:Rd B w0 [Z] c.fA (c.l.flatMap flwF)) (hs:Rd B w0 [Z] c.s.A (c.s.cells.flatMap celF)) (hx:XIn B w0 [Z] c.xA c.xs) (hw:St B w0 (plL c g sA sc ss tA tc atts dA dc dels [Z]) w):
 CX B w0 43 [.pointer (some ⟨g,0,none⟩),.int .i64 n] w λv K=>∃ss' tA' tc' atts' dA' dc' dels',v=.tuple #[]/\PInvY c (n+1) 0 ss' atts' dels'/\atts'.length<=atts.length+1000/\K=plL c g sA sc ss' tA' tc' atts' dA' dc' dels' [Z]:=by
 refine Ya Tryz.func43 Tryz.ntmps43 rfl rfl hw ?_
 have hdl:=hp.dl
 have hcl:=YuQ c.s.sch n
 have hcs:c.s.sch.cells=c.s.cells:=rfl
 rw[hcs]at hcl
 refine zX4 ?_
 apply Ye _ YvH
 exact za
 exact rfl
 exactλ_ hw=>(YiL c n (atts.length:Nat) hn hl hf hp.len hp.ok hr (hw))
 rintro _ _ ⟨s1,rfl,hR1,rfl⟩
 have hp1:=hp.rel hR1
 have p2:=λ{H':List HP}{w:World}(hr:Rd B w0 H' c.s.A (c.s.cells.flatMap celF)) (hw:St B w0 H' w)=>YrC c.s n hr (by omega) hw
 unfold SchM.val at p2
 refine Um ?_
 apply Ye _ YvI
 exact za
 exact rfl
 exactλ_ hw=>(p2 (hs.mono zc0) (hw))
 rintro _ _ ⟨lA,lcap,rfl,rfl⟩
 obtain⟨L,hL⟩:∃L,atE c.s.sch n=L:=⟨_,rfl⟩
 rw[hL]at hcl⊢
 refine zX9 ?_
 refine Yh (λ(z:Nat×List SM×Option Addr×Nat×List AttM×Option Addr×Nat×List (Int×Int×Int))=>[(23,.int .i64 (z.1:Nat)),(22,.int .i64 L.length),(21,.slice lA L.length lcap),(4,.int .i64 dels.length),(0,.pointer (some ⟨g,0,none⟩)),(1,.int .i64 n)])
  (λ(j,s,uA,uc,u,vA,vc,v)=>cels lA lcap L::plL c g sA sc s uA uc u vA vc v [Z]) (λ(j,s,uA,uc,u,vA,vc,v)=>j<=L.length/\PInvY c n (j+1) s u v/\u.length<=atts.length+j/\dels.length<=v.length) (λz=>L.length-z.1) (0,s1,tA,tc,atts,dA,dc,dels) ⟨Tm _,hp1,TI _,TI _⟩ ?_ ?_ ?_
 ·exact zc1
 ·intro w hw;exact hw
 rintro⟨j,s2,uA,uc,u,vA,vc,v⟩ ⟨hj,hpj,hu,hv⟩ K hK
 dsimp only at hj hpj hu hv⊢
 have hud:=hpj.dl
 by_cases hlt:j<L.length
 rotate_left
 ·obtain rfl:j=L.length:=by omega
  clear hK
  have hsub:v.length-(dels.length:Int).toNat=v.length-dels.length:=by rw[Rx]
  repeat'(first|(apply X0 T;(iterate 4 exact rfl);omega;exact rfl)|refine zgd ?_|(refine zge ?_ ?_<;>intro _<;>try exact zo)|fail)
  apply Ye _ YvK
  exact za
  exact rfl
  exactλ_ hw=>(YgR v dels.length hv (by omega) (A:=vA) (cap:=vc) (H:=cels lA lcap L::plB c g sA c.l.length sc uA u.length uc vA v.length vc::plS sA c.l.length sc s2::plT uA uc u::many (s2.map smQ)::[Z]) zc0 (hw))
  rintro _ _ ⟨rfl,v',hv',rfl⟩
  refine zX4 ?_
  apply Yg (plL c g sA sc s2 uA uc u vA vc v' [Z])
  ·intro w hw
   have hvl:=hv'.length_eq
   unfold plL
   rw[hvl]
   revert w
   clear hvl
   exact zc0
  apply X7;exact rfl
  subst hL
  exact⟨_,_,_,_,_,_,_,rfl,hpj.next hv',by omega,rfl⟩
 obtain⟨q,hq⟩:∃q,L[j]? =some q:=⟨_,Ta hlt⟩
 have p3:=λ{H':List HP}{w:World}(hin:∀w,St B w0 H' w->St B w0 (plL c g sA sc s2 uA uc u vA vc v (cels lA lcap L::[Z])) w) (hw:St B w0 H' w)=>YjE c q n (u.length:Nat) hn (by omega) hl hid hxl hpj.len hpj.ok (by omega) (by omega) hr hx (cels lA lcap L::[Z]) (λw hw=>hw.tail) hin hw
 unfold celV at p3
 have hrL:Rd B w0 (cels lA lcap L::plL c g sA sc s2 uA uc u vA vc v [Z]) lA (L.flatMap celF):=Rd.sl TB
 refine zX44 ?_<;>intros
 apply Ye _ YvJ
 exact za
 exact rfl
 exactλ_ hw=>(p3 zc0 (hw))
 rintro _ _ ⟨s3,uA',uc',u',vA',vc',v',rfl,ha,rfl⟩
 obtain⟨hp3,hu3,hv3⟩:=hpj.att (by rw[hL];exact hq) ha
 refine zX9 ?_
 apply hK (j+1,s3,uA',uc',u',vA',vc',v')
 ·exact⟨by omega,hp3,by omega,by omega⟩
 ·exact zc36
 ·exact zc1
 ·exact zc0
def brV(x:BrM):Value:=.agg #[.int .i64 x.f,.int .i64 x.k,.int .i64 x.u,.int .i64 x.v,.slice x.A x.n x.cap]
variable {A:Option Addr}{cap B:Nat}{w0 w:World}{H:List HP}
theorem Yh6(p:BrM->Bool)(l:List BrM)(f:Nat)(cs:List Value)(hen:∀xs w,(callFunc f xs).run Tryz.prog w=.ok (.enter f xs) w)(hlen:l.length<=100000000)(hr:Rd B w0 H A (l.flatMap brF))
 (hp:∀a∈l,∀w,St B w0 H w->Calls Tryz.prog f ([brV a]++cs).toArray w (Post B w0 λv K=>v=.bool (p a)/\K=H)) (hw:St B w0 H w):
 CX B w0 54 [.slice A l.length cap,.func (.func f) #[] cs.toArray] w λv K=>v=.int .i64 (Yi p l 0)/\K=H:=by
 refine Ya Tryz.func54 Tryz.ntmps54 rfl rfl hw ?_
 refine zX9 ?_
 refine Yh (λ(k:Nat)=>[(8,.int .i64 k),(7,.int .i64 l.length),(0,.slice A l.length cap),(1,.func (.func f) #[] cs.toArray)]) (λ_=>H) (λk=>k<=l.length/\Yi p l 0=Yi p (l.drop k) k) (λk=>l.length-k) 0 ⟨Tm _,by simp⟩ ?_ (λw hw=>hw) ?_
 ·exact zc1
 rintro k ⟨hk,hi⟩ K hK
 by_cases hlt:k<l.length
 ·obtain⟨a,ha⟩:∃a,l[k]? =some a:=⟨_,Ta hlt⟩
  have hpa:=hp a (Tc ha)
  rw[Zu p l ha]at hi
  refine zX10 ?_<;>intros
  cases hpv:p a
  ·rw[hpv]at hi
   refine zX9 ?_
   apply hK (k+1)
   ·grind
   ·omega
   ·exact zc1
   exact zc19
  exact zc8
 exact zc4
theorem Ybp(p:BrM->Bool)(l:List BrM)(f:Nat)(cs:List Value)(hen:∀xs w,(callFunc f xs).run Tryz.prog w=.ok (.enter f xs) w)(hlen:l.length<=100000000)(hr:Rd B w0 H A (l.flatMap brF))
 (hp:∀a∈l,∀w,St B w0 H w->Calls Tryz.prog f ([brV a]++cs).toArray w (Post B w0 λv K=>v=.bool (p a)/\K=H)) (hw:St B w0 H w):
 CX B w0 18 [.slice A l.length cap,.func (.func f) #[] cs.toArray] w λv K=>v=.bool (l.any p)/\K=H:=by
 refine Ya Tryz.func18 Tryz.ntmps18 rfl rfl hw ?_
 rw[<-WV]
 refine zX4 ?_
 first|apply Yb en54|apply Yc en54
 exact za
 exact rfl
 exactλ_ hw=>(Yh6 p l f cs hen hlen hr hp hw)
 exact zc10
def onBr(id k:Int)(r:List Int)(x:BrM):Bool:=
 decide (x.f=id/\x.k=k/\0<=Yi (λy=>decide (x.u=y)) r 0/\(Yi (λy=>decide (x.u=y)) r 0).toNat+1<r.length/\r.getD ((Yi (λy=>decide (x.u=y)) r 0).toNat+1) 0=x.v)
theorem Ysc{id k:Int}{r:List Int}{x:BrM}(h:¬(x.f=id/\x.k=k/\0<=Yi (λy=>decide (x.u=y)) r 0/\(Yi (λy=>decide (x.u=y)) r 0).toNat+1<r.length/\r.getD ((Yi (λy=>decide (x.u=y)) r 0).toNat+1) 0=x.v)):onBr id k r x=false:=Tn h
theorem Yqj{s:Sch}:(Xs s).2=if Y5 s=true then 0 else 1:=by
 grind [Xs]
variable {B:Nat}{w0 w:World}{H:List HP}
theorem YkB(c:PlC)(slots:Int)(hl:c.l.length<=1000000)(hsl:c.s.cells.length<=1000000)(hxl:c.xs.length<=1000000)(ht:TabsB B w0)(hr:Rd B w0 H c.fA (c.l.flatMap flwF))(hs:Rd B w0 H c.s.A (c.s.cells.flatMap celF))(hx:XIn B w0 H c.xA c.xs)(hw:St B w0 H w):
 CX B w0 41 [.slice c.fA c.l.length c.fc,c.s.val,.slice c.xA c.xs.length c.xc,.int .i64 slots] w λv K=>(∃e:Int,v=.int .i64 e/\(e=0->(Yz 32 c.l).2=0/\Y5 c.s.sch=true/\0<=slots/\slots<=4096))/\K=H:=by
 refine Ya Tryz.func41 Tryz.ntmps41 rfl rfl hw ?_
 obtain⟨⟨f1,f2⟩,hfe⟩:∃z,Yz 32 c.l=z:=⟨_,rfl⟩
 have hfe2:(Yz 32 c.l).2=f2:=by rw[hfe]
 have p1:=λ{H':List HP}{w:World}(hr:Rd B w0 H' c.fA (c.l.flatMap flwF)) (hw:St B w0 H' w)=>Y9 32 c.l (by omega) (cap:=c.fc) hr hw
 rw[hfe]at p1
 dsimp only at p1
 have p2:=λ{H':List HP}{w:World}(hr:Rd B w0 H' c.s.A (c.s.cells.flatMap celF)) (hw:St B w0 H' w)=>VO c.s ht hr (by omega) hw
 obtain⟨⟨t1,t2⟩,hte⟩:∃z,Xs c.s.sch=z:=⟨_,rfl⟩
 have hte2:t2=if Y5 c.s.sch=true then 0 else 1:=by have:=@Yqj c.s.sch;rw[hte]at this;exact this
 rw[hte]at p2
 dsimp only at p2
 have p3:=λ{H':List HP}{w:World}(hx:XIn B w0 H' c.xA c.xs) (hw:St B w0 H' w)=>Yjh c.xs hxl (cap:=c.xc) hx hw
 unfold SchM.val at p2⊢
 refine zX16 ?_<;>intros
 first|apply Yb en74|apply Yc en74
 exact za
 exact rfl
 exactλ_ hw=>(p1 (hr.mono zc0) hw)
 by_cases h1:f2=0
 rotate_left
 ·refine zX0 ?_<;>intros
  apply Yg H
  ·exact zc0
  exact zc68
 refine zX0 ?_<;>intros
 first|apply Yb en85|apply Yc en85
 exact za
 exact rfl
 exactλ_ hw=>(p2 (hs.mono zc0) hw)
 cases hfm:Y5 c.s.sch with
 |false=>
  rw[hfm,Tf (by decide)]at hte2
  subst hte2
  refine zX0 ?_<;>intros
  apply Yg H
  ·exact zc0
  exact zc68
 |true=>
 rw[hfm,Tj rfl]at hte2
 subst hte2
 refine zX0 ?_<;>intros
 apply Ye _ YvG
 exact za
 exact rfl
 exactλ_ hw=>(p3 (hx.mono zc0) (hw))
 rintro _ _ ⟨⟨xi,xe,rfl⟩,hK0⟩
 rw[hK0]
 by_cases h3:xe=0
 rotate_left
 ·refine zX0 ?_<;>intros
  apply Yg H
  ·exact zc0
  exact zc68
 repeat'(first|refine zgc ?_|(refine zgf ?_ ?_<;>intro _<;>try exact zo)|fail)
 all_goals(
  apply Yg H
  ·exact zk
  apply Yf;exact rfl;exact rfl
  refine⟨⟨_,rfl,λh=>?_⟩,rfl⟩
  first
   |exact absurd h (by decide)
   |exact⟨by rw[hfe2];exact h1,rfl,by omega,by omega⟩)
theorem O2{nodes:Int}{l:List Flw}(h:(Yz nodes l).2=0):(∀f∈l,YX nodes f=0)/\l.Pairwise λa b=>a.1≠b.1:=by
 have hstep:∀j,j<l.length->YX nodes (Xk l j)=0/\(0<j->(Xk l (j-1)).1<(Xk l j).1):=λj hj=>by
  unfold Yz at h
  split at h
  ·cases h
  split at h
  ·cases h
  have:=YG.1 h j (Tm _) (by omega)
  unfold Xl at this
  omega
 have hlt:∀{i j:Nat},i<j->j<l.length->(Xk l i).1<(Xk l j).1:=by
  intro i j hij hj
  induction j with
  |zero=>omega
  |succ j ih=>
   grind
 have hat:∀{i:Nat}(hi:i<l.length),Xk l i=l[i]:=by grind [Xk]
 refine⟨λf hf=>?_,TY.2 λi j hi hj hij e=>?_⟩
 ·obtain⟨i,hi,rfl⟩:=List.mem_iff_getElem.1 hf
  rw[<-hat hi]
  exact(hstep i hi).1
 grind
theorem Ysy(c:PlC)(n:Int)(hn:0<=n/\n<=1000000)(hl:c.l.length<=1000)(hid:c.l.Pairwise λa b=>a.1≠b.1)(hf:∀f∈c.l,YX 32 f=0)(hxl:c.xs.length<=1000000)(hsl:c.s.cells.length<=1000){g:Nat}{sA:Option Addr}{sc:Nat}{ss:List SM}
 {tA:Option Addr}{tc:Nat}{atts:List AttM}{dA:Option Addr}{dc:Nat}{dels:List (Int×Int×Int)}(hp:PInvY c n 0 ss atts dels) (hat:atts.length<=50000000) {Z:HP}(hr:Rd B w0 [Z] c.fA (c.l.flatMap flwF)) (hs:Rd B w0 [Z] c.s.A (c.s.cells.flatMap celF)) (hx:XIn B w0 [Z] c.xA c.xs) (R:List HP) (hR:∀w,St B w0 R w->St B w0 [Z] w) (hin:∀w,St B w0 H w->St B w0 (plL c g sA sc ss tA tc atts dA dc dels R) w) (hw:St B w0 H w):
 CX B w0 43 [.pointer (some ⟨g,0,none⟩),.int .i64 n] w λv K=>∃ss' tA' tc' atts' dA' dc' dels',v=.tuple #[]/\PInvY c (n+1) 0 ss' atts' dels'/\atts'.length<=atts.length+1000/\K=plL c g sA sc ss' tA' tc' atts' dA' dc' dels' R:=by
 have hZ:∀w,St B w0 [many R] w->St B w0 [Z] w:=λw h=>hR w (h.perm (.openT R))
 refine(Yn6 (Z:=many R) c n hn hl hid hf hxl hsl hp hat (hr.mono hZ) (hs.mono hZ) (hx.mono hZ) ((hin w hw).perm (.cons _ (.cons _ (.cons _ (.cons _ (.cons _ (.closeT R)))))))).mono ?_
 rintro e w' ⟨v,K,h1,hst,ss',tA',tc',atts',dA',dc',dels',h2,h3,h4,rfl⟩
 exact⟨v,_,h1,hst.perm (.cons _ (.cons _ (.cons _ (.cons _ (.cons _ (.openT R)))))),ss',tA',tc',atts',dA',dc',dels',h2,h3,h4,rfl⟩
structure RunO(c:PlC)(slots:Int)(H:List HP)(v:Value)(K:List HP):Prop where
 go:(∃e:Int,e≠0/\v=.tuple #[.agg #[.slice none 0 0,.slice none 0 0],.int .i64 e]/\K=H)\/
  ∃ss tA tc atts dA dc dels,v=.tuple #[.agg #[.slice tA (atts:List AttM).length tc,.slice dA (dels:List (Int×Int×Int)).length dc],.int .i64 0]/\PInvY c slots 0 ss atts dels/\atts.length<=50000000/\(Yz 32 c.l).2=0/\Y5 c.s.sch=true/\0<=slots/\K=plT tA tc atts::plD dA dc dels::H
theorem YnV(c:PlC)(slots:Int)(hl:c.l.length<=1000)(hsl:c.s.cells.length<=1000)(hxl:c.xs.length<=1000000)(ht:TabsB B w0)(hr:Rd B w0 H c.fA (c.l.flatMap flwF))(hs:Rd B w0 H c.s.A (c.s.cells.flatMap celF))(hx:XIn B w0 H c.xA c.xs)(hw:St B w0 H w):
 CX B w0 10 [.slice c.fA c.l.length c.fc,c.s.val,.slice c.xA c.xs.length c.xc,.int .i64 slots] w (RunO c slots H):=by
 refine Ya Tryz.func10 Tryz.ntmps10 rfl rfl hw ?_
 have hop:∀w,St B w0 [many H] w->St B w0 H w:=λw hw=>hw.perm (.openT H)
 have hr:=hr.mono hop
 have hs:=hs.mono hop
 have hx:=hx.mono hop
 refine XM [many H] (λw hw=>hw.perm (.closeT H)) ?_
 have p1:=λ{H':List HP}{w:World}(hr:Rd B w0 H' c.fA (c.l.flatMap flwF)) (hs:Rd B w0 H' c.s.A (c.s.cells.flatMap celF)) (hx:XIn B w0 H' c.xA c.xs) (hw:St B w0 H' w)=>YkB c slots (by omega) (by omega) hxl ht hr hs hx hw
 have p2:=λ{H':List HP}{w:World}(hw:St B w0 H' w)=>Yc6 c hl hw
 unfold SchM.val at p1 p2⊢
 refine zX97 ?_<;>intros
 apply Ye _ en41
 exact za
 exact rfl
 exactλ_ hw=>(p1 (hr.mono zc0) (hs.mono zc0) (hx.mono zc0) (hw))
 rintro _ _ ⟨⟨e,rfl,he⟩,hK0⟩
 rw[hK0]
 by_cases he0:e=0
 rotate_left
 ·refine zX1 ?_<;>intros
  refine Yw T (H2:=H) rfl rfl rfl (by(focus exact zc2)) rfl rfl (λw hw=>hop w ?_) ⟨.inl ⟨e,he0,rfl,rfl⟩⟩
  revert w
  exact zc0
 obtain⟨hfe,hfm,hs0,hs1⟩:=he he0
 obtain⟨hfl,hid⟩:=O2 hfe
 rename Nat=>gr
 refine zX98 ?_<;>intros
 apply Ye _ en42
 exact za
 exact rfl
 exactλ_ hw=>(p2 (hw))
 rintro _ _ ⟨g,sA,sc,rfl,rfl⟩
 refine zX7 ?_
 refine Yh (λ(z:Nat×List SM×Option Addr×Nat×List AttM×Option Addr×Nat×List (Int×Int×Int))=>[(27,.int .i64 (z.1:Nat)),(26,.int .i64 slots),(11,.pointer (some ⟨g,0,none⟩)),(9,.int .i64 0),(8,.pointer (some ⟨gr,0,none⟩))])
  (λ(j,s,uA,uc,u,vA,vc,v)=>plL c g sA sc s uA uc u vA vc v [blk gr (.cells (Value.agg #[.slice none 0 0,.slice none 0 0]).cells 45 (0,0)),many H]) (λ(j,s,uA,uc,u,vA,vc,v)=>(j:Int)<=slots/\PInvY c (j:Nat) 0 s u v/\u.length<=1000*j) (λz=>slots.toNat-z.1) (0,List.replicate c.l.length XD,none,0,[],none,0,[]) ⟨hs0,PInvY.start c,TI _⟩ ?_ ?_ ?_
 ·exact zc1
 ·exact zc0
 rintro⟨j,s,uA,uc,u,vA,vc,v⟩ ⟨hj,hp,hu⟩ K hK
 dsimp only at hj hp hu⊢
 have hul:u.length<=50000000:=by omega
 by_cases hlt:(j:Int)<slots
 rotate_left
 ·obtain rfl:slots=(j:Nat):=by omega
  clear hK
  refine zX67 ?_<;>intros
  refine Yw T (H2:=plT uA uc u::plD vA vc v::H) rfl rfl rfl (by(focus exact zc2)) rfl rfl (λw hw=>?_) ⟨.inr ⟨s,uA,uc,u,vA,vc,v,rfl,hp,hul,hfe,hfm,hs0,rfl⟩⟩
  have h5:St B w0 (plT uA uc u::plD vA vc v::[many H]) w:=by
   revert w
   exact zc0
  exact zc83
 have p3:=λ{H':List HP}{w:World}(hin:∀w,St B w0 H' w->St B w0 (plL c g sA sc s uA uc u vA vc v [blk gr (.cells (Value.agg #[.slice none 0 0,.slice none 0 0]).cells 45 (0,0)),many H]) w) (hw:St B w0 H' w)=>Ysy c (j:Nat) (by omega) hl hid hfl hxl hsl hp hul hr hs hx [blk gr (.cells (Value.agg #[.slice none 0 0,.slice none 0 0]).cells 45 (0,0)),many H] (λw hw=>hw.tail) hin hw
 refine zX98 ?_<;>intros
 apply Ye _ en43
 exact za
 exact rfl
 exactλ_ hw=>(p3 zc0 (hw))
 rintro _ _ ⟨s3,uA',uc',u',vA',vc',v',rfl,hp3,hu3,rfl⟩
 refine zX9 ?_
 apply hK (j+1,s3,uA',uc',u',vA',vc',v')
 ·exact⟨by push_cast;omega,by rw[show((j+1:Nat):Int)=(j:Int)+1 by omega];exact hp3,by omega⟩
 ·exact zc36
 ·exact zc1
 ·exact zc0
variable {B cap:Nat}{w0 w:World}{H:List HP}
theorem Ypk(f:Flw)(k:Int)(hf:YX 32 f=0)(hk:0<=k/\k<=1000000)(hw:St B w0 H w):
 CX B w0 14 [flwV f,.int .i64 k] w λv K=>v=.tuple #[.int .i64 (YC f k+f.2.2.2.2.2-1),.int .i64 0]/\K=H:=by
 refine Ya Tryz.func14 Tryz.ntmps14 rfl rfl hw ?_
 obtain⟨h1,h2,-,h5⟩:=XW hf
 have h3:=YhS hf hk
 have h4:0<=YC f k/\YC f k<=600000000:=by unfold YC phaF perF;omega
 have p1:=λ{H':List HP}{w:World}(hw:St B w0 H' w)=>Yd6 f k hf hk hw
 generalize YC f k=z at*
 unfold flwV at p1⊢
 repeat'(first|((first|apply Yb en52|apply Yc en52);exact za;exact rfl;exactλ_ hw=>(p1 hw))|refine zgd ?_|(refine zge ?_ ?_<;>intro _<;>try exact zo)|(refine zgh ?_;intro _)|fail)
 apply Yg H
 ·exact zc0
 exact zc64
def rteV(r:RowM):Value:=.slice r.A r.xs.length r.cap
variable {A:Option Addr}
theorem Yh7(p:RowM->Bool)(l:List RowM)(f:Nat)(cs:List Value)(hen:∀xs w,(callFunc f xs).run Tryz.prog w=.ok (.enter f xs) w)(hlen:l.length<=1000000000000)(hr:Rd B w0 H A (l.flatMap rowF))
 (hp:∀a∈l,∀w,St B w0 H w->Calls Tryz.prog f ([rteV a]++cs).toArray w (Post B w0 λv K=>v=.bool (p a)/\K=H)) (hw:St B w0 H w):
 CX B w0 53 [.slice A l.length cap,.func (.func f) #[] cs.toArray] w λv K=>v=.int .i64 (Yi p l 0)/\K=H:=by
 refine Ya Tryz.func53 Tryz.ntmps53 rfl rfl hw ?_
 refine zX9 ?_
 refine Yh (λ(k:Nat)=>[(8,.int .i64 k),(7,.int .i64 l.length),(0,.slice A l.length cap),(1,.func (.func f) #[] cs.toArray)]) (λ_=>H) (λk=>k<=l.length/\Yi p l 0=Yi p (l.drop k) k) (λk=>l.length-k) 0 ⟨Tm _,by simp⟩ ?_ (λw hw=>hw) ?_
 ·exact zc1
 rintro k ⟨hk,hi⟩ K hK
 by_cases hlt:k<l.length
 ·obtain⟨a,ha⟩:∃a,l[k]? =some a:=⟨_,Ta hlt⟩
  have hpa:=hp a (Tc ha)
  rw[Zu p l ha]at hi
  unfold rteV at hpa
  refine zX10 ?_<;>intros
  cases hpv:p a
  ·rw[hpv]at hi
   refine zX9 ?_
   apply hK (k+1)
   ·grind
   ·omega
   ·exact zc1
   exact zc19
  ·rw[hpv]at hi
   refine zX2 ?_
   apply Yf;exact rfl;exact rfl
   exact⟨by rw[hi];rfl,rfl⟩
 exact zc4
theorem Ybq(p:RowM->Bool)(l:List RowM)(f:Nat)(cs:List Value)(hen:∀xs w,(callFunc f xs).run Tryz.prog w=.ok (.enter f xs) w)(hlen:l.length<=1000000000000)(hr:Rd B w0 H A (l.flatMap rowF))
 (hp:∀a∈l,∀w,St B w0 H w->Calls Tryz.prog f ([rteV a]++cs).toArray w (Post B w0 λv K=>v=.bool (p a)/\K=H)) (hw:St B w0 H w):
 CX B w0 16 [.slice A l.length cap,.func (.func f) #[] cs.toArray] w λv K=>v=.bool (l.any p)/\K=H:=by
 refine Ya Tryz.func16 Tryz.ntmps16 rfl rfl hw ?_
 rw[<-WV]
 refine zX4 ?_
 first|apply Yb en53|apply Yc en53
 exact za
 exact rfl
 exactλ_ hw=>(Yh7 p l f cs hen hlen hr hp hw)
 exact zc10
theorem Yib(x:BrM)(k:Int)(y:RqM)(r:RowM)(gr gq gk:Nat)(hl:r.xs.length<=1000000){T:List HP}(hr:Rd B w0 T r.A (r.xs.flatMap numF))(hw:St B w0 (blk gr (.cells #[.slice r.A r.xs.length r.cap] 64 (0,0))::rqA gq y::blk gk (.cells #[.int .i64 k] 3 (0,0))::T) w):
 CX B w0 19 [brV x,.pointer (some ⟨gr,0,none⟩),.pointer (some ⟨gq,0,none⟩),.pointer (some ⟨gk,0,none⟩)] w λv K=>v=.bool (onBr y.f.1 k r.xs x)/\K=blk gr (.cells #[.slice r.A r.xs.length r.cap] 64 (0,0))::rqA gq y::blk gk (.cells #[.int .i64 k] 3 (0,0))::T:=by
 refine Ya Tryz.func19 Tryz.ntmps19 rfl rfl hw ?_
 have hr:Rd B w0 [many T] r.A (r.xs.flatMap numF):=hr.mono (λw hw=>hw.perm (.openT T))
 refine XM (blk gr (.cells #[.slice r.A r.xs.length r.cap] 64 (0,0))::rqA gq y::blk gk (.cells #[.int .i64 k] 3 (0,0))::[many T]) (λw hw=>hw.perm (.cons _ (.cons _ (.cons _ (.closeT T))))) ?_
 have p1:=λ{H':List HP}{w:World}(hr:Rd B w0 H' r.A (r.xs.flatMap numF)) (hw:St B w0 H' w)=>YaZ r.xs x.u (by omega) (cap:=r.cap) hr hw
 have hno:=@Ysc y.f.1 k r.xs x
 have hyes:(x.f=y.f.1/\x.k=k/\0<=Yi (λy=>decide (x.u=y)) r.xs 0/\(Yi (λy=>decide (x.u=y)) r.xs 0).toNat+1<r.xs.length/\r.xs.getD ((Yi (λy=>decide (x.u=y)) r.xs 0).toNat+1) 0=x.v)->onBr y.f.1 k r.xs x=true:=λh=>Ti h
 have hge:=U7 (p:=λy=>decide (x.u=y)) (l:=r.xs) (k:=0) (RI 0)
 obtain⟨i,hi⟩:∃i,Yi (λy=>decide (x.u=y)) r.xs 0=i:=⟨_,rfl⟩
 rw[hi]at p1 hno hyes hge
 unfold brV
 refine zX97 ?_<;>intros
 first|apply Yb en20|apply Yc en20
 exact za
 exact rfl
 exactλ_ hw=>(p1 hr.cons.cons.cons.cons hw)
 by_cases h1:x.f=y.f.1
 rotate_left
 ·rw[hno (λh=>h1 h.1)]
  refine zX1 ?_<;>intros
  all_goals(
   apply Yg (blk gr (.cells #[.slice r.A r.xs.length r.cap] 64 (0,0))::rqA gq y::blk gk (.cells #[.int .i64 k] 3 (0,0))::T)
   ·intro w hw
    have h5:St B w0 (blk gr (.cells #[.slice r.A r.xs.length r.cap] 64 (0,0))::rqA gq y::blk gk (.cells #[.int .i64 k] 3 (0,0))::[many T]) w:=by
     revert w
     exact zc0
    exact zc50
   exact zc30)
 by_cases h2:x.k=k
 rotate_left
 ·rw[hno (λh=>h2 h.2.1)]
  refine zX1 ?_<;>intros
  all_goals(
   apply Yg (blk gr (.cells #[.slice r.A r.xs.length r.cap] 64 (0,0))::rqA gq y::blk gk (.cells #[.int .i64 k] 3 (0,0))::T)
   ·intro w hw
    have h5:St B w0 (blk gr (.cells #[.slice r.A r.xs.length r.cap] 64 (0,0))::rqA gq y::blk gk (.cells #[.int .i64 k] 3 (0,0))::[many T]) w:=by
     revert w
     exact zc0
    exact zc50
   exact zc30)
 by_cases h3:0<=i
 rotate_left
 ·rw[hno (λh=>h3 h.2.2.1)]
  refine zX13 ?_<;>intros
  all_goals(
   apply Yg (blk gr (.cells #[.slice r.A r.xs.length r.cap] 64 (0,0))::rqA gq y::blk gk (.cells #[.int .i64 k] 3 (0,0))::T)
   ·intro w hw
    have h5:St B w0 (blk gr (.cells #[.slice r.A r.xs.length r.cap] 64 (0,0))::rqA gq y::blk gk (.cells #[.int .i64 k] 3 (0,0))::[many T]) w:=by
     revert w
     exact zc0
    exact zc50
   exact zc30)
 obtain⟨ix,rfl⟩:∃ix:Nat,i=ix:=⟨i.toNat,by omega⟩
 rw[Rx]at hno hyes
 by_cases h4:ix+1<r.xs.length
 rotate_left
 ·rw[hno (λh=>h4 h.2.2.2.1)]
  refine zX13 ?_<;>intros
  all_goals(
   apply Yg (blk gr (.cells #[.slice r.A r.xs.length r.cap] 64 (0,0))::rqA gq y::blk gk (.cells #[.int .i64 k] 3 (0,0))::T)
   ·intro w hw
    have h5:St B w0 (blk gr (.cells #[.slice r.A r.xs.length r.cap] 64 (0,0))::rqA gq y::blk gk (.cells #[.int .i64 k] 3 (0,0))::[many T]) w:=by
     revert w
     exact zc0
    exact zc50
   exact zc30)
 obtain⟨z,hz⟩:∃z,r.xs[ix+1]? =some z:=⟨_,Ta h4⟩
 have hzd:r.xs.getD (ix+1) 0=z:=by rw[Tu,hz];rfl
 rw[hzd]at hno hyes
 by_cases h5:z=x.v
 ·rw[hyes ⟨h1,h2,h3,h4,h5⟩]
  refine zX13 ?_<;>intros
  all_goals(
   apply Yg (blk gr (.cells #[.slice r.A r.xs.length r.cap] 64 (0,0))::rqA gq y::blk gk (.cells #[.int .i64 k] 3 (0,0))::T)
   ·intro w hw
    have h5:St B w0 (blk gr (.cells #[.slice r.A r.xs.length r.cap] 64 (0,0))::rqA gq y::blk gk (.cells #[.int .i64 k] 3 (0,0))::[many T]) w:=by
     revert w
     exact zc0
    exact zc50
   exact zc30)
 ·rw[hno (λh=>h5 h.2.2.2.2)]
  refine zX13 ?_<;>intros
  all_goals(
   apply Yg (blk gr (.cells #[.slice r.A r.xs.length r.cap] 64 (0,0))::rqA gq y::blk gk (.cells #[.int .i64 k] 3 (0,0))::T)
   ·intro w hw
    have h5:St B w0 (blk gr (.cells #[.slice r.A r.xs.length r.cap] 64 (0,0))::rqA gq y::blk gk (.cells #[.int .i64 k] 3 (0,0))::[many T]) w:=by
     revert w
     exact zc0
    exact zc50
   exact zc30)
abbrev gbA(gb:Nat)(A:Option Addr)(n cap:Nat):HP:=blk gb (.cells #[.slice A n cap] 50 (0,0))
theorem Ykb(out:List BrM)(A5:Option Addr)(cap5:Nat)(k:Int)(y:RqM)(r:RowM)(gb gq gk:Nat)(hol:out.length<=100000000)(hl:r.xs.length<=1000000){T:List HP}(hr:Rd B w0 T r.A (r.xs.flatMap numF))(ho:Rd B w0 T A5 (out.flatMap brF))(hw:St B w0 (gbA gb A5 out.length cap5::rqA gq y::blk gk (.cells #[.int .i64 k] 3 (0,0))::T) w):
 CX B w0 17 [rteV r,.pointer (some ⟨gb,0,none⟩),.pointer (some ⟨gq,0,none⟩),.pointer (some ⟨gk,0,none⟩)] w λv K=>v=.bool (!out.any (onBr y.f.1 k r.xs))/\K=gbA gb A5 out.length cap5::rqA gq y::blk gk (.cells #[.int .i64 k] 3 (0,0))::T:=by
 refine Ya Tryz.func17 Tryz.ntmps17 rfl rfl hw ?_
 refine XM (gbA gb A5 out.length cap5::rqA gq y::blk gk (.cells #[.int .i64 k] 3 (0,0))::[many T]) (λw hw=>hw.perm (.cons _ (.cons _ (.cons _ (.closeT T))))) ?_
 have hr:Rd B w0 [many T] r.A (r.xs.flatMap numF):=hr.mono (λw hw=>hw.perm (.openT T))
 have ho:Rd B w0 [many T] A5 (out.flatMap brF):=ho.mono (λw hw=>hw.perm (.openT T))
 obtain⟨b,hb⟩:∃b,out.any (onBr y.f.1 k r.xs)=b:=⟨_,rfl⟩
 rw[hb]
 unfold rteV
 repeat'(first|(apply zg29;(apply Yo;exact za;exact rfl))|refine zga ?_|(refine zgh ?_;intro _)|fail)
 rename_i gr
 apply Xv (blk gr (.cells #[.slice r.A r.xs.length r.cap] 64 (0,0))::rqA gq y::blk gk (.cells #[.int .i64 k] 3 (0,0))::gbA gb A5 out.length cap5::[many T])
 ·exact zc0
 first|apply Yb en18|apply Yc en18
 exact za
 exact rfl
 exactλ_ hw=>(Ybp (onBr y.f.1 k r.xs) out 19 [.pointer (some ⟨gr,0,none⟩),.pointer (some ⟨gq,0,none⟩),.pointer (some ⟨gk,0,none⟩)] en19 hol (ho.mono zc0) (λa _ w hw=>Yib a k y r gr gq gk hl (hr.mono zc0) hw) hw)
 rw[hb]
 cases b<;>(
  repeat'(first|refine zgd ?_|fail)
  apply Yg (gbA gb A5 out.length cap5::rqA gq y::blk gk (.cells #[.int .i64 k] 3 (0,0))::T)
  ·intro w hw
   have h5:St B w0 (gbA gb A5 out.length cap5::rqA gq y::blk gk (.cells #[.int .i64 k] 3 (0,0))::[many T]) w:=by
    revert w
    exact zk
   exact h5.perm (.cons _ (.cons _ (.cons _ (.openT T))))
  apply Yf;exact rfl;exact rfl
  exact⟨rfl,rfl⟩)
variable {r:List Int}{i:Nat}
theorem Yu0(h:r.Nodup)(hi:i<r.length):Yi (λy=>decide (r.getD i 0=y)) r 0=(i:Nat):=by
 have h1:r[i]? =some (r.getD i 0):=by rw[Tu,Ta hi];rfl
 have h0:=@O3 _ (λy=>decide (r.getD i 0=y)) r 0 i _ h1 (Ti rfl) (λj b hj hb=>by
  obtain⟨h2,rfl⟩:=Td.1 hb
  refine Tn λe=>?_
  rw[Tu,Ta hi]at e
  exact TY.1 h j i h2 hi hj e.symm)
 rw[h0];omega
variable {n:Net}
theorem YnF(h:Y3 n (r.getD i 0) (r.getD (i+1) 0)=true)(id k:Int):Ya4 n [id,k,r.getD i 0,r.getD (i+1) 0]=some (X9 n r i).2.2:=by
 show(if 0<=Yy n (r.getD i 0) (r.getD (i+1) 0)then some (lnk n (Yy n (r.getD i 0) (r.getD (i+1) 0)).toNat).2.2 else none)=_
 rw[Tj (UD h)];rfl
theorem YnM{a b:Int}(hr:X6 n a b r=0){atts:List AttM}{out:List BrM}(hbr:∀(k:KL) b,Ya4 n k=some b->brO b (osK atts k) 0=true->∃x∈out,[x.f,x.k,x.u,x.v]=k){id k:Int}(hno:out.any (onBr id k r)=false):
 ∀x∈Yq n r,brO x.2.2 ((keyL atts id k x.1 x.2.1).map AttM.o) 0=false:=by
 intro x hx
 obtain⟨-,-,-,hnd,hk⟩:=Uh hr
 obtain⟨-,-,hg⟩:=Zp hr
 unfold Yq at hx
 obtain⟨i,hi,rfl⟩:=TE.1 hx
 have hi:=TN.1 hi
 have hi2:i+1<r.length:=by omega
 obtain⟨k1,k2⟩:=hk i hi2
 rw[k1,k2,<-Yqf]
 cases hb:brO (X9 n r i).2.2 (osK atts [id,k,r.getD i 0,r.getD (i+1) 0]) 0 with
 |false=>rfl
 |true=>
  obtain⟨y,hy,e⟩:=hbr _ _ (YnF (hg i hi2) id k) hb
  obtain⟨e1,e⟩:=List.cons.inj e
  obtain⟨e2,e⟩:=List.cons.inj e
  obtain⟨e3,e⟩:=List.cons.inj e
  obtain⟨e4,-⟩:=List.cons.inj e
  exfalso
  apply RA.1 hno y hy
  refine Ti ?_
  rw[e3,e4,Yu0 hnd (by omega),Rx]
  exact⟨e1,e2,by omega,hi2,rfl⟩
variable {s:Sch}
theorem Ysr{l:List Flw}{n:Int}{j:Nat}{p:PlM}(h:Pl l s n j p):0<=n/\∀d∈p.dels,0<=d.2.2:=by
 induction h with
 |start=>exact⟨RI _,λd hd=>by cases hd⟩
 |rel st h _ _ ih=>exact ih
 |skip h _ _ ih=>exact ih
 |att o h _ _ _ _ _ ih=>
  refine⟨ih.1,λd hd=>?_⟩
  rcases TF.1 hd with hd|hd
  ·exact ih.2 d hd
  ·unfold delS at hd
   split at hd
   ·rw[TO.1 hd];exact ih.1
   ·cases hd
 |next ds h hp ih=>exact⟨by have:=ih.1;omega,λd hd=>ih.2 d (hp.mem_iff.1 hd)⟩
theorem YhD{q:List Rqs}(h:(YS n q s).2.2=0){x:Rqs}(hx:x∈q)(hr:r∈x.2):(Y4 n s x.1 r).2=0/\(Y4 n s x.1 r).1.1<=x.1.2.2.2.2.2:=by
 have hw:=(Zo.1 h).2 x hx
 unfold Oh at hw
 rw[Tq]at hw
 have hl:=hw.2
 simp only[RZ]at hl
 exact Ygg hl hr
def You(c:PlC)(slots:Int)(atts:List AttM)(dels:List (Int×Int×Int))(e:Int):Prop:=e=0->(∃ss,PInvY c slots 0 ss atts dels)/\atts.length<=50000000/\(Yz 32 c.l).2=0/\Y5 c.s.sch=true/\0<=slots
theorem Ykv(c:PlC)(slots:Int)(hl:c.l.length<=1000)(hsl:c.s.cells.length<=1000)(hxl:c.xs.length<=1000000){B:Nat}{w0:World}{H:List HP}{w:World}(ht:TabsB B w0)(hr:Rd B w0 H c.fA (c.l.flatMap flwF))(hs:Rd B w0 H c.s.A (c.s.cells.flatMap celF))(hx:XIn B w0 H c.xA c.xs)(hw:St B w0 H w):
 CX B w0 10 [.slice c.fA c.l.length c.fc,c.s.val,.slice c.xA c.xs.length c.xc,.int .i64 slots] w λv K=>∃tA tc atts dA dc dels e,v=.tuple #[.agg #[.slice tA (atts:List AttM).length tc,.slice dA (dels:List (Int×Int×Int)).length dc],.int .i64 e]/\You c slots atts dels e/\K=plT tA tc atts::plD dA dc dels::H:=by
 refine(YnV c slots hl hsl hxl ht hr hs hx hw).mono ?_
 rintro e w' ⟨v,K,rfl,hst,⟨h⟩⟩
 rcases h with⟨e,he,rfl,rfl⟩|⟨ss,tA,tc,atts,dA,dc,dels,rfl,h1,h2,h3,h4,h5,rfl⟩
 ·exact⟨_,_,rfl,(hst.nilSlice 132 3).nilSlice 119 8,none,0,[],none,0,[],e,rfl,λh=>absurd h he,rfl⟩
 ·exact⟨_,_,rfl,hst,tA,tc,atts,dA,dc,dels,0,rfl,λ_=>⟨⟨ss,h1⟩,h2,h3,h4,h5⟩,rfl⟩
open Go.ChangeShapes Go.WideShapes Go.ChangeAt Go.RowKit Go.Eng Go.Nw Go.Rt
section
variable {H:Type}{enc:TypeId×Value->H}{W:World}{spare:Nat->Bool}{held:Bool}
def RuG(W:World)(r:RuM):Prop:=RtG W ⟨r.A,r.cap,r.os⟩
theorem Ysk:Opn enc Tryz.prog W spare held 271 ruF (RuG W):=
 VK (ZH (ts:=[3,3,3,3,24]) (by kernel_rfl) (Yv op_i (Yv op_i (Yv op_i (Yv op_i (Yv YbB Vj))))))
  (λx=>⟨x.1,x.2.1,x.2.2.1,x.2.2.2.1,x.2.2.2.2.1.A,x.2.2.2.2.1.cap,x.2.2.2.2.1.xs⟩) (λx=>by simp[ruF,numF,rowF]) (λx h=>by
   obtain⟨h1,h2,h3,h4,h5,_⟩:=h
   exact h5)
theorem Yqe:Opn enc Tryz.prog W spare held 37 (λs:SlM RuM=>[s.val]) (SlG W ruF (RuG W)):=Zv (q:=5) Tryz.underlying37 (by kernel_rfl) (by decide) Ysk
theorem Ytp{r:Reach}{b0:Nat}{v:Value}{d:DataW H}{p:List MemPlace}(hv:Value.okWide Tryz.prog W r b0 37 v)(h:DataW.Trod enc Tryz.prog W 0 spare held 37 v d p):∃s:SlM RuM,v=s.val/\SlG W ruF (RuG W) s:=by
 obtain⟨a,len,cap,rfl⟩:=okWide_slice Tryz.underlying37 hv
 obtain⟨fuel,hf⟩:=h
 obtain⟨n,h1,h2⟩:=Yqe fuel _ _ hf
 refine⟨n,?_,h2⟩
 injection h1
end
variable {W:World}{s:SlM RuM}
theorem Yvx{K:List HP}(h:SlG W ruF (RuG W) s):XIn W.heap.size W K s.A s.xs:=
 ⟨h.old.rd,λx hx=>⟨RtG.old (h.good x hx)|>.rd,RtG.len (h.good x hx)⟩⟩
theorem Yvh(h:SlG W ruF (RuG W) s):s.xs.length<=9223372036854775807:=TU h.len maxL
end Go.Proofs.YtambgjgljcadlaaGreatDoor
