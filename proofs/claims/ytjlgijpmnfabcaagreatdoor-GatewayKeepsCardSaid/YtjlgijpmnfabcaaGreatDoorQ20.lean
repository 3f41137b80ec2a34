/- Lemmas. -/
import Derived.Test.YtjlgijpmnfabcaaGreatDoorQ17
import Derived.Test.YtjlgijpmnfabcaaGreatDoorQ18
set_option maxRecDepth 100000
set_option maxHeartbeats 8000000
set_option linter.all false
namespace Go.Proofs.YtjlgijpmnfabcaaGreatDoor
open Go.RowKit Go.Eng Go.Nw Go.Rt
def onBr(id k:Int)(r:List Int)(x:BrM):Bool:=
 decide (x.f=id/\x.k=k/\0<=Yp (λy=>decide (x.u=y)) r 0/\(Yp (λy=>decide (x.u=y)) r 0).toNat+1<r.length/\r.getD ((Yp (λy=>decide (x.u=y)) r 0).toNat+1) 0=x.v)
variable {r:List Int}{i:Nat}
theorem Yu6(h:r.Nodup)(hi:i<r.length):Yp (λy=>decide (r.getD i 0=y)) r 0=(i:Nat):=by
 have h1:r[i]? =some (r.getD i 0):=by rw[Tz,Ta hi];rfl
 have h0:=@OY _ (λy=>decide (r.getD i 0=y)) r 0 i _ h1 (Tj rfl) (λj b hj hb=>by
  obtain⟨h2,rfl⟩:=Tc.1 hb
  refine Tu λe=>?_
  rw[Tz,Ta hi]at e
  exact TG.1 h j i h2 hi hj e.symm)
 rw[h0];omega
variable {n:Net}
theorem Ynq(h:Y5 n (r.getD i 0) (r.getD (i+1) 0)=true)(id k:Int):WU n [id,k,r.getD i 0,r.getD (i+1) 0]=some (X9 n r i).2.2:=by
 show(if 0<=YA n (r.getD i 0) (r.getD (i+1) 0)then some (lnk n (YA n (r.getD i 0) (r.getD (i+1) 0)).toNat).2.2 else none)=_
 rw[Tm (Uv h)];rfl
theorem Ynx{a b:Int}(hr:X6 n a b r=0){atts:List AttM}{out:List BrM}(hbr:∀(k:KL) b,WU n k=some b->brO b (osK atts k) 0=true->∃x∈out,[x.f,x.k,x.u,x.v]=k){id k:Int}(hno:out.any (onBr id k r)=false):
 ∀x∈YB n r,brO x.2.2 ((keyL atts id k x.1 x.2.1).map AttM.o) 0=false:=by
 intro x hx
 obtain⟨-,-,-,hnd,hk⟩:=WP hr
 obtain⟨-,-,hg⟩:=ZY hr
 unfold YB at hx
 obtain⟨i,hi,rfl⟩:=TD.1 hx
 have hi:=Ru.1 hi
 have hi2:i+1<r.length:=by omega
 obtain⟨k1,k2⟩:=hk i hi2
 rw[k1,k2,<-Yp3]
 cases hb:brO (X9 n r i).2.2 (osK atts [id,k,r.getD i 0,r.getD (i+1) 0]) 0 with
 |false=>rfl
 |true=>
  obtain⟨y,hy,e⟩:=hbr _ _ (Ynq (hg i hi2) id k) hb
  obtain⟨e1,e⟩:=List.cons.inj e
  obtain⟨e2,e⟩:=List.cons.inj e
  obtain⟨e3,e⟩:=List.cons.inj e
  obtain⟨e4,-⟩:=List.cons.inj e
  exfalso
  apply RY.1 hno y hy
  refine Tj ?_
  rw[e3,e4,Yu6 hnd (by omega),Rq]
  exact⟨e1,e2,by omega,hi2,rfl⟩
def YuG(c:PlC)(slots:Int)(atts:List AttM)(dels:List (Int×Int×Int))(e:Int):Prop:=e=0->(∃ss,PInvY c slots 0 ss atts dels)/\atts.length<=50000000/\(Yx 32 c.l).2=0/\Xh c.s.sch=true/\0<=slots
theorem Ykt(c:PlC)(slots:Int)(hl:c.l.length<=1000)(hsl:c.s.cells.length<=1000)(hxl:c.xs.length<=1000000){B:Nat}{w0:World}{H:List HP}{w:World}(ht:TabsB B w0)(hr:Rd B w0 H c.fA (c.l.flatMap flwF))(hs:Rd B w0 H c.s.A (c.s.cells.flatMap celF))(hx:XIn B w0 H c.xA c.xs)(hw:St B w0 H w):
 CX B w0 25 [.slice c.fA c.l.length c.fc,c.s.val,.slice c.xA c.xs.length c.xc,.int .i64 slots] w λv K=>∃tA tc atts dA dc dels e,v=.tuple #[.agg #[.slice tA (atts:List AttM).length tc,.slice dA (dels:List (Int×Int×Int)).length dc],.int .i64 e]/\YuG c slots atts dels e/\K=plT tA tc atts::plD dA dc dels::H:=by
 refine(YnH c slots hl hsl hxl ht hr hs hx hw).mono ?_
 rintro e w' ⟨v,K,rfl,hst,⟨h⟩⟩
 rcases h with⟨e,he,rfl,rfl⟩|⟨ss,tA,tc,atts,dA,dc,dels,rfl,h1,h2,h3,h4,h5,rfl⟩
 ·exact⟨_,_,rfl,(hst.nilSlice 231 3).nilSlice 140 8,none,0,[],none,0,[],e,rfl,λh=>absurd h he,rfl⟩
 ·exact⟨_,_,rfl,hst,tA,tc,atts,dA,dc,dels,0,rfl,λ_=>⟨⟨ss,h1⟩,h2,h3,h4,h5⟩,rfl⟩
end Go.Proofs.YtjlgijpmnfabcaaGreatDoor
