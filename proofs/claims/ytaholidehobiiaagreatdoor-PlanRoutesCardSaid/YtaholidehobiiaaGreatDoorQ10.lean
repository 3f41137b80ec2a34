/- Lemmas for the claim, part 10. -/
import Derived.Shelf.SlSortCmp.NoneTotal
import Derived.Test.YtaholidehobiiaaGreatDoorQ7
set_option maxRecDepth 100000
set_option maxHeartbeats 8000000
set_option linter.all false
namespace Go.Eng
open Go.RowKit Go.Sort Go.Proofs
variable {α:Type}{q:Nat}
theorem YdN[Inhabited α]{enc:α->List Value}(hq:∀x,(enc x).length=q)(h0:0<q)(l:List α):(flatK enc q l.toArray).toList=l.flatMap enc:=by
 have hlen:(l.flatMap enc).length=l.length*q:=Xk hq l
 have hs:(flatK enc q l.toArray).size=l.length*q:=by simp
 apply List.ext_getElem (by rw[Nv,hs,hlen])
 intro t h1 h2
 rw[hlen]at h2
 have hd:t/q<l.length:=Nat.div_lt_of_lt_mul (by rw[Nat.mul_comm];exact h2)
 have hm:=Nat.mod_lt t h0
 have h3:=Wq hq l (t/q) (t%q) l[t/q] (Ta hd) hm
 rw[Nat.mul_comm,Nat.div_add_mod]at h3
 have h4:=get_flatK enc q l.toArray t (by simpa using h2)
 rw[getElem!_pos _ t (by rw[hs];exact h2)]at h4
 rw[Array.getElem_toList,h4]
 have h5:l.toArray[t/q]! =l[t/q]:=by rw[getElem!_pos _ _ (by simpa using hd)];simp
 rw[h5,getElem!_pos _ _ (by rw[hq];exact hm)]
 have h8:(enc l[t/q])[t%q]? =some ((enc l[t/q])[t%q]'(by rw[hq];exact hm)):=Ta _
 rw[h8]at h3
 obtain⟨h6,h7⟩:=Tj.1 h3
 exact h7.symm
theorem YpJ[Inhabited α]{enc:α->List Value}(hq:∀x,(enc x).length=q)(h0:0<q){l:List α}{k:Nat}(hk:k<=l.length){g cap:Nat}{e:TypeId}{B:Nat}{w0 w:World}{H:List HP}(hw:St B w0 (sl e q (some ⟨g,0,none⟩) l.length cap (l.flatMap enc)::H) w):
 HoldsK enc q w g (k*q) (l.drop k).toArray/\g<w.heap.size/\∀(d:List α) (n:Nat) (os:Array Obj),d.length=l.length-k->St B w0 (sl e q (some ⟨g,0,none⟩) l.length cap ((l.take k++d).flatMap enc)::H) (sortWorldK enc q w g (k*q) n d.toArray os):=by
 have ho:=hw.sl (Tz)
 rcases ho.2 with⟨h1,_⟩|⟨g',c,cur,h1,h2,h3,h4,h5,h6,h7⟩
 ·cases h1
 injection h1 with h1 _ hc
 injection h1 with h1
 injection h1 with h1
 subst h1 hc
 have hmul:l.length*q=k*q+(l.length-k)*q:=by rw[<-Sl];congr 1;omega
 have hcq:l.length*q<=cap*q:=Ri q h4
 have hg:g<w.heap.size:=(Si.1 h3).1
 refine⟨λj hj=>?_,hg,λd n os hd=>?_⟩
 ·have hs:(flatK enc q (l.drop k).toArray).size=(l.length-k)*q:=by simp
  rw[hs]at hj
  refine⟨?_,by simp[World.frozen?,h3]⟩
  have hcell:w.cell? ⟨g,k*q+j,none⟩=cur[k*q+j]? :=by simp[World.cell?,h3]
  rw[hcell]
  have e1:cur[k*q+j]? =(l.flatMap enc)[k*q+j]? :=by
   rw[<-h7,SI (by omega),Nh]
  rw[e1,<-RI,<-Wp hq,<-YdN hq h0,Nh,SC (by rw[hs];exact hj),getElem!_pos _ j (by rw[hs];exact hj)]
  rfl
 ·have hs:(flatK enc q d.toArray).size=(l.length-k)*q:=by simp[hd]
  have hF:(flatK enc q d.toArray).toList=d.flatMap enc:=YdN hq h0 d
  have hheap:(sortWorldK enc q w g (k*q) n d.toArray os).heap[g]? =some (.cells (putCells id (k*q) (flatK enc q d.toArray) cur) e (0,0)):=by
   unfold sortWorldK putRowK
   rw[heap_grow_old _ _ (by simpa using hg)]
   simp[putRow,mapBlock,Sort.ahead,Array.getElem?_modify,h3,onCells]
  have hgb:w.grownBy (sortWorldK enc q w g (k*q) n d.toArray os) (some g):=by
   refine⟨rfl,rfl,rfl,by simp[sortWorldK,putRowK],λb hb hne=>?_⟩
   unfold sortWorldK putRowK
   rw[heap_grow_old _ _ (by simpa using hb)]
   have:g≠b:=λe=>hne (by rw[e])
   simp[putRow,mapBlock,Sort.ahead,Array.getElem?_modify,this]
  have hlen:((l.take k++d).flatMap enc).length=l.length*q:=by
   rw[Xk hq,To,TT,hd,SO hk];congr 1;omega
  refine hw.upd (Upd.here H) hgb.os hgb.tape hgb.output hgb.size λS1 hS=>⟨⟨⟨hlen,.inr ⟨g,cap,_,rfl,Tm _,hheap,h4,h5,by simp[putCells,h6],?_⟩⟩,hS.2⟩,λb hb hlt=>hgb.block b hlt λe=>hb ?_⟩
  ·apply Sv
   intro j
   by_cases hj:j<l.length*q
   ·rw[SI hj,Nh]
    have hjc:j<cur.size:=by rw[h6];omega
    have e1:cur[j]? =(l.flatMap enc)[j]? :=by rw[<-h7,SI hj,Nh]
    rw[RB,XG hq]
    have hl1:((l.flatMap enc).take (k*q)).length=k*q:=by rw[TT,Xk hq];omega
    by_cases hjk:j<k*q
    ·rw[RY (by rw[hl1];exact hjk),SI hjk,<-e1]
     simp[putCells,Array.getElem?_eq_getElem hjc,show¬k*q<=j by omega]
    ·rw[RG (by rw[hl1];omega),hl1,<-hF,Nh]
     have hin:j-k*q<(flatK enc q d.toArray).size:=by rw[hs];omega
     rw[SC hin]
     have hc2:k*q<=j/\j<k*q+(flatK enc q d.toArray).size:=⟨by omega,by rw[hs];omega⟩
     unfold putCells
     rw[Array.getElem?_mapIdx,SC hjc]
     simp only[Ss]
     rw[Tn hc2]
     have h9:(flatK enc q d.toArray)[j-k*q]! =(flatK enc q d.toArray)[j-k*q]'hin:=getElem!_pos (flatK enc q d.toArray) (j-k*q) hin
     rw[h9]
     rfl
   ·rw[List.getElem?_take_eq_none (by omega),SU (by rw[hlen];omega)]
  ·injection e with e
   rw[e]
   exact hS.2 _ rfl
end Go.Eng
