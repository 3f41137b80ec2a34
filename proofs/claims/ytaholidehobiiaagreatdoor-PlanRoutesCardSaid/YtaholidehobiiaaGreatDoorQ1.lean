/- Lemmas for the claim, part 1. -/
import Derived.KernelRfl
import Derived.WalkKit
import Derived.Lib.Hide
import Derived.Deep.LoopGhost
import Derived.Deep.Quiet
import Derived.OrdersHeld
import Derived.OrdersIn
import Derived.TacticsIn
import Derived.RangeFuncCalls
import Derived.Sort.LoopGhostIn
set_option maxRecDepth 100000
set_option maxHeartbeats 8000000
set_option linter.all false
namespace Go
end Go
namespace Go.Eng
end Go.Eng
namespace Go.Nw
end Go.Nw
namespace Go.Proofs
end Go.Proofs
namespace Go.Proofs.YtaholidehobiiaaGreatDoor
end Go.Proofs.YtaholidehobiiaaGreatDoor
namespace Go.Rt
end Go.Rt
namespace Go
theorem Ta:type_of%@List.getElem?_eq_getElem:=@List.getElem?_eq_getElem
theorem Tc:type_of%@List.mem_of_getElem?:=@List.mem_of_getElem?
theorem Td:type_of%@decide_eq_true:=@decide_eq_true
theorem Tf:type_of%@if_neg:=@if_neg
theorem Ti:type_of%@decide_eq_false:=@decide_eq_false
theorem Tj:type_of%@List.getElem?_eq_some_iff:=@List.getElem?_eq_some_iff
theorem Tm:type_of%@Nat.zero_le:=@Nat.zero_le
theorem Tn:type_of%@if_pos:=@if_pos
theorem To:type_of%@List.length_append:=@List.length_append
theorem Tq:type_of%@Bool.and_eq_true:=@Bool.and_eq_true
theorem Tt:type_of%@decide_eq_true_eq:=@decide_eq_true_eq
theorem Tu:type_of%@List.getD_eq_getElem?_getD:=@List.getD_eq_getElem?_getD
theorem Tv:type_of%@Option.some.inj:=@Option.some.inj
theorem Tz:type_of%@List.mem_cons_self:=@List.mem_cons_self
theorem TA:type_of%@List.mem_cons_of_mem:=@List.mem_cons_of_mem
theorem TB:type_of%@List.length_map:=@List.length_map
theorem TC:type_of%@List.mem_map:=@List.mem_map
theorem TD:type_of%@List.cons_append:=@List.cons_append
theorem TE:type_of%@congrArg:=@congrArg
theorem TF:type_of%@List.all_eq_true:=@List.all_eq_true
theorem TG:type_of%@List.mem_singleton:=@List.mem_singleton
theorem TI:type_of%@List.mem_append:=@List.mem_append
theorem TJ:type_of%@Nat.le_refl:=@Nat.le_refl
theorem TK:type_of%@List.nil_append:=@List.nil_append
theorem TL:type_of%@List.mem_cons:=@List.mem_cons
theorem TM:type_of%@List.length_cons:=@List.length_cons
theorem TN:type_of%@List.take_add_one:=@List.take_add_one
theorem TO:type_of%@List.length_singleton:=@List.length_singleton
theorem TP:type_of%@decide_eq_false_iff_not:=@decide_eq_false_iff_not
theorem TQ:type_of%@List.mem_range:=@List.mem_range
theorem TR:type_of%@List.getElem?_map:=@List.getElem?_map
theorem TS:type_of%@List.mem_iff_getElem?:=@List.mem_iff_getElem?
theorem TT:type_of%@List.length_take:=@List.length_take
theorem TU:type_of%@List.mem_append_right:=@List.mem_append_right
theorem TV:type_of%@List.take_length:=@List.take_length
theorem TX:type_of%@Nat.le_of_ble_eq_true:=@Nat.le_of_ble_eq_true
theorem TY:type_of%@List.append_assoc:=@List.append_assoc
theorem TZ:type_of%@List.flatMap_cons:=@List.flatMap_cons
theorem T0:type_of%@List.take_of_length_le:=@List.take_of_length_le
theorem T8:type_of%@List.any_eq_true:=@List.any_eq_true
theorem T9:type_of%@Nat.le_trans:=@Nat.le_trans
theorem Rb:type_of%@List.map_append:=@List.map_append
theorem Re:type_of%@List.mem_filter:=@List.mem_filter
theorem Rf:type_of%@List.length_set:=@List.length_set
theorem Rh:type_of%@List.map_cons:=@List.map_cons
theorem Ri:type_of%@Nat.mul_le_mul_right:=@Nat.mul_le_mul_right
theorem Rj:type_of%@of_decide_eq_true:=@of_decide_eq_true
theorem Rk:type_of%@List.nodup_append:=@List.nodup_append
theorem Rl:type_of%@List.drop_eq_getElem_cons:=@List.drop_eq_getElem_cons
theorem Rm:type_of%@List.pairwise_iff_getElem:=@List.pairwise_iff_getElem
theorem Rn:type_of%@Decidable.not_not:=@Decidable.not_not
theorem Ro:type_of%@List.append_nil:=@List.append_nil
theorem Rq:type_of%@List.length_drop:=@List.length_drop
theorem Rr:type_of%@List.length_replicate:=@List.length_replicate
theorem Ru:type_of%@List.drop_eq_nil_of_le:=@List.drop_eq_nil_of_le
theorem Rw:type_of%@Option.some.injEq:=@Option.some.injEq
theorem Rx:type_of%@List.range_succ:=@List.range_succ
theorem Ry:type_of%@List.length_nil:=@List.length_nil
theorem RA:type_of%@Array.getElem?_eq_none:=@Array.getElem?_eq_none
theorem RB:type_of%@List.flatMap_append:=@List.flatMap_append
theorem RD:type_of%@List.any_eq_false:=@List.any_eq_false
theorem RE:type_of%@Int.tmod_eq_emod_of_nonneg:=@Int.tmod_eq_emod_of_nonneg
theorem RG:type_of%@List.getElem?_append_right:=@List.getElem?_append_right
theorem RH:type_of%@Nat.zero_add:=@Nat.zero_add
theorem RI:type_of%@List.getElem?_drop:=@List.getElem?_drop
theorem RJ:type_of%@List.mem_flatMap:=@List.mem_flatMap
theorem RL:type_of%@Nat.not_lt_zero:=@Nat.not_lt_zero
theorem RN:type_of%@List.mem_append_left:=@List.mem_append_left
theorem RO:type_of%@Bool.true_and:=@Bool.true_and
theorem RP:type_of%@List.take_append_drop:=@List.take_append_drop
theorem RS:type_of%@Bool.not_eq_true':=@Bool.not_eq_true'
theorem RU:type_of%@Int.toNat_natCast:=@Int.toNat_natCast
theorem RV:type_of%@List.not_mem_nil:=@List.not_mem_nil
theorem RX:type_of%@List.length_filter_le:=@List.length_filter_le
theorem RY:type_of%@List.getElem?_append_left:=@List.getElem?_append_left
theorem RZ:type_of%@Nat.lt_succ_iff_lt_or_eq:=@Nat.lt_succ_iff_lt_or_eq
theorem R7:type_of%@Int.le_refl:=@Int.le_refl
theorem R9:type_of%@Bool.or_eq_true:=@Bool.or_eq_true
theorem Si:type_of%@Array.getElem?_eq_some_iff:=@Array.getElem?_eq_some_iff
theorem Sj:type_of%@List.eq_nil_of_length_eq_zero:=@List.eq_nil_of_length_eq_zero
theorem Sl:type_of%@Nat.add_mul:=@Nat.add_mul
theorem Sr:type_of%@List.mem_map_of_mem:=@List.mem_map_of_mem
theorem Ss:type_of%@Option.map_some:=@Option.map_some
theorem Su:type_of%@Nat.lt_or_ge:=@Nat.lt_or_ge
theorem Sv:type_of%@List.ext_getElem?:=@List.ext_getElem?
theorem SA:type_of%@Int.mul_le_mul_of_nonneg_left:=@Int.mul_le_mul_of_nonneg_left
theorem SB:type_of%@List.mem_of_mem_take:=@List.mem_of_mem_take
theorem SC:type_of%@Array.getElem?_eq_getElem:=@Array.getElem?_eq_getElem
theorem SD:type_of%@Bool.false_eq_true:=@Bool.false_eq_true
theorem SE:type_of%@List.getElem?_take:=@List.getElem?_take
theorem SG:type_of%@List.drop_length:=@List.drop_length
theorem SH:type_of%@List.filter_cons:=@List.filter_cons
theorem SI:type_of%@List.getElem?_take_of_lt:=@List.getElem?_take_of_lt
theorem SJ:type_of%@List.filter_congr:=@List.filter_congr
theorem SK:type_of%@Nat.add_sub_cancel:=@Nat.add_sub_cancel
theorem SL:type_of%@Option.toList_some:=@Option.toList_some
theorem SN:type_of%@List.filter_filter:=@List.filter_filter
theorem SO:type_of%@Nat.min_eq_left:=@Nat.min_eq_left
theorem SR:type_of%@Int.mul_le_mul_of_nonneg_right:=@Int.mul_le_mul_of_nonneg_right
theorem SU:type_of%@List.getElem?_eq_none:=@List.getElem?_eq_none
theorem SV:type_of%@Array.setIfInBounds_comm:=@Array.setIfInBounds_comm
theorem SX:type_of%@Bool.false_and:=@Bool.false_and
theorem SY:type_of%@List.filter_append:=@List.filter_append
theorem SZ:type_of%@Nat.add_right_comm:=@Nat.add_right_comm
theorem S0:type_of%@List.getElem?_set_self:=@List.getElem?_set_self
theorem S5:type_of%@beq_iff_eq:=@beq_iff_eq
theorem S7:type_of%@List.range_succ_eq_map:=@List.range_succ_eq_map
theorem S8:type_of%@List.filter_sublist:=@List.filter_sublist
theorem S9:type_of%@List.nodup_cons:=@List.nodup_cons
theorem Na:type_of%@List.getLast?_eq_none_iff:=@List.getLast?_eq_none_iff
theorem Nb:type_of%@Decidable.byContradiction:=@Decidable.byContradiction
theorem Nc:type_of%@Array.getElem?_modify:=@Array.getElem?_modify
theorem Nh:type_of%@Array.getElem?_toList:=@Array.getElem?_toList
theorem Ni:type_of%@List.pairwise_cons:=@List.pairwise_cons
theorem Nj:type_of%@Nat.eq_zero_or_pos:=@Nat.eq_zero_or_pos
theorem Nk:type_of%@Option.bind_some:=@Option.bind_some
theorem Nl:type_of%@List.take_append:=@List.take_append
theorem Nn:type_of%@Nat.add_zero:=@Nat.add_zero
theorem Np:type_of%@List.drop_drop:=@List.drop_drop
theorem Nq:type_of%@List.take_zero:=@List.take_zero
theorem Nr:type_of%@Nat.lt_trichotomy:=@Nat.lt_trichotomy
theorem Ns:type_of%@List.getElem?_cons_succ:=@List.getElem?_cons_succ
theorem Nu:type_of%@List.any_append:=@List.any_append
theorem Nv:type_of%@Array.length_toList:=@Array.length_toList
theorem Nx:type_of%@Option.map_eq_some_iff:=@Option.map_eq_some_iff
theorem Ny:type_of%@Bool.false_or:=@Bool.false_or
theorem Nz:type_of%@Nat.mul_one:=@Nat.mul_one
theorem NA:type_of%@List.map_toArray:=@List.map_toArray
theorem NB:type_of%@List.set_cons_zero:=@List.set_cons_zero
theorem NC:type_of%@List.getElem?_toArray:=@List.getElem?_toArray
theorem ND:type_of%@List.mem_or_eq_of_mem_set:=@List.mem_or_eq_of_mem_set
theorem NE:type_of%@Bool.eq_iff_iff:=@Bool.eq_iff_iff
theorem NF:type_of%@if_true:=@if_true
theorem NG:type_of%@Bool.eq_false_iff:=@Bool.eq_false_iff
theorem NH:type_of%@Nat.sub_self:=@Nat.sub_self
theorem NI:type_of%@List.pairwise_append:=@List.pairwise_append
theorem NJ:type_of%@List.mem_of_getLast?:=@List.mem_of_getLast?
theorem NK:type_of%@List.sum_cons:=@List.sum_cons
theorem NL:type_of%@List.takeWhile_cons:=@List.takeWhile_cons
theorem NM:type_of%@List.replicate_succ:=@List.replicate_succ
theorem NN:type_of%@Nat.add_sub_cancel_left:=@Nat.add_sub_cancel_left
theorem NP:type_of%@Nat.lt_or_gt_of_ne:=@Nat.lt_or_gt_of_ne
theorem NQ:type_of%@List.set_cons_succ:=@List.set_cons_succ
theorem NR:type_of%@List.all_cons:=@List.all_cons
theorem NS:type_of%@List.set_append_right:=@List.set_append_right
theorem NT:type_of%@List.perm_append_comm:=@List.perm_append_comm
theorem NU:type_of%@Ne.symm:=@Ne.symm
theorem NV:type_of%@List.pairwise_map:=@List.pairwise_map
theorem NW:type_of%@List.getElem?_set_ne:=@List.getElem?_set_ne
theorem NX:type_of%@List.map_map:=@List.map_map
theorem NY:type_of%@List.flatMap_nil:=@List.flatMap_nil
theorem NZ:type_of%@List.getElem?_range:=@List.getElem?_range
theorem N1:type_of%@List.replicate_zero:=@List.replicate_zero
theorem N2:type_of%@Nat.add_assoc:=@Nat.add_assoc
theorem N3:type_of%@or_false:=@or_false
theorem N4:type_of%@List.map_drop:=@List.map_drop
theorem N5:type_of%@List.find?_cons:=@List.find?_cons
theorem N6:type_of%@List.foldl_cons:=@List.foldl_cons
theorem N7:type_of%@Prod.mk.inj:=@Prod.mk.inj
theorem N8:type_of%@if_false:=@if_false
theorem N9:type_of%@Nat.zero_mul:=@Nat.zero_mul
theorem Mc:type_of%@List.map_nil:=@List.map_nil
theorem Md:type_of%@Int.add_zero:=@Int.add_zero
theorem Me:type_of%@Int.lt_or_le:=@Int.lt_or_le
end Go
namespace Go.Eng
theorem zo{p:Prop}(h:p:=by exfalso;omega):p:=h
theorem zk{p:Prop}(h:p:=by first|((intro w hw;refine hw.perm ?_;focus repeat(first|with_reducible exact Perm.refl _|(with_reducible apply YbB;focus((repeat(first|with_reducible exact Ys|with_reducible apply YA));done))|with_reducible apply Perm.dropK));done)|fail):p:=h
theorem zu{p:Prop}(h:p:=by first|((repeat(first|exact Yud _|(apply Ysl;first|exact rfl|exact congrArg (fun z:Int=>some (Value.int .i64 z)) (by omega))));done)|fail):p:=h
theorem zr{p:Prop}(h:p:=by first|((first|(focus(repeat(first|assumption|apply Rd.cons));done)|exact Rd.sl (by(focus repeat(first|with_reducible exact List.mem_cons_self|with_reducible apply List.mem_cons_of_mem|assumption))));done)|fail):p:=h
theorem zm{p:Prop}(h:p:=by first|((focus repeat(first|with_reducible exact List.mem_cons_self|with_reducible apply List.mem_cons_of_mem|assumption));done)|fail):p:=h
theorem za{p:Prop}(h:p:=by first|((repeat(first|exact YqJ|(apply Yoz;exact rfl)));done)|fail):p:=h
theorem zp{p:Prop}(h:p:=by first|((repeat(first|with_reducible exact Ytg|with_reducible apply YqH|exact YiN _));done)|fail):p:=h
theorem zy{p:Prop}(h:p:=by first|((repeat(first|with_reducible exact YpN|with_reducible apply Yuc|with_reducible apply Yub));done)|fail):p:=h
theorem zq{p:Prop}(h:p:=by first|((repeat(first|exact PutAt.nil|(apply PutAt.cons;(repeat(first|exact YeD|apply Yco)))));done)|fail):p:=h
theorem zt{p:Prop}(h:p:=by first|((repeat(first|exact YeD|apply Yco));done)|fail):p:=h
theorem zd{p:Prop}(h:p:=by first|((repeat(first|with_reducible exact Upd.here _|with_reducible apply Upd.there));done)|fail):p:=h
theorem zl{p:Prop}(h:p:=by first|((repeat(first|with_reducible exact YW|(with_reducible apply YL;(repeat(first|with_reducible exact Ys|with_reducible apply YA)))));done)|fail):p:=h
theorem zv{p:Prop}(h:p:=by first|((simp only[subL,List.toList_toArray,List.drop_succ_cons,List.drop_zero,List.take_succ_cons,List.take_zero,Nat.zero_add];rfl);done)|fail):p:=h
structure Hid(Q:Prop):Prop where
 h:Q
theorem zga{P Q:Prop}(q:Q)(h:Hid Q→P:=by intro q;first|(apply(zs1 ?_);exact q.h)|(apply(zs2 ?_);exact q.h)|(apply(zs65 ?_);exact q.h)|(apply(zs68 ?_);exact q.h)|(apply(zs69 ?_);exact q.h)|(apply(zs70 ?_);exact q.h)|(apply zg27;refine zs72 ?_;exact q.h)|(apply(zs74 ?_);exact q.h)|(apply(zs76 ?_);exact q.h)|fail):P:=h ⟨q⟩
theorem zgb{P Q:Prop}(q:Q)(h:Hid Q→P:=by intro q;first|(apply(zs1 ?_);exact q.h)|(apply(zs2 ?_);exact q.h)|(apply zg2;refine zs6 ?_;exact q.h)|(apply zg3;(first|refine zs7 ?_|refine zs8 ?_);exact q.h)|(apply zg4;refine zs9 ?_;exact q.h)|(apply(zs65 ?_);exact q.h)|(apply(zs68 ?_);exact q.h)|(apply(zs69 ?_);exact q.h)|(apply(zs70 ?_);exact q.h)|(apply zg27;(first|refine zs71 ?_|refine zs72 ?_);exact q.h)|(apply(zs73 ?_);exact q.h)|(apply(zs74 ?_);exact q.h)|(apply(zs76 ?_);exact q.h)|(apply(zs77 ?_);exact q.h)|fail):P:=h ⟨q⟩
theorem zgc{P Q:Prop}(q:Q)(h:Hid Q→P:=by intro q;first|(apply(zs1 ?_);exact q.h)|(apply(zs2 ?_);exact q.h)|(apply zg1;refine zs4 ?_;exact q.h)|(apply zg2;refine zs6 ?_;exact q.h)|(apply zg3;(first|refine zs7 ?_|refine zs8 ?_|refine zs60 ?_);exact q.h)|(apply zg4;refine zs9 ?_;exact q.h)|(apply zg6;(first|refine zs11 ?_|refine zs12 ?_);exact q.h)|(apply(zs13 ?_);exact q.h)|(apply zg13;refine zs30 ?_;exact q.h)|(apply zg22;refine zs51 ?_;exact q.h)|(apply zg5;refine zs57 ?_;exact q.h)|(apply(zs65 ?_);exact q.h)|(apply(zs68 ?_);exact q.h)|(apply(zs69 ?_);exact q.h)|(apply(zs70 ?_);exact q.h)|(apply zg27;(first|refine zs71 ?_|refine zs72 ?_);exact q.h)|(apply(zs73 ?_);exact q.h)|(apply(zs74 ?_);exact q.h)|(apply(zs75 ?_);exact q.h)|(apply(zs76 ?_);exact q.h)|(apply(zs77 ?_);exact q.h)|(apply(zs79 ?_);exact q.h)|(apply(zs80 ?_);exact q.h)|(apply(zs81 ?_);exact q.h)|fail):P:=h ⟨q⟩
theorem zgd{P Q:Prop}(q:Q)(h:Hid Q→P:=by intro q;first|(apply(zs1 ?_);exact q.h)|(apply(zs2 ?_);exact q.h)|(apply zg1;(first|refine zs3 ?_|refine zs4 ?_);exact q.h)|(apply(zs5 ?_);exact q.h)|(apply zg2;(first|refine zs6 ?_|refine zs58 ?_);exact q.h)|(apply zg3;(first|refine zs7 ?_|refine zs8 ?_|refine zs59 ?_|refine zs60 ?_|refine zs61 ?_);exact q.h)|(apply zg4;(first|refine zs9 ?_|refine zs14 ?_);exact q.h)|(apply zg5;(first|refine zs10 ?_|refine zs57 ?_);exact q.h)|(apply zg6;(first|refine zs11 ?_|refine zs12 ?_);exact q.h)|(apply(zs13 ?_);exact q.h)|(apply zg13;refine zs30 ?_;exact q.h)|(apply zg14;refine zs31 ?_;exact q.h)|(apply zg15;refine zs32 ?_;exact q.h)|(apply zg16;refine zs36 ?_;exact q.h)|(apply zg17;refine zs37 ?_;exact q.h)|(apply zg18;refine zs38 ?_;exact q.h)|(apply(zs40 ?_);exact q.h)|(apply zg19;(first|refine zs44 ?_|refine zs45 ?_);exact q.h)|(apply zg20;(first|refine zs47 ?_|refine zs48 ?_);exact q.h)|(apply zg22;(first|refine zs50 ?_|refine zs51 ?_);exact q.h)|(apply zg25;refine zs55 ?_;exact q.h)|(apply(zs65 ?_);exact q.h)|(apply(zs66 ?_);exact q.h)|(apply(zs68 ?_);exact q.h)|(apply(zs69 ?_);exact q.h)|(apply(zs70 ?_);exact q.h)|(apply zg27;(first|refine zs71 ?_|refine zs72 ?_);exact q.h)|(apply(zs73 ?_);exact q.h)|(apply(zs74 ?_);exact q.h)|(apply(zs75 ?_);exact q.h)|(apply(zs76 ?_);exact q.h)|(apply(zs77 ?_);exact q.h)|(apply(zs78 ?_);exact q.h)|(apply(zs79 ?_);exact q.h)|(apply(zs80 ?_);exact q.h)|(apply(zs81 ?_);exact q.h)|(apply(zs82 ?_);exact q.h)|(apply zg28;refine zs83 ?_;exact q.h)|(apply(zs87 ?_);exact q.h)|(apply(zs90 ?_);exact q.h)|(apply(zs93 ?_);exact q.h)|(apply(zs94 ?_);exact q.h)|(apply Js;exact zp;exact q.h)|(apply YmI;exact zp;exact q.h)|(apply Ytd;exact zp;exact q.h)|(apply Yte;exact zp;exact q.h)|fail):P:=h ⟨q⟩
theorem zge{P Q R:Prop}(q:Q)(r:R)(h:Hid Q→Hid R→P:=by intro q r;first|(apply zg7;refine zs15 ?_ ?_;exact q.h;exact r.h)|(apply zg8;refine zs16 ?_ ?_;exact q.h;exact r.h)|(apply(zs17 ?_ ?_);exact q.h;exact r.h)|fail):P:=h ⟨q⟩ ⟨r⟩
theorem zgf{P Q R:Prop}(q:Q)(r:R)(h:Hid Q→Hid R→P:=by intro q r;first|(apply zg7;refine zs15 ?_ ?_;exact q.h;exact r.h)|(apply zg8;refine zs16 ?_ ?_;exact q.h;exact r.h)|(apply(zs17 ?_ ?_);exact q.h;exact r.h)|(apply(zs18 ?_ ?_);exact q.h;exact r.h)|(apply(zs19 ?_ ?_);exact q.h;exact r.h)|(apply(zs20 ?_ ?_);exact q.h;exact r.h)|(apply(zs25 ?_ ?_);exact q.h;exact r.h)|(apply(zs62 ?_ ?_);exact q.h;exact r.h)|fail):P:=h ⟨q⟩ ⟨r⟩
theorem zgh{P Q:Prop}(q:Q)(h:Hid Q→P:=by intro q;first|(apply zg23;(first|refine zs52 ?_|refine zs53 ?_);exact q.h)|(apply zg24;refine zs54 ?_;exact q.h)|(apply zg26;refine zs56 ?_;exact q.h)|fail):P:=h ⟨q⟩
theorem zgi{P Q:Prop}(q:Q)(h:Hid Q→P:=by intro q;first|(apply zg21;refine zs49 ?_;exact q.h)|fail):P:=h ⟨q⟩
theorem zX0{P Q0:Prop}(q0:Q0)(h:Hid Q0→P:=by intro q0;(repeat'(first|refine zgd ?_|(refine zge ?_ ?_<;>intro zz<;>try(exfalso;omega))|fail));(repeat revert zz);exact q0.h):P:=h ⟨q0⟩
theorem zX1{P Q0:Prop}(q0:Q0)(h:Hid Q0→P:=by intro q0;(repeat'(first|refine zgc ?_|(refine zge ?_ ?_<;>intro zz<;>try(exfalso;omega))|fail));(repeat revert zz);exact q0.h):P:=h ⟨q0⟩
theorem zX2{P Q0:Prop}(q0:Q0)(h:Hid Q0→P:=by intro q0;(repeat'(first|refine zgd ?_|fail));(repeat revert zz);exact q0.h):P:=h ⟨q0⟩
theorem zX3{P Q0:Prop}(q0:Q0)(h:Hid Q0→P:=by intro q0;(repeat'(first|refine zgb ?_|(refine zge ?_ ?_<;>intro zz<;>try(exfalso;omega))|fail));(repeat revert zz);exact q0.h):P:=h ⟨q0⟩
theorem zX4{P Q0:Prop}(q0:Q0)(h:Hid Q0→P:=by intro q0;(repeat'(first|refine zga ?_|fail));(repeat revert zz);exact q0.h):P:=h ⟨q0⟩
theorem zX7{P Q0:Prop}(q0:Q0)(h:Hid Q0→P:=by intro q0;(repeat'(first|(apply ZE;exact rfl;exact rfl;exact rfl)|refine zgb ?_|fail));(repeat revert zz);exact q0.h):P:=h ⟨q0⟩
theorem zX8{P Q0:Prop}(q0:Q0)(h:Hid Q0→P:=by intro q0;(repeat'(first|refine zgb ?_|fail));(repeat revert zz);exact q0.h):P:=h ⟨q0⟩
theorem zX9{P Q0:Prop}(q0:Q0)(h:Hid Q0→P:=by intro q0;(repeat'(first|fail));(repeat revert zz);exact q0.h):P:=h ⟨q0⟩
theorem zX10{P Q0:Prop}(q0:Q0)(h:Hid Q0→P:=by intro q0;(repeat'(first|((first|apply Y3 (cs:=cs));exact rfl;exact hen;exact za;exact rfl;exact fun _ hw=>hpa _ hw)|refine zgc ?_|(refine zge ?_ ?_<;>intro zz<;>try(exfalso;omega))|fail));(repeat revert zz);exact q0.h):P:=h ⟨q0⟩
theorem zX11{P Q0:Prop}(q0:Q0)(h:Hid Q0→P:=by intro q0;(repeat'(first|refine zgc ?_|fail));(repeat revert zz);exact q0.h):P:=h ⟨q0⟩
theorem zX16{P Q0:Prop}(q0:Q0)(h:Hid Q0→P:=by intro q0;(repeat'(first|refine zga ?_|(refine zgh ?_;intro zz)|fail));(repeat revert zz);exact q0.h):P:=h ⟨q0⟩
theorem zX17{P Q0:Prop}(q0:Q0)(h:Hid Q0→P:=by intro q0;(repeat'(first|((first|apply Ya YbY|apply Yb YbY);exact za;exact rfl;exact fun _ hw=>(OB _ _ hw))|(apply Yl;try exact zl)|refine zgd ?_|(refine zgh ?_;intro zz)|fail));(repeat revert zz);exact q0.h):P:=h ⟨q0⟩
theorem zX18{P Q0:Prop}(q0:Q0)(h:Hid Q0→P:=by intro q0;(repeat'(first|(apply Yl;try exact zl)|refine zgd ?_|fail));(repeat revert zz);exact q0.h):P:=h ⟨q0⟩
theorem zX19{P Q0:Prop}(q0:Q0)(h:Hid Q0→P:=by intro q0;(repeat'(first|(apply zg28;refine zs84 ?_)|refine zgd ?_|(refine zge ?_ ?_<;>intro zz<;>try(exfalso;omega))|fail));(repeat revert zz);exact q0.h):P:=h ⟨q0⟩
theorem zX20{P Q0:Prop}(q0:Q0)(h:Hid Q0→P:=by intro q0;(repeat'(first|((first|apply Ya en82|apply Yb en82);exact za;exact rfl;exact fun _ hw=>(Xb n hin.cons hw))|refine zgd ?_|(refine zge ?_ ?_<;>intro zz<;>try(exfalso;omega))|(refine zgh ?_;intro zz)|fail));(repeat revert zz);exact q0.h):P:=h ⟨q0⟩
theorem zX24{P Q0:Prop}(q0:Q0)(h:Hid Q0→P:=by intro q0;(repeat'(first|((first|apply Ya YbY|apply Yb YbY);exact za;exact rfl;exact fun _ hw=>(hcm hw))|refine zgd ?_|(refine zgf ?_ ?_<;>intro zz<;>try(exfalso;omega))|fail));(repeat revert zz);exact q0.h):P:=h ⟨q0⟩
theorem zX25{P Q0:Prop}(q0:Q0)(h:Hid Q0→P:=by intro q0;(repeat'(first|refine zgd ?_|(refine zgf ?_ ?_<;>intro zz<;>try(exfalso;omega))|fail));(repeat revert zz);exact q0.h):P:=h ⟨q0⟩
theorem zX26{P Q0:Prop}(q0:Q0)(h:Hid Q0→P:=by intro q0;(repeat'(first|refine zgd ?_|(refine zgh ?_;intro zz)|fail));(repeat revert zz);exact q0.h):P:=h ⟨q0⟩
theorem zX29{P Q0:Prop}(q0:Q0)(h:Hid Q0→P:=by intro q0;(repeat'(first|(first|(refine zs52 ?_;intro zz)|(refine zs53 ?_;intro zz))|((apply Yw;exact za;exact rfl))|refine zga ?_|fail));(repeat revert zz);exact q0.h):P:=h ⟨q0⟩
theorem zX32{P Q0:Prop}(q0:Q0)(h:Hid Q0→P:=by intro q0;(repeat'(first|((first|apply Ya Ynb|apply Yb Ynb);exact za;exact rfl;exact fun _ hw=>(Ygl n (by omega) (by omega) ht hw))|(apply WF [32] (Lib.itoa n);exact rfl;exact rfl;exact rfl;(show 1+_≤_;omega))|(apply WF (ZO word (l.take i)) ([32]++Lib.itoa n);exact rfl;exact rfl;exact rfl;(rw[List.length_append];show _+(1+_)≤_;omega))|refine zgc ?_|(refine zge ?_ ?_<;>intro zz<;>try(exfalso;omega))|fail));(repeat revert zz);exact q0.h):P:=h ⟨q0⟩
theorem zX33{P Q0:Prop}(q0:Q0)(h:Hid Q0→P:=by intro q0;(repeat'(first|((first|apply Ya Yuu|apply Yb Yuu);exact za;exact rfl;exact fun _ hw=>(YfM (congrArg Value.bool hf) (fun _ hw=>Yo1 s hr.cons hl hw) hw))|refine zgd ?_|(refine zgh ?_;intro zz)|fail));(repeat revert zz);exact q0.h):P:=h ⟨q0⟩
theorem zX35{P Q0:Prop}(q0:Q0)(h:Hid Q0→P:=by intro q0;(repeat'(first|((first|apply Y3 (cs:=cs));exact rfl;exact hen;exact za;exact rfl;exact fun _ hw=>hpa _ hw)|refine zgd ?_|(refine zge ?_ ?_<;>intro zz<;>try(exfalso;omega))|fail));(repeat revert zz);exact q0.h):P:=h ⟨q0⟩
theorem zX38{P Q0:Prop}(q0:Q0)(h:Hid Q0→P:=by intro q0;(repeat'(first|((first|apply Y3 (cs:=cs));exact rfl;exact hen;exact za;exact rfl;exact fun _ hw=>hpa hw)|refine zgd ?_|(refine zge ?_ ?_<;>intro zz<;>try(exfalso;omega))|(refine zgh ?_;intro zz)|fail));(repeat revert zz);exact q0.h):P:=h ⟨q0⟩
theorem zX40{P Q0:Prop}(q0:Q0)(h:Hid Q0→P:=by intro q0;(repeat'(first|(apply ZZ T (n':=M.length-i);exact rfl;exact rfl;exact rfl;exact rfl;omega;omega)|refine zgc ?_|(refine zge ?_ ?_<;>intro zz<;>try(exfalso;omega))|fail));(repeat revert zz);exact q0.h):P:=h ⟨q0⟩
theorem zX41{P Q0:Prop}(q0:Q0)(h:Hid Q0→P:=by intro q0;(repeat'(first|(apply ZY T (l:=M) (n':=i);exact rfl;exact rfl;exact rfl;exact rfl;omega;omega;omega)|refine zga ?_|fail));(repeat revert zz);exact q0.h):P:=h ⟨q0⟩
theorem zX43{P Q0:Prop}(q0:Q0)(h:Hid Q0→P:=by intro q0;(repeat'(first|refine zgc ?_|(refine zgf ?_ ?_<;>intro zz<;>try(exfalso;omega))|fail));(repeat revert zz);exact q0.h):P:=h ⟨q0⟩
theorem zX45{P Q0:Prop}(q0:Q0)(h:Hid Q0→P:=by intro q0;(repeat'(first|((first|apply Ya Ym3|apply Yb Ym3);exact za;exact rfl;exact fun _ hw=>(hck hw))|refine zgd ?_|(refine zgf ?_ ?_<;>intro zz<;>try(exfalso;omega))|(refine zgh ?_;intro zz)|fail));(repeat revert zz);exact q0.h):P:=h ⟨q0⟩
theorem zX46{P Q0:Prop}(q0:Q0)(h:Hid Q0→P:=by intro q0;(repeat'(first|refine zgb ?_|(refine zge ?_ ?_<;>intro zz<;>try(exfalso;omega))|(refine zgh ?_;intro zz)|fail));(repeat revert zz);exact q0.h):P:=h ⟨q0⟩
theorem zX48{P Q0:Prop}(q0:Q0)(h:Hid Q0→P:=by intro q0;(repeat'(first|refine zgd ?_|(refine zge ?_ ?_<;>intro zz<;>try(exfalso;omega))|(refine zgh ?_;intro zz)|fail));(repeat revert zz);exact q0.h):P:=h ⟨q0⟩
theorem zX51{P Q0:Prop}(q0:Q0)(h:Hid Q0→P:=by intro q0;(repeat'(first|((first|apply Ya en82|apply Yb en82);exact za;exact rfl;exact fun _ hw=>(Xb n hin.cons hw))|refine zgb ?_|(refine zge ?_ ?_<;>intro zz<;>try(exfalso;omega))|(refine zgh ?_;intro zz)|fail));(repeat revert zz);exact q0.h):P:=h ⟨q0⟩
theorem zX52{P Q0:Prop}(q0:Q0)(h:Hid Q0→P:=by intro q0;(repeat'(first|refine zgb ?_|(refine zgf ?_ ?_<;>intro zz<;>try(exfalso;omega))|fail));(repeat revert zz);exact q0.h):P:=h ⟨q0⟩
theorem zX53{P Q0:Prop}(q0:Q0)(h:Hid Q0→P:=by intro q0;(repeat'(first|((first|apply Ya Ynk|apply Yb Ynk);exact za;exact rfl;exact fun _ hw=>(hoff hw))|(apply zg29;(apply Yw;exact za;exact rfl))|refine zgd ?_|(refine zgf ?_ ?_<;>intro zz<;>try(exfalso;omega))|fail));(repeat revert zz);exact q0.h):P:=h ⟨q0⟩
theorem zX57{P Q0:Prop}(q0:Q0)(h:Hid Q0→P:=by intro q0;(repeat'(first|((first|apply Ya Xw|apply Yb Xw);exact za;exact rfl;exact fun _ hw=>(Zv n _ _ (hin.cons) hw))|((first|apply Ya J4|apply Yb J4);exact za;exact rfl;exact fun _ hw=>(hus hw))|(apply zg28;refine zs84 ?_)|refine zgd ?_|(refine zge ?_ ?_<;>intro zz<;>try(exfalso;omega))|fail));(repeat revert zz);exact q0.h):P:=h ⟨q0⟩
theorem zX70{P Q0:Prop}(q0:Q0)(h:Hid Q0→P:=by intro q0;(repeat'(first|refine zgb ?_|(refine zgh ?_;intro zz)|fail));(repeat revert zz);exact q0.h):P:=h ⟨q0⟩
theorem zX71{P Q0:Prop}(q0:Q0)(h:Hid Q0→P:=by intro q0;(repeat'(first|(apply zg29;(apply Yw;exact za;exact rfl))|fail));(repeat revert zz);exact q0.h):P:=h ⟨q0⟩
theorem zX72{P Q0:Prop}(q0:Q0)(h:Hid Q0→P:=by intro q0;(repeat'(first|refine zgc ?_|(refine zgh ?_;intro zz)|fail));(repeat revert zz);exact q0.h):P:=h ⟨q0⟩
theorem zX73{P Q0:Prop}(q0:Q0)(h:Hid Q0→P:=by intro q0;(repeat'(first|((first|apply Ya en89|apply Yb en89);exact za;exact rfl;exact fun _ hw=>(hss hw))|(apply zg28;refine zs84 ?_)|refine zgd ?_|(refine zge ?_ ?_<;>intro zz<;>try(exfalso;omega))|fail));(repeat revert zz);exact q0.h):P:=h ⟨q0⟩
theorem zX75{P Q0:Prop}(q0:Q0)(h:Hid Q0→P:=by intro q0;(repeat'(first|((first|apply Ya YuX|apply Yb YuX);exact za;exact rfl;exact fun _ hw=>(p1 (hi.mono zk) hw))|refine zgd ?_|(refine zge ?_ ?_<;>intro zz<;>try(exfalso;omega))|(refine zgh ?_;intro zz)|fail));(repeat revert zz);exact q0.h):P:=h ⟨q0⟩
theorem zX76{P Q0:Prop}(q0:Q0)(h:Hid Q0→P:=by intro q0;(repeat'(first|(apply Yk T;exact rfl;exact zm;exact rfl;exact zv;exact rfl;exact rfl)|refine zgc ?_|(refine zge ?_ ?_<;>intro zz<;>try(exfalso;omega))|fail));(repeat revert zz);exact q0.h):P:=h ⟨q0⟩
theorem zX81{P Q0:Prop}(q0:Q0)(h:Hid Q0→P:=by intro q0;(repeat'(first|((first|apply Ya Oe|apply Yb Oe);exact za;exact rfl;exact fun _ hw=>(hplc hw))|((first|apply Ya Xw|apply Yb Xw);exact za;exact rfl;exact fun _ hw=>(hix hin.cons.cons.cons hw))|((first|apply Ya J4|apply Yb J4);exact za;exact rfl;exact fun _ hw=>(hus hin.cons.cons.cons hw))|((first|apply Ya en31|apply Yb en31);exact za;exact rfl;exact fun _ hw=>(hfi hrf.cons.cons.cons hw))|((first|apply Ya Ym8|apply Yb Ym8);exact za;exact rfl;exact fun _ hw=>(hcm hw))|(apply zg28;refine zs84 ?_)|refine zgd ?_|(refine zgf ?_ ?_<;>intro zz<;>try(exfalso;omega))|(refine zgh ?_;intro zz)|fail));(repeat revert zz);exact q0.h):P:=h ⟨q0⟩
theorem zX82{P Q0:Prop}(q0:Q0)(h:Hid Q0→P:=by intro q0;(repeat'(first|(apply zg23;first|(refine zs52 ?_;intro zz)|(refine zs53 ?_;intro zz))|refine zgd ?_|(refine zgh ?_;intro zz)|fail));(repeat revert zz);exact q0.h):P:=h ⟨q0⟩
theorem zX83{P Q0:Prop}(q0:Q0)(h:Hid Q0→P:=by intro q0;(repeat'(first|((first|apply Ya Yf5|apply Yb Yf5);exact za;exact rfl;exact fun _ hw=>(hcn hw))|refine zgc ?_|(refine zge ?_ ?_<;>intro zz<;>try(exfalso;omega))|fail));(repeat revert zz);exact q0.h):P:=h ⟨q0⟩
theorem zX85{P Q0:Prop}(q0:Q0)(h:Hid Q0→P:=by intro q0;(repeat'(first|(apply YkU T;exact rfl;exact zm;exact rfl;exact rfl;exact rfl)|(apply Yl;try exact zl)|refine zgd ?_|(refine zgh ?_;intro zz)|(refine zgi ?_;intro zz zz)|fail));(repeat revert zz);exact q0.h):P:=h ⟨q0⟩
theorem zX86{P Q0:Prop}(q0:Q0)(h:Hid Q0→P:=by intro q0;(repeat'(first|(apply zg28;refine zs84 ?_)|refine zgd ?_|(refine zgh ?_;intro zz)|fail));(repeat revert zz);exact q0.h):P:=h ⟨q0⟩
theorem zX87{P Q0:Prop}(q0:Q0)(h:Hid Q0→P:=by intro q0;(repeat'(first|(apply zg28;refine zs84 ?_)|refine zgd ?_|fail));(repeat revert zz);exact q0.h):P:=h ⟨q0⟩
theorem zX93{P Q0:Prop}(q0:Q0)(h:Hid Q0→P:=by intro q0;(repeat'(first|((first|apply Ya en82|apply Yb en82);exact za;exact rfl;exact fun _ hw=>(hchk hin.cons.cons hw))|((first|apply Ya en59|apply Yb en59);exact za;exact rfl;exact fun _ hw=>(Xe n.nodes l hlf hrf.cons.cons hw))|((first|apply Ya en83|apply Yb en83);exact za;exact rfl;exact fun _ hw=>(hsz hw))|((first|apply Ya en66|apply Yb en66);exact za;exact rfl;exact fun _ hw=>(hcf _ zm hrf.cons.cons hw))|((first|apply Ya en85|apply Yb en85);exact za;exact rfl;exact fun _ hw=>(hcc hin.cons.cons hrf.cons.cons hr.cons.cons hw))|(apply zg29;(apply Yw;exact za;exact rfl))|refine zgd ?_|(refine zgf ?_ ?_<;>intro zz<;>try(exfalso;omega))|(refine zgh ?_;intro zz)|fail));(repeat revert zz);exact q0.h):P:=h ⟨q0⟩
theorem zX98{P Q0:Prop}(q0:Q0)(h:Hid Q0→P:=by intro q0;(repeat'(first|((first|apply Ya Yuz|apply Yb Yuz);exact za;exact rfl;exact fun _ hw=>(p1 (hin.mono zk) (hq.mono zk) hw))|refine zgc ?_|(refine zge ?_ ?_<;>intro zz<;>try(exfalso;omega))|(refine zgh ?_;intro zz)|fail));(repeat revert zz);exact q0.h):P:=h ⟨q0⟩
theorem zX99{P Q0:Prop}(q0:Q0)(h:Hid Q0→P:=by intro q0;(repeat'(first|(apply Yl;try exact zl)|refine zgd ?_|(refine zge ?_ ?_<;>intro zz<;>try(exfalso;omega))|fail));(repeat revert zz);exact q0.h):P:=h ⟨q0⟩
theorem Yvh{P Q0:Prop}(q0:Q0)(h:Hid Q0→P:=by intro q0;(repeat'(first|((first|apply Y3 (cs:=[])|apply Xo (cs:=[]));exact rfl;exact Yxf;exact za;exact rfl;exact fun _ hw=>(hss hw))|refine zgd ?_|(refine zge ?_ ?_<;>intro zz<;>try(exfalso;omega))|fail));(repeat revert zz);exact q0.h):P:=h ⟨q0⟩
theorem Yvi{P Q0:Prop}(q0:Q0)(h:Hid Q0→P:=by intro q0;(repeat'(first|((first|apply Y3 (cs:=[])|apply Xo (cs:=[]));exact rfl;exact Yxg;exact za;exact rfl;exact fun _ hw=>(hss hw))|refine zgd ?_|(refine zge ?_ ?_<;>intro zz<;>try(exfalso;omega))|fail));(repeat revert zz);exact q0.h):P:=h ⟨q0⟩
theorem O8{P Q0:Prop}(q0:Q0)(h:Hid Q0→P:=by intro q0;(repeat'(first|refine zgc ?_|(refine zge ?_ ?_<;>intro zz<;>try(exfalso;omega))|(refine zgh ?_;intro zz)|fail));(repeat revert zz);exact q0.h):P:=h ⟨q0⟩
theorem YsA{P Q0:Prop}(q0:Q0)(h:Hid Q0→P:=by intro q0;(repeat'(first|refine zgc ?_|(refine zgf ?_ ?_<;>intro zz<;>try(exfalso;omega))|(refine zgh ?_;intro zz)|fail));(repeat revert zz);exact q0.h):P:=h ⟨q0⟩
theorem Yvj{P Q0:Prop}(q0:Q0)(h:Hid Q0→P:=by intro q0;(repeat'(first|(apply YbO;exact rfl;kernel_rfl;exact rfl)|refine zgd ?_|(refine zgf ?_ ?_<;>intro zz<;>try(exfalso;omega))|(refine zgh ?_;intro zz)|fail));(repeat revert zz);exact q0.h):P:=h ⟨q0⟩
theorem YnV{P Q0:Prop}(q0:Q0)(h:Hid Q0→P:=by intro q0;(repeat'(first|refine zgd ?_|(refine zgf ?_ ?_<;>intro zz<;>try(exfalso;omega))|(refine zgh ?_;intro zz)|fail));(repeat revert zz);exact q0.h):P:=h ⟨q0⟩
theorem YnW{P Q0:Prop}(q0:Q0)(h:Hid Q0→P:=by intro q0;(repeat'(first|refine zgc ?_|(refine zge ?_ ?_<;>intro zz<;>try(exfalso;omega))|(refine zgh ?_;intro zz)|(refine zgi ?_;intro zz zz)|fail));(repeat revert zz);exact q0.h):P:=h ⟨q0⟩
theorem YsB{P Q0:Prop}(q0:Q0)(h:Hid Q0→P:=by intro q0;(repeat'(first|((first|apply Ya QE|apply Yb QE);exact za;exact rfl;exact fun _ hw=>(hen hin.cons hw))|refine zgb ?_|(refine zge ?_ ?_<;>intro zz<;>try(exfalso;omega))|fail));(repeat revert zz);exact q0.h):P:=h ⟨q0⟩
theorem Yvk{P Q0:Prop}(q0:Q0)(h:Hid Q0→P:=by intro q0;(repeat'(first|(apply Yam (kt:=3) (et:=4);exact rfl;exact rfl;exact hmk;kernel_rfl;exact rfl;kernel_rfl;exact hmb;exact hb)|refine zgd ?_|(refine zge ?_ ?_<;>intro zz<;>try(exfalso;omega))|fail));(repeat revert zz);exact q0.h):P:=h ⟨q0⟩
theorem YsC{P Q0:Prop}(q0:Q0)(h:Hid Q0→P:=by intro q0;(repeat'(first|refine zgb ?_|(refine zge ?_ ?_<;>intro zz<;>try(exfalso;omega))|(refine zgi ?_;intro zz zz)|fail));(repeat revert zz);exact q0.h):P:=h ⟨q0⟩
theorem O9{P Q0:Prop}(q0:Q0)(h:Hid Q0→P:=by intro q0;(repeat'(first|(apply zg23;first|(refine zs52 ?_;intro zz)|(refine zs53 ?_;intro zz))|refine zgb ?_|(refine zgh ?_;intro zz)|fail));(repeat revert zz);exact q0.h):P:=h ⟨q0⟩
theorem Yvl{P Q0:Prop}(q0:Q0)(h:Hid Q0→P:=by intro q0;(repeat'(first|(apply Yk T;exact rfl;exact zm;exact rfl;exact zv;exact rfl;exact rfl)|refine zgb ?_|(refine zge ?_ ?_<;>intro zz<;>try(exfalso;omega))|fail));(repeat revert zz);exact q0.h):P:=h ⟨q0⟩
theorem Yvm{P Q0:Prop}(q0:Q0)(h:Hid Q0→P:=by intro q0;(repeat'(first|((first|apply Ya YbY|apply Yb YbY);exact za;exact rfl;exact fun _ hw=>(OB _ _ hw))|(refine zs6 ?_)|(refine zs7 ?_)|((refine zs52 ?_;intro zz))|refine zga ?_|fail));(repeat revert zz);exact q0.h):P:=h ⟨q0⟩
theorem Yvn{P Q0:Prop}(q0:Q0)(h:Hid Q0→P:=by intro q0;(repeat'(first|(apply zg29;(apply Yw;exact za;exact rfl))|refine zgc ?_|(refine zgf ?_ ?_<;>intro zz<;>try(exfalso;omega))|fail));(repeat revert zz);exact q0.h):P:=h ⟨q0⟩
theorem J5{P Q0:Prop}(q0:Q0)(h:Hid Q0→P:=by intro q0;(repeat'(first|(apply Yk T;exact rfl;exact zm;exact rfl;exact zv;exact rfl;exact rfl)|refine zgd ?_|fail));(repeat revert zz);exact q0.h):P:=h ⟨q0⟩
theorem Ye5{P Q0:Prop}(q0:Q0)(h:Hid Q0→P:=by intro q0;(repeat'(first|(apply Yk T;exact rfl;exact zm;exact rfl;exact zv;exact rfl;exact rfl)|refine zgd ?_|(refine zge ?_ ?_<;>intro zz<;>try(exfalso;omega))|(refine zgh ?_;intro zz)|fail));(repeat revert zz);exact q0.h):P:=h ⟨q0⟩
theorem YnX{P Q0:Prop}(q0:Q0)(h:Hid Q0→P:=by intro q0;(repeat'(first|(apply Yk T;exact rfl;exact zm;exact rfl;exact zv;exact rfl;exact rfl)|refine zgc ?_|fail));(repeat revert zz);exact q0.h):P:=h ⟨q0⟩
theorem Yvo{P Q0:Prop}(q0:Q0)(h:Hid Q0→P:=by intro q0;(repeat'(first|(apply Yk T;exact rfl;exact zm;exact rfl;exact zv;exact rfl;exact rfl)|refine zga ?_|(refine zge ?_ ?_<;>intro zz<;>try(exfalso;omega))|fail));(repeat revert zz);exact q0.h):P:=h ⟨q0⟩
theorem Ye6{P Q0:Prop}(q0:Q0)(h:Hid Q0→P:=by intro q0;(repeat'(first|(apply Yk T;exact rfl;exact zm;exact rfl;exact zv;exact rfl;exact rfl)|(apply Yl;try exact zl)|refine zgd ?_|fail));(repeat revert zz);exact q0.h):P:=h ⟨q0⟩
theorem QO{P Q0:Prop}(q0:Q0)(h:Hid Q0→P:=by intro q0;(repeat'(first|(apply Yk T;exact rfl;exact zm;exact rfl;exact zv;exact rfl;exact rfl)|refine zgd ?_|(refine zge ?_ ?_<;>intro zz<;>try(exfalso;omega))|fail));(repeat revert zz);exact q0.h):P:=h ⟨q0⟩
theorem Yvp{P Q0:Prop}(q0:Q0)(h:Hid Q0→P:=by intro q0;(repeat'(first|(apply Yk T;exact rfl;exact zm;exact rfl;exact zv;exact rfl;exact rfl)|refine zgb ?_|(refine zgh ?_;intro zz)|fail));(repeat revert zz);exact q0.h):P:=h ⟨q0⟩
theorem Yvq{P Q0:Prop}(q0:Q0)(h:Hid Q0→P:=by intro q0;(repeat'(first|(apply Yk T;exact rfl;exact zm;exact rfl;exact zv;exact rfl;exact rfl)|((first|apply Ya en56|apply Yb en56);exact za;exact rfl;exact fun _ hw=>(p5 (Rd.sl zm) (hf.mono zk) hw))|refine zgd ?_|(refine zge ?_ ?_<;>intro zz<;>try(exfalso;omega))|fail));(repeat revert zz);exact q0.h):P:=h ⟨q0⟩
theorem Yvr{P Q0:Prop}(q0:Q0)(h:Hid Q0→P:=by intro q0;(repeat'(first|((first|apply Ya Yf9|apply Yb Yf9);exact za;exact rfl;exact fun _ hw=>(Yac n _ _ hin.cons hw))|(apply zg28;refine zs84 ?_)|refine zgd ?_|(refine zgf ?_ ?_<;>intro zz<;>try(exfalso;omega))|(refine zgh ?_;intro zz)|fail));(repeat revert zz);exact q0.h):P:=h ⟨q0⟩
theorem YnY{P Q0:Prop}(q0:Q0)(h:Hid Q0→P:=by intro q0;(repeat'(first|((first|apply Ya en61|apply Yb en61);exact za;exact rfl;exact fun _ hw=>(hck hin.cons hw))|refine zgb ?_|(refine zge ?_ ?_<;>intro zz<;>try(exfalso;omega))|(refine zgh ?_;intro zz)|fail));(repeat revert zz);exact q0.h):P:=h ⟨q0⟩
theorem Yvs{P Q0:Prop}(q0:Q0)(h:Hid Q0→P:=by intro q0;(repeat'(first|((first|apply Ya Ynl|apply Yb Ynl);exact za;exact rfl;exact fun _ hw=>(hgd hin.cons.cons.cons hw))|((first|apply Ya Yu7|apply Yb Yu7);exact za;exact rfl;exact fun _ hw=>(hhs hrr.cons.cons.cons hw))|refine zgd ?_|(refine zge ?_ ?_<;>intro zz<;>try(exfalso;omega))|fail));(repeat revert zz);exact q0.h):P:=h ⟨q0⟩
theorem Yvt{P Q0:Prop}(q0:Q0)(h:Hid Q0→P:=by intro q0;(repeat'(first|((first|apply Ya Ynd|apply Yb Ynd);exact za;exact rfl;exact fun _ hw=>(Yab n s t hin.cons hw))|refine zgb ?_|(refine zge ?_ ?_<;>intro zz<;>try(exfalso;omega))|fail));(repeat revert zz);exact q0.h):P:=h ⟨q0⟩
theorem Yvu{P Q0:Prop}(q0:Q0)(h:Hid Q0→P:=by intro q0;(repeat'(first|((first|apply Ya Ynd|apply Yb Ynd);exact za;exact rfl;exact fun _ hw=>(hen hin.cons hw))|refine zgb ?_|(refine zge ?_ ?_<;>intro zz<;>try(exfalso;omega))|fail));(repeat revert zz);exact q0.h):P:=h ⟨q0⟩
theorem YsD{P Q0:Prop}(q0:Q0)(h:Hid Q0→P:=by intro q0;(repeat'(first|((first|apply Ya Ym4|apply Yb Ym4);exact za;exact rfl;exact fun _ hw=>(hck hw))|refine zgd ?_|(refine zgf ?_ ?_<;>intro zz<;>try(exfalso;omega))|fail));(repeat revert zz);exact q0.h):P:=h ⟨q0⟩
end Go.Eng
namespace Go
variable {p:Prop}
theorem zc0(h:p:=by exact zk):p:=h
theorem zc1(h:p:=by exact zu):p:=h
theorem zc2(h:p:=by repeat(first|with_reducible exact Tz|with_reducible apply TA|assumption)):p:=h
theorem zc3(h:p:=by repeat(first|with_reducible exact Perm.refl _|(with_reducible apply YbB;focus((repeat(first|with_reducible exact Ys|with_reducible apply YA));done))|with_reducible apply Perm.dropK)):p:=h
theorem zc4(h:p:=by apply Yd;exact rfl;exact rfl;exact⟨rfl,rfl⟩):p:=h
theorem zc5(h:p:=by
 apply YX [0,1,2,3,4,5,6,7,8,9,10] [] [true,true]
 kernel_rfl
 kernel_rfl
 exact zy
 (simp only[Yh,nthO];rfl)
 exact rfl
 refine zX0 ?_<;>intros
 apply Yi H
 ·exactλw hw=>hw.tail.tail
 apply YM;(iterate 3 exact rfl)
 exact⟨rfl,⟨by simp only;omega,by simp only;omega⟩,rfl⟩):p:=h
theorem zc6(h:p:=by
 cases b1<;>cases b2
 all_goals(
  repeat'(first|(apply Yam (kt:=3) (et:=4);exact rfl;exact rfl;exact TA _ hm;kernel_rfl;exact rfl;kernel_rfl;exact hf;first|exact h1|exact h2)|refine zgd ?_|(refine zge ?_ ?_<;>intro _<;>try exact zo)|(refine zgh ?_;intro _)|fail)
  all_goals(apply Yj;apply Yd;exact rfl;exact rfl;exact⟨rfl,rfl⟩))):p:=h
theorem zc7(h:p:=by
 ·refine zX1 ?_<;>intros
  apply Yd;exact rfl;exact rfl
  rw[hi,Ru (by omega)]
  exact⟨rfl,rfl⟩):p:=h
theorem zc8(h:p:=by apply YM;(iterate 3 exact rfl);exact⟨rfl,rfl⟩):p:=h
theorem zc9(h:p:=by
 ·refine zX1 ?_<;>intros
  apply Yd;exact rfl;exact rfl
  rw[T0 (by omega),T0 (by omega)]at hi
  exact⟨by rw[Td hi],rfl⟩):p:=h
theorem zc10(h:p:=by
 ·rw[hpv]at hi
  refine zX2 ?_
  apply Yd;exact rfl;exact rfl
  grind):p:=h
theorem zc11(h:p:=by apply Yd;exact rfl;exact rfl;simp_all):p:=h
theorem zc12(h:p:=by
 refine zX3 ?_<;>intros
 apply Yd;exact rfl;exact rfl
 exact⟨by rw[Ti λe=>hll (by rw[e])],rfl⟩):p:=h
theorem zc13(h:p:=by
 repeat'(first|(apply ZE;(iterate 3 exact rfl))|(apply Y1 T;exact rfl;exact rfl;intro g2)|refine zga ?_|fail)
 apply Xy T (f:=numF) (l2:=l) (e:=3) (size:=1) (xs:=[]);(iterate 3 exact rfl);exact hr.cons;exact(λ_=>rfl);exact(λ_=>rfl);exact rfl;(intro _ _;exact zd);omega;intro A' cap'
 refine zX4 ?_
 rw[RH,TK]
 apply Yd;exact rfl;exact rfl;grind):p:=h
theorem zc14(h:p:=by
 ·skip
  repeat'(first|(apply WF (ZO word (l.take i)) [10];(iterate 3 exact rfl);(show _+1<=_;omega))|refine zgc ?_|(refine zge ?_ ?_<;>intro _<;>try exact zo)|fail)
  apply Yd;exact rfl;exact rfl
  rw[show i=l.length by omega,TV]
  exact⟨rfl,rfl⟩):p:=h
theorem zc16(h:p:=by
 have hget:((List.map toE (l1++(k,v0,b)::l2)).toArray)[l1.length]? =some (toE (k,v0,b)):=by simp_all
 have hmod:((List.map toE (l1++(k,v0,b)::l2)).toArray).modify l1.length (λe=>{e with key:=.int .i64 k,val:=v})=(List.map toE (l1++(k,v,b)::l2)).toArray:=by
  grind [toE,Yeb]
 have hks:(Instr.keyThatStays (.int .i64 k) (.int .i64 k)).run P w=.ok (.int .i64 k) w:=by
  unfold Instr.keyThatStays;simp[Instr.sameBits]
 have hkey:(Option.map (λx:MapEntry=>x.key) (some (toE (k,v0,b)))).getD (.int .i64 k)=.int .i64 k:=rfl
 have hrun:(Instr.mapUpdate t (.map (some g)) (.int .i64 k) v).run P w=.ok () (setBlock w g (mobj (l1++(k,v,b)::l2) clock)):=by
  simp only[Instr.mapUpdate,Sem.run_bind,run_underlying h1,getObj,Sem.run,hb,Jh _ h2,MapKept.run_findKey h2 hf,hget,hkey,hks,hmod,Result.andThen,MapKept.run_setObj_map _ hb,setBlock,mobj]
 simp[execOp,ha.eval hx,ha.eval hy,ha.eval hv,hrun]):p:=h
theorem zc17(h:p:=by·exactλw hw=>hw):p:=h
theorem zc18(h:p:=by
 repeat'(first|(apply(zs20 ?_ ?_)<;>intro _<;>try(omega))|refine zga ?_|fail)
 apply Yd;exact rfl;exact rfl
 simp_all):p:=h
theorem zc19(h:p:=by
 have hb: -9223372036854775808<=n.thr*(n.noise+d)/\n.thr*(n.noise+d)<=9223372036854775807:=Ytu hok hd.1 hd.2
 have hz0:0<=n.noise:=hok.z0
 have hz1:n.noise<=68719476736:=hok.z1
 unfold Z2
 show VC Tryz.prog _ B w0 _ (bodyPost Tryz.prog _ (Post B w0 λv K=>v=.bool (decide (n.thr*(n.noise+d)<=s*1000))/\K=H)) _ _
 repeat'(first|refine zgd ?_|(refine zgf ?_ ?_<;>intro _<;>try exact zo)|(refine zgh ?_;intro _)|fail)
 ·(repeat apply Yj);apply Yd;exact rfl;exact rfl
  simp_all
 ·(repeat apply Yj);apply Yd;exact rfl;exact rfl
  simp_all):p:=h
theorem zc20(h:p:=by(intro w hw;refine hw.perm ?_;focus repeat(first|with_reducible exact Perm.refl _|(with_reducible focus(done))|with_reducible apply Perm.dropK))):p:=h
theorem zc21(h:p:=by
 refine zX3 ?_<;>intros
 apply Yd;exact rfl;exact rfl
 exact⟨by rw[Ti λe=>hll (by have:=TE List.length e;grind)],rfl⟩):p:=h
theorem zc22(h:p:=by
 repeat'(first|refine zgd ?_|(refine zgf ?_ ?_<;>intro _<;>try exact zo)|fail)
 all_goals(apply Yd;exact rfl;exact rfl;exact⟨_,q1,rfl,hp,rfl⟩)):p:=h
theorem zc23(h:p:=by
 refine zX7 ?_
 apply X9 3 1;apply Yd;exact rfl;exact rfl;exact⟨none,0,rfl,rfl⟩):p:=h
theorem zc24(h:p:=by
 apply Yd;exact rfl;exact rfl
 simp_all):p:=h
theorem zc25(h:p:=by repeat(first|exact hinm|apply NetM.In.cons)):p:=h
theorem zc26(h:p:=by
 apply Yd;exact rfl;exact rfl
 have hne:¬(l.map (·.xs)=m.map (·.xs)):=λe=>by
  have h1:(l.map (·.xs))[k]? =(m.map (·.xs))[k]? :=by rw[e]
  rw[TR,TR,ha,hb]at h1
  exact hab (Tv h1)
 exact⟨by rw[Ti hne],rfl⟩):p:=h
theorem zc27(h:p:=by
 ((repeat apply Yj);apply Yd;exact rfl;exact rfl;refine⟨TE _ ?_,rfl⟩)
 rw[hi,Ru (by omega)];rfl):p:=h
theorem zc28(h:p:=by simp only;omega):p:=h
theorem zc29(h:p:=by rw[Ro];exact Perm.refl _):p:=h
theorem zc30(h:p:=by
 refine zX4 ?_
 rw[RH,TK]
 apply Yd;exact rfl;exact rfl;grind):p:=h
theorem zc31(h:p:=by
 ·refine zX1 ?_<;>intros
  apply Yd;exact rfl;exact rfl
  rw[T0 (by omega),T0 (by omega)]at hi
  exact⟨by rw[Td hi],rfl⟩):p:=h
theorem zc32(h:p:=by
 ·refine zX1 ?_<;>intros
  (repeat apply Yj);apply Yd;exact rfl;exact rfl
  have ek:r.length-1=k:=by omega
  exact⟨by unfold JQ;rw[ek],rfl⟩):p:=h
theorem zc33(h:p:=by
 cases x<;>simp only[Oper.upon,Oper.uponIn]at h2⊢<;>first
  |exact h2
  |(refine⟨λhd=>by simp[Fence.wide]at hd,?_⟩
    refine CallsIn.mono (callsIn_wide.2 h2) λe w'' he=>?_
    cases e<;>exact he)
  |(refine⟨λhd=>by simp[Fence.wide]at hd,λc cs _=>?_⟩
    obtain⟨v,w2,k1,k2⟩:=h2 c cs
    exact⟨v,w2,k1,stepsIn_wide.2 k2⟩)
  |exact h2.elim):p:=h
theorem zc34(h:p:=by
 ((repeat apply Yj);apply Yd;exact rfl;exact rfl;refine⟨TE _ ?_,rfl⟩)
 rw[hi]):p:=h
theorem zc35(h:p:=by
 obtain⟨g,o,e,_⟩:=hr w hw 0 _ rfl
 cases e):p:=h
theorem zc36(h:p:=by apply Yd;exact rfl;exact rfl;exact⟨none,0,rfl,rfl⟩):p:=h
theorem zc37(h:p:=by
 refine zX8 ?_
 ((repeat apply Yj);apply Yd;exact rfl;exact rfl;refine⟨TE _ ?_,rfl⟩)
 simp_all):p:=h
theorem zc38(h:p:=by
 have hc:=Xp (i:=0) (hw.blk hb).1
 have h:(loadVar 413 ⟨g,0,none⟩).run Tryz.prog w=.ok v w:=by
  simp_all [loadVar]
 simp_all):p:=h
theorem zc39(h:p:=by dsimp only;omega):p:=h
theorem zc40(h:p:=by apply YM;(iterate 3 exact rfl);simp_all):p:=h
theorem zc41(h:p:=by
 ((repeat apply Yj);apply Yd;exact rfl;exact rfl;refine⟨TE _ ?_,rfl⟩)
 (repeat(first|refine Xu (by omega) ?_|refine Xv (by omega) ?_))
 rw[hi];exact(YjO n.net hlt (by assumption)).symm):p:=h
theorem zc42(h:p:=by exact⟨by omega,by rw[TN,TN,ha,hb,Rb,Rb,hi];simp[hab]⟩):p:=h
theorem zc43(h:p:=by
 unfold mar
 rw[Tu,show n.net.margin=n.margin from rfl,Ta (by omega)];rfl):p:=h
theorem zc44(h:p:=by
 rcases hown.2 with⟨e1,e2⟩|⟨g,c,cur,e1,_,_,e4,_⟩
 all_goals simp_all):p:=h
theorem zc45(h:p:=by repeat(first|exact hin|apply NetM.In.cons)):p:=h
theorem zc46(h:p:=by
 ((repeat apply Yj);apply Yd;exact rfl;exact rfl;refine⟨TE _ ?_,rfl⟩)
 (repeat(first|refine Xu (by omega) ?_|refine Xv (by omega) ?_))
 rw[hi,show n.links.length-k=0 by omega];rfl):p:=h
theorem zc47(h:p:=by
 (repeat apply Yj);apply Yd;exact rfl;exact rfl
 exact⟨rfl,rfl⟩):p:=h
theorem zc48(h:p:=by
 refine⟨by omega,by omega,h3,λj x hj hx=>?_⟩
 by_cases e:j=(lo+hi)/2
 ·rw[e,hb2]at hx
  injection hx with hx;subst hx;exact hc
 ·exactλh=>hc (Int.lt_trans (ho _ j b x (by omega) hb2 hx) h)):p:=h
theorem zc49(h:p:=by
 rw[ho]at b3
 have hg:=h.1
 rw[XE hl ho]at hg
 exact Ul ho b3 hi (λe a w hne=>by cases e<;>simp_all) hS hg λa w hS' h'=>JL hs hQ hlo l hl hlast t k _ a w (hcl.set hx) b7 hS' h'):p:=h
theorem zc50(h:p:=by
 rename_i h
 apply Yd;exact rfl;exact rfl
 exact⟨by rw[Ti λe=>by simp_all],rfl⟩):p:=h
theorem zc51(h:p:=by exactλw hw=>hw.tail):p:=h
theorem zc52(h:p:=by
 refine⟨by omega,by omega,λj x hj hx=>?_,h4⟩
 by_cases e:j=(lo+hi)/2
 ·rw[e,hb2]at hx
  injection hx with hx;subst hx;exact hc
 ·exact Int.lt_trans (ho j _ x b (by omega) hx hb2) hc):p:=h
theorem zc53(h:p:=by exact St.nilSlice (h5.perm (.openT H)) _ _):p:=h
theorem zc54(h:p:=by
 apply Yi (ints none 0 []::H)
 ·exactλw hw=>(hw.front 2).tail.tail.tail.nilSlice _ _
 apply YM;(iterate 3 exact rfl)
 exact⟨none,0,rfl,λ_=>rfl,λ_=>hdd,rfl⟩):p:=h
theorem zc55(h:p:=by
 refine zX4 ?_
 rw[RH,TK]
 apply Yd;exact rfl;exact rfl;exact⟨A',cap',rfl,rfl⟩):p:=h
theorem zc56(h:p:=by all_goals(((repeat apply Yj);apply Yd;exact rfl;exact rfl;refine⟨TE _ ?_,rfl⟩);(repeat(first|refine Xu (by omega) ?_|refine Xv (by omega) ?_));rfl)):p:=h
theorem zc57(h:p:=by simp[execOp,resolve,invoke,ha.eval hx,ha.eval hy,he,Deferred.ofValue,hr,hov,Result.andThen]):p:=h
theorem zc58(h:p:=by
 apply Yhd;(iterate 5 exact rfl)
 exact⟨none,0,rfl,rfl⟩):p:=h
theorem zc59(h:p:=by
 rw[XE hl ho]at hg
 exact Ul ho b4 hj (λe a w hne=>by cases e<;>simp_all) hS hg λa w hS' h'=>JL hs hQ hlo l hl hlast u k _ a w (hcl.set hx) b8 hS' h'):p:=h
theorem zc60(h:p:=by
 apply Yd;exact rfl;exact rfl
 exact⟨A',cap',by rw[To];rfl,rfl⟩):p:=h
theorem zc61(h:p:=by simp[execOp,resolve,invoke,builtin,ha.eval hx,Builtin.clear_,run_underlying hut]):p:=h
theorem zc63(h:p:=by simp_all [Go.Instr.sliceBounds,Go.Instr.sliceBound,asIntOf]):p:=h
theorem zc65(h:p:=by
 obtain⟨r,hr,hiff⟩:=Yez w hl
 simp_all [binOp]):p:=h
theorem zc66(h:p:=by
 obtain⟨L1,L2,rfl,_⟩:=hu
 exact(hw.blk (by simp)).1):p:=h
theorem zc67(h:p:=by
 intro w hw
 refine hw.shrink (e:=64) (size:=5) (cap:=cap) (A:=A) (xs:=M.flatMap celF) (k:=M.length) (k':=i) (by omega) ?_
 rw[hfl]
 exact Upd.here _):p:=h
theorem zc68(h:p:=by
 apply VW;(iterate 4 exact rfl)
 exact YrS _ _ rfl rfl):p:=h
theorem zc70(h:p:=by rintro _ _ ⟨rfl,rfl⟩;exact h):p:=h
theorem zc71(h:p:=by show i+1<=_;omega):p:=h
theorem zc72(h:p:=by(repeat(first|with_reducible exact Ys|with_reducible apply YA))):p:=h
theorem zc73(h:p:=by exact .inl ⟨rfl,rfl,rfl⟩):p:=h
theorem zc74(h:p:=by
 apply Yd;exact rfl;exact rfl
 exact⟨rfl,rfl⟩):p:=h
theorem zc75(h:p:=by
 apply VW;(iterate 4 exact rfl)
 exact Yt2 rfl rfl):p:=h
theorem zc76(h:p:=by exact h5.perm (.cons _ (.cons _ (.openT H)))):p:=h
theorem zc77(h:p:=by
 have:=(List.takeWhile_prefix (p:=λy:Rqs=>decide (y.1.1<x.f.1)) (l:=q.map RqM.rq)).length_le
 rw[TB]at this
 exact this):p:=h
theorem zc78(h:p:=by
 rw[T0 (by rw[Rq];omega)]at h1
 exact h1):p:=h
theorem zc79(h:p:=by
 unfold Yu at hF
 split at hF
 ·cases hF
 split at hF
 ·cases hF
 ·omega):p:=h
theorem zc80(h:p:=by exact h5.perm (.cons _ (.cons _ (.cons _ (.openT H))))):p:=h
theorem zc81(h:p:=by
 rw[hF,Zl (i:=k) (λj _ hj=>by simp only[hall j hj];rfl) (Tm _) (by omega) (by simp only[htw];decide)]
 simp[htw]):p:=h
theorem zc82(h:p:=by exact h5.blk_sl (cs:=[Value.slice Ar r.length capr,.slice A9 (Jn nodes L s to r).length cap9]) (len:=2) (size:=1) rfl (by omega)):p:=h
theorem zc83(h:p:=by exact⟨s1,true,P,rfl,λ_=>⟨hrel.symm,hF.rd.mono λw hw=>hw.perm (.cons _ (.closeT H))⟩,λh=>(by cases h),rfl⟩):p:=h
theorem zc84(h:p:=by apply Yd;exact rfl;exact rfl;first|exact⟨rfl,rfl⟩|omega):p:=h
theorem zc85(h:p:=by
 have hr:=JZ T (A:=A) ht hb2
 simp only[execOp,ha.eval hx,Ss,ha.eval hl,Option.map_none]
 simp[hr,subA]):p:=h
theorem zc86(h:p:=by
 apply Yd;exact rfl;exact rfl
 exact⟨_,cap,by rw[hli],rfl⟩):p:=h
theorem zc87(h:p:=by
 have e1:(M.drop j)[0]? =(l.drop j)[0]? :=by rw[hd]
 rw[RI,RI,Nn,ha]at e1
 exact e1):p:=h
theorem zc88(h:p:=by apply YM;(iterate 3 exact rfl);exact⟨_,rfl,rfl⟩):p:=h
theorem zc89(h:p:=by
 apply Yd;exact rfl;exact rfl
 exact⟨_,c2,by rw[hli],rfl⟩):p:=h
theorem zc90(h:p:=by grind [TN]):p:=h
theorem zc91(h:p:=by grind [Go.Proofs.YtaholidehobiiaaGreatDoor.RqM.fl,TN]):p:=h
theorem zc92(h:p:=by
 rw[TB,TB,TT]at this
 omega):p:=h
theorem zc93(h:p:=by
 simp only[execOp,resolve,ha.eval hx,hmap,Deferred.ofValue,Sem.run_bind,Sem.run_pure,Result.andThen_ok,invoke]
 simp_all):p:=h
theorem zc94(h:p:=by
 apply Yi H
 ·exactλw hw=>hw.tail.tail.tail.tail
 apply YM;(iterate 3 exact rfl)
 exact⟨rfl,rfl⟩):p:=h
theorem zc96(h:p:=by rintro⟨_,_,_,_,h,_⟩;cases h):p:=h
theorem zc97(h:p:=by
 apply Yd;exact rfl;exact rfl
 exact⟨A2,cap2,rfl,rfl⟩):p:=h
theorem zc98(h:p:=by
 exact⟨by omega,λj h1 h2=>by
  rcases RZ.1 h2 with h|rfl
  ·exact hz j h1 h
  ·exact hFz⟩):p:=h
theorem zc99(h:p:=by exact .inr ⟨p,_,h1,rfl,(hp _ (UW (cap:=c4) (.head _))).mono λw hw=>(hw.perm (.open_ [_,_] H)),rfl⟩):p:=h
theorem YsE(h:p:=by exact za):p:=h
theorem YsF(h:p:=by
 by_cases e:k=i
 ·rw[e];exact h
 ·exact hall k (by omega)):p:=h
theorem Yvv(h:p:=by
 rw[show((i:Int)-1).toNat=i-1 by omega]
 exact Xg (s:=s.sch) (show i-1<s.cells.length by omega)):p:=h
theorem Yvw(h:p:=by
 exact⟨by omega,λj h2=>by
  rcases RZ.1 h2 with h|rfl
  ·exact hz j h
  ·exact hkt⟩):p:=h
theorem Yvx(h:p:=by
 rw[YeK]
 refine zX9 ?_
 apply Yd;exact rfl;exact rfl
 exact⟨by rw[hil],by rw[hil]⟩):p:=h
theorem Yvy(h:p:=by
 simp only
 rw[hft,TN,S0 (by omega),List.take_set_of_le (TJ _)]
 rfl):p:=h
theorem Yvz(h:p:=by
 show(q++[x]).map RqM.rq=_
 rw[Rb,hq,hst]
 exact TE _ (TE (λz=>[z]) hx)):p:=h
theorem YvA(h:p:=by
 refine⟨by omega,λj hj=>?_⟩
 by_cases e:j=k
 ·rw[e];exact htw
 ·exact hall j (by omega)):p:=h
theorem YnZ(h:p:=by
 apply Yd;exact rfl;exact rfl
 grind):p:=h
theorem YkO(h:p:=by apply Vq;all_goals simp_all):p:=h
theorem YvB(h:p:=by
 rw[<-hFd]
 show(reqE n.net (Xj l i)).2=_
 unfold Xj
 rw[Tu,h];rfl):p:=h
theorem YgT(h:p:=by rw[TT];omega):p:=h
theorem Qa(h:p:=by exact Tm _):p:=h
theorem YvE(h:p:=by cases x<;>simp only[Oper.upon,Oper.uponIn]at h2⊢<;>first|exact h2|exact h2.elim):p:=h
theorem YsG(h:p:=by
 split at h
 all_goals simp_all [Go.Program.plainKey]):p:=h
theorem YvF(h:p:=by
 obtain⟨hk3,rfl⟩:=Tj.1 ha
 exact Rl hk3):p:=h
theorem Yn0(h:p:=by exact TC.2 ⟨r,hr,rfl⟩):p:=h
theorem YsH(h:p:=by grind [Go.Proofs.YtaholidehobiiaaGreatDoor.RqM.fl]):p:=h
theorem YvG(h:p:=by
 split
 ·exact T9 (RX _ _) (RX _ _)
 grind):p:=h
theorem YvH(h:p:=by
 have:=(Re.1 h).1
 split at this
 ·exact(Re.1 this).1
 omega):p:=h
theorem YsI(h:p:=by grind [Ru,Rq]):p:=h
theorem YvJ(h:p:=by
 ·rcases RZ.1 h2 with h|rfl
  ·exact hz j h1 h
  ·exact hFi):p:=h
theorem YvK(h:p:=by
 apply YM;(iterate 3 exact rfl)
 exact⟨A1,c1,iA,ic,rfl,rfl⟩):p:=h
theorem Yn1(h:p:=by exact h5.perm (.cons _ (.openT H))):p:=h
theorem YsJ(h:p:=by exact(h5.perm (.noMany _)).perm (.swap _ _ _)):p:=h
theorem YvL(h:p:=by
 rw[TN,ha,SY,ht]
 cases hpv:p a<;>simp[hpv]):p:=h
theorem YsK(h:p:=by exact⟨by omega,by simp_all [YpT]⟩):p:=h
theorem YgU(h:p:=by simp[World.frozen?,hb]):p:=h
theorem YvM(h:p:=by rw[List.drop_set_of_lt (by omega),<-Np,<-Np,hd]):p:=h
theorem YsL(h:p:=by rw[hin,TV,SG]):p:=h
theorem YvN(h:p:=by exact⟨by omega,by rw[hi];exact YjN n.net hlt (by assumption)⟩):p:=h
theorem YvO(h:p:=by
 rw[show((i:Int)-1).toNat=i-1 by omega]
 exact QY (by omega)):p:=h
theorem YvP(h:p:=by
 rw[TG.1 hx]
 exact⟨by show r.length<=_;omega,hcap⟩):p:=h
theorem YvQ(h:p:=by exact⟨gL,Ar,capr,A9,cap9,rfl,⟨hr2,by omega,hq⟩,hway,rfl⟩):p:=h
theorem YsM(h:p:=by unfold RqM.fl;rw[TB];omega):p:=h
theorem YvR(h:p:=by
 ·refine .inr ⟨j+1,by simp_all,by omega,?_,b,h4,h5⟩
  simp_all):p:=h
theorem Yn2(h:p:=by exact RX _ _):p:=h
theorem YsN(h:p:=by rw[TB];exact TJ _):p:=h
theorem YvS(h:p:=by
 simp only
 rw[TN,h4,SY,h3]
 simp[h5]):p:=h
theorem Yn3(h:p:=by exact⟨by omega,hstep hf⟩):p:=h
theorem YvT(h:p:=by exact(h5.perm (.cons _ (.cons _ (.openT H)))).perm (.close [_,_] H)):p:=h
theorem YsO(h:p:=by rintro _ _ ⟨g,rfl,rfl⟩;exact h g):p:=h
theorem Yn4(h:p:=by rintro⟨_,_,h⟩;exact h):p:=h
theorem YvU(h:p:=by exact⟨_,H,w,by simp[execOp,ha.eval hx,hr],hw,rfl,rfl⟩):p:=h
theorem Yn5(h:p:=by rwa [TB]at this):p:=h
theorem YvV(h:p:=by show x.s.len-(rel+x.f.2.2.2.1)<=((k:Nat):Int);omega):p:=h
theorem YgV(h:p:=by exactλw hw=>hw):p:=h
theorem YgW(h:p:=by rw[TB]):p:=h
theorem YvW(h:p:=by simp only[To,TO];omega):p:=h
theorem YvX(h:p:=by
 intro args h
 obtain⟨z,_,rfl⟩:=TC.1 h
 rfl):p:=h
theorem YvY(h:p:=by rw[h]at hk;exact⟨z,rfl,(Tv hk).symm⟩):p:=h
theorem YvZ(h:p:=by rw[show i-1=((i:Int)-1).toNat by omega];exact hq):p:=h
theorem Yv0(h:p:=by simp only;rw[<-Np,<-Np,hd]):p:=h
theorem Yv1(h:p:=by unfold YT;rw[Tf he,Tf (λh=>hle h.2)]):p:=h
theorem Yv2(h:p:=by rw[hl]at hx;cases hx;exact h4 lo y (TJ _) hl):p:=h
theorem Yv3(h:p:=by
 unfold Jo at h3
 have h4:=Rj h3
 omega):p:=h
theorem Yv4(h:p:=by exactλw hw=>hw.perm (.cons _ (.dropK (.drop _ _)))):p:=h
theorem YsP(h:p:=by simp_all [List.take_of_length_le]):p:=h
end Go
namespace Go.Eng
open Go.RowKit
variable {α:Type}
theorem Xv{c:Prop}[Decidable c]{x a b:α}(hc:c)(h:x=a):x=if c then a else b:=by rw[Tn hc];exact h
theorem Xu{c:Prop}[Decidable c]{x a b:α}(hc:¬c)(h:x=b):x=if c then a else b:=by rw[Tf hc];exact h
variable {b:Int}
theorem YrD{a:Int}(h0:0<=a)(h1:a<=1000000)(h2:0<=b)(h3:b<=1000000000000): -9223372036854775808<=a*b/\a*b<=9223372036854775807:=by
 have h4:0<=a*b:=Int.mul_nonneg h0 h2
 have h5:a*b<=1000000*b:=SR h1 h2
 omega
theorem YtS{a:Int}(h0:0<=b)(h1:b<=1000000)(h2:0<=a)(h3:a<=1000000000000): -9223372036854775808<=a*b/\a*b<=9223372036854775807:=by
 rw[Int.mul_comm];exact YrD h0 h1 h2 h3
structure HP where
 holds:(Nat->Prop)->World->Prop
 loc:∀{S:Nat->Prop}{w w':World},(∀b,S b->w'.heap[b]? =w.heap[b]?)->holds S w->holds S w'
def blk(g:Nat)(o:Obj):HP:=⟨λS w=>S g/\w.heap[g]? =some o,λh ⟨hs,hg⟩=>⟨hs,(h _ hs).trans hg⟩⟩
def sepL:List HP->(Nat->Prop)->World->Prop
 |[],_,_=>True
 |A::L,S,w=>∃S1 S2:Nat->Prop,(∀b,S1 b->S b)/\(∀b,S2 b->S b)/\(∀b,S1 b->¬S2 b)/\A.holds S1 w/\sepL L S2 w
variable {L M H:List HP}{S:Nat->Prop}{w w0 w':World}
theorem V7{T:Nat->Prop}(h:sepL L S w)(hs:∀b,S b->T b):sepL L T w:=by
 cases L with
 |nil=>trivial
 |cons A L=>
  obtain⟨S1,S2,h1,h2,h3,h4,h5⟩:=h
  exact⟨S1,S2,λb hb=>hs b (h1 b hb),λb hb=>hs b (h2 b hb),h3,h4,h5⟩
theorem Ya2:∀{S:Nat->Prop}{w w':World},sepL L S w->(∀b,S b->w'.heap[b]? =w.heap[b]?)->sepL L S w':=by
 induction L with
 |nil=>intros;trivial
 |cons A L ih=>
  intro S w w' h hs
  obtain⟨S1,S2,h1,h2,h3,h4,h5⟩:=h
  exact⟨S1,S2,h1,h2,h3,A.loc (λb hb=>hs b (h1 b hb)) h4,ih h5 (λb hb=>hs b (h2 b hb))⟩
variable {A A':HP}
theorem YpG{B:HP}(h:sepL (A::B::L) S w):sepL (B::A::L) S w:=by
 obtain⟨S1,S2,h1,h2,h3,h4,T1,T2,k1,k2,k3,k4,k5⟩:=h
 refine⟨T1,λb=>S1 b\/T2 b,λb hb=>h2 b (k1 b hb),λb hb=>hb.elim (h1 b) (λhb=>h2 b (k2 b hb)),λb hb hc=>?_,k4,S1,T2,λb hb=>.inl hb,λb hb=>.inr hb,λb hb hc=>h3 b hb (k2 b hc),h4,k5⟩
 rcases hc with hc|hc
 ·exact h3 b hc (k1 b hb)
 ·exact k3 b hb hc
theorem YgK(h:sepL (A::L) S w):sepL L S w:=by
 obtain⟨S1,S2,_,h2,_,_,h5⟩:=h
 exact V7 h5 h2
structure Perm(L M:List HP):Prop where
 go:∀(S:Nat->Prop) (w:World),sepL L S w->sepL M S w
theorem Perm.refl(L:List HP):Perm L L:=⟨λ_ _ h=>h⟩
theorem Perm.cons(A:HP)(p:Perm L M):Perm (A::L) (A::M):=by
 refine⟨λS w h=>?_⟩
 obtain⟨S1,S2,h1,h2,h3,h4,h5⟩:=h
 exact⟨S1,S2,h1,h2,h3,h4,p.go _ _ h5⟩
theorem Perm.swap(A B:HP)(L:List HP):Perm (A::B::L) (B::A::L):=⟨λ_ _=>YpG⟩
theorem Perm.trans{N:List HP}(p:Perm L M)(q:Perm M N):Perm L N:=⟨λ_ _ h=>q.go _ _ (p.go _ _ h)⟩
def front:Nat->List HP->List HP
 |0,L=>L
 |_,[]=>[]
 |k+1,A::L=>match front k L with
  |[]=>A::L
  |B::M=>B::A::M
theorem Yei:∀(k:Nat) (L:List HP),Perm L (front k L)
 |0,L=>.refl L
 |_+1,[]=>.refl []
 |k+1,A::L=>by
  have h:=Yei k L
  show Perm (A::L) (match front k L with|[]=>A::L|B::M=>B::A::M)
  split
  ·exact .refl _
  ·rename_i B M e
   rw[e]at h
   exact .trans (.cons A h) (.swap A B M)
structure St(B:Nat)(w0:World)(H:List HP)(w:World):Prop where
 below:Below B w0 w
 le:B<=w.heap.size
 sep:sepL H (λb=>B<=b/\b<w.heap.size) w
theorem St.start(w:World):St w.heap.size w [] w:=⟨Below.refl _ _,TJ _,trivial⟩
variable {B g i d:Nat}
theorem St.perm{K:List HP}(h:St B w0 H w)(p:Perm H K):St B w0 K w:=⟨h.below,h.le,p.go _ _ h.sep⟩
theorem St.front(h:St B w0 H w)(k:Nat):St B w0 (Eng.front k H) w:=h.perm (Yei k H)
theorem St.tail(h:St B w0 (A::H) w):St B w0 H w:=⟨h.below,h.le,YgK h.sep⟩
theorem Yh7(hA:A∈L):∀{S:Nat->Prop}{w:World},sepL L S w->∃S1:Nat->Prop,(∀b,S1 b->S b)/\A.holds S1 w:=by
 induction L with
 |nil=>cases hA
 |cons B L ih=>
  intro S w h
  obtain⟨S1,S2,h1,h2,_,h4,h5⟩:=h
  rcases TL.1 hA with e|e
  ·subst e;exact⟨S1,h1,h4⟩
  ·obtain⟨S3,h6,h7⟩:=ih e h5
   exact⟨S3,λb hb=>h2 b (h6 b hb),h7⟩
theorem St.at_(h:St B w0 H w)(hA:A∈H):∃S1:Nat->Prop,(∀b,S1 b->B<=b/\b<w.heap.size)/\A.holds S1 w:=Yh7 hA h.sep
theorem St.blk{o:Obj}(h:St B w0 H w)(hA:blk g o∈H):w.heap[g]? =some o/\B<=g/\g<w.heap.size:=by
 obtain⟨S1,h1,h2,h3⟩:=h.at_ hA
 exact⟨h3,h1 g h2⟩
theorem St.grow(h:St B w0 H w)(k:Below w.heap.size w w'):St B w0 H w':=
 ⟨h.below.trans (k.mono h.le),T9 h.le k.size,V7 (Ya2 h.sep λb hb=>k.block b hb.2) λ_ hb=>⟨hb.1,Nat.lt_of_lt_of_le hb.2 k.size⟩⟩
theorem St.drew(h:St B w0 H w):St B w0 H w.drew:=h.grow (Below.refl _ _).drew
theorem St.alloc(h:St B w0 H w)(o:Obj):St B w0 (Eng.blk w.heap.size o::H) (w.alloc o):=by
 refine⟨h.below.alloc h.le o,by have:=h.le;simp;omega,λb=>b=w.heap.size,λb=>B<=b/\b<w.heap.size,?_,?_,?_,?_,?_⟩
 ·rintro b rfl;exact⟨h.le,by simp⟩
 ·rintro b ⟨h1,h2⟩;exact⟨h1,by simp;omega⟩
 ·rintro b rfl ⟨_,h2⟩;omega
 ·exact⟨rfl,heap_alloc_new w o⟩
 ·exact Ya2 h.sep λb hb=>Below.heap_alloc w o b hb.2
def Upd(A A':HP)(L M:List HP):Prop:=∃L1 L2,L=L1++A::L2/\M=L1++A'::L2
theorem Upd.here(L:List HP):Upd A A' (A::L) (A'::L):=⟨[],L,rfl,rfl⟩
theorem Upd.there(X:HP)(u:Upd A A' L M):Upd A A' (X::L) (X::M):=by
 obtain⟨L1,L2,rfl,rfl⟩:=u
 exact⟨X::L1,L2,rfl,rfl⟩
theorem Ykw{A A':HP}{w w':World}
 (hA:∀S1:Nat->Prop,A.holds S1 w->(∃S':Nat->Prop,A'.holds S' w'/\∀b,S' b->S1 b\/(w.heap.size<=b/\b<w'.heap.size))/\∀b,¬S1 b->b<w.heap.size->w'.heap[b]? =w.heap[b]?) (L2:List HP):
 ∀(L1:List HP) {S:Nat->Prop},(∀b,S b->b<w.heap.size)->sepL (L1++A::L2) S w->
  ∃S1:Nat->Prop,(∀b,S1 b->S b)/\A.holds S1 w/\sepL (L1++A'::L2) (λb=>S b\/(w.heap.size<=b/\b<w'.heap.size)) w'
 |[],S,hS,h=>by
  obtain⟨S1,S2,h1,h2,h3,h4,h5⟩:=h
  obtain⟨⟨S',k1,k3⟩,k2⟩:=hA S1 h4
  refine⟨S1,h1,h4,S',S2,λb hb=>(k3 b hb).elim (λh=>.inl (h1 b h)) .inr,λb hb=>.inl (h2 b hb),λb hb hc=>?_,k1,Ya2 h5 λb hb=>k2 b (λhc=>h3 b hc hb) (hS b (h2 b hb))⟩
  rcases k3 b hb with h|h
  ·exact h3 b h hc
  ·have:=hS b (h2 b hc);omega
 |X::L1,S,hS,h=>by
  obtain⟨S1,S2,h1,h2,h3,h4,h5⟩:=h
  obtain⟨T,t1,t2,t3⟩:=Ykw hA L2 L1 (λb hb=>hS b (h2 b hb)) h5
  obtain⟨_,k2⟩:=hA T t2
  refine⟨T,λb hb=>h2 b (t1 b hb),t2,S1,_,λb hb=>.inl (h1 b hb),λb hb=>hb.elim (λh=>.inl (h2 b h)) .inr,λb hb hc=>?_,X.loc (λb hb=>k2 b (λhc=>h3 b hb (t1 b hc)) (hS b (h1 b hb))) h4,t3⟩
  rcases hc with hc|hc
  ·exact h3 b hb hc
  ·have:=hS b (h1 b hb);omega
theorem St.updN{K:List HP}(h:St B w0 H w)(u:Upd A A' H K)
 (hos:w'.os=w.os) (ht:w'.tape=w.tape) (hout:w'.output=w.output) (hsz:w.heap.size<=w'.heap.size)
 (hA:∀S1:Nat->Prop,A.holds S1 w->(∃S':Nat->Prop,A'.holds S' w'/\∀b,S' b->S1 b\/(w.heap.size<=b/\b<w'.heap.size))/\∀b,¬S1 b->b<w.heap.size->w'.heap[b]? =w.heap[b]?):St B w0 K w':=by
 obtain⟨L1,L2,rfl,rfl⟩:=u
 obtain⟨S1,h1,h2,h3⟩:=Ykw hA L2 L1 (S:=λb=>B<=b/\b<w.heap.size) (λb hb=>hb.2) h.sep
 obtain⟨_,k2⟩:=hA S1 h2
 have hle:=h.le
 refine⟨⟨hos.trans h.below.os,ht.trans h.below.tape,hout.trans h.below.output,T9 h.below.size hsz,λb hb=>?_⟩,T9 h.le hsz,V7 h3 λb hb=>?_⟩
 ·rw[k2 b (λhc=>by have:=(h1 b hc).1;omega) (Nat.lt_of_lt_of_le hb h.le),h.below.block b hb]
 ·rcases hb with hb|hb
  ·exact⟨hb.1,Nat.lt_of_lt_of_le hb.2 hsz⟩
  ·exact⟨by omega,hb.2⟩
theorem St.upd{K:List HP}(h:St B w0 H w)(u:Upd A A' H K)
 (hos:w'.os=w.os) (ht:w'.tape=w.tape) (hout:w'.output=w.output) (hsz:w.heap.size<=w'.heap.size)
 (hA:∀S1:Nat->Prop,A.holds S1 w->A'.holds S1 w'/\∀b,¬S1 b->b<w.heap.size->w'.heap[b]? =w.heap[b]?):St B w0 K w':=
 h.updN u hos ht hout hsz λS1 hS=>let⟨k1,k2⟩:=hA S1 hS;⟨⟨S1,k1,λ_ hb=>.inl hb⟩,k2⟩
variable {v:Value}
theorem St.setCell{K:List HP}{cs:Array Value}{t:TypeId}{fr:Nat×Nat}(h:St B w0 H w)
 (u:Upd (Eng.blk g (.cells cs t fr)) (Eng.blk g (.cells (cs.setIfInBounds i v) t fr)) H K):St B w0 K (w.setCell ⟨g,i,none⟩ v):=by
 refine h.upd u rfl rfl rfl (by simp) λS1 ⟨h1,h2⟩=>⟨⟨h1,?_⟩,λb hb _=>Below.heap_setCell w _ v b (λe=>hb (e▸h1))⟩
 simp[World.setCell,Array.getElem?_modify,h2]
abbrev Env:=List (Nat×Value)
def get:Env->Nat->Option Value
 |[],_=>none
 |(s,v)::e,t=>if s=t then some v else get e t
def evo(env:Env):Operand->Option Value
 |.tmp t=>get env t
 |.const v=>some v
 |.global g=>some (.pointer (some ⟨g,0,none⟩))
 |.func f=>some (.func (.func f) #[] #[])
structure Shp where
 k:Nat
 ds:List Deferred
 r:Option Nat
structure Fits(n:Shp)(a:Act)(env:Env):Prop where
 defers:a.defers=n.ds
 size:a.tmps.size=n.k
 slot:∀t v,get env t=some v->a.tmps[t]? =some v
variable {a:Act}{env:Env}
theorem Fits.eval{n:Shp}(h:Fits n a env){x:Operand}(hx:evo env x=some v):a.eval x=v:=by
 cases x with
 |tmp t=>have:=h.slot t v hx;simp[Act.eval,Array.getD_eq_getD_getElem?,this]
 |const c=>exact Tv hx
 |global g=>exact Tv hx
 |func f=>exact Tv hx
theorem Fits.put{n:Shp}(h:Fits n a env)(hd:d<n.k)(v:Value):Fits n (a.put (some d) v) ((d,v)::env):=by
 refine⟨h.defers,by simp[Act.put,h.size],λt u ht=>?_⟩
 by_cases e:d=t
 ·subst e
  simp only[get,NF,Rw]at ht
  subst ht
  simp[Act.put,h.size,hd]
 ·rw[get,Tf e]at ht
  simp[Act.put,e,h.slot t u ht]
theorem Fits.sub{n:Shp}{env':Env}(h:Fits n a env)(hs:∀t v,get env' t=some v->get env t=some v):Fits n a env':=
 ⟨h.defers,h.size,λt v ht=>h.slot t v (hs t v ht)⟩
def Vt(o:Oper):Bool:=
 match o.op with
 |.defer _=>false
 |_=>true
def calm:Code->Bool
 |.seq x y=>calm x&&calm y
 |.cond _ x y=>calm x&&calm y
 |.loop c=>calm c
 |.block _ c=>calm c
 |.region _ ops _=>ops.toList.all Vt
 |.rangeFunc _ _ x y=>calm x&&calm y
 |.scope _=>false
 |_=>true
def wpR(P:Program)(r:Option Nat)(c:Code)(Q:Exit->Act->World->Prop)(a:Act)(w:World):Prop:=
 match r with
 |none=>c.wp P Q a w
 |some l=>¬LetsOut Q->calm c=true->c.wpIn (Fence.wide.inRound l) 0 P Q a w
section
variable {P:Program}{r:Option Nat}{Q:Exit->Act->World->Prop}{a:Act}{w:World}
variable {c x y:Code}
theorem Ja{Q':Exit->Act->World->Prop}(h:wpR P r c Q a w)(hq:∀e a w,Q e a w->Q' e a w):wpR P r c Q' a w:=by
 cases r with
 |none=>exact wp_mono h hq
 |some l=>exactλhlo hc=>wpIn_mono (h (λ⟨a,w,hl⟩=>hlo ⟨a,w,hq _ _ _ hl⟩) hc) hq
theorem Yum(h:wpR P r x (Exit.then (wpR P r y Q) Q) a w):wpR P r (.seq x y) Q a w:=by
 cases r with
 |none=>exact wp_seq h
 |some l=>
  intro hlo hc
  simp only[calm,Tq]at hc
  refine wpIn_seq (wpIn_mono (h (λ⟨a,w,hl⟩=>hlo ⟨a,w,hl⟩) hc.1) λe a w hq=>?_)
  cases e<;>first|exact hq|exact hq hlo hc.2
variable {id n:Nat}
theorem Yp5(h:wpR P r c (Exit.inBlock id Q) a w):wpR P r (.block id c) Q a w:=by
 cases r with
 |none=>exact wp_block h
 |some l=>exactλhlo hc=>wpIn_block (h (λ⟨a,w,hl⟩=>hlo ⟨a,w,hl⟩) hc)
theorem Ysy(h:Q .normal a w):wpR P r .skip Q a w:=by
 cases r with
 |none=>exact wp_skip h
 |some l=>exactλ_ _=>wpIn_skip h
theorem Yul(h:Q .ret a w):wpR P r .ret Q a w:=by
 cases r with
 |none=>exact wp_ret h
 |some l=>exactλ_ _=>wpIn_ret h
theorem Ysx(h:Q (.exit id) a w):wpR P r (.exit id) Q a w:=by
 cases r with
 |none=>exact wp_exit h
 |some l=>exactλ_ _=>wpIn_exit h
theorem YkM{c:Operand}{t:Bool}(hc:a.eval c=.bool t)(ht:t=true->wpR P r x Q a w)(hf:t=false->wpR P r y Q a w):wpR P r (.cond c x y) Q a w:=by
 cases r with
 |none=>exact wp_cond_split hc ht hf
 |some l=>
  intro hlo hca
  simp only[calm,Tq]at hca
  exact wpIn_cond_split hc (λe=>ht e hlo hca.1) (λe=>hf e hlo hca.2)
theorem Ycm{l:Nat}{row:String}{args:Array Value}{R:Value->World->Prop}(h:Rows P row args w R):RowsIn (Fence.wide.inRound l) n P row args w R:=λc cs _=>by
 obtain⟨v,w',h1,h2⟩:=h c cs
 exact⟨v,w',h1,stepsIn_wide.2 h2⟩
variable {o:Oper}{K:Act->World->Prop}
theorem Ygx{l:Nat}(hp:Vt o=true)(h:o.wp P a w K Q):o.wpIn (Fence.wide.inRound l) n P a w K Q:=by
 have hs:Oper.semAt (some l) a.eval o=execOp a.eval o:=Oper.semAt_some l _ o λc e=>by
  unfold Vt at hp
  rw[e]at hp
  cases hp
 refine⟨λf _=>trivial,?_⟩
 rw[Fence.inRound_round,hs]
 unfold Oper.wp at h
 generalize(execOp a.eval o).run P w=res at h⊢
 cases res with
 |ok x w'=>
  cases x<;>simp only[Oper.upon,Oper.uponIn]at h⊢<;>first
   |exact h
   |(refine⟨λhd=>by simp[Fence.wide]at hd,?_⟩
     refine CallsIn.mono (CallsIn.inRound l (callsIn_wide.2 h)) λe w'' he=>?_
     cases e<;>exact he)
   |exact⟨λhd=>by simp[Fence.wide]at hd,Ycm h⟩
   |exact h.elim
 |halt x w'=>cases x<;>simp only[Oper.upon,Oper.uponIn]at h⊢<;>first|exact h|exact h.elim
theorem Ws{l n:Nat}{ops:Array Oper}(hlo:¬LetsOut Q):∀(os:List Oper) (a:Act) (w:World),os.all Vt=true->wpList P ops Q os a w->wpListIn (Fence.wide.inRound l) n P ops Q os a w
 |[],_,_,_,h=>h
 |o::os,a,w,hc,h=>by
  simp only[NR,Tq]at hc
  unfold wpList at h
  unfold wpListIn
  split
  ·rename_i hw
   rw[Tn hw]at h
   rcases h with h|⟨_,h⟩
   ·exact Ygx hc.1 (Oper.wp_mono (λa w h=>Ws hlo os a w hc.2 h) h)
   ·exact(hlo h).elim
  ·rename_i hw
   rw[Tf hw]at h
   exact⟨λf _=>trivial,Ws hlo os _ w hc.2 h⟩
theorem Yas{l n:Nat}{ops:Array Oper}(hlo:¬LetsOut Q)(hc:ops.toList.all Vt=true):∀(fuel:Nat) (listed:Array Bool) (a:Act) (w:World),wpAny P .any ops Q fuel listed a w->wpAnyIn (Fence.wide.inRound l) n P .any ops Q fuel listed a w
 |0,_,_,_,h=>h
 |fuel+1,listed,a,w,h=>by
  refine⟨h.1,λi hi=>?_⟩
  have h2:=h.2 i hi
  unfold wpOp at h2
  unfold wpOpIn
  cases ho:ops[i]? with
  |none=>rw[ho]at h2;exact Yas hlo hc fuel _ a w h2
  |some o=>
   rw[ho]at h2
   have hpl:Vt o=true:=by
    have:=Si.1 ho
    exact TF.1 hc o (by rw[<-this.2];simp)
   simp only at h2⊢
   split
   ·rename_i hw
    rw[Tn hw]at h2
    rcases h2 with h2|⟨_,h2⟩
    ·exact Ygx hpl (Oper.wp_mono (λa w h=>Yas hlo hc fuel _ a w h) h2)
    ·exact(hlo h2).elim
   ·rename_i hw
    rw[Tf hw]at h2
    exact⟨λf _=>trivial,Yas hlo hc fuel _ _ w h2⟩
variable {l:List Oper}
theorem Ymt(h:wpList P l.toArray Q l a w):wpR P r (.region id l.toArray false) Q a w:=by
 cases r with
 |none=>exact wp_region_lit h
 |some k=>exactλhlo hc=>wpIn_region_lit (Ws hlo l a w (by simpa [calm]using hc) h)
variable {ops:Array Oper}
theorem V3(hm:P.follows .mixedOrders=true)(h:wpAny P .any ops Q ops.size (Array.replicate ops.size false) a w.drew):wpR P r (.region id ops true) Q a w:=by
 cases r with
 |none=>exact wp_region_any hm h
 |some k=>exactλhlo hc=>wpIn_region_any hm (Yas hlo (by simpa [calm]using hc) _ _ a _ h)
theorem Yp6{C:World->Prop}(hm:P.follows .mixedOrders=true)(hB:Region.lexB .any ops=true)(hC:C w.drew)
 (h:wpQuiet P ops C (λa'=>∀w',C w'->Q .normal a' w') ops.toList a):wpR P r (.region id ops true) Q a w:=by
 simp only[Region.lexB,Tq]at hB
 refine V3 hm (wpAny_of_quiet (Q:=λa'=>∀w',C w'->Q .normal a' w') (λ_ w' hw' h=>h w' hw') _ _ _ _ hC ?_)
 have:=wpAnyQ_lex (C:=C) (md:=.any) hB.1 ops.toList 0 (Array.replicate ops.size false) a (by simp) (by simpa using hB.2) h
 simpa using this
theorem YkN(I:Nat->Act->World->Prop)(n₀:Nat)(h₀:I n₀ a w)
 (round:∀n a w,I n a w->wpR P r c (Exit.then (λa' w'=>∃n',n'<n/\I n' a' w') Q) a w):wpR P r (.loop c) Q a w:=by
 cases r with
 |none=>exact wp_loop_ghost I n₀ h₀ round
 |some l=>exactλhlo hc=>wpIn_loop_ghost I n₀ h₀ λn a w hI=>round n a w hI (λ⟨a,w,hl⟩=>hlo ⟨a,w,hl⟩) hc
end
structure VQ(n:Shp)(B:Nat)(w0:World)(Q:Exit->Act->World->Prop)(e:Exit)(env:Env)(H:List HP):Prop where
 run:∀a w,Fits n a env->St B w0 H w->Q e a w
structure VC(P:Program)(n:Shp)(B:Nat)(w0:World)(c:Code)(Q:Exit->Act->World->Prop)(env:Env)(H:List HP):Prop where
 run:∀a w,Fits n a env->St B w0 H w->wpR P n.r c Q a w
def eff(o:Oper):Bool:=
 match o.op with
 |.move _|.assign _|.pick _ _ _|.build _ _|.load _ _|.nilCheck _|.binOp _ _ _ _ _|.unOp _ _ _|.slice _ _ _ _ _|.fieldAddr _ _ _|.field _ _ _|.indexAddr _ _ _|.index _ _ _|.lookup _ _ _ _|.extract _ _=>false
 |.call ⟨.builtin .len,_,_⟩|.call ⟨.builtin .min,_,_⟩|.call ⟨.builtin .max,_,_⟩|.call ⟨.builtin .cap,_,_⟩=>false
 |.convert _ _ _=>false
 |_=>true
def Yv(P:Program)(ops:Array Oper)(Q:Exit->Act->World->Prop)(S:World->Prop):List Oper->Act->World->Prop
 |[],a,w=>Q .normal a w
 |o::rest,a,w=>
  if eff o then
   (if Region.wanted o (yielded ops a.tmps)then o.wp P a w (λa' w'=>S w'/\Yv P ops Q S rest a' w') Q else Yv P ops Q S rest (a.put o.dst undef) w)
  else∃v,YieldsIf P ops S o v a/\Yv P ops Q S rest (a.put o.dst v) w
abbrev Mode:=Option (Option (List HP))
def Yqy(P:Program)(m:Mode)(B:Nat)(w0:World)(ops:Array Oper)(Q:Exit->Act->World->Prop)(l:List Oper)(a:Act)(H:List HP):Prop:=
 match m with
 |none=>∀w,St B w0 H w->wpList P ops Q l a w
 |some none=>wpQuiet P ops (St B w0 H) (λa'=>∀w,St B w0 H w->Q .normal a' w) l a
 |some (some F)=>∀w,St B w0 (H++F) w->Yv P ops Q (St B w0 H) l a w
structure VL(P:Program)(m:Mode)(n:Shp)(B:Nat)(w0:World)(ops:Array Oper)(Q:Exit->Act->World->Prop)(l:List Oper)(env:Env)(H:List HP):Prop where
 run:∀a,Fits n a env->Yqy P m B w0 ops Q l a H
def Post(B:Nat)(w0:World)(Φ:Value->List HP->Prop)(e:Ending)(w:World):Prop:=∃v H,e=.returned v/\St B w0 H w/\Φ v H
section
variable {P:Program}{n:Shp}{B:Nat}{w0:World}{Q:Exit->Act->World->Prop}{env:Env}{H:List HP}
variable {x y c:Code}
theorem YY(h:VC P n B w0 x (Exit.then (wpR P n.r y Q) Q) env H):VC P n B w0 (.seq x y) Q env H:=⟨λa w ha hw=>Yum (h.run a w ha hw)⟩
variable {id t u s d j f i:Nat}
theorem Yim(h:VC P n B w0 c (Exit.inBlock id Q) env H):VC P n B w0 (.block id c) Q env H:=⟨λa w ha hw=>Yp5 (h.run a w ha hw)⟩
theorem YsW(h:VQ n B w0 Q .normal env H):VC P n B w0 .skip Q env H:=⟨λa w ha hw=>Ysy (h.run a w ha hw)⟩
theorem Yv8(h:VQ n B w0 Q .ret env H):VC P n B w0 .ret Q env H:=⟨λa w ha hw=>Yul (h.run a w ha hw)⟩
theorem YsV(h:VQ n B w0 Q (.exit id) env H):VC P n B w0 (.exit id) Q env H:=⟨λa w ha hw=>Ysx (h.run a w ha hw)⟩
theorem YgX{c:Operand}(hc:evo env c=some (.bool true))(h:VC P n B w0 x Q env H):VC P n B w0 (.cond c x y) Q env H:=
 ⟨λa w ha hw=>YkM (ha.eval hc) (λ_=>h.run a w ha hw) (λe=>by cases e)⟩
theorem Ye8{c:Operand}(hc:evo env c=some (.bool false))(h:VC P n B w0 y Q env H):VC P n B w0 (.cond c x y) Q env H:=
 ⟨λa w ha hw=>YkM (ha.eval hc) (λe=>by cases e) (λ_=>h.run a w ha hw)⟩
variable {l:List Oper}
theorem Yx(h:VL P none n B w0 l.toArray Q l env H):VC P n B w0 (.region id l.toArray false) Q env H:=⟨λa w ha hw=>Ymt (h.run a ha w hw)⟩
theorem Ymz(hm:P.follows .mixedOrders=true)(hB:Region.lexB .any l.toArray=true)(h:VL P (some none) n B w0 l.toArray Q l env H):VC P n B w0 (.region id l.toArray true) Q env H:=
 ⟨λa _ ha hw=>Yp6 (C:=St B w0 H) hm hB (hw.drew) (by rw[List.toList_toArray];exact h.run a ha)⟩
theorem Yhe(h:VC P n B w0 y Q env H):VQ n B w0 (Exit.then (wpR P n.r y Q) Q) .normal env H:=⟨λa w ha hw=>h.run a w ha hw⟩
variable {K:Act->World->Prop}
theorem YiJ(h:VQ n B w0 Q .ret env H):VQ n B w0 (Exit.then K Q) .ret env H:=⟨λa w ha hw=>h.run a w ha hw⟩
theorem Yhf(h:VQ n B w0 Q (.exit id) env H):VQ n B w0 (Exit.then K Q) (.exit id) env H:=⟨λa w ha hw=>h.run a w ha hw⟩
theorem Ycx(h:VQ n B w0 Q .normal env H):VQ n B w0 (Exit.inBlock id Q) .normal env H:=⟨λa w ha hw=>h.run a w ha hw⟩
theorem Yhc(h:VQ n B w0 Q .ret env H):VQ n B w0 (Exit.inBlock id Q) .ret env H:=⟨λa w ha hw=>h.run a w ha hw⟩
theorem Yfc(h:VQ n B w0 Q .normal env H):VQ n B w0 (Exit.inBlock id Q) (.exit id) env H:=
 ⟨λa w ha hw=>by simp only[Exit.inBlock,NF];exact h.run a w ha hw⟩
theorem Yc5{id':Nat}(hne:Nat.beq id' id=false)(h:VQ n B w0 Q (.exit id') env H):VQ n B w0 (Exit.inBlock id Q) (.exit id') env H:=
 ⟨λa w ha hw=>by simp only[Exit.inBlock,Tf (Nat.ne_of_beq_eq_false hne)];exact h.run a w ha hw⟩
def Next{α:Type}(n:Shp)(B:Nat)(w0:World)(E:α->Env)(HH:α->List HP)(I:α->Prop)(μ:α->Nat)(x:α)(a:Act)(w:World):Prop:=
 ∃y,I y/\μ y<μ x/\Fits n a (E y)/\St B w0 (HH y) w
variable {α:Type}
theorem YgY(E:α->Env)(HH:α->List HP)(I:α->Prop)(μ:α->Nat)(x0:α)(h0:I x0)
 (he:∀t v,get (E x0) t=some v->get env t=some v) (hH:∀w,St B w0 H w->St B w0 (HH x0) w)
 (round:∀x,I x->VC P n B w0 c (Exit.then (Next n B w0 E HH I μ x) Q) (E x) (HH x)):VC P n B w0 (.loop c) Q env H:=by
 refine⟨λa w ha hw=>YkN (λk a w=>∃x,μ x=k/\I x/\Fits n a (E x)/\St B w0 (HH x) w) (μ x0) ⟨x0,rfl,h0,ha.sub he,hH w hw⟩ ?_⟩
 rintro k a w ⟨x,rfl,hx,ha,hw⟩
 refine Ja ((round x hx).run a w ha hw) ?_
 intro e a w hq
 cases e with
 |normal=>obtain⟨y,h1,h2,h3,h4⟩:=hq;exact⟨μ y,h2,y,rfl,h1,h3,h4⟩
 |exit id=>exact hq
 |goto l=>exact hq
 |ret=>exact hq
 |panic ch=>exact hq
 |outgrown=>exact hq
theorem Yc7{E:α->Env}{HH:α->List HP}{I:α->Prop}{μ:α->Nat}{x:α}(y:α)(hI:I y)(hμ:μ y<μ x)
 (he:∀t v,get (E y) t=some v->get env t=some v) (hH:∀w,St B w0 H w->St B w0 (HH y) w):VQ n B w0 (Exit.then (Next n B w0 E HH I μ x) Q) .normal env H:=
 ⟨λ_ w ha hw=>⟨y,hI,hμ,ha.sub he,hH w hw⟩⟩
theorem Yud(env:Env):∀t v,get [] t=some v->get env t=some v:=λ_ _ h=>by cases h
variable {v:Value}
theorem Ysl{env e:Env}(h:get env t=some v)(he:∀t v,get e t=some v->get env t=some v):∀t' v',get ((t,v)::e) t'=some v'->get env t'=some v':=by
 intro t' v' h'
 by_cases e':t=t'
 ·subst e';rw[get,Tn rfl]at h';rw[<-h'];exact h
 ·rw[get,Tf e']at h';exact he _ _ h'
theorem ZW(H':List HP)(hH:∀w,St B w0 H w->St B w0 H' w)(h:VC P n B w0 c Q env H'):VC P n B w0 c Q env H:=⟨λa w ha hw=>h.run a w ha (hH w hw)⟩
variable {ops:Array Oper}
theorem XU(H':List HP)(hH:∀w,St B w0 H w->St B w0 H' w)(h:VL P none n B w0 ops Q l env H'):VL P none n B w0 ops Q l env H:=⟨λa ha w hw=>h.run a ha w (hH w hw)⟩
variable {e:Exit}{A:HP}
theorem Yj(h:VQ n B w0 Q e env H):VQ n B w0 Q e env (A::H):=⟨λa w ha hw=>h.run a w ha hw.tail⟩
theorem Yi(H':List HP)(hH:∀w,St B w0 H w->St B w0 H' w)(h:VQ n B w0 Q e env H'):VQ n B w0 Q e env H:=⟨λa w ha hw=>h.run a w ha (hH w hw)⟩
def Ow:Nat->List Value->Env
 |_,[]=>[]
 |i,v::l=>(i,v)::Ow (i+1) l
theorem QZ:∀(l:List Value) (i t:Nat) (v:Value),get (Ow i l) t=some v->i<=t/\l[t-i]? =some v
 |[],i,t,v,h=>by cases h
 |u::l,i,t,v,h=>by
  by_cases e:i=t
  ·subst e;rw[Ow,get,Tn rfl]at h;simp at h;simp[h]
  ·rw[Ow,get,Tf e]at h
   obtain⟨h1,h2⟩:=QZ l (i+1) t v h
   refine⟨by omega,?_⟩
   rw[show t-i=(t-(i+1))+1 by omega]
   simpa using h2
variable {fn:Func}{w:World}{Φ:Value->List HP->Prop}
theorem Yc{n:Nat}{f:FuncId}{args:List Value}(hf:P.funcs[f]? =some fn)(hn:fn.ntmps=n)(hb:fn.body=some c)
 (hle:Nat.ble args.length n=true) (hw:St B w0 H w) (h:VC P ⟨n,[],none⟩ B w0 c (bodyPost P fn (Post B w0 Φ)) (Ow 0 args) H):Calls P f args.toArray w (Post B w0 Φ):=by
 refine calls_of_wp hf hb (h.run _ w ⟨rfl,?_,λt v ht=>?_⟩ hw)
 ·have:=TX hle;simp;omega
 ·obtain⟨_,h2⟩:=QZ args 0 t v ht
  rw[Nat.sub_zero]at h2
  have hlt:t<args.length:=by
   rcases Su t args.length with h|h
   ·exact h
   ·rw[SU h]at h2;cases h2
  rw[Array.getElem?_append_left (by simpa using hlt)]
  simpa using h2
theorem Yd{n:Nat}(hr:fn.results=#[.tmp t])(hv:get env t=some v)(h:Φ v H):VQ ⟨n,[],none⟩ B w0 (bodyPost P fn (Post B w0 Φ)) .ret env H:=
 ⟨λa w ha hw=>bodyPost_ret (results_tmp hr _ _ _) ha.defers ⟨v,H,by rw[Array.getD_eq_getD_getElem?,ha.slot t v hv];rfl,hw,h⟩⟩
theorem YM{n:Nat}{x:Value}(hr:fn.results=#[.tmp t,.tmp u])(hv:get env t=some v)(hx:get env u=some x)(h:Φ (.tuple #[v,x]) H):
 VQ ⟨n,[],none⟩ B w0 (bodyPost P fn (Post B w0 Φ)) .ret env H:=
 ⟨λa w ha hw=>bodyPost_ret (results_tmp2 hr _ _ _) ha.defers ⟨_,H,by rw[Array.getD_eq_getD_getElem?,Array.getD_eq_getD_getElem?,ha.slot t v hv,ha.slot u x hx];rfl,hw,h⟩⟩
theorem VW{n:Nat}{x y:Value}(hr:fn.results=#[.tmp t,.tmp u,.tmp s])(hv:get env t=some v)(hx:get env u=some x)(hy:get env s=some y)(h:Φ (.tuple #[v,x,y]) H):
 VQ ⟨n,[],none⟩ B w0 (bodyPost P fn (Post B w0 Φ)) .ret env H:=
 ⟨λa w ha hw=>bodyPost_ret (v:=.tuple #[v,x,y]) (by simp[results,hr,Array.getD_eq_getD_getElem?,ha.slot t v hv,ha.slot u x hx,ha.slot s y hy]) ha.defers ⟨_,H,rfl,hw,h⟩⟩
theorem Vq{n:Nat}(hr:fn.results=#[])(h:Φ (.tuple #[]) H):VQ ⟨n,[],none⟩ B w0 (bodyPost P fn (Post B w0 Φ)) .normal env H:=
 ⟨λ_ _ ha hw=>bodyPost_end (results_none hr _ _ _) ha.defers ⟨_,H,rfl,hw,h⟩⟩
theorem WH{n:Nat}(hr:fn.results=#[])(h:Φ (.tuple #[]) H):VQ ⟨n,[],none⟩ B w0 (bodyPost P fn (Post B w0 Φ)) .ret env H:=
 ⟨λ_ _ ha hw=>bodyPost_ret (results_none hr _ _ _) ha.defers ⟨_,H,rfl,hw,h⟩⟩
variable {ops:Array Oper}{rest:List Oper}
theorem Yqn(h:VQ n B w0 Q .normal env H):VL P none n B w0 ops Q [] env H:=⟨λa ha w hw=>wpList_nil (h.run a w ha hw)⟩
theorem Ys7(h:VQ n B w0 Q .normal env H):VL P (some none) n B w0 ops Q [] env H:=⟨λa ha=>show∀w,St B w0 H w->Q .normal a w fromλw hw=>h.run a w ha hw⟩
variable {o oj:Oper}
theorem XO(Φ:Value->List HP->Prop)(hg:o.guard=none)(hd:o.dst=some d)(hn:Nat.ble (d+1) n.k=true)
 (hr:∀a w,Fits n a env->St B w0 H w->∃v H' w',(execOp a.eval o).run P w=.ok (.value v) w'/\St B w0 H' w'/\Φ v H')
 (h:∀v H',Φ v H'->VL P none n B w0 ops Q rest ((d,v)::env) H'):VL P none n B w0 ops Q (o::rest) env H:=by
 refine⟨λa ha w hw=>wpList_plain hg λK hK=>?_⟩
 obtain⟨v,H',w',hrun,hst,hΦ⟩:=hr a w ha hw
 unfold Oper.wp
 rw[hrun,Oper.upon_value,hd]
 exact hK _ _ ((h v H' hΦ).run _ (ha.put (TX hn) v) _ hst)
variable {H' L Hc F HF M:List HP}
theorem YfD(hg:o.guard=none)(hd:o.dst=some d)(hn:Nat.ble (d+1) n.k=true)
 (hr:∀a w,Fits n a env->St B w0 H w->∃w',(execOp a.eval o).run P w=.ok (.value v) w'/\St B w0 H' w')
 (h:VL P none n B w0 ops Q rest ((d,v)::env) H'):VL P none n B w0 ops Q (o::rest) env H:=
 XO (λu K=>u=v/\K=H') hg hd hn (λa w ha hw=>let⟨w',h1,h2⟩:=hr a w ha hw;⟨v,H',w',h1,h2,rfl,rfl⟩) (by rintro _ _ ⟨rfl,rfl⟩;exact h)
variable {a:Act}
theorem Ycw(hne:eff o=false)(hy:YieldsIf P ops (St B w0 H) o v a)(h:Yv P ops Q (St B w0 H) rest (a.put o.dst v) w):
 Yv P ops Q (St B w0 H) (o::rest) a w:=by
 unfold Yv
 rw[Tf (by rw[hne];simp)]
 exact⟨v,hy,h⟩
variable {m:Mode}
theorem YF(hg:o.guard=none)(hd:o.dst=some d)(hn:Nat.ble (d+1) n.k=true)(hne:eff o=false)
 (hr:∀a w,Fits n a env->St B w0 H w->(execOp a.eval o).run P w=.ok (.value v) w)
 (h:VL P m n B w0 ops Q rest ((d,v)::env) H):VL P m n B w0 ops Q (o::rest) env H:=by
 match m with
 |none=>exact YfD hg hd hn (λa w ha hw=>⟨w,hr a w ha hw,hw⟩) h
 |some none=>
  refine⟨λa ha=>wpQuiet_step λK hK=>?_⟩
  rw[Tn (by simp[Region.wanted,hg])]
  refine⟨v,λw hw=>?_,hK _ ?_⟩
  ·unfold Oper.quietAt;rw[hr a w ha hw];exact⟨rfl,rfl⟩
  ·rw[hd];exact h.run _ (ha.put (TX hn) v)
 |some (some F)=>
  refine⟨λa ha w hw=>Ycw hne (.inl ⟨by simp[Region.wanted,hg],λw' hw'=>hr a w' ha hw'⟩) ?_⟩
  rw[hd];exact h.run _ (ha.put (TX hn) v) w hw
theorem Vp(hg:o.guard=none)(hd:o.dst=none)
 (hr:∀a w,Fits n a env->St B w0 H w->∃w',(execOp a.eval o).run P w=.ok .skip w'/\St B w0 H' w')
 (h:VL P none n B w0 ops Q rest env H'):VL P none n B w0 ops Q (o::rest) env H:=by
 refine⟨λa ha w hw=>wpList_plain hg λK hK=>?_⟩
 obtain⟨w',hrun,hst⟩:=hr a w ha hw
 unfold Oper.wp
 rw[hrun,Oper.upon_skip,hd]
 exact hK _ _ (h.run _ ha _ hst)
variable {op:Op}{ty:TypeId}{pos:String}{after:Array Edge}
theorem Yg6{dst:Option Tmp}{b:Bool}(hj:ops[j]? =some oj)(hs:oj.dst=some s)
 (hv:get env s=some (.bool b)) (h:VL P m n B w0 ops Q (⟨dst,op,ty,pos,after,none⟩::rest) env H):VL P m n B w0 ops Q (⟨dst,op,ty,pos,after,some (j,b)⟩::rest) env H:=by
 have hy:∀a:Act,Fits n a env->Region.wanted ⟨dst,op,ty,pos,after,some (j,b)⟩ (yielded ops a.tmps)=true:=λa ha=>by simp[Region.wanted,yielded,hj,hs,ha.slot s _ hv]
 match m with
 |none=>
  refine⟨λa ha w hw=>?_⟩
  have h1:=h.run a ha w hw
  unfold wpList at h1⊢
  rw[Tn (by rfl)]at h1
  rw[Tn (hy a ha)]
  exact h1
 |some none=>
  refine⟨λa ha=>?_⟩
  have h1:=h.run a ha
  unfold Yqy wpQuiet at h1⊢
  simp only at h1⊢
  rw[Tn (by rfl)]at h1
  rw[Tn (hy a ha)]
  exact h1
 |some (some F)=>
  refine⟨λa ha w hw=>?_⟩
  have h1:=h.run a ha w hw
  unfold Yv at h1⊢
  have he:eff ⟨dst,op,ty,pos,after,some (j,b)⟩=eff ⟨dst,op,ty,pos,after,none⟩:=rfl
  rw[he]
  by_cases hef:eff ⟨dst,op,ty,pos,after,none⟩=true
  ·rw[Tn hef]at h1⊢
   rw[Tn (by rfl)]at h1
   rw[Tn (hy a ha)]
   exact h1
  ·rw[Tf hef]at h1⊢
   obtain⟨v,hyi,h2⟩:=h1
   refine⟨v,?_,h2⟩
   rcases hyi with⟨_,h3⟩|⟨h3,_⟩
   ·exact .inl ⟨hy a ha,h3⟩
   ·cases h3
def notB(v:Value)(b:Bool):Bool:=
 match v with
 |.bool c=>c !=b
 |_=>true
theorem Yiu{b:Bool}(hj:ops[j]? =some oj)(hs:oj.dst=some s)
 (hv:get env s=some v) (hne:notB v b=true) (hn:Nat.ble (d+1) n.k=true)
 (h:VL P m n B w0 ops Q rest ((d,undef)::env) H):VL P m n B w0 ops Q (⟨some d,op,ty,pos,after,some (j,b)⟩::rest) env H:=by
 have hy:∀a:Act,Fits n a env->Region.wanted ⟨some d,op,ty,pos,after,some (j,b)⟩ (yielded ops a.tmps)=false:=by
  intro a ha
  have hsl:=ha.slot s _ hv
  cases v<;>simp[Region.wanted,yielded,hj,hs,hsl]
  rename_i c
  cases b<;>cases c<;>simp_all [notB]
 match m with
 |none=>exact⟨λa ha w hw=>wpList_skip (hy a ha) (h.run _ (ha.put (TX hn) _) w hw)⟩
 |some none=>
  refine⟨λa ha=>?_⟩
  have h1:=h.run _ (ha.put (TX hn) undef)
  unfold Yqy wpQuiet at h1⊢
  simp only at h1⊢
  rw[Tf (by rw[hy a ha];simp)]
  unfold wpQuiet
  exact h1
 |some (some F)=>
  refine⟨λa ha w hw=>?_⟩
  have h1:=h.run _ (ha.put (TX hn) undef) w hw
  by_cases hef:eff ⟨some d,op,ty,pos,after,some (j,b)⟩=true
  ·unfold Yv
   rw[Tn hef,Tf (by rw[hy a ha];simp)]
   exact h1
  ·exact Ycw (by simpa using hef) (.inr ⟨hy a ha,rfl⟩) h1
theorem Yqd(hq:(l.all λo=>!eff o)=true)(hm:P.follows .mixedOrders=true)(hB:Region.lexB .any l.toArray=true)(h:VL P (some none) n B w0 l.toArray Q l env H):VC P n B w0 (.region id l.toArray true) Q env H:=
 Ymz hm (by have:=hq;exact hB) h
def Args(env:Env):List Operand->List Value->Prop
 |[],[]=>True
 |x::l,v::vs=>evo env x=some v/\Args env l vs
 |_,_=>False
theorem YqJ{env:Env}:Args env [] []:=trivial
variable {vs:List Value}
theorem Yoz{env:Env}{x:Operand}{l:List Operand}(h:evo env x=some v)(hl:Args env l vs):Args env (x::l) (v::vs):=⟨h,hl⟩
theorem UT{n:Shp}{a:Act}{env:Env}(ha:Fits n a env):∀(l:List Operand) (us:List Value),Args env l us->l.map a.eval=us
 |[],[],_=>rfl
 |[],_::_,h=>h.elim
 |_::_,[],h=>h.elim
 |x::l,u::us,h=>by rw[Rh,ha.eval h.1,UT ha l us h.2]
variable {args:List Operand}{tys:Array TypeId}
theorem Ykp(ha:Fits n a env)
 (hc:∀xs w,(callFunc f xs).run P w=.ok (.enter f xs) w) (hargs:Args env args vs) (w:World):
 (execOp a.eval ⟨some d,.call ⟨.value (.func f),args.toArray,tys⟩,ty,pos,after,none⟩).run P w=.ok (.enter f vs.toArray) w:=by
 have hmap:args.toArray.map a.eval=vs.toArray:=by rw[NA,UT ha _ _ hargs]
 simp only[execOp,resolve,Act.eval,hmap,Deferred.ofValue,Sem.run_bind,Sem.run_pure,Result.andThen_ok,invoke]
 simpa using hc (vs.toArray) w
theorem Ye(Φ:Value->List HP->Prop)
 (hc:∀xs w,(callFunc f xs).run P w=.ok (.enter f xs) w) (hargs:Args env args vs) (hn:Nat.ble (d+1) n.k=true)
 (hcall:∀w,St B w0 H w->Calls P f vs.toArray w (Post B w0 Φ))
 (h:∀v H',Φ v H'->VL P none n B w0 ops Q rest ((d,v)::env) H'):
 VL P none n B w0 ops Q (⟨some d,.call ⟨.value (.func f),args.toArray,tys⟩,ty,pos,after,none⟩::rest) env H:=by
 refine⟨λa ha w hw=>wpList_plain rfl λK hK=>?_⟩
 unfold Oper.wp
 rw[Ykp ha hc hargs,Oper.upon_enter]
 refine(hcall w hw).mono ?_
 rintro e w' ⟨v,H',rfl,hst,hΦ⟩
 exact hK _ _ ((h v H' hΦ).run _ (ha.put (TX hn) v) _ hst)
theorem Ya
 (hc:∀xs w,(callFunc f xs).run P w=.ok (.enter f xs) w) (hargs:Args env args vs) (hn:Nat.ble (d+1) n.k=true)
 (hcall:∀w,St B w0 H w->Calls P f vs.toArray w (Post B w0 λu K=>u=v/\K=H))
 (h:VL P none n B w0 ops Q rest ((d,v)::env) H):
 VL P none n B w0 ops Q (⟨some d,.call ⟨.value (.func f),args.toArray,tys⟩,ty,pos,after,none⟩::rest) env H:=
 Ye _ hc hargs hn hcall (by rintro _ _ ⟨rfl,rfl⟩;exact h)
theorem Yb
 (hc:∀xs w,(callFunc f xs).run P w=.ok (.enter f xs) w) (hargs:Args env args vs) (hn:Nat.ble (d+1) n.k=true)
 (hcall:∀w,St B w0 H w->Calls P f vs.toArray w (Post B w0 λu K=>u=v/\K=H))
 (h:VL P (some none) n B w0 ops Q rest ((d,v)::env) H):
 VL P (some none) n B w0 ops Q (⟨some d,.call ⟨.value (.func f),args.toArray,tys⟩,ty,pos,after,none⟩::rest) env H:=by
 refine⟨λa ha=>wpQuiet_step λK hK=>?_⟩
 rw[Tn (by simp[Region.wanted])]
 refine⟨v,λw hw=>?_,hK _ ?_⟩
 ·unfold Oper.quietAt
  rw[Ykp ha hc hargs]
  refine⟨rfl,(hcall w hw).mono ?_⟩
  rintro e w' ⟨_,_,rfl,hst,rfl,rfl⟩
  exact⟨rfl,hst⟩
 ·exact h.run _ (ha.put (TX hn) v)
def ancB(ops:Array Oper):Nat->Nat->Nat->Bool
 |0,_,_=>false
 |f+1,j,i=>match ops[j]? with
  |some oj=>oj.after.any λe=>Region.binds .any e&&(e.on==i||ancB ops f e.on i)
  |none=>false
def Closed(ops:Array Oper)(listed:Array Bool):Prop:=
 ∀j oj,ops[j]? =some oj->listed.getD j false=true->∀e∈oj.after,Region.binds .any e=true->listed.getD e.on false=true
theorem Closed.set{ops:Array Oper}{listed:Array Bool}(h:Closed ops listed)(hj:j∈Region.ready .any ops listed):Closed ops (listed.setIfInBounds j true):=by
 obtain⟨_,oj,hoj,hall⟩:=mem_ready.1 hj
 intro k ok hk hl e he hb
 by_cases hkj:j=k
 ·subst hkj
  obtain rfl:ok=oj:=Tv (hk.symm.trans hoj)
  exact getD_set_true (hall e he hb)
 ·rw[getD_set_ne false hkj]at hl
  exact getD_set_true (h k ok hk hl e he hb)
theorem Uf{ops:Array Oper}{listed:Array Bool}(h:Closed ops listed):∀(f j i:Nat),(∀oj,ops[j]? =some oj->∀e∈oj.after,Region.binds .any e=true->listed.getD e.on false=true)->ancB ops f j i=true->listed.getD i false=true
 |0,_,_,_,ha=>by cases ha
 |f+1,j,i,hp,ha=>by
  unfold ancB at ha
  cases ho:ops[j]? with
  |none=>rw[ho]at ha;cases ha
  |some oj=>
   rw[ho]at ha
   obtain⟨e,he,hb⟩:=Array.any_eq_true'.1 ha
   simp only[Tq,R9,S5]at hb
   have h1:=hp oj ho e he hb.1
   rcases hb.2 with h2|h2
   ·rw[<-h2];exact h1
   ·exact Uf h f e.on i (λok hk=>h e.on ok hk h1) h2
def Zq(P:Program)(ops:Array Oper)(Q:Exit->Act->World->Prop)(S:World->Prop)(last:List Nat):Nat->Array Bool->Act->World->Prop
 |0,listed,a,w=>Region.ready .any ops listed=[]/\Q .normal a w
 |fuel+1,listed,a,w=>
  (Region.ready .any ops listed=[]->Q .normal a w)/\
  ∀i∈Region.ready .any ops listed,wpOp P ops Q i (λa' w'=>(last.contains i=false->S w')/\Zq P ops Q S last fuel (listed.setIfInBounds i true) a' w') a w
theorem Z9{S:World->Prop}{last:List Nat}:∀(fuel:Nat) (listed:Array Bool) (a:Act) (w:World),Zq P ops Q S last fuel listed a w->wpAny P .any ops Q fuel listed a w
 |0,_,_,_,h=>h
 |fuel+1,_,_,_,h=>⟨h.1,λi hi=>wpOp_mono (λa' w' h'=>Z9 fuel _ a' w' h'.2) (h.2 i hi)⟩
variable {last:List Nat}
theorem J2{S:World->Prop}{oi:Oper}(hi:ops[i]? =some oi)(hsel:∀(j:Nat) (o:Oper) cs b,ops[j]? =some o->o.op≠.select cs b)
 (hQ:∀c (a:Act) (w:World),¬Q (.panic c) a w) (hlast:∀j,last.contains j=true->∃f,ancB ops f j i=true) (hil:last.contains i=false):
 ∀(fuel:Nat) (listed:Array Bool) (a:Act) (w:World),Closed ops listed->
  (∀j oj,ops[j]? =some oj->j≠i->listed.getD j true=false->(∀e∈oj.after,Region.binds .any e=true->e.on≠i)->oi.apart ops oj=true)->
  i∈Region.ready .any ops listed->YieldsIf P ops S oi v a->S w->
  Zq P ops Q S last fuel (listed.setIfInBounds i true) (a.put oi.dst v) w->Zq P ops Q S last (fuel+1) listed a w:=by
 intro fuel
 induction fuel with
 |zero=>
  intro listed a w _ _ hr hy hS H
  refine⟨λh=>(by rw[h]at hr;cases hr),λj hj=>?_⟩
  by_cases hji:j=i
  ·subst hji;exact hy.wpOp hi hS ⟨λ_=>hS,H⟩
  ·have:=ready_mono hj hji
   rw[H.1]at this
   cases this
 |succ fuel ih=>
  intro listed a w hcl hfree hr hy hS H
  refine⟨λh=>(by rw[h]at hr;cases hr),λj hj=>?_⟩
  by_cases hji:j=i
  ·subst hji;exact hy.wpOp hi hS ⟨λ_=>hS,H⟩
  ·have h1:=H.2 j (ready_mono hj hji)
   obtain⟨hjun,oj,hoj,hall⟩:=mem_ready.1 hj
   have hun:=(mem_ready.1 hr).1
   have hun':listed.getD i false=false:=by
    rcases Su i listed.size with h'|h'
    ·simp[h']at hun⊢;exact hun
    ·simp[Array.getElem?_eq_none h']at hun
   have hnl:last.contains j=false:=by
    cases hc:last.contains j with
    |false=>rfl
    |true=>
     obtain⟨f,hf⟩:=hlast j hc
     have:=Uf hcl f j i (λok hk e he hb=>by
      obtain rfl:ok=oj:=Tv (hk.symm.trans hoj)
      exact hall e he hb) hf
     rw[hun']at this
     cases this
   have hnot:∀e∈oj.after,Region.binds .any e=true->e.on≠i:=λe he hb heq=>by
    have h2:=hall e he hb
    rw[heq,hun']at h2
    cases h2
   have h2:=wpOp_putIf hoj (hfree j oj hoj hji hjun hnot) (λcs b=>hsel i oi cs b hi) (λcs b=>hsel j oj cs b hoj) (λc a w h=>(hQ c _ w h).elim) hy h1
   have hfree':∀k ok,ops[k]? =some ok->k≠i->(listed.setIfInBounds j true).getD k true=false->
    (∀e∈ok.after,Region.binds .any e=true->e.on≠i)->oi.apart ops ok=true:=λk ok hk hki hu hno=>by
    refine hfree k ok hk hki ?_ hno
    by_cases hjk:j=k
    ·subst hjk;exact hjun
    ·rw[getD_set_ne true hjk]at hu;exact hu
   refine wpOp_mono (λa' w' h3=>⟨λ_=>h3.2.1 hnl,ih (listed.setIfInBounds j true) a' w' (hcl.set hj) hfree' (ready_mono hr (NU hji)) h3.1 (h3.2.1 hnl) ?_⟩) h2
   rw[SV _ _ hji]
   exact h3.2.2
def WU(ops:Array Oper):List Nat->Array Bool->Bool
 |[],listed=>(Region.ready .any ops listed).isEmpty
 |i::rest,listed=>
  (match ops[i]? with
   |some o=>if eff o then decide (Region.ready .any ops listed=[i])else(Region.ready .any ops listed).contains i&&Region.free .any ops listed i
   |none=>false)&&WU ops rest (listed.setIfInBounds i true)
def Ygo(ops:Array Oper)(last:List Nat):Bool:=
 last.all λj=>(match ops[j]? with|some o=>eff o|none=>false)&&(List.range ops.size).all λi=>(match ops[i]? with|some o=>eff o|none=>false)||ancB ops ops.size j i
def nthO:List Oper->Nat->Oper
 |[],_=>default
 |o::_,0=>o
 |_::l,i+1=>nthO l i
theorem YaQ:∀(l:List Oper) (i:Nat),nthO l i=l.getD i default
 |[],i=>by simp[nthO]
 |o::l,0=>by simp[nthO]
 |o::l,i+1=>by simp[nthO,YaQ l i]
def Yh(l:List Oper):List Nat->List Oper
 |[]=>[]
 |i::r=>nthO l i::Yh l r
def Jx(P:Program)(ops:Array Oper)(Q:Exit->Act->World->Prop)(l:List Oper):Exit->Act->World->Prop
 |.normal,a,w=>wpList P ops Q l a w
 |e,a,w=>Q e a w
theorem Oper.wp_mono_noQ'(_h1:∀c (a:Act) (w:World),False->¬Q (.panic c) a w)(h:o.wp P a w K (Jx P ops Q l)):o.wp P a w K Q:=by
 unfold Oper.wp at h⊢
 generalize(execOp a.eval o).run P w=r at*
 cases r with
 |ok nx w'=>
  cases nx<;>simp only[Oper.upon]at h⊢<;>first
   |exact h
   |(refine Calls.mono h λe w'' he=>?_
     cases e with
     |returned u=>exact he
     |panicked c=>exact he
     |outgrown=>obtain⟨a',w',h'⟩:=he;exact⟨a',w',h'⟩)
 |halt x w'=>
  cases x<;>simp only[Oper.upon]at h⊢
  exact h
theorem WQ(h:Ygo ops last=true):(∀j,last.contains j=true->∃o,ops[j]? =some o/\eff o=true)/\∀i oi,ops[i]? =some oi->eff oi=false->∀j,last.contains j=true->∃f,ancB ops f j i=true:=by
 refine⟨λj hj=>?_,λi oi hi he j hj=>?_⟩
 ·have h1:=TF.1 h j (by simpa using hj)
  simp only[Tq]at h1
  cases ho:ops[j]? with
  |none=>rw[ho]at h1;cases h1.1
  |some o=>rw[ho]at h1;exact⟨o,rfl,h1.1⟩
 ·have h1:=TF.1 h j (by simpa using hj)
  simp only[Tq]at h1
  have hlt:i<ops.size:=(Si.1 hi).1
  have h2:=TF.1 h1.2 i (TQ.2 hlt)
  rw[hi]at h2
  simp only[he,Ny]at h2
  exact⟨_,h2⟩
theorem W5{S:World->Prop}{last:List Nat}(l:List Oper)(hl:ops=l.toArray)(hef:∀j,last.contains j=true->∃o,ops[j]? =some o/\eff o=true)(hlo:¬LetsOut Q):
 ∀(o2:List Nat) (listed:Array Bool) (a:Act) (w:World),(∀j∈o2,last.contains j=true)->WU ops o2 listed=true->wpList P ops Q (Yh l o2) a w->Zq P ops Q S last o2.length listed a w
 |[],listed,a,w,_,hB,h=>⟨by simpa [WU]using hB,h⟩
 |i::rest,listed,a,w,hin,hB,h=>by
  simp only[WU,Tq]at hB
  obtain⟨h1,h2⟩:=hB
  obtain⟨o,ho,he⟩:=hef i (hin i (by simp))
  rw[ho]at h1
  simp only[he,NF,Tt]at h1
  have hget:nthO l i=o:=by
   rw[YaQ]
   rw[hl]at ho
   simp only[NC]at ho
   simp[List.getD,ho]
  simp only[Yh,hget]at h
  unfold wpList at h
  refine⟨λh0=>(by rw[h1]at h0;cases h0),λk hk=>?_⟩
  rw[h1]at hk
  obtain rfl:k=i:=by simpa using hk
  unfold wpOp
  simp only[ho]
  have hc:last.contains k=true:=hin k (by simp)
  by_cases hw:Region.wanted o (yielded ops a.tmps)=true
  ·rw[Tn hw]at h⊢
   rcases h with h|⟨_,h⟩
   ·exact .inl (Oper.wp_mono (λa' w' h'=>⟨λhf=>(by rw[hc]at hf;cases hf),W5 l hl hef hlo rest _ a' w' (λj hj=>hin j (by simp[hj])) h2 h'⟩) h)
   ·exact(hlo h).elim
  ·rw[Tf hw]at h⊢
   exact⟨λhf=>(by rw[hc]at hf;cases hf),W5 l hl hef hlo rest _ _ w (λj hj=>hin j (by simp[hj])) h2 h⟩
theorem Un{S:World->Prop}{last:List Nat}(hs:Region.noSelect ops=true)(hQ:∀c (a:Act) (w:World),¬Q (.panic c) a w)(hlo:¬LetsOut Q)(l:List Oper)(hl:ops=l.toArray)(hlast:Ygo ops last=true):
 ∀(o1:List Nat) (listed:Array Bool) (a:Act) (w:World),Closed ops listed->(∀j∈o1,last.contains j=false)->WU ops (o1++last) listed=true->S w->Yv P ops (Jx P ops Q (Yh l last)) S (Yh l o1) a w->
  Zq P ops Q S last (o1++last).length listed a w
 |[],listed,a,w,_,_,hB,_,h=>W5 l hl (WQ hlast).1 hlo last listed a w (λj hj=>by simpa using hj) hB h
 |i::rest,listed,a,w,hcl,hno,hB,hS,h=>by
  simp only[TD,WU,Tq]at hB
  obtain⟨h1,h2⟩:=hB
  have hno':∀j∈rest,last.contains j=false:=λj hj=>hno j (by simp[hj])
  cases ho:ops[i]? with
  |none=>rw[ho]at h1;cases h1
  |some o=>
   rw[ho]at h1
   have hget:nthO l i=o:=by
    rw[YaQ]
    rw[hl]at ho
    simp only[NC]at ho
    simp[List.getD,ho]
   simp only[Yh,hget]at h
   by_cases he:eff o=true
   ·simp only[he,NF,Tt]at h1
    unfold Yv at h
    rw[Tn he]at h
    refine⟨λh0=>(by rw[h1]at h0;cases h0),λk hk=>?_⟩
    have hk':=hk
    rw[h1]at hk
    obtain rfl:k=i:=by simpa using hk
    unfold wpOp
    simp only[ho]
    by_cases hw:Region.wanted o (yielded ops a.tmps)=true
    ·rw[Tn hw]at h⊢
     refine .inl (Oper.wp_mono_noQ' (λc a w h=>by cases h) (Oper.wp_mono (λa' w' h'=>⟨λ_=>h'.1,Un hs hQ hlo l hl hlast rest _ a' w' (hcl.set hk') hno' h2 h'.1 h'.2⟩) h))
    ·rw[Tf hw]at h⊢
     exact⟨λ_=>hS,Un hs hQ hlo l hl hlast rest _ _ w (hcl.set hk') hno' h2 hS h⟩
   ·simp only[he]at h1
    simp only[SD,N8,Tq]at h1
    unfold Yv at h
    rw[Tf he]at h
    obtain⟨v,hy,h3⟩:=h
    have hr:i∈Region.ready .any ops listed:=by simpa using h1.1
    exact J2 ho (Region.noSelect_spec hs) hQ ((WQ hlast).2 i o ho (by simpa using he)) (hno i (by simp)) _ listed a w hcl (Region.free_spec ho h1.2) hr hy hS (Un hs hQ hlo l hl hlast rest _ _ w (hcl.set hr) hno' h2 hS h3)
def Split:List Bool->List HP->List HP->List HP->Prop
 |[],L,Hc,F=>Hc=[]/\F=L
 |true::bs,A::L,C::Hc,F=>C=A/\Split bs L Hc F
 |false::bs,A::L,Hc,C::F=>C=A/\Split bs L Hc F
 |_,_,_,_=>False
theorem YpN:Split [] L [] L:=⟨rfl,rfl⟩
variable {bs:List Bool}
theorem Yuc(h:Split bs L Hc F):Split (true::bs) (A::L) (A::Hc) F:=⟨rfl,h⟩
theorem Yub(h:Split bs L Hc F):Split (false::bs) (A::L) Hc (A::F):=by
 cases Hc<;>exact⟨rfl,h⟩
theorem Yj5(A:HP):∀(L M:List HP),Perm (A::(L++M)) (L++A::M)
 |[],_=>Perm.refl _
 |B::L,M=>(Perm.swap A B (L++M)).trans ((Yj5 A L M).cons B)
theorem XZ:∀{bs:List Bool}{L Hc F:List HP},Split bs L Hc F->Perm L (Hc++F)
 |[],L,Hc,F,h=>by obtain⟨rfl,rfl⟩:=h;exact Perm.refl _
 |true::bs,A::L,C::Hc,F,h=>by obtain⟨rfl,h⟩:=h;exact(XZ h).cons C
 |false::bs,A::L,[],C::F,h=>by
  obtain⟨rfl,h⟩:C=A/\Split bs L [] F:=h
  exact(XZ h).cons C
 |false::bs,A::L,D::Hc,C::F,h=>by
  obtain⟨rfl,h⟩:C=A/\Split bs L (D::Hc) F:=h
  exact((XZ h).cons C).trans (Yj5 C (D::Hc) F)
 |true::_,[],_,_,h=>h.elim
 |true::_,_::_,[],_,h=>h.elim
 |false::_,[],_,_,h=>by cases h
 |false::_,_::_,[],[],h=>by cases h
 |false::_,_::_,_::_,[],h=>by cases h
theorem St.prefix_{B:Nat}{w0:World}:∀{L F:List HP},St B w0 (L++F) w->St B w0 L w:=by
 intro L F h
 refine⟨h.below,h.le,?_⟩
 have key:∀(L:List HP) (S:Nat->Prop),sepL (L++F) S w->sepL L S w:=by
  intro L
  induction L with
  |nil=>intros;trivial
  |cons A L ih=>
   intro S hh
   obtain⟨S1,S2,h1,h2,h3,h4,h5⟩:=hh
   exact⟨S1,S2,h1,h2,h3,h4,ih S2 h5⟩
 exact key L _ h.sep
def Only(Q:Exit->Act->World->Prop):Exit->Act->World->Prop
 |.normal,a,w=>Q .normal a w
 |_,_,_=>False
theorem Za(ops:Array Oper)(k:Nat):Closed ops (Array.replicate k false):=by
 intro j oj _ hl
 rcases Su j k with h|h
 ·simp[h]at hl
 ·simp[h]at hl
theorem YX(o1 last:List Nat)(mask:List Bool)(hm:P.follows .mixedOrders=true)
 (hB:(Region.noSelect l.toArray&&decide ((o1++last).length=l.toArray.size)&&Ygo l.toArray last&&(o1.all λj=>!last.contains j)&&WU l.toArray (o1++last) (Array.replicate l.toArray.size false))=true)
 (hsp:Split mask H Hc F) {l1 l2:List Oper}(hl1:Yh l o1=l1) (hl2:Yh l last=l2) (h:VL P (some (some F)) n B w0 l.toArray (Jx P l.toArray (Only Q) l2) l1 env Hc):VC P n B w0 (.region id l.toArray true) Q env H:=by
 simp only[Tq,Tt]at hB
 obtain⟨⟨⟨⟨h1,h2⟩,h3⟩,h4⟩,h5⟩:=hB
 refine⟨λa w ha hw=>Ja (Q:=Only Q) ?_ λe a w h=>by cases e<;>first|exact h|cases h⟩
 have hst:St B w0 (Hc++F) w.drew:=(hw.perm (XZ hsp)).drew
 have hr:Yv P l.toArray (Jx P l.toArray (Only Q) l2) (St B w0 Hc) l1 a w.drew:=h.run a ha w.drew hst
 rw[<-hl1,<-hl2]at hr
 have:=Un (S:=St B w0 Hc) h1 (λc a w h=>h) (by rintro⟨_,_,h⟩;exact h) l rfl h3 o1 _ a w.drew (Za _ _) (λj hj=>by simpa using TF.1 h4 j hj) h5 hst.prefix_ hr
 rw[h2]at this
 exact V3 hm (Z9 _ _ _ _ this)
def Yil(P:Program)(B:Nat)(w0:World)(ops:Array Oper)(Q:Exit->Act->World->Prop)(Hc:List HP)(rest:List Oper):Exit->Act->World->Prop
 |.normal,a,w=>St B w0 Hc w/\Yv P ops Q (St B w0 Hc) rest a w
 |_,_,_=>False
theorem Oper.wp_mono_noQ{Q1 Q2:Exit->Act->World->Prop}(h1:∀c a w,¬Q1 (.panic c) a w)(h2:¬LetsOut Q1)(h:o.wp P a w K Q1):o.wp P a w K Q2:=by
 unfold Oper.wp at h⊢
 generalize(execOp a.eval o).run P w=r at*
 cases r with
 |ok nx w'=>
  cases nx<;>simp only[Oper.upon]at h⊢<;>first
   |exact h
   |(refine Calls.mono h λe w'' he=>?_
     cases e with
     |returned u=>exact he
     |panicked c=>exact(h1 _ _ _ he).elim
     |outgrown=>exact(h2 he).elim)
 |halt x w'=>
  cases x<;>simp only[Oper.upon]at h⊢
  exact(h1 _ _ _ h).elim
def App:List HP->List HP->List HP->Prop
 |[],F,HF=>HF=F
 |A::L,F,B::HF=>B=A/\App L F HF
 |_,_,_=>False
theorem Ytg:App [] F F:=rfl
theorem YqH(h:App L F HF):App (A::L) F (A::HF):=⟨rfl,h⟩
theorem WI:∀{L F HF:List HP},App L F HF->HF=L++F
 |[],_,_,h=>h
 |A::L,F,B::HF,h=>by obtain⟨rfl,h⟩:=h;rw[WI h];rfl
 |_::_,_,[],h=>h.elim
theorem Ys0(he:eff o=true)(hg:o.guard=none)(happ:App H F HF)(h:VL P none n B w0 ops (Yil P B w0 ops Q H rest) [o] env HF):VL P (some (some F)) n B w0 ops Q (o::rest) env H:=by
 refine⟨λa ha w hw=>?_⟩
 rw[<-WI happ]at hw
 have h1:wpList P ops (Yil P B w0 ops Q H rest) [o] a w:=h.run a ha w hw
 unfold Yv
 rw[Tn he,Tn (by simp[Region.wanted,hg])]
 unfold wpList at h1
 rw[Tn (by simp[Region.wanted,hg])]at h1
 have hlo:¬LetsOut (Yil P B w0 ops Q H rest):=by rintro⟨_,_,h⟩;exact h
 rcases h1 with h1|⟨_,h2⟩
 ·refine Oper.wp_mono_noQ (λc a w h=>h) hlo (Oper.wp_mono (λa' w' h'=>?_) h1)
  exact h'
 ·exact(hlo h2).elim
def Rem(A:HP)(L M:List HP):Prop:=Perm L (A::M)
theorem Ys:Rem A (A::L) L:=Perm.refl _
theorem YA{X:HP}(h:Rem A L M):Rem A (X::L) (X::M):=(Perm.cons X h).trans (Perm.swap X A M)
def Pull(Hc L F:List HP):Prop:=Perm L (Hc++F)
theorem YW:Pull [] L L:=Perm.refl _
theorem YL(h:Rem A L M)(h2:Pull Hc M F):Pull (A::Hc) L F:=Perm.trans h (Perm.cons A h2)
theorem Yl(hp:Pull Hc H' F)(h:VL P (some (some F)) n B w0 ops Q rest env Hc):VQ n B w0 (Yil P B w0 ops Q Hc rest) .normal env H':=
 ⟨λa w ha hw=>⟨(hw.perm hp).prefix_,h.run a ha w (hw.perm hp)⟩⟩
theorem Js(happ:App H F HF)(h:VQ n B w0 Q .normal env HF):VL P (some (some F)) n B w0 ops Q [] env H:=
 ⟨λa ha w hw=>by rw[<-WI happ]at hw;exact h.run a w ha hw⟩
theorem YqB(h:VL P none n B w0 ops Q l env H):VQ n B w0 (Jx P ops Q l) .normal env H:=⟨λa w ha hw=>h.run a ha w hw⟩
theorem Ytc(h:VQ n B w0 Q .normal env H):VQ n B w0 (Only Q) .normal env H:=⟨λa w ha hw=>h.run a w ha hw⟩
end
end Go.Eng
