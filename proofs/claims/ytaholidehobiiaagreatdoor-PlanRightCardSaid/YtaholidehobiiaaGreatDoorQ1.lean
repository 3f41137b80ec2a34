/- Lemmas for the claim, part 1. -/
import Derived.WalkKit
import Derived.Lib.Hide
import Derived.Deep.LoopGhost
import Derived.Deep.Quiet
import Derived.OrdersHeld
import Derived.OrdersIn
import Derived.TacticsIn
import Derived.RangeFuncCalls
import Derived.Sort.LoopGhostIn
import Derived.KernelRfl
import Derived.Maps.AppendAt
import Derived.Laws.StructEq
import Derived.ChangeKeysEq
import Derived.MapKept
import Derived.Maps.RangeRun
import Derived.Laws.IdiomCopy
import Derived.Laws.ResultCell
import Derived.Laws.Tables
import Derived.Great.BuildSlice
import Derived.Test.YtaholidehobiiaaGreatDoorProg
set_option maxRecDepth 100000
set_option maxHeartbeats 8000000
namespace Go.Eng
end Go.Eng
namespace Go.Nw
end Go.Nw
namespace Go.Proofs
end Go.Proofs
namespace Go.Proofs.YtaholidehobiiaaGreatDoor
end Go.Proofs.YtaholidehobiiaaGreatDoor
namespace Go.Rt
end Go.Rt
namespace Go
theorem Ta:type_of%@List.getElem?_eq_getElem:=@List.getElem?_eq_getElem
theorem Tc:type_of%@decide_eq_true:=@decide_eq_true
theorem Td:type_of%@if_neg:=@if_neg
theorem Tf:type_of%@List.mem_of_getElem?:=@List.mem_of_getElem?
theorem Ti:type_of%@List.getElem?_eq_some_iff:=@List.getElem?_eq_some_iff
theorem Tj:type_of%@List.length_append:=@List.length_append
theorem Tm:type_of%@if_pos:=@if_pos
theorem Tn:type_of%@decide_eq_false:=@decide_eq_false
theorem To:type_of%@Bool.and_eq_true:=@Bool.and_eq_true
theorem Tq:type_of%@decide_eq_true_eq:=@decide_eq_true_eq
theorem Tt:type_of%@List.getD_eq_getElem?_getD:=@List.getD_eq_getElem?_getD
theorem Tu:type_of%@Nat.zero_le:=@Nat.zero_le
theorem Tv:type_of%@List.length_map:=@List.length_map
theorem Tz:type_of%@Option.some.inj:=@Option.some.inj
theorem TA:type_of%@List.mem_cons_self:=@List.mem_cons_self
theorem TB:type_of%@List.mem_cons_of_mem:=@List.mem_cons_of_mem
theorem TC:type_of%@List.cons_append:=@List.cons_append
theorem TD:type_of%@List.length_take:=@List.length_take
theorem TE:type_of%@List.getElem?_map:=@List.getElem?_map
theorem TF:type_of%@List.take_add_one:=@List.take_add_one
theorem TG:type_of%@List.mem_map:=@List.mem_map
theorem TI:type_of%@List.all_eq_true:=@List.all_eq_true
theorem TJ:type_of%@List.mem_singleton:=@List.mem_singleton
theorem TK:type_of%@List.nil_append:=@List.nil_append
theorem TL:type_of%@Nat.le_refl:=@Nat.le_refl
theorem TM:type_of%@List.append_nil:=@List.append_nil
theorem TN:type_of%@List.mem_cons:=@List.mem_cons
theorem TO:type_of%@List.mem_range:=@List.mem_range
theorem TP:type_of%@List.length_singleton:=@List.length_singleton
theorem TQ:type_of%@List.take_of_length_le:=@List.take_of_length_le
theorem TR:type_of%@List.flatMap_cons:=@List.flatMap_cons
theorem TS:type_of%@List.length_cons:=@List.length_cons
theorem TT:type_of%@List.mem_append:=@List.mem_append
theorem TU:type_of%@congrArg:=@congrArg
theorem TV:type_of%@List.flatMap_append:=@List.flatMap_append
theorem TX:type_of%@List.append_assoc:=@List.append_assoc
theorem TY:type_of%@List.take_length:=@List.take_length
theorem TZ:type_of%@List.drop_eq_nil_of_le:=@List.drop_eq_nil_of_le
theorem T0:type_of%@Nat.le_of_ble_eq_true:=@Nat.le_of_ble_eq_true
theorem T8:type_of%@List.map_append:=@List.map_append
theorem T9:type_of%@List.mem_iff_getElem?:=@List.mem_iff_getElem?
theorem Rb:type_of%@List.mem_append_right:=@List.mem_append_right
theorem Re:type_of%@List.map_cons:=@List.map_cons
theorem Rf:type_of%@List.length_drop:=@List.length_drop
theorem Rh:type_of%@List.length_set:=@List.length_set
theorem Ri:type_of%@List.nodup_append:=@List.nodup_append
theorem Rj:type_of%@List.filter_append:=@List.filter_append
theorem Rk:type_of%@List.any_eq_true:=@List.any_eq_true
theorem Rl:type_of%@decide_eq_false_iff_not:=@decide_eq_false_iff_not
theorem Rm:type_of%@of_decide_eq_true:=@of_decide_eq_true
theorem Rn:type_of%@List.length_filter_le:=@List.length_filter_le
theorem Ro:type_of%@List.getElem?_append_right:=@List.getElem?_append_right
theorem Rq:type_of%@Nat.mul_le_mul_right:=@Nat.mul_le_mul_right
theorem Rr:type_of%@List.mem_filter:=@List.mem_filter
theorem Ru:type_of%@Option.some.injEq:=@Option.some.injEq
theorem Rw:type_of%@List.length_replicate:=@List.length_replicate
theorem Rx:type_of%@List.drop_eq_getElem_cons:=@List.drop_eq_getElem_cons
theorem Ry:type_of%@Nat.zero_add:=@Nat.zero_add
theorem RA:type_of%@List.range_succ:=@List.range_succ
theorem RB:type_of%@List.getElem?_drop:=@List.getElem?_drop
theorem RD:type_of%@List.length_nil:=@List.length_nil
theorem RE:type_of%@Nat.le_trans:=@Nat.le_trans
theorem RG:type_of%@Array.getElem?_eq_none:=@Array.getElem?_eq_none
theorem RH:type_of%@Option.map_some:=@Option.map_some
theorem RI:type_of%@Option.toList_some:=@Option.toList_some
theorem RJ:type_of%@List.eq_nil_of_length_eq_zero:=@List.eq_nil_of_length_eq_zero
theorem RL:type_of%@Decidable.not_not:=@Decidable.not_not
theorem RN:type_of%@List.mem_flatMap:=@List.mem_flatMap
theorem RO:type_of%@List.pairwise_iff_getElem:=@List.pairwise_iff_getElem
theorem RP:type_of%@List.getElem?_eq_none:=@List.getElem?_eq_none
theorem RS:type_of%@Bool.true_and:=@Bool.true_and
theorem RU:type_of%@Nat.lt_succ_iff_lt_or_eq:=@Nat.lt_succ_iff_lt_or_eq
theorem RV:type_of%@Int.tmod_eq_emod_of_nonneg:=@Int.tmod_eq_emod_of_nonneg
theorem RX:type_of%@Nat.add_mul:=@Nat.add_mul
theorem RY:type_of%@List.any_eq_false:=@List.any_eq_false
theorem RZ:type_of%@Int.toNat_natCast:=@Int.toNat_natCast
theorem R7:type_of%@List.not_mem_nil:=@List.not_mem_nil
theorem R9:type_of%@Array.getElem?_eq_some_iff:=@Array.getElem?_eq_some_iff
theorem Si:type_of%@Bool.not_eq_true':=@Bool.not_eq_true'
theorem Sj:type_of%@Bool.or_eq_true:=@Bool.or_eq_true
theorem Sl:type_of%@List.getElem?_append_left:=@List.getElem?_append_left
theorem Sr:type_of%@List.getElem?_set_self:=@List.getElem?_set_self
theorem Ss:type_of%@List.mem_append_left:=@List.mem_append_left
theorem Su:type_of%@List.filter_cons:=@List.filter_cons
theorem Sv:type_of%@Nat.not_lt_zero:=@Nat.not_lt_zero
theorem SA:type_of%@Bool.false_eq_true:=@Bool.false_eq_true
theorem SB:type_of%@Nat.lt_or_ge:=@Nat.lt_or_ge
theorem SC:type_of%@List.take_append_drop:=@List.take_append_drop
theorem SD:type_of%@Int.le_refl:=@Int.le_refl
theorem SE:type_of%@List.getElem?_take:=@List.getElem?_take
theorem SG:type_of%@Nat.min_eq_left:=@Nat.min_eq_left
theorem SH:type_of%@List.nodup_cons:=@List.nodup_cons
theorem SI:type_of%@Bool.false_and:=@Bool.false_and
theorem SJ:type_of%@List.ext_getElem?:=@List.ext_getElem?
theorem SK:type_of%@Array.getElem?_eq_getElem:=@Array.getElem?_eq_getElem
theorem SL:type_of%@List.getElem?_take_of_lt:=@List.getElem?_take_of_lt
theorem SN:type_of%@List.getElem?_range:=@List.getElem?_range
theorem SO:type_of%@List.mem_map_of_mem:=@List.mem_map_of_mem
theorem SQ:type_of%@Nat.add_zero:=@Nat.add_zero
theorem SR:type_of%@Nat.add_sub_cancel:=@Nat.add_sub_cancel
theorem SU:type_of%@List.mem_of_mem_take:=@List.mem_of_mem_take
theorem SV:type_of%@List.any_append:=@List.any_append
theorem SX:type_of%@Int.mul_le_mul_of_nonneg_right:=@Int.mul_le_mul_of_nonneg_right
theorem SY:type_of%@List.map_toArray:=@List.map_toArray
theorem SZ:type_of%@List.flatMap_nil:=@List.flatMap_nil
theorem S0:type_of%@List.drop_length:=@List.drop_length
theorem S5:type_of%@Array.length_toList:=@Array.length_toList
theorem S7:type_of%@Bool.eq_false_iff:=@Bool.eq_false_iff
theorem S8:type_of%@Array.setIfInBounds_comm:=@Array.setIfInBounds_comm
theorem S9:type_of%@List.drop_drop:=@List.drop_drop
theorem Na:type_of%@List.foldl_cons:=@List.foldl_cons
theorem Nb:type_of%@Nat.sub_self:=@Nat.sub_self
theorem Nc:type_of%@beq_iff_eq:=@beq_iff_eq
theorem Nh:type_of%@Nat.add_right_comm:=@Nat.add_right_comm
theorem Ni:type_of%@List.filter_congr:=@List.filter_congr
theorem Nj:type_of%@List.range_succ_eq_map:=@List.range_succ_eq_map
theorem Nk:type_of%@List.take_take:=@List.take_take
theorem Nl:type_of%@List.take_zero:=@List.take_zero
theorem Nn:type_of%@List.replicate_succ:=@List.replicate_succ
theorem Np:type_of%@Decidable.byContradiction:=@Decidable.byContradiction
theorem Nq:type_of%@Array.getElem?_modify:=@Array.getElem?_modify
theorem Nr:type_of%@Array.getElem?_toList:=@Array.getElem?_toList
theorem Ns:type_of%@List.pairwise_cons:=@List.pairwise_cons
theorem Nu:type_of%@Option.bind_some:=@Option.bind_some
theorem Nv:type_of%@List.set_cons_zero:=@List.set_cons_zero
theorem Nx:type_of%@List.take_append:=@List.take_append
theorem Ny:type_of%@Int.mul_le_mul_of_nonneg_left:=@Int.mul_le_mul_of_nonneg_left
theorem Nz:type_of%@List.getElem?_set_ne:=@List.getElem?_set_ne
theorem NA:type_of%@List.getElem?_cons_succ:=@List.getElem?_cons_succ
theorem NB:type_of%@List.filter_sublist:=@List.filter_sublist
theorem NC:type_of%@List.takeWhile_cons:=@List.takeWhile_cons
theorem ND:type_of%@Bool.false_or:=@Bool.false_or
theorem NE:type_of%@Nat.mul_one:=@Nat.mul_one
theorem NF:type_of%@if_true:=@if_true
theorem NG:type_of%@List.getElem?_toArray:=@List.getElem?_toArray
theorem NH:type_of%@List.mem_or_eq_of_mem_set:=@List.mem_or_eq_of_mem_set
theorem NI:type_of%@Bool.eq_iff_iff:=@Bool.eq_iff_iff
theorem NJ:type_of%@List.sum_cons:=@List.sum_cons
theorem NK:type_of%@Option.isSome_iff_exists:=@Option.isSome_iff_exists
theorem NL:type_of%@List.take_succ_cons:=@List.take_succ_cons
theorem NM:type_of%@Nat.add_sub_cancel_left:=@Nat.add_sub_cancel_left
theorem NN:type_of%@Nat.testBit_succ:=@Nat.testBit_succ
theorem NP:type_of%@List.getElem_map:=@List.getElem_map
theorem NQ:type_of%@Nat.eq_zero_or_pos:=@Nat.eq_zero_or_pos
theorem NR:type_of%@List.filter_filter:=@List.filter_filter
theorem NS:type_of%@List.map_map:=@List.map_map
theorem NT:type_of%@List.set_cons_succ:=@List.set_cons_succ
theorem NU:type_of%@List.find?_eq_none:=@List.find?_eq_none
theorem NV:type_of%@List.all_cons:=@List.all_cons
theorem NW:type_of%@Nat.add_assoc:=@Nat.add_assoc
theorem NX:type_of%@List.set_append_right:=@List.set_append_right
theorem NY:type_of%@List.perm_append_comm:=@List.perm_append_comm
theorem NZ:type_of%@Ne.symm:=@Ne.symm
theorem N1:type_of%@Nat.lt_trichotomy:=@Nat.lt_trichotomy
theorem N2:type_of%@or_false:=@or_false
theorem N3:type_of%@List.pairwise_append:=@List.pairwise_append
theorem N4:type_of%@Nat.zero_mul:=@Nat.zero_mul
theorem N5:type_of%@List.map_nil:=@List.map_nil
theorem N6:type_of%@List.take_set_of_le:=@List.take_set_of_le
theorem N7:type_of%@List.replicate_zero:=@List.replicate_zero
theorem N8:type_of%@if_false:=@if_false
theorem N9:type_of%@List.find?_cons:=@List.find?_cons
theorem Mc:type_of%@Option.map_none:=@Option.map_none
theorem Md:type_of%@List.pairwise_map:=@List.pairwise_map
theorem Me:type_of%@List.length_range:=@List.length_range
theorem MA:type_of%@List.any_cons:=@List.any_cons
theorem MC:type_of%@Bool.or_false:=@Bool.or_false
theorem MD:type_of%@List.any_map:=@List.any_map
theorem ME:type_of%@Int.add_zero:=@Int.add_zero
theorem MF:type_of%@Bool.not_not:=@Bool.not_not
theorem MG:type_of%@Int.lt_or_le:=@Int.lt_or_le
end Go
namespace Go.Eng
theorem zo{p:Prop}(h:p:=by exfalso;omega):p:=h
theorem zk{p:Prop}(h:p:=by first|((intro w hw;refine hw.perm ?_;focus repeat(first|with_reducible exact Perm.refl _|(with_reducible apply Yns;focus((repeat(first|with_reducible exact Yt|with_reducible apply YD));done))|with_reducible apply Perm.dropK));done)|fail):p:=h
theorem zu{p:Prop}(h:p:=by first|((repeat(first|exact Yrw _|(apply Yp3;first|exact rfl|exact congrArg (fun z:Int=>some (Value.int .i64 z)) (by omega))));done)|fail):p:=h
theorem zr{p:Prop}(h:p:=by first|((first|(focus(repeat(first|assumption|apply Rd.cons));done)|exact Rd.sl (by(focus repeat(first|with_reducible exact List.mem_cons_self|with_reducible apply List.mem_cons_of_mem|assumption))));done)|fail):p:=h
theorem zm{p:Prop}(h:p:=by first|((focus repeat(first|with_reducible exact List.mem_cons_self|with_reducible apply List.mem_cons_of_mem|assumption));done)|fail):p:=h
theorem za{p:Prop}(h:p:=by first|((repeat(first|exact YoD|(apply Yms;exact rfl)));done)|fail):p:=h
theorem zp{p:Prop}(h:p:=by first|((repeat(first|with_reducible exact YqK|with_reducible apply YoB|exact Yhj _));done)|fail):p:=h
theorem zy{p:Prop}(h:p:=by first|((repeat(first|with_reducible exact YnK|with_reducible apply Yrv|with_reducible apply Yru));done)|fail):p:=h
theorem zq{p:Prop}(h:p:=by first|((repeat(first|exact PutAt.nil|(apply PutAt.cons;(repeat(first|exact Ydz|apply YbD)))));done)|fail):p:=h
theorem zt{p:Prop}(h:p:=by first|((repeat(first|exact Ydz|apply YbD));done)|fail):p:=h
theorem zd{p:Prop}(h:p:=by first|((repeat(first|with_reducible exact Upd.here _|with_reducible apply Upd.there));done)|fail):p:=h
theorem zl{p:Prop}(h:p:=by first|((repeat(first|with_reducible exact Y6|(with_reducible apply YX;(repeat(first|with_reducible exact Yt|with_reducible apply YD)))));done)|fail):p:=h
theorem zv{p:Prop}(h:p:=by first|((simp only[subL,List.toList_toArray,List.drop_succ_cons,List.drop_zero,List.take_succ_cons,List.take_zero,Nat.zero_add];rfl);done)|fail):p:=h
structure Hid(Q:Prop):Prop where
 h:Q
theorem zga{P Q:Prop}(q:Q)(h:Hid Q→P:=by intro q;first|(apply(zs1 ?_);exact q.h)|(apply(zs2 ?_);exact q.h)|(apply zg3;refine zs7 ?_;exact q.h)|(apply(zs65 ?_);exact q.h)|(apply(zs68 ?_);exact q.h)|(apply(zs69 ?_);exact q.h)|(apply(zs70 ?_);exact q.h)|(apply zg27;refine zs72 ?_;exact q.h)|(apply(zs74 ?_);exact q.h)|fail):P:=h ⟨q⟩
theorem zgb{P Q:Prop}(q:Q)(h:Hid Q→P:=by intro q;first|(apply(zs1 ?_);exact q.h)|(apply(zs2 ?_);exact q.h)|(apply zg2;refine zs6 ?_;exact q.h)|(apply zg3;(first|refine zs7 ?_|refine zs8 ?_);exact q.h)|(apply zg4;refine zs9 ?_;exact q.h)|(apply(zs65 ?_);exact q.h)|(apply(zs68 ?_);exact q.h)|(apply(zs69 ?_);exact q.h)|(apply(zs70 ?_);exact q.h)|(apply zg27;(first|refine zs71 ?_|refine zs72 ?_);exact q.h)|(apply(zs73 ?_);exact q.h)|(apply(zs74 ?_);exact q.h)|(apply(zs76 ?_);exact q.h)|(apply(zs77 ?_);exact q.h)|fail):P:=h ⟨q⟩
theorem zgc{P Q:Prop}(q:Q)(h:Hid Q→P:=by intro q;first|(apply(zs1 ?_);exact q.h)|(apply(zs2 ?_);exact q.h)|(apply zg1;(first|refine zs3 ?_|refine zs4 ?_);exact q.h)|(apply zg2;refine zs6 ?_;exact q.h)|(apply zg3;(first|refine zs7 ?_|refine zs8 ?_);exact q.h)|(apply zg4;refine zs9 ?_;exact q.h)|(apply zg6;(first|refine zs11 ?_|refine zs12 ?_);exact q.h)|(apply(zs13 ?_);exact q.h)|(apply zg13;refine zs30 ?_;exact q.h)|(apply zg22;refine zs51 ?_;exact q.h)|(apply zg5;refine zs57 ?_;exact q.h)|(apply(zs65 ?_);exact q.h)|(apply(zs68 ?_);exact q.h)|(apply(zs69 ?_);exact q.h)|(apply(zs70 ?_);exact q.h)|(apply zg27;(first|refine zs71 ?_|refine zs72 ?_);exact q.h)|(apply(zs73 ?_);exact q.h)|(apply(zs74 ?_);exact q.h)|(apply(zs75 ?_);exact q.h)|(apply(zs76 ?_);exact q.h)|(apply(zs77 ?_);exact q.h)|(apply(zs79 ?_);exact q.h)|(apply(zs80 ?_);exact q.h)|(apply(zs81 ?_);exact q.h)|fail):P:=h ⟨q⟩
theorem zgd{P Q:Prop}(q:Q)(h:Hid Q→P:=by intro q;first|(apply(zs1 ?_);exact q.h)|(apply(zs2 ?_);exact q.h)|(apply zg1;(first|refine zs3 ?_|refine zs4 ?_);exact q.h)|(apply(zs5 ?_);exact q.h)|(apply zg2;(first|refine zs6 ?_|refine zs58 ?_);exact q.h)|(apply zg3;(first|refine zs7 ?_|refine zs8 ?_|refine zs59 ?_|refine zs60 ?_|refine zs61 ?_);exact q.h)|(apply zg4;(first|refine zs9 ?_|refine zs14 ?_);exact q.h)|(apply zg5;(first|refine zs10 ?_|refine zs57 ?_);exact q.h)|(apply zg6;(first|refine zs11 ?_|refine zs12 ?_);exact q.h)|(apply(zs13 ?_);exact q.h)|(apply zg13;refine zs30 ?_;exact q.h)|(apply zg14;refine zs31 ?_;exact q.h)|(apply zg15;refine zs32 ?_;exact q.h)|(apply zg16;refine zs36 ?_;exact q.h)|(apply zg17;refine zs37 ?_;exact q.h)|(apply zg18;refine zs38 ?_;exact q.h)|(apply(zs40 ?_);exact q.h)|(apply zg19;(first|refine zs44 ?_|refine zs45 ?_);exact q.h)|(apply zg20;(first|refine zs47 ?_|refine zs48 ?_);exact q.h)|(apply zg22;(first|refine zs50 ?_|refine zs51 ?_);exact q.h)|(apply zg25;refine zs55 ?_;exact q.h)|(apply(zs65 ?_);exact q.h)|(apply(zs66 ?_);exact q.h)|(apply(zs68 ?_);exact q.h)|(apply(zs69 ?_);exact q.h)|(apply(zs70 ?_);exact q.h)|(apply zg27;(first|refine zs71 ?_|refine zs72 ?_);exact q.h)|(apply(zs73 ?_);exact q.h)|(apply(zs74 ?_);exact q.h)|(apply(zs75 ?_);exact q.h)|(apply(zs76 ?_);exact q.h)|(apply(zs77 ?_);exact q.h)|(apply(zs78 ?_);exact q.h)|(apply(zs79 ?_);exact q.h)|(apply(zs80 ?_);exact q.h)|(apply(zs81 ?_);exact q.h)|(apply(zs82 ?_);exact q.h)|(apply zg28;refine zs83 ?_;exact q.h)|(apply(zs87 ?_);exact q.h)|(apply(zs90 ?_);exact q.h)|(apply(zs93 ?_);exact q.h)|(apply(zs94 ?_);exact q.h)|(apply X5;exact zp;exact q.h)|(apply YkR;exact zp;exact q.h)|(apply YqF;exact zp;exact q.h)|(apply YqG;exact zp;exact q.h)|fail):P:=h ⟨q⟩
theorem zge{P Q R:Prop}(q:Q)(r:R)(h:Hid Q→Hid R→P:=by intro q r;first|(apply zg7;refine zs15 ?_ ?_;exact q.h;exact r.h)|(apply zg8;refine zs16 ?_ ?_;exact q.h;exact r.h)|(apply(zs17 ?_ ?_);exact q.h;exact r.h)|fail):P:=h ⟨q⟩ ⟨r⟩
theorem zgf{P Q R:Prop}(q:Q)(r:R)(h:Hid Q→Hid R→P:=by intro q r;first|(apply zg7;refine zs15 ?_ ?_;exact q.h;exact r.h)|(apply zg8;refine zs16 ?_ ?_;exact q.h;exact r.h)|(apply(zs17 ?_ ?_);exact q.h;exact r.h)|(apply(zs18 ?_ ?_);exact q.h;exact r.h)|(apply(zs19 ?_ ?_);exact q.h;exact r.h)|(apply(zs20 ?_ ?_);exact q.h;exact r.h)|(apply(zs25 ?_ ?_);exact q.h;exact r.h)|(apply(zs62 ?_ ?_);exact q.h;exact r.h)|fail):P:=h ⟨q⟩ ⟨r⟩
theorem zgh{P Q:Prop}(q:Q)(h:Hid Q→P:=by intro q;first|(apply zg23;(first|refine zs52 ?_|refine zs53 ?_);exact q.h)|(apply zg24;refine zs54 ?_;exact q.h)|(apply zg26;refine zs56 ?_;exact q.h)|fail):P:=h ⟨q⟩
theorem zgi{P Q:Prop}(q:Q)(h:Hid Q→P:=by intro q;first|(apply zg21;refine zs49 ?_;exact q.h)|fail):P:=h ⟨q⟩
end Go.Eng
namespace Go.Nw
abbrev Lk:=Int×Int×Int
structure Net where
 nodes:Int
 power:List (List Int)
 noise:Int
 thr:Int
 links:List Lk
 margin:List Int
def cmpI(x y:Int):Int:=if x<y then -1 else if y<x then 1 else 0
def cmpL(a b:Lk):Int:=if cmpI a.1 b.1=0 then cmpI a.2.1 b.2.1 else cmpI a.1 b.1
def JF(p:Int):Bool:=decide (p<0\/68719476736<p)
def wide(k:Int)(r:List Int):Bool:=decide ((r.length:Int)≠k)
def WC(n:Net):Int:=
 if(n.power.length:Int)≠n.nodes then 1 else if n.power.any (wide n.nodes)=true then 1 else if n.power.any (λr=>r.any JF)=true then 2 else 0
def lnk(n:Net)(i:Nat):Lk:=n.links.getD i (0,0,0)
def mar(n:Net)(i:Nat):Int:=n.margin.getD i 0
def powr(n:Net)(a b:Int):Int:=(n.power.getD a.toNat []).getD b.toNat 0
def OZ(n:Net)(i:Nat):Int:=
 if¬(0<=(lnk n i).1/\(lnk n i).1<n.nodes)\/¬(0<=(lnk n i).2.1/\(lnk n i).2.1<n.nodes)\/(lnk n i).1=(lnk n i).2.1\/(lnk n i).2.2<0\/7<(lnk n i).2.2 then 2
 else if 0<i/\0<=cmpL (lnk n (i-1)) (lnk n i)then 5
 else if mar n i<0\/powr n (lnk n i).1 (lnk n i).2.1<mar n i then 2 else 0
def V2(n:Net):Nat->Nat->Int
 |0,_=>0
 |r+1,i=>if OZ n i=0 then V2 n r (i+1)else OZ n i
def Yq(n:Net):Int:=
 if n.nodes<2\/32<n.nodes then 2 else if WC n≠0 then WC n
 else if n.noise<0\/68719476736<n.noise\/n.thr<1000\/100000<n.thr then 2
 else if 128<n.links.length then 8 else if n.margin.length≠n.links.length then 11 else V2 n n.links.length 0
def Yn{α:Type}(p:α->Bool):List α->Int->Int
 |[],_=> -1
 |a::l,k=>if p a then k else Yn p l (k+1)
theorem Vz{α:Type}(p:α->Bool):∀(l:List α) (k:Int),0<=k->(0<=Yn p l k↔l.any p=true)
 |[],k,_=>by simp[Yn]
 |a::l,k,h=>by
  unfold Yn
  by_cases hp:p a=true
  ·simp_all
  ·rw[Td hp,Vz p l (k+1) (by omega)]
   simp[hp]
theorem JA{α:Type}(p:α->Bool)(l:List α){k:Nat}{a:α}(h:l[k]? =some a):Yn p (l.drop k) k=if p a then(k:Int)else Yn p (l.drop (k+1)) (k+1):=by
 grind [Rx,Yn]
variable {i:Nat}
theorem Yie(n:Net)(h:i<n.links.length)(h0:OZ n i=0):V2 n (n.links.length-i) i=V2 n (n.links.length-(i+1)) (i+1):=by
 rw[show n.links.length-i=n.links.length-(i+1)+1 by omega,V2,Tm h0]
theorem Yif(n:Net)(h:i<n.links.length)(h0:OZ n i≠0):V2 n (n.links.length-i) i=OZ n i:=by
 rw[show n.links.length-i=n.links.length-(i+1)+1 by omega,V2,Td h0]
theorem YiV{n:Net}(h:WC n=0):(n.power.length:Int)=n.nodes/\(∀r∈n.power,(r.length:Int)=n.nodes)/\∀r∈n.power,∀p∈r,0<=p/\p<=68719476736:=by
 unfold WC at h
 by_cases h1:(n.power.length:Int)≠n.nodes
 ·omega
 by_cases h2:n.power.any (wide n.nodes)=true
 ·simp_all
 by_cases h3:n.power.any (λr=>r.any JF)=true
 ·simp_all
 refine⟨by omega,λr hr=>?_,λr hr p hp=>?_⟩
 ·by_cases hw:(r.length:Int)=n.nodes
  ·exact hw
  ·exact absurd (Rk.2 ⟨r,hr,by simp[wide,hw]⟩) h2
 ·by_cases ho:JF p=true
  ·grind
  grind [JF]
end Go.Nw
namespace Go.Proofs.YtaholidehobiiaaGreatDoor
def Xd:List Int->List Int->Bool
 |[],b=>!b.isEmpty
 |_::_,[]=>false
 |a::l,b::m=>if a≠b then decide (a<b)else Xd l m
theorem Yid{a b:List Int}{i:Nat}{x y:Int}(hx:a[i]? =some x)(hy:b[i]? =some y):Xd (a.drop i) (b.drop i)=if x≠y then decide (x<y)else Xd (a.drop (i+1)) (b.drop (i+1)):=by
 obtain⟨h1,rfl⟩:=Ti.1 hx
 obtain⟨h2,rfl⟩:=Ti.1 hy
 rw[Rx h1,Rx h2]
 rfl
theorem Ypp:∀{a b:List Int},Xd a b=false->Xd b a=false->a=b
 |[],[],_,_=>rfl
 |[],b::m,h,_=>by simp[Xd]at h
 |a::l,[],_,h=>by simp[Xd]at h
 |a::l,b::m,h1,h2=>by
  unfold Xd at h1 h2
  by_cases e:a=b
  ·subst e
   rw[Td (λh=>h rfl)]at h1 h2
   rw[Ypp h1 h2]
  grind
theorem QW:∀a:List Int,Xd a a=false
 |[]=>rfl
 |a::l=>by unfold Xd;rw[Td (λh=>h rfl)];exact QW l
open Go.Nw
abbrev Cel:=Int×Int×Int×Int×Int
def nums(c:Cel):List Int:=[c.1,c.2.1,c.2.2.1,c.2.2.2.1,c.2.2.2.2]
def Y8(a b:Cel):Bool:=Xd (nums a) (nums b)
variable {a b c:Cel}
theorem Yiq(h:nums a=nums b):a=b:=by
 grind [nums]
theorem Ye7:∀{a b c:List Int},Xd a b=true->Xd b c=true->Xd a c=true
 |_,_,[],_,h=>by cases‹List Int›<;>cases h
 |[],_,_::_,_,_=>rfl
 |_::_,[],_::_,h,_=>by cases h
 |x::a,y::b,z::c,h1,h2=>by
  unfold Xd at h1 h2⊢
  by_cases e1:x=y
  ·subst e1
   rw[Td (λh=>h rfl)]at h1
   by_cases e2:x=z
   ·subst e2
    rw[Td (λh=>h rfl)]at h2⊢
    exact Ye7 h1 h2
   simp_all
  grind
theorem Jk(h1:Y8 a b=true)(h2:Y8 b c=true):Y8 a c=true:=Ye7 h1 h2
theorem JS(a:Cel):Y8 a a=false:=QW _
theorem QI(h1:Y8 a b=false)(h2:Y8 b a=false):a=b:=Yiq (Ypp h1 h2)
def insE(x n:Int):Bool:=decide (0<=x/\x<n)
structure Sch where
 len:Int
 off:Int
 cells:List Cel
def ZC(s:Sch)(c:Cel):Bool:=insE c.1 s.len&&insE c.2.1 s.off
def ZT(s:Sch)(c:Cel):Bool:=ZC s c&&insE c.2.2.1 32&&insE c.2.2.2.1 32&&insE c.2.2.2.2 256
def ZO(s:Sch):Bool:=decide (1<=s.len/\s.len<=512/\1<=s.off/\s.off<=16)
def Yo(s:Sch)(i:Nat):Cel:=s.cells.getD i (0,0,0,0,0)
def Vm(s:Sch)(i:Nat):Bool:=ZT s (Yo s i)&&(decide (i=0)||Y8 (Yo s (i-1)) (Yo s i))
def Xz(s:Sch):Bool:=ZO s&&decide (s.cells.length<=512)&&(List.range s.cells.length).all (Vm s)
variable {p:Nat->Bool}{k i:Nat}
theorem Ycn:(List.range (k+1)).all p=((List.range k).all p&&p k):=by
 grind
theorem YfR(hi:i<k)(h:p i=false):(List.range k).all p=false:=by
 grind
theorem YfQ(h:(List.range k).all p=true)(hi:i<k):p i=true:=by simp_all
variable {s:Sch}
theorem XF(h:s.cells[i]? =some c):Yo s i=c:=by
 grind [Yo]
theorem Y2(h:i<s.cells.length):s.cells[i]? =some (Yo s i):=by
 grind [Yo]
theorem JQ(h:i<s.cells.length):Yo s i∈s.cells:=Tf (Y2 h)
structure Frm(s:Sch):Prop where
 sized:ZO s=true
 few:s.cells.length<=512
 formed:∀c∈s.cells,ZT s c=true
 ord:s.cells.Pairwise λa b=>Y8 a b=true
theorem Yab{α:Type}{lt:α->α->Bool}(htr:∀{a b c},lt a b=true->lt b c=true->lt a c=true){l:List α}(h:∀i,∀a b,l[i]? =some a->l[i+1]? =some b->lt a b=true):l.Pairwise λa b=>lt a b=true:=by
 induction l with
 |nil=>simp_all
 |cons x l ih=>
  have h1:=ih λi a b ha hb=>h (i+1) a b (by simp_all) (by simp_all)
  refine .cons (λy hy=>?_) h1
  cases l with
  |nil=>cases hy
  |cons z l=>
   have hz:=h 0 x z rfl rfl
   grind [Ns]
theorem ZJ:Xz s=true↔Frm s:=by
 unfold Xz
 simp only[To,Tq]
 constructor
 ·rintro⟨⟨h1,h2⟩,h3⟩
  have hc:∀i,i<s.cells.length->Vm s i=true:=by simp_all
  refine⟨h1,h2,λc hc2=>?_,?_⟩
  ·obtain⟨i,hi⟩:=T9.1 hc2
   have:=hc i (Ti.1 hi).1
   simp_all [Vm,XF]
  ·refine Yab (lt:=Y8) (λh1 h2=>Jk h1 h2) λi a b ha hb=>?_
   have:=hc (i+1) (Ti.1 hb).1
   simp_all [Vm,XF]
 ·intro h
  refine⟨⟨h.sized,h.few⟩,TI.2 λi hi=>?_⟩
  have hi:=TO.1 hi
  unfold Vm
  rw[h.formed _ (JQ hi),RS,Sj,Tq]
  rcases NQ i with h0|h0
  ·omega
  ·obtain⟨h1,h2⟩:=Ti.1 (Y2 (s:=s) (i:=i-1) (by omega))
   obtain⟨h3,h4⟩:=Ti.1 (Y2 (s:=s) hi)
   grind [RO,Go.Proofs.YtaholidehobiiaaGreatDoor.Frm.ord]
abbrev Flw:=Int×Int×Int×Int×Int×Int
def XD(nodes:Int)(f:Flw):Int:=
 if f.1<0\/255<f.1\/insE f.2.1 nodes=false\/insE f.2.2.1 nodes=false then 2
 else if f.2.2.2.1<1\/512<f.2.2.2.1\/f.2.2.2.2.1<0\/f.2.2.2.1<=f.2.2.2.2.1\/f.2.2.2.2.2<1\/f.2.2.2.1<f.2.2.2.2.2 then 2
 else if f.2.1=f.2.2.1 then 1 else 0
def Y9(l:List Flw)(i:Nat):Flw:=l.getD i (0,0,0,0,0,0)
def YH(f:Nat->Int):Nat->Nat->Int×Int
 |0,_=>(-1,0)
 |r+1,i=>if f i=0 then YH f r (i+1)else((i:Int),f i)
theorem YL{f:Nat->Int}:∀{r i:Nat},(YH f r i).2=0↔∀k,i<=k->k<i+r->f k=0
 |0,i=>by grind [YH]
 |r+1,i=>by
  unfold YH
  split
  ·rw[YL]
   grind
  grind
theorem YcP{f:Nat->Int}:∀{r i:Nat},(YH f r i).2=0->(YH f r i).1= -1
 |0,i,_=>rfl
 |r+1,i,h=>by
  unfold YH at h⊢
  split at h
  ·rw[Tm ‹_›];exact YcP h
  omega
def Xo(nodes:Int)(l:List Flw)(i:Nat):Int:=if XD nodes (Y9 l i)≠0 then XD nodes (Y9 l i)else if 0<i/\(Y9 l i).1<=(Y9 l (i-1)).1 then 5 else 0
def YE(nodes:Int)(l:List Flw):Int×Int:=
 if nodes<2\/32<nodes then(-1,2)else if 16<l.length then(-1,8)else YH (Xo nodes l) l.length 0
def Z8(l:List Flw)(id:Int):Int:=Yn (λf=>decide (f.1=id)) l 0
end Go.Proofs.YtaholidehobiiaaGreatDoor
namespace Go.Eng
open Go.RowKit
variable {α:Type}
theorem XY{c:Prop}[Decidable c]{x a b:α}(hc:c)(h:x=a):x=if c then a else b:=by rw[Tm hc];exact h
theorem XW{c:Prop}[Decidable c]{x a b:α}(hc:¬c)(h:x=b):x=if c then a else b:=by rw[Td hc];exact h
variable {b:Int}
theorem Ypx{a:Int}(h0:0<=a)(h1:a<=1000000)(h2:0<=b)(h3:b<=1000000000000): -9223372036854775808<=a*b/\a*b<=9223372036854775807:=by
 have h4:0<=a*b:=Int.mul_nonneg h0 h2
 have h5:a*b<=1000000*b:=SX h1 h2
 omega
theorem Yre{a:Int}(h0:0<=b)(h1:b<=1000000)(h2:0<=a)(h3:a<=1000000000000): -9223372036854775808<=a*b/\a*b<=9223372036854775807:=by
 rw[Int.mul_comm];exact Ypx h0 h1 h2 h3
structure HP where
 holds:(Nat->Prop)->World->Prop
 loc:∀{S:Nat->Prop}{w w':World},(∀b,S b->w'.heap[b]? =w.heap[b]?)->holds S w->holds S w'
def blk(g:Nat)(o:Obj):HP:=⟨λS w=>S g/\w.heap[g]? =some o,λh ⟨hs,hg⟩=>⟨hs,(h _ hs).trans hg⟩⟩
def sepL:List HP->(Nat->Prop)->World->Prop
 |[],_,_=>True
 |A::L,S,w=>∃S1 S2:Nat->Prop,(∀b,S1 b->S b)/\(∀b,S2 b->S b)/\(∀b,S1 b->¬S2 b)/\A.holds S1 w/\sepL L S2 w
variable {L M H:List HP}{S:Nat->Prop}{w w0 w':World}
theorem VK{T:Nat->Prop}(h:sepL L S w)(hs:∀b,S b->T b):sepL L T w:=by
 cases L with
 |nil=>trivial
 |cons A L=>
  obtain⟨S1,S2,h1,h2,h3,h4,h5⟩:=h
  exact⟨S1,S2,λb hb=>hs b (h1 b hb),λb hb=>hs b (h2 b hb),h3,h4,h5⟩
theorem Yaj:∀{S:Nat->Prop}{w w':World},sepL L S w->(∀b,S b->w'.heap[b]? =w.heap[b]?)->sepL L S w':=by
 induction L with
 |nil=>intros;trivial
 |cons A L ih=>
  intro S w w' h hs
  obtain⟨S1,S2,h1,h2,h3,h4,h5⟩:=h
  exact⟨S1,S2,h1,h2,h3,A.loc (λb hb=>hs b (h1 b hb)) h4,ih h5 (λb hb=>hs b (h2 b hb))⟩
variable {A A':HP}
theorem YnB{B:HP}(h:sepL (A::B::L) S w):sepL (B::A::L) S w:=by
 obtain⟨S1,S2,h1,h2,h3,h4,T1,T2,k1,k2,k3,k4,k5⟩:=h
 refine⟨T1,λb=>S1 b\/T2 b,λb hb=>h2 b (k1 b hb),λb hb=>hb.elim (h1 b) (λhb=>h2 b (k2 b hb)),λb hb hc=>?_,k4,S1,T2,λb hb=>.inl hb,λb hb=>.inr hb,λb hb hc=>h3 b hb (k2 b hc),h4,k5⟩
 rcases hc with hc|hc
 ·exact h3 b hc (k1 b hb)
 ·exact k3 b hb hc
theorem Yfq(h:sepL (A::L) S w):sepL L S w:=by
 obtain⟨S1,S2,_,h2,_,_,h5⟩:=h
 exact VK h5 h2
structure Perm(L M:List HP):Prop where
 go:∀(S:Nat->Prop) (w:World),sepL L S w->sepL M S w
theorem Perm.refl(L:List HP):Perm L L:=⟨λ_ _ h=>h⟩
theorem Perm.cons(A:HP)(p:Perm L M):Perm (A::L) (A::M):=by
 refine⟨λS w h=>?_⟩
 obtain⟨S1,S2,h1,h2,h3,h4,h5⟩:=h
 exact⟨S1,S2,h1,h2,h3,h4,p.go _ _ h5⟩
theorem Perm.swap(A B:HP)(L:List HP):Perm (A::B::L) (B::A::L):=⟨λ_ _=>YnB⟩
theorem Perm.trans{N:List HP}(p:Perm L M)(q:Perm M N):Perm L N:=⟨λ_ _ h=>q.go _ _ (p.go _ _ h)⟩
def front:Nat->List HP->List HP
 |0,L=>L
 |_,[]=>[]
 |k+1,A::L=>match front k L with
  |[]=>A::L
  |B::M=>B::A::M
theorem Ydm:∀(k:Nat) (L:List HP),Perm L (front k L)
 |0,L=>.refl L
 |_+1,[]=>.refl []
 |k+1,A::L=>by
  have h:=Ydm k L
  show Perm (A::L) (match front k L with|[]=>A::L|B::M=>B::A::M)
  split
  ·exact .refl _
  ·rename_i B M e
   rw[e]at h
   exact .trans (.cons A h) (.swap A B M)
structure St(B:Nat)(w0:World)(H:List HP)(w:World):Prop where
 below:Below B w0 w
 le:B<=w.heap.size
 sep:sepL H (λb=>B<=b/\b<w.heap.size) w
theorem St.start(w:World):St w.heap.size w [] w:=⟨Below.refl _ _,TL _,trivial⟩
variable {B g i d:Nat}
theorem St.perm{K:List HP}(h:St B w0 H w)(p:Perm H K):St B w0 K w:=⟨h.below,h.le,p.go _ _ h.sep⟩
theorem St.front(h:St B w0 H w)(k:Nat):St B w0 (Eng.front k H) w:=h.perm (Ydm k H)
theorem St.tail(h:St B w0 (A::H) w):St B w0 H w:=⟨h.below,h.le,Yfq h.sep⟩
theorem YgA(hA:A∈L):∀{S:Nat->Prop}{w:World},sepL L S w->∃S1:Nat->Prop,(∀b,S1 b->S b)/\A.holds S1 w:=by
 induction L with
 |nil=>cases hA
 |cons B L ih=>
  intro S w h
  obtain⟨S1,S2,h1,h2,_,h4,h5⟩:=h
  rcases TN.1 hA with e|e
  ·subst e;exact⟨S1,h1,h4⟩
  ·obtain⟨S3,h6,h7⟩:=ih e h5
   exact⟨S3,λb hb=>h2 b (h6 b hb),h7⟩
theorem St.at_(h:St B w0 H w)(hA:A∈H):∃S1:Nat->Prop,(∀b,S1 b->B<=b/\b<w.heap.size)/\A.holds S1 w:=YgA hA h.sep
theorem St.blk{o:Obj}(h:St B w0 H w)(hA:blk g o∈H):w.heap[g]? =some o/\B<=g/\g<w.heap.size:=by
 obtain⟨S1,h1,h2,h3⟩:=h.at_ hA
 exact⟨h3,h1 g h2⟩
theorem St.grow(h:St B w0 H w)(k:Below w.heap.size w w'):St B w0 H w':=
 ⟨h.below.trans (k.mono h.le),RE h.le k.size,VK (Yaj h.sep λb hb=>k.block b hb.2) λ_ hb=>⟨hb.1,Nat.lt_of_lt_of_le hb.2 k.size⟩⟩
theorem St.drew(h:St B w0 H w):St B w0 H w.drew:=h.grow (Below.refl _ _).drew
theorem St.alloc(h:St B w0 H w)(o:Obj):St B w0 (Eng.blk w.heap.size o::H) (w.alloc o):=by
 refine⟨h.below.alloc h.le o,by have:=h.le;simp;omega,λb=>b=w.heap.size,λb=>B<=b/\b<w.heap.size,?_,?_,?_,?_,?_⟩
 ·rintro b rfl;exact⟨h.le,by simp⟩
 ·rintro b ⟨h1,h2⟩;exact⟨h1,by simp;omega⟩
 ·rintro b rfl ⟨_,h2⟩;omega
 ·exact⟨rfl,heap_alloc_new w o⟩
 ·exact Yaj h.sep λb hb=>Below.heap_alloc w o b hb.2
def Upd(A A':HP)(L M:List HP):Prop:=∃L1 L2,L=L1++A::L2/\M=L1++A'::L2
theorem Upd.here(L:List HP):Upd A A' (A::L) (A'::L):=⟨[],L,rfl,rfl⟩
theorem Upd.there(X:HP)(u:Upd A A' L M):Upd A A' (X::L) (X::M):=by
 obtain⟨L1,L2,rfl,rfl⟩:=u
 exact⟨X::L1,L2,rfl,rfl⟩
theorem YiP{A A':HP}{w w':World}
 (hA:∀S1:Nat->Prop,A.holds S1 w->(∃S':Nat->Prop,A'.holds S' w'/\∀b,S' b->S1 b\/(w.heap.size<=b/\b<w'.heap.size))/\∀b,¬S1 b->b<w.heap.size->w'.heap[b]? =w.heap[b]?) (L2:List HP):
 ∀(L1:List HP) {S:Nat->Prop},(∀b,S b->b<w.heap.size)->sepL (L1++A::L2) S w->
  ∃S1:Nat->Prop,(∀b,S1 b->S b)/\A.holds S1 w/\sepL (L1++A'::L2) (λb=>S b\/(w.heap.size<=b/\b<w'.heap.size)) w'
 |[],S,hS,h=>by
  obtain⟨S1,S2,h1,h2,h3,h4,h5⟩:=h
  obtain⟨⟨S',k1,k3⟩,k2⟩:=hA S1 h4
  refine⟨S1,h1,h4,S',S2,λb hb=>(k3 b hb).elim (λh=>.inl (h1 b h)) .inr,λb hb=>.inl (h2 b hb),λb hb hc=>?_,k1,Yaj h5 λb hb=>k2 b (λhc=>h3 b hc hb) (hS b (h2 b hb))⟩
  rcases k3 b hb with h|h
  ·exact h3 b h hc
  ·have:=hS b (h2 b hc);omega
 |X::L1,S,hS,h=>by
  obtain⟨S1,S2,h1,h2,h3,h4,h5⟩:=h
  obtain⟨T,t1,t2,t3⟩:=YiP hA L2 L1 (λb hb=>hS b (h2 b hb)) h5
  obtain⟨_,k2⟩:=hA T t2
  refine⟨T,λb hb=>h2 b (t1 b hb),t2,S1,_,λb hb=>.inl (h1 b hb),λb hb=>hb.elim (λh=>.inl (h2 b h)) .inr,λb hb hc=>?_,X.loc (λb hb=>k2 b (λhc=>h3 b hb (t1 b hc)) (hS b (h1 b hb))) h4,t3⟩
  rcases hc with hc|hc
  ·exact h3 b hb hc
  ·have:=hS b (h1 b hb);omega
theorem St.updN{K:List HP}(h:St B w0 H w)(u:Upd A A' H K)
 (hos:w'.os=w.os) (ht:w'.tape=w.tape) (hout:w'.output=w.output) (hsz:w.heap.size<=w'.heap.size)
 (hA:∀S1:Nat->Prop,A.holds S1 w->(∃S':Nat->Prop,A'.holds S' w'/\∀b,S' b->S1 b\/(w.heap.size<=b/\b<w'.heap.size))/\∀b,¬S1 b->b<w.heap.size->w'.heap[b]? =w.heap[b]?):St B w0 K w':=by
 obtain⟨L1,L2,rfl,rfl⟩:=u
 obtain⟨S1,h1,h2,h3⟩:=YiP hA L2 L1 (S:=λb=>B<=b/\b<w.heap.size) (λb hb=>hb.2) h.sep
 obtain⟨_,k2⟩:=hA S1 h2
 have hle:=h.le
 refine⟨⟨hos.trans h.below.os,ht.trans h.below.tape,hout.trans h.below.output,RE h.below.size hsz,λb hb=>?_⟩,RE h.le hsz,VK h3 λb hb=>?_⟩
 ·rw[k2 b (λhc=>by have:=(h1 b hc).1;omega) (Nat.lt_of_lt_of_le hb h.le),h.below.block b hb]
 ·rcases hb with hb|hb
  ·exact⟨hb.1,Nat.lt_of_lt_of_le hb.2 hsz⟩
  ·exact⟨by omega,hb.2⟩
theorem St.upd{K:List HP}(h:St B w0 H w)(u:Upd A A' H K)
 (hos:w'.os=w.os) (ht:w'.tape=w.tape) (hout:w'.output=w.output) (hsz:w.heap.size<=w'.heap.size)
 (hA:∀S1:Nat->Prop,A.holds S1 w->A'.holds S1 w'/\∀b,¬S1 b->b<w.heap.size->w'.heap[b]? =w.heap[b]?):St B w0 K w':=
 h.updN u hos ht hout hsz λS1 hS=>let⟨k1,k2⟩:=hA S1 hS;⟨⟨S1,k1,λ_ hb=>.inl hb⟩,k2⟩
variable {v:Value}
theorem St.setCell{K:List HP}{cs:Array Value}{t:TypeId}{fr:Nat×Nat}(h:St B w0 H w)
 (u:Upd (Eng.blk g (.cells cs t fr)) (Eng.blk g (.cells (cs.setIfInBounds i v) t fr)) H K):St B w0 K (w.setCell ⟨g,i,none⟩ v):=by
 refine h.upd u rfl rfl rfl (by simp) λS1 ⟨h1,h2⟩=>⟨⟨h1,?_⟩,λb hb _=>Below.heap_setCell w _ v b (λe=>hb (e▸h1))⟩
 simp[World.setCell,Array.getElem?_modify,h2]
abbrev Env:=List (Nat×Value)
def get:Env->Nat->Option Value
 |[],_=>none
 |(s,v)::e,t=>if s=t then some v else get e t
def evo(env:Env):Operand->Option Value
 |.tmp t=>get env t
 |.const v=>some v
 |.global g=>some (.pointer (some ⟨g,0,none⟩))
 |.func f=>some (.func (.func f) #[] #[])
structure Shp where
 k:Nat
 ds:List Deferred
 r:Option Nat
structure Fits(n:Shp)(a:Act)(env:Env):Prop where
 defers:a.defers=n.ds
 size:a.tmps.size=n.k
 slot:∀t v,get env t=some v->a.tmps[t]? =some v
variable {a:Act}{env:Env}
theorem Fits.eval{n:Shp}(h:Fits n a env){x:Operand}(hx:evo env x=some v):a.eval x=v:=by
 cases x with
 |tmp t=>have:=h.slot t v hx;simp[Act.eval,Array.getD_eq_getD_getElem?,this]
 |const c=>exact Tz hx
 |global g=>exact Tz hx
 |func f=>exact Tz hx
theorem Fits.put{n:Shp}(h:Fits n a env)(hd:d<n.k)(v:Value):Fits n (a.put (some d) v) ((d,v)::env):=by
 refine⟨h.defers,by simp[Act.put,h.size],λt u ht=>?_⟩
 by_cases e:d=t
 ·subst e
  simp only[get,NF,Ru]at ht
  subst ht
  simp[Act.put,h.size,hd]
 ·rw[get,Td e]at ht
  simp[Act.put,e,h.slot t u ht]
theorem Fits.sub{n:Shp}{env':Env}(h:Fits n a env)(hs:∀t v,get env' t=some v->get env t=some v):Fits n a env':=
 ⟨h.defers,h.size,λt v ht=>h.slot t v (hs t v ht)⟩
def J7(o:Oper):Bool:=
 match o.op with
 |.defer _=>false
 |_=>true
def calm:Code->Bool
 |.seq x y=>calm x&&calm y
 |.cond _ x y=>calm x&&calm y
 |.loop c=>calm c
 |.block _ c=>calm c
 |.region _ ops _=>ops.toList.all J7
 |.rangeFunc _ _ x y=>calm x&&calm y
 |.scope _=>false
 |_=>true
def wpR(P:Program)(r:Option Nat)(c:Code)(Q:Exit->Act->World->Prop)(a:Act)(w:World):Prop:=
 match r with
 |none=>c.wp P Q a w
 |some l=>¬LetsOut Q->calm c=true->c.wpIn (Fence.wide.inRound l) 0 P Q a w
section
variable {P:Program}{r:Option Nat}{Q:Exit->Act->World->Prop}{a:Act}{w:World}
variable {c x y:Code}
theorem ZQ{Q':Exit->Act->World->Prop}(h:wpR P r c Q a w)(hq:∀e a w,Q e a w->Q' e a w):wpR P r c Q' a w:=by
 cases r with
 |none=>exact wp_mono h hq
 |some l=>exactλhlo hc=>wpIn_mono (h (λ⟨a,w,hl⟩=>hlo ⟨a,w,hq _ _ _ hl⟩) hc) hq
theorem YrF(h:wpR P r x (Exit.then (wpR P r y Q) Q) a w):wpR P r (.seq x y) Q a w:=by
 cases r with
 |none=>exact wp_seq h
 |some l=>
  intro hlo hc
  simp only[calm,To]at hc
  refine wpIn_seq (wpIn_mono (h (λ⟨a,w,hl⟩=>hlo ⟨a,w,hl⟩) hc.1) λe a w hq=>?_)
  cases e<;>first|exact hq|exact hq hlo hc.2
variable {id n:Nat}
theorem YnZ(h:wpR P r c (Exit.inBlock id Q) a w):wpR P r (.block id c) Q a w:=by
 cases r with
 |none=>exact wp_block h
 |some l=>exactλhlo hc=>wpIn_block (h (λ⟨a,w,hl⟩=>hlo ⟨a,w,hl⟩) hc)
theorem Yqg(h:Q .normal a w):wpR P r .skip Q a w:=by
 cases r with
 |none=>exact wp_skip h
 |some l=>exactλ_ _=>wpIn_skip h
theorem YrE(h:Q .ret a w):wpR P r .ret Q a w:=by
 cases r with
 |none=>exact wp_ret h
 |some l=>exactλ_ _=>wpIn_ret h
theorem Yqf(h:Q (.exit id) a w):wpR P r (.exit id) Q a w:=by
 cases r with
 |none=>exact wp_exit h
 |some l=>exactλ_ _=>wpIn_exit h
theorem Yi7{c:Operand}{t:Bool}(hc:a.eval c=.bool t)(ht:t=true->wpR P r x Q a w)(hf:t=false->wpR P r y Q a w):wpR P r (.cond c x y) Q a w:=by
 cases r with
 |none=>exact wp_cond_split hc ht hf
 |some l=>
  intro hlo hca
  simp only[calm,To]at hca
  exact wpIn_cond_split hc (λe=>ht e hlo hca.1) (λe=>hf e hlo hca.2)
theorem YbA{l:Nat}{row:String}{args:Array Value}{R:Value->World->Prop}(h:Rows P row args w R):RowsIn (Fence.wide.inRound l) n P row args w R:=λc cs _=>by
 obtain⟨v,w',h1,h2⟩:=h c cs
 exact⟨v,w',h1,stepsIn_wide.2 h2⟩
variable {o:Oper}{K:Act->World->Prop}
theorem Yfc{l:Nat}(hp:J7 o=true)(h:o.wp P a w K Q):o.wpIn (Fence.wide.inRound l) n P a w K Q:=by
 have hs:Oper.semAt (some l) a.eval o=execOp a.eval o:=Oper.semAt_some l _ o λc e=>by
  unfold J7 at hp
  rw[e]at hp
  cases hp
 refine⟨λf _=>trivial,?_⟩
 rw[Fence.inRound_round,hs]
 unfold Oper.wp at h
 generalize(execOp a.eval o).run P w=res at h⊢
 cases res with
 |ok x w'=>
  cases x<;>simp only[Oper.upon,Oper.uponIn]at h⊢<;>first
   |exact h
   |(refine⟨λhd=>by simp[Fence.wide]at hd,?_⟩
     refine CallsIn.mono (CallsIn.inRound l (callsIn_wide.2 h)) λe w'' he=>?_
     cases e<;>exact he)
   |exact⟨λhd=>by simp[Fence.wide]at hd,YbA h⟩
   |exact h.elim
 |halt x w'=>cases x<;>simp only[Oper.upon,Oper.uponIn]at h⊢<;>first|exact h|exact h.elim
theorem U0{l n:Nat}{ops:Array Oper}(hlo:¬LetsOut Q):∀(os:List Oper) (a:Act) (w:World),os.all J7=true->wpList P ops Q os a w->wpListIn (Fence.wide.inRound l) n P ops Q os a w
 |[],_,_,_,h=>h
 |o::os,a,w,hc,h=>by
  simp only[NV,To]at hc
  unfold wpList at h
  unfold wpListIn
  split
  ·rename_i hw
   rw[Tm hw]at h
   rcases h with h|⟨_,h⟩
   ·exact Yfc hc.1 (Oper.wp_mono (λa w h=>U0 hlo os a w hc.2 h) h)
   ·exact(hlo h).elim
  ·rename_i hw
   rw[Td hw]at h
   exact⟨λf _=>trivial,U0 hlo os _ w hc.2 h⟩
theorem QG{l n:Nat}{ops:Array Oper}(hlo:¬LetsOut Q)(hc:ops.toList.all J7=true):∀(fuel:Nat) (listed:Array Bool) (a:Act) (w:World),wpAny P .any ops Q fuel listed a w->wpAnyIn (Fence.wide.inRound l) n P .any ops Q fuel listed a w
 |0,_,_,_,h=>h
 |fuel+1,listed,a,w,h=>by
  refine⟨h.1,λi hi=>?_⟩
  have h2:=h.2 i hi
  unfold wpOp at h2
  unfold wpOpIn
  cases ho:ops[i]? with
  |none=>rw[ho]at h2;exact QG hlo hc fuel _ a w h2
  |some o=>
   rw[ho]at h2
   have hpl:J7 o=true:=by
    have:=R9.1 ho
    exact TI.1 hc o (by rw[<-this.2];simp)
   simp only at h2⊢
   split
   ·rename_i hw
    rw[Tm hw]at h2
    rcases h2 with h2|⟨_,h2⟩
    ·exact Yfc hpl (Oper.wp_mono (λa w h=>QG hlo hc fuel _ a w h) h2)
    ·exact(hlo h2).elim
   ·rename_i hw
    rw[Td hw]at h2
    exact⟨λf _=>trivial,QG hlo hc fuel _ _ w h2⟩
variable {l:List Oper}
theorem YkG(h:wpList P l.toArray Q l a w):wpR P r (.region id l.toArray false) Q a w:=by
 cases r with
 |none=>exact wp_region_lit h
 |some k=>exactλhlo hc=>wpIn_region_lit (U0 hlo l a w (by simpa [calm]using hc) h)
variable {ops:Array Oper}
theorem VE(hm:P.follows .mixedOrders=true)(h:wpAny P .any ops Q ops.size (Array.replicate ops.size false) a w.drew):wpR P r (.region id ops true) Q a w:=by
 cases r with
 |none=>exact wp_region_any hm h
 |some k=>exactλhlo hc=>wpIn_region_any hm (QG hlo (by simpa [calm]using hc) _ _ a _ h)
theorem Yn0{C:World->Prop}(hm:P.follows .mixedOrders=true)(hB:Region.lexB .any ops=true)(hC:C w.drew)
 (h:wpQuiet P ops C (λa'=>∀w',C w'->Q .normal a' w') ops.toList a):wpR P r (.region id ops true) Q a w:=by
 simp only[Region.lexB,To]at hB
 refine VE hm (wpAny_of_quiet (Q:=λa'=>∀w',C w'->Q .normal a' w') (λ_ w' hw' h=>h w' hw') _ _ _ _ hC ?_)
 have:=wpAnyQ_lex (C:=C) (md:=.any) hB.1 ops.toList 0 (Array.replicate ops.size false) a (by simp) (by simpa using hB.2) h
 simpa using this
theorem Yi8(I:Nat->Act->World->Prop)(n₀:Nat)(h₀:I n₀ a w)
 (round:∀n a w,I n a w->wpR P r c (Exit.then (λa' w'=>∃n',n'<n/\I n' a' w') Q) a w):wpR P r (.loop c) Q a w:=by
 cases r with
 |none=>exact wp_loop_ghost I n₀ h₀ round
 |some l=>exactλhlo hc=>wpIn_loop_ghost I n₀ h₀ λn a w hI=>round n a w hI (λ⟨a,w,hl⟩=>hlo ⟨a,w,hl⟩) hc
end
structure VQ(n:Shp)(B:Nat)(w0:World)(Q:Exit->Act->World->Prop)(e:Exit)(env:Env)(H:List HP):Prop where
 run:∀a w,Fits n a env->St B w0 H w->Q e a w
structure VC(P:Program)(n:Shp)(B:Nat)(w0:World)(c:Code)(Q:Exit->Act->World->Prop)(env:Env)(H:List HP):Prop where
 run:∀a w,Fits n a env->St B w0 H w->wpR P n.r c Q a w
def eff(o:Oper):Bool:=
 match o.op with
 |.move _|.assign _|.pick _ _ _|.build _ _|.load _ _|.nilCheck _|.binOp _ _ _ _ _|.unOp _ _ _|.slice _ _ _ _ _|.fieldAddr _ _ _|.field _ _ _|.indexAddr _ _ _|.index _ _ _|.lookup _ _ _ _|.extract _ _=>false
 |.call ⟨.builtin .len,_,_⟩|.call ⟨.builtin .min,_,_⟩|.call ⟨.builtin .max,_,_⟩|.call ⟨.builtin .cap,_,_⟩=>false
 |.convert _ _ _=>false
 |_=>true
def Ys(P:Program)(ops:Array Oper)(Q:Exit->Act->World->Prop)(S:World->Prop):List Oper->Act->World->Prop
 |[],a,w=>Q .normal a w
 |o::rest,a,w=>
  if eff o then
   (if Region.wanted o (yielded ops a.tmps)then o.wp P a w (λa' w'=>S w'/\Ys P ops Q S rest a' w') Q else Ys P ops Q S rest (a.put o.dst undef) w)
  else∃v,YieldsIf P ops S o v a/\Ys P ops Q S rest (a.put o.dst v) w
abbrev Mode:=Option (Option (List HP))
def You(P:Program)(m:Mode)(B:Nat)(w0:World)(ops:Array Oper)(Q:Exit->Act->World->Prop)(l:List Oper)(a:Act)(H:List HP):Prop:=
 match m with
 |none=>∀w,St B w0 H w->wpList P ops Q l a w
 |some none=>wpQuiet P ops (St B w0 H) (λa'=>∀w,St B w0 H w->Q .normal a' w) l a
 |some (some F)=>∀w,St B w0 (H++F) w->Ys P ops Q (St B w0 H) l a w
structure VL(P:Program)(m:Mode)(n:Shp)(B:Nat)(w0:World)(ops:Array Oper)(Q:Exit->Act->World->Prop)(l:List Oper)(env:Env)(H:List HP):Prop where
 run:∀a,Fits n a env->You P m B w0 ops Q l a H
def Post(B:Nat)(w0:World)(Φ:Value->List HP->Prop)(e:Ending)(w:World):Prop:=∃v H,e=.returned v/\St B w0 H w/\Φ v H
section
variable {P:Program}{n:Shp}{B:Nat}{w0:World}{Q:Exit->Act->World->Prop}{env:Env}{H:List HP}
variable {x y c:Code}
theorem Xt(h:VC P n B w0 x (Exit.then (wpR P n.r y Q) Q) env H):VC P n B w0 (.seq x y) Q env H:=⟨λa w ha hw=>YrF (h.run a w ha hw)⟩
variable {id t u s d j f i:Nat}
theorem YgQ(h:VC P n B w0 c (Exit.inBlock id Q) env H):VC P n B w0 (.block id c) Q env H:=⟨λa w ha hw=>YnZ (h.run a w ha hw)⟩
theorem Yqn(h:VQ n B w0 Q .normal env H):VC P n B w0 .skip Q env H:=⟨λa w ha hw=>Yqg (h.run a w ha hw)⟩
theorem Ysu(h:VQ n B w0 Q .ret env H):VC P n B w0 .ret Q env H:=⟨λa w ha hw=>YrE (h.run a w ha hw)⟩
theorem Yqm(h:VQ n B w0 Q (.exit id) env H):VC P n B w0 (.exit id) Q env H:=⟨λa w ha hw=>Yqf (h.run a w ha hw)⟩
theorem Yfy{c:Operand}(hc:evo env c=some (.bool true))(h:VC P n B w0 x Q env H):VC P n B w0 (.cond c x y) Q env H:=
 ⟨λa w ha hw=>Yi7 (ha.eval hc) (λ_=>h.run a w ha hw) (λe=>by cases e)⟩
theorem YdU{c:Operand}(hc:evo env c=some (.bool false))(h:VC P n B w0 y Q env H):VC P n B w0 (.cond c x y) Q env H:=
 ⟨λa w ha hw=>Yi7 (ha.eval hc) (λe=>by cases e) (λ_=>h.run a w ha hw)⟩
variable {l:List Oper}
theorem Y0(h:VL P none n B w0 l.toArray Q l env H):VC P n B w0 (.region id l.toArray false) Q env H:=⟨λa w ha hw=>YkG (h.run a ha w hw)⟩
theorem YkK(hm:P.follows .mixedOrders=true)(hB:Region.lexB .any l.toArray=true)(h:VL P (some none) n B w0 l.toArray Q l env H):VC P n B w0 (.region id l.toArray true) Q env H:=
 ⟨λa _ ha hw=>Yn0 (C:=St B w0 H) hm hB (hw.drew) (by rw[List.toList_toArray];exact h.run a ha)⟩
theorem YfN(h:VC P n B w0 y Q env H):VQ n B w0 (Exit.then (wpR P n.r y Q) Q) .normal env H:=⟨λa w ha hw=>h.run a w ha hw⟩
variable {K:Act->World->Prop}
theorem Yhd(h:VQ n B w0 Q .ret env H):VQ n B w0 (Exit.then K Q) .ret env H:=⟨λa w ha hw=>h.run a w ha hw⟩
theorem YfO(h:VQ n B w0 Q (.exit id) env H):VQ n B w0 (Exit.then K Q) (.exit id) env H:=⟨λa w ha hw=>h.run a w ha hw⟩
theorem YbM(h:VQ n B w0 Q .normal env H):VQ n B w0 (Exit.inBlock id Q) .normal env H:=⟨λa w ha hw=>h.run a w ha hw⟩
theorem YfM(h:VQ n B w0 Q .ret env H):VQ n B w0 (Exit.inBlock id Q) .ret env H:=⟨λa w ha hw=>h.run a w ha hw⟩
theorem YdY(h:VQ n B w0 Q .normal env H):VQ n B w0 (Exit.inBlock id Q) (.exit id) env H:=
 ⟨λa w ha hw=>by simp only[Exit.inBlock,NF];exact h.run a w ha hw⟩
theorem Ych{id':Nat}(hne:Nat.beq id' id=false)(h:VQ n B w0 Q (.exit id') env H):VQ n B w0 (Exit.inBlock id Q) (.exit id') env H:=
 ⟨λa w ha hw=>by simp only[Exit.inBlock,Td (Nat.ne_of_beq_eq_false hne)];exact h.run a w ha hw⟩
def Next{α:Type}(n:Shp)(B:Nat)(w0:World)(E:α->Env)(HH:α->List HP)(I:α->Prop)(μ:α->Nat)(x:α)(a:Act)(w:World):Prop:=
 ∃y,I y/\μ y<μ x/\Fits n a (E y)/\St B w0 (HH y) w
variable {α:Type}
theorem Yfz(E:α->Env)(HH:α->List HP)(I:α->Prop)(μ:α->Nat)(x0:α)(h0:I x0)
 (he:∀t v,get (E x0) t=some v->get env t=some v) (hH:∀w,St B w0 H w->St B w0 (HH x0) w)
 (round:∀x,I x->VC P n B w0 c (Exit.then (Next n B w0 E HH I μ x) Q) (E x) (HH x)):VC P n B w0 (.loop c) Q env H:=by
 refine⟨λa w ha hw=>Yi8 (λk a w=>∃x,μ x=k/\I x/\Fits n a (E x)/\St B w0 (HH x) w) (μ x0) ⟨x0,rfl,h0,ha.sub he,hH w hw⟩ ?_⟩
 rintro k a w ⟨x,rfl,hx,ha,hw⟩
 refine ZQ ((round x hx).run a w ha hw) ?_
 intro e a w hq
 cases e with
 |normal=>obtain⟨y,h1,h2,h3,h4⟩:=hq;exact⟨μ y,h2,y,rfl,h1,h3,h4⟩
 |exit id=>exact hq
 |goto l=>exact hq
 |ret=>exact hq
 |panic ch=>exact hq
 |outgrown=>exact hq
theorem Ycj{E:α->Env}{HH:α->List HP}{I:α->Prop}{μ:α->Nat}{x:α}(y:α)(hI:I y)(hμ:μ y<μ x)
 (he:∀t v,get (E y) t=some v->get env t=some v) (hH:∀w,St B w0 H w->St B w0 (HH y) w):VQ n B w0 (Exit.then (Next n B w0 E HH I μ x) Q) .normal env H:=
 ⟨λ_ w ha hw=>⟨y,hI,hμ,ha.sub he,hH w hw⟩⟩
theorem Yrw(env:Env):∀t v,get [] t=some v->get env t=some v:=λ_ _ h=>by cases h
variable {v:Value}
theorem Yp3{env e:Env}(h:get env t=some v)(he:∀t v,get e t=some v->get env t=some v):∀t' v',get ((t,v)::e) t'=some v'->get env t'=some v':=by
 intro t' v' h'
 by_cases e':t=t'
 ·subst e';rw[get,Tm rfl]at h';rw[<-h'];exact h
 ·rw[get,Td e']at h';exact he _ _ h'
theorem Jf(H':List HP)(hH:∀w,St B w0 H w->St B w0 H' w)(h:VC P n B w0 c Q env H'):VC P n B w0 c Q env H:=⟨λa w ha hw=>h.run a w ha (hH w hw)⟩
variable {ops:Array Oper}
theorem XL(H':List HP)(hH:∀w,St B w0 H w->St B w0 H' w)(h:VL P none n B w0 ops Q l env H'):VL P none n B w0 ops Q l env H:=⟨λa ha w hw=>h.run a ha w (hH w hw)⟩
variable {e:Exit}{A:HP}
theorem Yl(h:VQ n B w0 Q e env H):VQ n B w0 Q e env (A::H):=⟨λa w ha hw=>h.run a w ha hw.tail⟩
theorem Yj(H':List HP)(hH:∀w,St B w0 H w->St B w0 H' w)(h:VQ n B w0 Q e env H'):VQ n B w0 Q e env H:=⟨λa w ha hw=>h.run a w ha (hH w hw)⟩
def WY:Nat->List Value->Env
 |_,[]=>[]
 |i,v::l=>(i,v)::WY (i+1) l
theorem Qe:∀(l:List Value) (i t:Nat) (v:Value),get (WY i l) t=some v->i<=t/\l[t-i]? =some v
 |[],i,t,v,h=>by cases h
 |u::l,i,t,v,h=>by
  by_cases e:i=t
  ·subst e;rw[WY,get,Tm rfl]at h;simp at h;simp[h]
  ·rw[WY,get,Td e]at h
   obtain⟨h1,h2⟩:=Qe l (i+1) t v h
   refine⟨by omega,?_⟩
   rw[show t-i=(t-(i+1))+1 by omega]
   simpa using h2
variable {fn:Func}{w:World}{Φ:Value->List HP->Prop}
theorem Yc{n:Nat}{f:FuncId}{args:List Value}(hf:P.funcs[f]? =some fn)(hn:fn.ntmps=n)(hb:fn.body=some c)
 (hle:Nat.ble args.length n=true) (hw:St B w0 H w) (h:VC P ⟨n,[],none⟩ B w0 c (bodyPost P fn (Post B w0 Φ)) (WY 0 args) H):Calls P f args.toArray w (Post B w0 Φ):=by
 refine calls_of_wp hf hb (h.run _ w ⟨rfl,?_,λt v ht=>?_⟩ hw)
 ·have:=T0 hle;simp;omega
 ·obtain⟨_,h2⟩:=Qe args 0 t v ht
  rw[Nat.sub_zero]at h2
  have hlt:t<args.length:=by
   rcases SB t args.length with h|h
   ·exact h
   ·rw[RP h]at h2;cases h2
  rw[Array.getElem?_append_left (by simpa using hlt)]
  simpa using h2
theorem Yd{n:Nat}(hr:fn.results=#[.tmp t])(hv:get env t=some v)(h:Φ v H):VQ ⟨n,[],none⟩ B w0 (bodyPost P fn (Post B w0 Φ)) .ret env H:=
 ⟨λa w ha hw=>bodyPost_ret (results_tmp hr _ _ _) ha.defers ⟨v,H,by rw[Array.getD_eq_getD_getElem?,ha.slot t v hv];rfl,hw,h⟩⟩
theorem Yp{n:Nat}{x:Value}(hr:fn.results=#[.tmp t,.tmp u])(hv:get env t=some v)(hx:get env u=some x)(h:Φ (.tuple #[v,x]) H):
 VQ ⟨n,[],none⟩ B w0 (bodyPost P fn (Post B w0 Φ)) .ret env H:=
 ⟨λa w ha hw=>bodyPost_ret (results_tmp2 hr _ _ _) ha.defers ⟨_,H,by rw[Array.getD_eq_getD_getElem?,Array.getD_eq_getD_getElem?,ha.slot t v hv,ha.slot u x hx];rfl,hw,h⟩⟩
theorem Jr{n:Nat}{x y:Value}(hr:fn.results=#[.tmp t,.tmp u,.tmp s])(hv:get env t=some v)(hx:get env u=some x)(hy:get env s=some y)(h:Φ (.tuple #[v,x,y]) H):
 VQ ⟨n,[],none⟩ B w0 (bodyPost P fn (Post B w0 Φ)) .ret env H:=
 ⟨λa w ha hw=>bodyPost_ret (v:=.tuple #[v,x,y]) (by simp[results,hr,Array.getD_eq_getD_getElem?,ha.slot t v hv,ha.slot u x hx,ha.slot s y hy]) ha.defers ⟨_,H,rfl,hw,h⟩⟩
theorem Zz{n:Nat}(hr:fn.results=#[])(h:Φ (.tuple #[]) H):VQ ⟨n,[],none⟩ B w0 (bodyPost P fn (Post B w0 Φ)) .normal env H:=
 ⟨λ_ _ ha hw=>bodyPost_end (results_none hr _ _ _) ha.defers ⟨_,H,rfl,hw,h⟩⟩
theorem We{n:Nat}(hr:fn.results=#[])(h:Φ (.tuple #[]) H):VQ ⟨n,[],none⟩ B w0 (bodyPost P fn (Post B w0 Φ)) .ret env H:=
 ⟨λ_ _ ha hw=>bodyPost_ret (results_none hr _ _ _) ha.defers ⟨_,H,rfl,hw,h⟩⟩
variable {ops:Array Oper}{rest:List Oper}
theorem Yoj(h:VQ n B w0 Q .normal env H):VL P none n B w0 ops Q [] env H:=⟨λa ha w hw=>wpList_nil (h.run a w ha hw)⟩
theorem Yqz(h:VQ n B w0 Q .normal env H):VL P (some none) n B w0 ops Q [] env H:=⟨λa ha=>show∀w,St B w0 H w->Q .normal a w fromλw hw=>h.run a w ha hw⟩
variable {o oj:Oper}
theorem XH(Φ:Value->List HP->Prop)(hg:o.guard=none)(hd:o.dst=some d)(hn:Nat.ble (d+1) n.k=true)
 (hr:∀a w,Fits n a env->St B w0 H w->∃v H' w',(execOp a.eval o).run P w=.ok (.value v) w'/\St B w0 H' w'/\Φ v H')
 (h:∀v H',Φ v H'->VL P none n B w0 ops Q rest ((d,v)::env) H'):VL P none n B w0 ops Q (o::rest) env H:=by
 refine⟨λa ha w hw=>wpList_plain hg λK hK=>?_⟩
 obtain⟨v,H',w',hrun,hst,hΦ⟩:=hr a w ha hw
 unfold Oper.wp
 rw[hrun,Oper.upon_value,hd]
 exact hK _ _ ((h v H' hΦ).run _ (ha.put (T0 hn) v) _ hst)
variable {H' L Hc F HF M:List HP}
theorem Yem(hg:o.guard=none)(hd:o.dst=some d)(hn:Nat.ble (d+1) n.k=true)
 (hr:∀a w,Fits n a env->St B w0 H w->∃w',(execOp a.eval o).run P w=.ok (.value v) w'/\St B w0 H' w')
 (h:VL P none n B w0 ops Q rest ((d,v)::env) H'):VL P none n B w0 ops Q (o::rest) env H:=
 XH (λu K=>u=v/\K=H') hg hd hn (λa w ha hw=>let⟨w',h1,h2⟩:=hr a w ha hw;⟨v,H',w',h1,h2,rfl,rfl⟩) (by rintro _ _ ⟨rfl,rfl⟩;exact h)
variable {a:Act}
theorem YbL(hne:eff o=false)(hy:YieldsIf P ops (St B w0 H) o v a)(h:Ys P ops Q (St B w0 H) rest (a.put o.dst v) w):
 Ys P ops Q (St B w0 H) (o::rest) a w:=by
 unfold Ys
 rw[Td (by rw[hne];simp)]
 exact⟨v,hy,h⟩
variable {m:Mode}
theorem Yy(hg:o.guard=none)(hd:o.dst=some d)(hn:Nat.ble (d+1) n.k=true)(hne:eff o=false)
 (hr:∀a w,Fits n a env->St B w0 H w->(execOp a.eval o).run P w=.ok (.value v) w)
 (h:VL P m n B w0 ops Q rest ((d,v)::env) H):VL P m n B w0 ops Q (o::rest) env H:=by
 match m with
 |none=>exact Yem hg hd hn (λa w ha hw=>⟨w,hr a w ha hw,hw⟩) h
 |some none=>
  refine⟨λa ha=>wpQuiet_step λK hK=>?_⟩
  rw[Tm (by simp[Region.wanted,hg])]
  refine⟨v,λw hw=>?_,hK _ ?_⟩
  ·unfold Oper.quietAt;rw[hr a w ha hw];exact⟨rfl,rfl⟩
  ·rw[hd];exact h.run _ (ha.put (T0 hn) v)
 |some (some F)=>
  refine⟨λa ha w hw=>YbL hne (.inl ⟨by simp[Region.wanted,hg],λw' hw'=>hr a w' ha hw'⟩) ?_⟩
  rw[hd];exact h.run _ (ha.put (T0 hn) v) w hw
theorem J5(hg:o.guard=none)(hd:o.dst=none)
 (hr:∀a w,Fits n a env->St B w0 H w->∃w',(execOp a.eval o).run P w=.ok .skip w'/\St B w0 H' w')
 (h:VL P none n B w0 ops Q rest env H'):VL P none n B w0 ops Q (o::rest) env H:=by
 refine⟨λa ha w hw=>wpList_plain hg λK hK=>?_⟩
 obtain⟨w',hrun,hst⟩:=hr a w ha hw
 unfold Oper.wp
 rw[hrun,Oper.upon_skip,hd]
 exact hK _ _ (h.run _ ha _ hst)
variable {op:Op}{ty:TypeId}{pos:String}{after:Array Edge}
theorem YfG{dst:Option Tmp}{b:Bool}(hj:ops[j]? =some oj)(hs:oj.dst=some s)
 (hv:get env s=some (.bool b)) (h:VL P m n B w0 ops Q (⟨dst,op,ty,pos,after,none⟩::rest) env H):VL P m n B w0 ops Q (⟨dst,op,ty,pos,after,some (j,b)⟩::rest) env H:=by
 have hy:∀a:Act,Fits n a env->Region.wanted ⟨dst,op,ty,pos,after,some (j,b)⟩ (yielded ops a.tmps)=true:=λa ha=>by simp[Region.wanted,yielded,hj,hs,ha.slot s _ hv]
 match m with
 |none=>
  refine⟨λa ha w hw=>?_⟩
  have h1:=h.run a ha w hw
  unfold wpList at h1⊢
  rw[Tm (by rfl)]at h1
  rw[Tm (hy a ha)]
  exact h1
 |some none=>
  refine⟨λa ha=>?_⟩
  have h1:=h.run a ha
  unfold You wpQuiet at h1⊢
  simp only at h1⊢
  rw[Tm (by rfl)]at h1
  rw[Tm (hy a ha)]
  exact h1
 |some (some F)=>
  refine⟨λa ha w hw=>?_⟩
  have h1:=h.run a ha w hw
  unfold Ys at h1⊢
  have he:eff ⟨dst,op,ty,pos,after,some (j,b)⟩=eff ⟨dst,op,ty,pos,after,none⟩:=rfl
  rw[he]
  by_cases hef:eff ⟨dst,op,ty,pos,after,none⟩=true
  ·rw[Tm hef]at h1⊢
   rw[Tm (by rfl)]at h1
   rw[Tm (hy a ha)]
   exact h1
  ·rw[Td hef]at h1⊢
   obtain⟨v,hyi,h2⟩:=h1
   refine⟨v,?_,h2⟩
   rcases hyi with⟨_,h3⟩|⟨h3,_⟩
   ·exact .inl ⟨hy a ha,h3⟩
   ·cases h3
def notB(v:Value)(b:Bool):Bool:=
 match v with
 |.bool c=>c !=b
 |_=>true
theorem YgY{b:Bool}(hj:ops[j]? =some oj)(hs:oj.dst=some s)
 (hv:get env s=some v) (hne:notB v b=true) (hn:Nat.ble (d+1) n.k=true)
 (h:VL P m n B w0 ops Q rest ((d,undef)::env) H):VL P m n B w0 ops Q (⟨some d,op,ty,pos,after,some (j,b)⟩::rest) env H:=by
 have hy:∀a:Act,Fits n a env->Region.wanted ⟨some d,op,ty,pos,after,some (j,b)⟩ (yielded ops a.tmps)=false:=by
  intro a ha
  have hsl:=ha.slot s _ hv
  cases v<;>simp[Region.wanted,yielded,hj,hs,hsl]
  rename_i c
  cases b<;>cases c<;>simp_all [notB]
 match m with
 |none=>exact⟨λa ha w hw=>wpList_skip (hy a ha) (h.run _ (ha.put (T0 hn) _) w hw)⟩
 |some none=>
  refine⟨λa ha=>?_⟩
  have h1:=h.run _ (ha.put (T0 hn) undef)
  unfold You wpQuiet at h1⊢
  simp only at h1⊢
  rw[Td (by rw[hy a ha];simp)]
  unfold wpQuiet
  exact h1
 |some (some F)=>
  refine⟨λa ha w hw=>?_⟩
  have h1:=h.run _ (ha.put (T0 hn) undef) w hw
  by_cases hef:eff ⟨some d,op,ty,pos,after,some (j,b)⟩=true
  ·unfold Ys
   rw[Tm hef,Td (by rw[hy a ha];simp)]
   exact h1
  ·exact YbL (by simpa using hef) (.inr ⟨hy a ha,rfl⟩) h1
theorem Yn9(hq:(l.all λo=>!eff o)=true)(hm:P.follows .mixedOrders=true)(hB:Region.lexB .any l.toArray=true)(h:VL P (some none) n B w0 l.toArray Q l env H):VC P n B w0 (.region id l.toArray true) Q env H:=
 YkK hm (by have:=hq;exact hB) h
def Args(env:Env):List Operand->List Value->Prop
 |[],[]=>True
 |x::l,v::vs=>evo env x=some v/\Args env l vs
 |_,_=>False
theorem YoD{env:Env}:Args env [] []:=trivial
variable {vs:List Value}
theorem Yms{env:Env}{x:Operand}{l:List Operand}(h:evo env x=some v)(hl:Args env l vs):Args env (x::l) (v::vs):=⟨h,hl⟩
theorem Uw{n:Shp}{a:Act}{env:Env}(ha:Fits n a env):∀(l:List Operand) (us:List Value),Args env l us->l.map a.eval=us
 |[],[],_=>rfl
 |[],_::_,h=>h.elim
 |_::_,[],h=>h.elim
 |x::l,u::us,h=>by rw[Re,ha.eval h.1,Uw ha l us h.2]
variable {args:List Operand}{tys:Array TypeId}
theorem YiL(ha:Fits n a env)
 (hc:∀xs w,(callFunc f xs).run P w=.ok (.enter f xs) w) (hargs:Args env args vs) (w:World):
 (execOp a.eval ⟨some d,.call ⟨.value (.func f),args.toArray,tys⟩,ty,pos,after,none⟩).run P w=.ok (.enter f vs.toArray) w:=by
 have hmap:args.toArray.map a.eval=vs.toArray:=by rw[SY,Uw ha _ _ hargs]
 simp only[execOp,resolve,Act.eval,hmap,Deferred.ofValue,Sem.run_bind,Sem.run_pure,Result.andThen_ok,invoke]
 simpa using hc (vs.toArray) w
theorem Yh(Φ:Value->List HP->Prop)
 (hc:∀xs w,(callFunc f xs).run P w=.ok (.enter f xs) w) (hargs:Args env args vs) (hn:Nat.ble (d+1) n.k=true)
 (hcall:∀w,St B w0 H w->Calls P f vs.toArray w (Post B w0 Φ))
 (h:∀v H',Φ v H'->VL P none n B w0 ops Q rest ((d,v)::env) H'):
 VL P none n B w0 ops Q (⟨some d,.call ⟨.value (.func f),args.toArray,tys⟩,ty,pos,after,none⟩::rest) env H:=by
 refine⟨λa ha w hw=>wpList_plain rfl λK hK=>?_⟩
 unfold Oper.wp
 rw[YiL ha hc hargs,Oper.upon_enter]
 refine(hcall w hw).mono ?_
 rintro e w' ⟨v,H',rfl,hst,hΦ⟩
 exact hK _ _ ((h v H' hΦ).run _ (ha.put (T0 hn) v) _ hst)
theorem Ya
 (hc:∀xs w,(callFunc f xs).run P w=.ok (.enter f xs) w) (hargs:Args env args vs) (hn:Nat.ble (d+1) n.k=true)
 (hcall:∀w,St B w0 H w->Calls P f vs.toArray w (Post B w0 λu K=>u=v/\K=H))
 (h:VL P none n B w0 ops Q rest ((d,v)::env) H):
 VL P none n B w0 ops Q (⟨some d,.call ⟨.value (.func f),args.toArray,tys⟩,ty,pos,after,none⟩::rest) env H:=
 Yh _ hc hargs hn hcall (by rintro _ _ ⟨rfl,rfl⟩;exact h)
theorem Yb
 (hc:∀xs w,(callFunc f xs).run P w=.ok (.enter f xs) w) (hargs:Args env args vs) (hn:Nat.ble (d+1) n.k=true)
 (hcall:∀w,St B w0 H w->Calls P f vs.toArray w (Post B w0 λu K=>u=v/\K=H))
 (h:VL P (some none) n B w0 ops Q rest ((d,v)::env) H):
 VL P (some none) n B w0 ops Q (⟨some d,.call ⟨.value (.func f),args.toArray,tys⟩,ty,pos,after,none⟩::rest) env H:=by
 refine⟨λa ha=>wpQuiet_step λK hK=>?_⟩
 rw[Tm (by simp[Region.wanted])]
 refine⟨v,λw hw=>?_,hK _ ?_⟩
 ·unfold Oper.quietAt
  rw[YiL ha hc hargs]
  refine⟨rfl,(hcall w hw).mono ?_⟩
  rintro e w' ⟨_,_,rfl,hst,rfl,rfl⟩
  exact⟨rfl,hst⟩
 ·exact h.run _ (ha.put (T0 hn) v)
def ancB(ops:Array Oper):Nat->Nat->Nat->Bool
 |0,_,_=>false
 |f+1,j,i=>match ops[j]? with
  |some oj=>oj.after.any λe=>Region.binds .any e&&(e.on==i||ancB ops f e.on i)
  |none=>false
def Closed(ops:Array Oper)(listed:Array Bool):Prop:=
 ∀j oj,ops[j]? =some oj->listed.getD j false=true->∀e∈oj.after,Region.binds .any e=true->listed.getD e.on false=true
theorem Closed.set{ops:Array Oper}{listed:Array Bool}(h:Closed ops listed)(hj:j∈Region.ready .any ops listed):Closed ops (listed.setIfInBounds j true):=by
 obtain⟨_,oj,hoj,hall⟩:=mem_ready.1 hj
 intro k ok hk hl e he hb
 by_cases hkj:j=k
 ·subst hkj
  obtain rfl:ok=oj:=Tz (hk.symm.trans hoj)
  exact getD_set_true (hall e he hb)
 ·rw[getD_set_ne false hkj]at hl
  exact getD_set_true (h k ok hk hl e he hb)
theorem VW{ops:Array Oper}{listed:Array Bool}(h:Closed ops listed):∀(f j i:Nat),(∀oj,ops[j]? =some oj->∀e∈oj.after,Region.binds .any e=true->listed.getD e.on false=true)->ancB ops f j i=true->listed.getD i false=true
 |0,_,_,_,ha=>by cases ha
 |f+1,j,i,hp,ha=>by
  unfold ancB at ha
  cases ho:ops[j]? with
  |none=>rw[ho]at ha;cases ha
  |some oj=>
   rw[ho]at ha
   obtain⟨e,he,hb⟩:=Array.any_eq_true'.1 ha
   simp only[To,Sj,Nc]at hb
   have h1:=hp oj ho e he hb.1
   rcases hb.2 with h2|h2
   ·rw[<-h2];exact h1
   ·exact VW h f e.on i (λok hk=>h e.on ok hk h1) h2
def Zf(P:Program)(ops:Array Oper)(Q:Exit->Act->World->Prop)(S:World->Prop)(last:List Nat):Nat->Array Bool->Act->World->Prop
 |0,listed,a,w=>Region.ready .any ops listed=[]/\Q .normal a w
 |fuel+1,listed,a,w=>
  (Region.ready .any ops listed=[]->Q .normal a w)/\
  ∀i∈Region.ready .any ops listed,wpOp P ops Q i (λa' w'=>(last.contains i=false->S w')/\Zf P ops Q S last fuel (listed.setIfInBounds i true) a' w') a w
theorem ZP{S:World->Prop}{last:List Nat}:∀(fuel:Nat) (listed:Array Bool) (a:Act) (w:World),Zf P ops Q S last fuel listed a w->wpAny P .any ops Q fuel listed a w
 |0,_,_,_,h=>h
 |fuel+1,_,_,_,h=>⟨h.1,λi hi=>wpOp_mono (λa' w' h'=>ZP fuel _ a' w' h'.2) (h.2 i hi)⟩
variable {last:List Nat}
theorem JK{S:World->Prop}{oi:Oper}(hi:ops[i]? =some oi)(hsel:∀(j:Nat) (o:Oper) cs b,ops[j]? =some o->o.op≠.select cs b)
 (hQ:∀c (a:Act) (w:World),¬Q (.panic c) a w) (hlast:∀j,last.contains j=true->∃f,ancB ops f j i=true) (hil:last.contains i=false):
 ∀(fuel:Nat) (listed:Array Bool) (a:Act) (w:World),Closed ops listed->
  (∀j oj,ops[j]? =some oj->j≠i->listed.getD j true=false->(∀e∈oj.after,Region.binds .any e=true->e.on≠i)->oi.apart ops oj=true)->
  i∈Region.ready .any ops listed->YieldsIf P ops S oi v a->S w->
  Zf P ops Q S last fuel (listed.setIfInBounds i true) (a.put oi.dst v) w->Zf P ops Q S last (fuel+1) listed a w:=by
 intro fuel
 induction fuel with
 |zero=>
  intro listed a w _ _ hr hy hS H
  refine⟨λh=>(by rw[h]at hr;cases hr),λj hj=>?_⟩
  by_cases hji:j=i
  ·subst hji;exact hy.wpOp hi hS ⟨λ_=>hS,H⟩
  ·have:=ready_mono hj hji
   rw[H.1]at this
   cases this
 |succ fuel ih=>
  intro listed a w hcl hfree hr hy hS H
  refine⟨λh=>(by rw[h]at hr;cases hr),λj hj=>?_⟩
  by_cases hji:j=i
  ·subst hji;exact hy.wpOp hi hS ⟨λ_=>hS,H⟩
  ·have h1:=H.2 j (ready_mono hj hji)
   obtain⟨hjun,oj,hoj,hall⟩:=mem_ready.1 hj
   have hun:=(mem_ready.1 hr).1
   have hun':listed.getD i false=false:=by
    rcases SB i listed.size with h'|h'
    ·simp[h']at hun⊢;exact hun
    ·simp[Array.getElem?_eq_none h']at hun
   have hnl:last.contains j=false:=by
    cases hc:last.contains j with
    |false=>rfl
    |true=>
     obtain⟨f,hf⟩:=hlast j hc
     have:=VW hcl f j i (λok hk e he hb=>by
      obtain rfl:ok=oj:=Tz (hk.symm.trans hoj)
      exact hall e he hb) hf
     rw[hun']at this
     cases this
   have hnot:∀e∈oj.after,Region.binds .any e=true->e.on≠i:=λe he hb heq=>by
    have h2:=hall e he hb
    rw[heq,hun']at h2
    cases h2
   have h2:=wpOp_putIf hoj (hfree j oj hoj hji hjun hnot) (λcs b=>hsel i oi cs b hi) (λcs b=>hsel j oj cs b hoj) (λc a w h=>(hQ c _ w h).elim) hy h1
   have hfree':∀k ok,ops[k]? =some ok->k≠i->(listed.setIfInBounds j true).getD k true=false->
    (∀e∈ok.after,Region.binds .any e=true->e.on≠i)->oi.apart ops ok=true:=λk ok hk hki hu hno=>by
    refine hfree k ok hk hki ?_ hno
    by_cases hjk:j=k
    ·subst hjk;exact hjun
    ·rw[getD_set_ne true hjk]at hu;exact hu
   refine wpOp_mono (λa' w' h3=>⟨λ_=>h3.2.1 hnl,ih (listed.setIfInBounds j true) a' w' (hcl.set hj) hfree' (ready_mono hr (NZ hji)) h3.1 (h3.2.1 hnl) ?_⟩) h2
   rw[S8 _ _ hji]
   exact h3.2.2
def Wt(ops:Array Oper):List Nat->Array Bool->Bool
 |[],listed=>(Region.ready .any ops listed).isEmpty
 |i::rest,listed=>
  (match ops[i]? with
   |some o=>if eff o then decide (Region.ready .any ops listed=[i])else(Region.ready .any ops listed).contains i&&Region.free .any ops listed i
   |none=>false)&&Wt ops rest (listed.setIfInBounds i true)
def Ye6(ops:Array Oper)(last:List Nat):Bool:=
 last.all λj=>(match ops[j]? with|some o=>eff o|none=>false)&&(List.range ops.size).all λi=>(match ops[i]? with|some o=>eff o|none=>false)||ancB ops ops.size j i
def nthO:List Oper->Nat->Oper
 |[],_=>default
 |o::_,0=>o
 |_::l,i+1=>nthO l i
theorem Q8:∀(l:List Oper) (i:Nat),nthO l i=l.getD i default
 |[],i=>by simp[nthO]
 |o::l,0=>by simp[nthO]
 |o::l,i+1=>by simp[nthO,Q8 l i]
def Yg(l:List Oper):List Nat->List Oper
 |[]=>[]
 |i::r=>nthO l i::Yg l r
def Jd(P:Program)(ops:Array Oper)(Q:Exit->Act->World->Prop)(l:List Oper):Exit->Act->World->Prop
 |.normal,a,w=>wpList P ops Q l a w
 |e,a,w=>Q e a w
theorem Oper.wp_mono_noQ'(_h1:∀c (a:Act) (w:World),False->¬Q (.panic c) a w)(h:o.wp P a w K (Jd P ops Q l)):o.wp P a w K Q:=by
 unfold Oper.wp at h⊢
 generalize(execOp a.eval o).run P w=r at*
 cases r with
 |ok nx w'=>
  cases nx<;>simp only[Oper.upon]at h⊢<;>first
   |exact h
   |(refine Calls.mono h λe w'' he=>?_
     cases e with
     |returned u=>exact he
     |panicked c=>exact he
     |outgrown=>obtain⟨a',w',h'⟩:=he;exact⟨a',w',h'⟩)
 |halt x w'=>
  cases x<;>simp only[Oper.upon]at h⊢
  exact h
theorem Wp(h:Ye6 ops last=true):(∀j,last.contains j=true->∃o,ops[j]? =some o/\eff o=true)/\∀i oi,ops[i]? =some oi->eff oi=false->∀j,last.contains j=true->∃f,ancB ops f j i=true:=by
 refine⟨λj hj=>?_,λi oi hi he j hj=>?_⟩
 ·have h1:=TI.1 h j (by simpa using hj)
  simp only[To]at h1
  cases ho:ops[j]? with
  |none=>rw[ho]at h1;cases h1.1
  |some o=>rw[ho]at h1;exact⟨o,rfl,h1.1⟩
 ·have h1:=TI.1 h j (by simpa using hj)
  simp only[To]at h1
  have hlt:i<ops.size:=(R9.1 hi).1
  have h2:=TI.1 h1.2 i (TO.2 hlt)
  rw[hi]at h2
  simp only[he,ND]at h2
  exact⟨_,h2⟩
theorem WD{S:World->Prop}{last:List Nat}(l:List Oper)(hl:ops=l.toArray)(hef:∀j,last.contains j=true->∃o,ops[j]? =some o/\eff o=true)(hlo:¬LetsOut Q):
 ∀(o2:List Nat) (listed:Array Bool) (a:Act) (w:World),(∀j∈o2,last.contains j=true)->Wt ops o2 listed=true->wpList P ops Q (Yg l o2) a w->Zf P ops Q S last o2.length listed a w
 |[],listed,a,w,_,hB,h=>⟨by simpa [Wt]using hB,h⟩
 |i::rest,listed,a,w,hin,hB,h=>by
  simp only[Wt,To]at hB
  obtain⟨h1,h2⟩:=hB
  obtain⟨o,ho,he⟩:=hef i (hin i (by simp))
  rw[ho]at h1
  simp only[he,NF,Tq]at h1
  have hget:nthO l i=o:=by
   rw[Q8]
   rw[hl]at ho
   simp only[NG]at ho
   simp[List.getD,ho]
  simp only[Yg,hget]at h
  unfold wpList at h
  refine⟨λh0=>(by rw[h1]at h0;cases h0),λk hk=>?_⟩
  rw[h1]at hk
  obtain rfl:k=i:=by simpa using hk
  unfold wpOp
  simp only[ho]
  have hc:last.contains k=true:=hin k (by simp)
  by_cases hw:Region.wanted o (yielded ops a.tmps)=true
  ·rw[Tm hw]at h⊢
   rcases h with h|⟨_,h⟩
   ·exact .inl (Oper.wp_mono (λa' w' h'=>⟨λhf=>(by rw[hc]at hf;cases hf),WD l hl hef hlo rest _ a' w' (λj hj=>hin j (by simp[hj])) h2 h'⟩) h)
   ·exact(hlo h).elim
  ·rw[Td hw]at h⊢
   exact⟨λhf=>(by rw[hc]at hf;cases hf),WD l hl hef hlo rest _ _ w (λj hj=>hin j (by simp[hj])) h2 h⟩
theorem V0{S:World->Prop}{last:List Nat}(hs:Region.noSelect ops=true)(hQ:∀c (a:Act) (w:World),¬Q (.panic c) a w)(hlo:¬LetsOut Q)(l:List Oper)(hl:ops=l.toArray)(hlast:Ye6 ops last=true):
 ∀(o1:List Nat) (listed:Array Bool) (a:Act) (w:World),Closed ops listed->(∀j∈o1,last.contains j=false)->Wt ops (o1++last) listed=true->S w->Ys P ops (Jd P ops Q (Yg l last)) S (Yg l o1) a w->
  Zf P ops Q S last (o1++last).length listed a w
 |[],listed,a,w,_,_,hB,_,h=>WD l hl (Wp hlast).1 hlo last listed a w (λj hj=>by simpa using hj) hB h
 |i::rest,listed,a,w,hcl,hno,hB,hS,h=>by
  simp only[TC,Wt,To]at hB
  obtain⟨h1,h2⟩:=hB
  have hno':∀j∈rest,last.contains j=false:=λj hj=>hno j (by simp[hj])
  cases ho:ops[i]? with
  |none=>rw[ho]at h1;cases h1
  |some o=>
   rw[ho]at h1
   have hget:nthO l i=o:=by
    rw[Q8]
    rw[hl]at ho
    simp only[NG]at ho
    simp[List.getD,ho]
   simp only[Yg,hget]at h
   by_cases he:eff o=true
   ·simp only[he,NF,Tq]at h1
    unfold Ys at h
    rw[Tm he]at h
    refine⟨λh0=>(by rw[h1]at h0;cases h0),λk hk=>?_⟩
    have hk':=hk
    rw[h1]at hk
    obtain rfl:k=i:=by simpa using hk
    unfold wpOp
    simp only[ho]
    by_cases hw:Region.wanted o (yielded ops a.tmps)=true
    ·rw[Tm hw]at h⊢
     refine .inl (Oper.wp_mono_noQ' (λc a w h=>by cases h) (Oper.wp_mono (λa' w' h'=>⟨λ_=>h'.1,V0 hs hQ hlo l hl hlast rest _ a' w' (hcl.set hk') hno' h2 h'.1 h'.2⟩) h))
    ·rw[Td hw]at h⊢
     exact⟨λ_=>hS,V0 hs hQ hlo l hl hlast rest _ _ w (hcl.set hk') hno' h2 hS h⟩
   ·simp only[he]at h1
    simp only[SA,N8,To]at h1
    unfold Ys at h
    rw[Td he]at h
    obtain⟨v,hy,h3⟩:=h
    have hr:i∈Region.ready .any ops listed:=by simpa using h1.1
    exact JK ho (Region.noSelect_spec hs) hQ ((Wp hlast).2 i o ho (by simpa using he)) (hno i (by simp)) _ listed a w hcl (Region.free_spec ho h1.2) hr hy hS (V0 hs hQ hlo l hl hlast rest _ _ w (hcl.set hr) hno' h2 hS h3)
def Split:List Bool->List HP->List HP->List HP->Prop
 |[],L,Hc,F=>Hc=[]/\F=L
 |true::bs,A::L,C::Hc,F=>C=A/\Split bs L Hc F
 |false::bs,A::L,Hc,C::F=>C=A/\Split bs L Hc F
 |_,_,_,_=>False
theorem YnK:Split [] L [] L:=⟨rfl,rfl⟩
variable {bs:List Bool}
theorem Yrv(h:Split bs L Hc F):Split (true::bs) (A::L) (A::Hc) F:=⟨rfl,h⟩
theorem Yru(h:Split bs L Hc F):Split (false::bs) (A::L) Hc (A::F):=by
 cases Hc<;>exact⟨rfl,h⟩
theorem Yiv(A:HP):∀(L M:List HP),Perm (A::(L++M)) (L++A::M)
 |[],_=>Perm.refl _
 |B::L,M=>(Perm.swap A B (L++M)).trans ((Yiv A L M).cons B)
theorem XK:∀{bs:List Bool}{L Hc F:List HP},Split bs L Hc F->Perm L (Hc++F)
 |[],L,Hc,F,h=>by obtain⟨rfl,rfl⟩:=h;exact Perm.refl _
 |true::bs,A::L,C::Hc,F,h=>by obtain⟨rfl,h⟩:=h;exact(XK h).cons C
 |false::bs,A::L,[],C::F,h=>by
  obtain⟨rfl,h⟩:C=A/\Split bs L [] F:=h
  exact(XK h).cons C
 |false::bs,A::L,D::Hc,C::F,h=>by
  obtain⟨rfl,h⟩:C=A/\Split bs L (D::Hc) F:=h
  exact((XK h).cons C).trans (Yiv C (D::Hc) F)
 |true::_,[],_,_,h=>h.elim
 |true::_,_::_,[],_,h=>h.elim
 |false::_,[],_,_,h=>by cases h
 |false::_,_::_,[],[],h=>by cases h
 |false::_,_::_,_::_,[],h=>by cases h
theorem St.prefix_{B:Nat}{w0:World}:∀{L F:List HP},St B w0 (L++F) w->St B w0 L w:=by
 intro L F h
 refine⟨h.below,h.le,?_⟩
 have key:∀(L:List HP) (S:Nat->Prop),sepL (L++F) S w->sepL L S w:=by
  intro L
  induction L with
  |nil=>intros;trivial
  |cons A L ih=>
   intro S hh
   obtain⟨S1,S2,h1,h2,h3,h4,h5⟩:=hh
   exact⟨S1,S2,h1,h2,h3,h4,ih S2 h5⟩
 exact key L _ h.sep
def Only(Q:Exit->Act->World->Prop):Exit->Act->World->Prop
 |.normal,a,w=>Q .normal a w
 |_,_,_=>False
theorem XU(ops:Array Oper)(k:Nat):Closed ops (Array.replicate k false):=by
 intro j oj _ hl
 rcases SB j k with h|h
 ·simp[h]at hl
 ·simp[h]at hl
theorem YU(o1 last:List Nat)(mask:List Bool)(hm:P.follows .mixedOrders=true)
 (hB:(Region.noSelect l.toArray&&decide ((o1++last).length=l.toArray.size)&&Ye6 l.toArray last&&(o1.all λj=>!last.contains j)&&Wt l.toArray (o1++last) (Array.replicate l.toArray.size false))=true)
 (hsp:Split mask H Hc F) {l1 l2:List Oper}(hl1:Yg l o1=l1) (hl2:Yg l last=l2) (h:VL P (some (some F)) n B w0 l.toArray (Jd P l.toArray (Only Q) l2) l1 env Hc):VC P n B w0 (.region id l.toArray true) Q env H:=by
 simp only[To,Tq]at hB
 obtain⟨⟨⟨⟨h1,h2⟩,h3⟩,h4⟩,h5⟩:=hB
 refine⟨λa w ha hw=>ZQ (Q:=Only Q) ?_ λe a w h=>by cases e<;>first|exact h|cases h⟩
 have hst:St B w0 (Hc++F) w.drew:=(hw.perm (XK hsp)).drew
 have hr:Ys P l.toArray (Jd P l.toArray (Only Q) l2) (St B w0 Hc) l1 a w.drew:=h.run a ha w.drew hst
 rw[<-hl1,<-hl2]at hr
 have:=V0 (S:=St B w0 Hc) h1 (λc a w h=>h) (by rintro⟨_,_,h⟩;exact h) l rfl h3 o1 _ a w.drew (XU _ _) (λj hj=>by simpa using TI.1 h4 j hj) h5 hst.prefix_ hr
 rw[h2]at this
 exact VE hm (ZP _ _ _ _ this)
def YgO(P:Program)(B:Nat)(w0:World)(ops:Array Oper)(Q:Exit->Act->World->Prop)(Hc:List HP)(rest:List Oper):Exit->Act->World->Prop
 |.normal,a,w=>St B w0 Hc w/\Ys P ops Q (St B w0 Hc) rest a w
 |_,_,_=>False
theorem Oper.wp_mono_noQ{Q1 Q2:Exit->Act->World->Prop}(h1:∀c a w,¬Q1 (.panic c) a w)(h2:¬LetsOut Q1)(h:o.wp P a w K Q1):o.wp P a w K Q2:=by
 unfold Oper.wp at h⊢
 generalize(execOp a.eval o).run P w=r at*
 cases r with
 |ok nx w'=>
  cases nx<;>simp only[Oper.upon]at h⊢<;>first
   |exact h
   |(refine Calls.mono h λe w'' he=>?_
     cases e with
     |returned u=>exact he
     |panicked c=>exact(h1 _ _ _ he).elim
     |outgrown=>exact(h2 he).elim)
 |halt x w'=>
  cases x<;>simp only[Oper.upon]at h⊢
  exact(h1 _ _ _ h).elim
def App:List HP->List HP->List HP->Prop
 |[],F,HF=>HF=F
 |A::L,F,B::HF=>B=A/\App L F HF
 |_,_,_=>False
theorem YqK:App [] F F:=rfl
theorem YoB(h:App L F HF):App (A::L) F (A::HF):=⟨rfl,h⟩
theorem Wg:∀{L F HF:List HP},App L F HF->HF=L++F
 |[],_,_,h=>h
 |A::L,F,B::HF,h=>by obtain⟨rfl,h⟩:=h;rw[Wg h];rfl
 |_::_,_,[],h=>h.elim
theorem Yqs(he:eff o=true)(hg:o.guard=none)(happ:App H F HF)(h:VL P none n B w0 ops (YgO P B w0 ops Q H rest) [o] env HF):VL P (some (some F)) n B w0 ops Q (o::rest) env H:=by
 refine⟨λa ha w hw=>?_⟩
 rw[<-Wg happ]at hw
 have h1:wpList P ops (YgO P B w0 ops Q H rest) [o] a w:=h.run a ha w hw
 unfold Ys
 rw[Tm he,Tm (by simp[Region.wanted,hg])]
 unfold wpList at h1
 rw[Tm (by simp[Region.wanted,hg])]at h1
 have hlo:¬LetsOut (YgO P B w0 ops Q H rest):=by rintro⟨_,_,h⟩;exact h
 rcases h1 with h1|⟨_,h2⟩
 ·refine Oper.wp_mono_noQ (λc a w h=>h) hlo (Oper.wp_mono (λa' w' h'=>?_) h1)
  exact h'
 ·exact(hlo h2).elim
def Rem(A:HP)(L M:List HP):Prop:=Perm L (A::M)
theorem Yt:Rem A (A::L) L:=Perm.refl _
theorem YD{X:HP}(h:Rem A L M):Rem A (X::L) (X::M):=(Perm.cons X h).trans (Perm.swap X A M)
def Pull(Hc L F:List HP):Prop:=Perm L (Hc++F)
theorem Y6:Pull [] L L:=Perm.refl _
theorem YX(h:Rem A L M)(h2:Pull Hc M F):Pull (A::Hc) L F:=Perm.trans h (Perm.cons A h2)
theorem Yk(hp:Pull Hc H' F)(h:VL P (some (some F)) n B w0 ops Q rest env Hc):VQ n B w0 (YgO P B w0 ops Q Hc rest) .normal env H':=
 ⟨λa w ha hw=>⟨(hw.perm hp).prefix_,h.run a ha w (hw.perm hp)⟩⟩
theorem X5(happ:App H F HF)(h:VQ n B w0 Q .normal env HF):VL P (some (some F)) n B w0 ops Q [] env H:=
 ⟨λa ha w hw=>by rw[<-Wg happ]at hw;exact h.run a w ha hw⟩
theorem Yox(h:VL P none n B w0 ops Q l env H):VQ n B w0 (Jd P ops Q l) .normal env H:=⟨λa w ha hw=>h.run a ha w hw⟩
theorem YqE(h:VQ n B w0 Q .normal env H):VQ n B w0 (Only Q) .normal env H:=⟨λa w ha hw=>h.run a w ha hw⟩
end
def Yb4(P:Program)(t:TypeId):Bool:=
 match P.underlying t with
 |some (.struct _)|some (.array _ _)|none=>false
 |some _=>true
def aggT(P:Program)(t:TypeId):Option Nat:=
 match P.underlying t with
 |some (.struct _)|some (.array _ _)=>(P.info? t).map (·.size)
 |_=>none
def Oa(P:Program)(s f:Nat):Option Nat:=
 match P.underlying s with
 |some (.struct fs)=>(fs[f]?).bind λfld=>(P.info? fld.type).bind λi=>if i.size=0 then none else some fld.offset
 |_=>none
def YdC(P:Program)(t:TypeId):Option (Nat×Nat×Nat):=
 match P.underlying t with
 |some (.slice e)=>(P.info? e).bind λi=>i.zero.bind λz=>if z.cells.size=i.size/\0<i.size/\0<i.bytes then some (e,i.size,i.bytes)else none
 |_=>none
def Ycr(P:Program)(t:TypeId):Option (Nat×Nat×Nat):=
 match P.underlying t with
 |some (.array n e)=>(P.info? e).map λi=>(n,e,i.size)
 |_=>none
def intT(P:Program)(t:TypeId):Option IntKind:=
 match P.underlying t with
 |some (.int k)=>some k
 |_=>none
def YgG(P:Program)(t:TypeId):Bool:=
 match P.underlying t with
 |some .string=>true
 |_=>false
def oneT(P:Program)(t:TypeId):Bool:=Yb4 P t&&((P.info? t).map (·.size))==some 1
def look{β:Type}:List (Nat×β)->Nat->Option β
 |[],_=>none
 |(s,v)::l,t=>if s=t then some v else look l t
theorem Vd{β:Type}:∀{l:List (Nat×β)}{t:Nat}{v:β},look l t=some v->(t,v)∈l
 |(s,u)::l,t,v,h=>by
  by_cases e:s=t
  ·subst e;rw[look,Tm rfl]at h;cases h;exact TA
  ·rw[look,Td e]at h;exact TB _ (Vd h)
def Og:List (Nat×Nat×Nat)->Nat->Nat->Option Nat
 |[],_,_=>none
 |(s,f,v)::l,t,g=>if s=t then(if f=g then some v else Og l t g)else Og l t g
theorem YaO:∀{l:List (Nat×Nat×Nat)}{t g v:Nat},Og l t g=some v->(t,g,v)∈l
 |(s,f,u)::l,t,g,v,h=>by
  by_cases e:s=t
  ·subst e
   rw[Og,Tm rfl]at h
   by_cases e':f=g
   ·subst e';rw[Tm rfl]at h;cases h;exact TA
   ·rw[Td e']at h;exact TB _ (YaO h)
  ·rw[Og,Td e]at h;exact TB _ (YaO h)
structure Tab(P:Program) where
 sc:List (Nat×Unit)
 ag:List (Nat×Nat)
 fo:List (Nat×Nat×Nat)
 sl:List (Nat×(Nat×Nat×Nat))
 ar:List (Nat×(Nat×Nat×Nat))
 ik:List (Nat×IntKind)
 st:List (Nat×Unit)
 sc_ok:(sc.all λx=>oneT P x.1)=true
 ag_ok:(ag.all λx=>aggT P x.1==some x.2)=true
 fo_ok:(fo.all λx=>Oa P x.1 x.2.1==some x.2.2)=true
 sl_ok:(sl.all λx=>YdC P x.1==some x.2)=true
 ar_ok:(ar.all λx=>Ycr P x.1==some x.2)=true
 ik_ok:(ik.all λx=>decide (intT P x.1=some x.2))=true
 st_ok:(st.all λx=>YgG P x.1)=true
section
variable {P:Program}(T:Tab P)
variable {t k s f e:Nat}
theorem Tab.scal(h:look T.sc t=some ()):Yb4 P t=true/\(P.info? t).map (·.size)=some 1:=by
 have:=TI.1 T.sc_ok _ (Vd h)
 simpa [oneT]using this
theorem Tab.aggs(h:look T.ag t=some k):aggT P t=some k:=by simpa using TI.1 T.ag_ok _ (Vd h)
theorem Tab.offs(h:Og T.fo s f=some k):Oa P s f=some k:=by simpa using TI.1 T.fo_ok _ (YaO h)
theorem Tab.slic{b:Nat}(h:look T.sl t=some (e,k,b)):YdC P t=some (e,k,b):=by simpa using TI.1 T.sl_ok _ (Vd h)
theorem Tab.arra{m:Nat}(h:look T.ar t=some (m,e,k)):Ycr P t=some (m,e,k):=by simpa using TI.1 T.ar_ok _ (Vd h)
theorem Tab.strs(h:look T.st t=some ()):P.underlying t=some .string:=by
 have:=TI.1 T.st_ok _ (Vd h)
 simp only[YgG]at this
 split at this<;>simp_all
theorem Tab.ints{k:IntKind}(h:look T.ik t=some k):intT P t=some k:=by simpa using TI.1 T.ik_ok _ (Vd h)
end
variable {P:Program}
theorem Ye3{t:TypeId}{k:IntKind}(h:intT P t=some k):P.underlying t=some (.int k):=by
 unfold intT at h
 split at h
 ·cases h;assumption
 ·cases h
theorem Xi{t:TypeId}(h:Yb4 P t=true)(w:World):(isAgg t).run P w=.ok false w:=by
 unfold Yb4 at h
 cases hu:P.underlying t with
 |none=>rw[hu]at h;cases h
 |some d=>rw[hu]at h;cases d<;>first|(simp[isAgg,run_underlying hu];done)|cases h
variable {k:Nat}
theorem ZN{t:TypeId}(h:aggT P t=some k)(w:World):(isAgg t).run P w=.ok true w:=by
 unfold aggT at h
 cases hu:P.underlying t with
 |none=>rw[hu]at h;cases h
 |some d=>rw[hu]at h;cases d<;>first|(simp[isAgg,run_underlying hu];done)|cases h
theorem Zn{t:TypeId}(h:(P.info? t).map (·.size)=some k)(w:World):(sizeOf t).run P w=.ok k w:=by
 cases hi:P.info? t with
 |none=>rw[hi]at h;cases h
 |some i=>rw[hi]at h;simp at h;subst h;simp[sizeOf,typeInfo,hi]
theorem JP{t:TypeId}(h:aggT P t=some k):(P.info? t).map (·.size)=some k:=by
 unfold aggT at h
 split at h<;>first|exact h|cases h
def nth:List Value->Nat->Option Value
 |[],_=>none
 |v::_,0=>some v
 |_::l,i+1=>nth l i
theorem Yj5:∀(l:List Value) (i:Nat),nth l i=l[i]?
 |[],i=>by simp[nth]
 |v::l,0=>by simp[nth]
 |v::l,i+1=>by simp[nth,Yj5 l i]
theorem Ygf(cs:Array Value)(i:Nat):nth cs.toList i=cs[i]? :=by rw[Yj5];simp
section
variable {P:Program}{m:Mode}{n:Shp}{B:Nat}{w0:World}{Q:Exit->Act->World->Prop}{env:Env}{H:List HP}{ops:Array Oper}{rest:List Oper}
variable {d:Nat}{ty:TypeId}{pos:String}{after:Array Edge}
variable {x c y:Operand}{v z:Value}
theorem Yqx(hx:evo env x=some v)(hn:Nat.ble (d+1) n.k=true)(h:VL P m n B w0 ops Q rest ((d,v)::env) H):
 VL P m n B w0 ops Q (⟨some d,.move x,ty,pos,after,none⟩::rest) env H:=
 Yy rfl rfl hn rfl (λa w ha _=>by simp[execOp,ha.eval hx]) h
theorem Yl9(hx:evo env x=some v)(hn:Nat.ble (d+1) n.k=true)(h:VL P m n B w0 ops Q rest ((d,v)::env) H):
 VL P m n B w0 ops Q (⟨some d,.assign x,ty,pos,after,none⟩::rest) env H:=
 Yy rfl rfl hn rfl (λa w ha _=>by simp[execOp,ha.eval hx]) h
theorem YfJ(hc:evo env c=some (.bool true))(hx:evo env x=some v)(hn:Nat.ble (d+1) n.k=true)(h:VL P m n B w0 ops Q rest ((d,v)::env) H):
 VL P m n B w0 ops Q (⟨some d,.pick c x y,ty,pos,after,none⟩::rest) env H:=
 Yy rfl rfl hn rfl (λa w ha _=>by simp[execOp,ha.eval hx,ha.eval hc,asBool]) h
theorem YdX(hc:evo env c=some (.bool false))(hx:evo env y=some v)(hn:Nat.ble (d+1) n.k=true)(h:VL P m n B w0 ops Q rest ((d,v)::env) H):
 VL P m n B w0 ops Q (⟨some d,.pick c x y,ty,pos,after,none⟩::rest) env H:=
 Yy rfl rfl hn rfl (λa w ha _=>by simp[execOp,ha.eval hx,ha.eval hc,asBool]) h
theorem Yg3{p:Addr}(hx:evo env x=some (.pointer (some p)))(hn:Nat.ble (d+1) n.k=true)(h:VL P m n B w0 ops Q rest ((d,.pointer (some p))::env) H):
 VL P m n B w0 ops Q (⟨some d,.nilCheck x,ty,pos,after,none⟩::rest) env H:=
 Yy rfl rfl hn rfl (λa w ha _=>by simp[execOp,ha.eval hx]) h
variable {i s f k g t:Nat}
theorem Yjd{vs:Array Value}(hx:evo env x=some (.tuple vs))(hv:nth vs.toList i=some v)(hn:Nat.ble (d+1) n.k=true)(h:VL P m n B w0 ops Q rest ((d,v)::env) H):
 VL P m n B w0 ops Q (⟨some d,.extract x i,ty,pos,after,none⟩::rest) env H:=
 Yy rfl rfl hn rfl (λa w ha _=>by rw[Ygf]at hv;simp[execOp,ha.eval hx,Instr.extract,hv]) h
variable {xt tt:TypeId}
theorem Yol{b:Bool}(hx:evo env x=some (.bool b))(hn:Nat.ble (d+1) n.k=true)(h:VL P m n B w0 ops Q rest ((d,.bool (!b))::env) H):
 VL P m n B w0 ops Q (⟨some d,.unOp .not xt x,ty,pos,after,none⟩::rest) env H:=
 Yy rfl rfl hn rfl (λa w ha _=>by simp[execOp,ha.eval hx,Op.unary]) h
theorem Yg4(hx:evo env x=some (.bool true))(hn:Nat.ble (d+1) n.k=true)(h:VL P m n B w0 ops Q rest ((d,.bool false)::env) H):
 VL P m n B w0 ops Q (⟨some d,.unOp .not xt x,ty,pos,after,none⟩::rest) env H:=Yol hx hn h
theorem YfH(hx:evo env x=some (.bool false))(hn:Nat.ble (d+1) n.k=true)(h:VL P m n B w0 ops Q rest ((d,.bool true)::env) H):
 VL P m n B w0 ops Q (⟨some d,.unOp .not xt x,ty,pos,after,none⟩::rest) env H:=Yol hx hn h
theorem Y7{op:BinOp}{yt:TypeId}{u:Value}(hx:evo env x=some u)(hy:evo env y=some v)(hn:Nat.ble (d+1) n.k=true)
 (hg:∀w,(eqGuard op xt x y u v).run P w=.ok () w) (hb:∀w,(binOp op xt u v).run P w=.ok z w)
 (h:VL P m n B w0 ops Q rest ((d,z)::env) H):VL P m n B w0 ops Q (⟨some d,.binOp op xt x y yt,ty,pos,after,none⟩::rest) env H:=
 Yy rfl rfl hn rfl (λa w ha _=>by simp[execOp,ha.eval hx,ha.eval hy,hg w,hb w]) h
section
variable {xt yt:TypeId}{x y:Operand}{k:IntKind}{a b:Int}
theorem Yoc(hx:evo env x=some (.int k a))(hy:evo env y=some (.int k b))(hn:Nat.ble (d+1) n.k=true)(h:VL P m n B w0 ops Q rest ((d,.int k (k.wrap (a+b)))::env) H):
 VL P m n B w0 ops Q (⟨some d,.binOp .add xt x y yt,ty,pos,after,none⟩::rest) env H:=Y7 hx hy hn (λ_=>rfl) (λ_=>by rw[binOp_add];rfl) h
theorem Yos(hx:evo env x=some (.int k a))(hy:evo env y=some (.int k b))(hn:Nat.ble (d+1) n.k=true)(h:VL P m n B w0 ops Q rest ((d,.int k (k.wrap (a-b)))::env) H):
 VL P m n B w0 ops Q (⟨some d,.binOp .sub xt x y yt,ty,pos,after,none⟩::rest) env H:=Y7 hx hy hn (λ_=>rfl) (λ_=>by rw[binOp_sub];rfl) h
theorem Yoi(hx:evo env x=some (.int k a))(hy:evo env y=some (.int k b))(hn:Nat.ble (d+1) n.k=true)(h:VL P m n B w0 ops Q rest ((d,.int k (k.wrap (a*b)))::env) H):
 VL P m n B w0 ops Q (⟨some d,.binOp .mul xt x y yt,ty,pos,after,none⟩::rest) env H:=Y7 hx hy hn (λ_=>rfl) (λ_=>by rw[binOp_mul];rfl) h
theorem Ysv(hx:evo env x=some (.int .i64 a))(hy:evo env y=some (.int .i64 b))(hn:Nat.ble (d+1) n.k=true)(hb: -9223372036854775808<=a+b/\a+b<=9223372036854775807)(h:VL P m n B w0 ops Q rest ((d,.int .i64 (a+b))::env) H):
 VL P m n B w0 ops Q (⟨some d,.binOp .add xt x y yt,ty,pos,after,none⟩::rest) env H:=Yoc hx hy hn (by rw[IntWalk.i64_in _ hb];exact h)
theorem YsK(hx:evo env x=some (.int .i64 a))(hy:evo env y=some (.int .i64 b))(hn:Nat.ble (d+1) n.k=true)(hb: -9223372036854775808<=a-b/\a-b<=9223372036854775807)(h:VL P m n B w0 ops Q rest ((d,.int .i64 (a-b))::env) H):
 VL P m n B w0 ops Q (⟨some d,.binOp .sub xt x y yt,ty,pos,after,none⟩::rest) env H:=Yos hx hy hn (by rw[IntWalk.i64_in _ hb];exact h)
theorem YsD(hx:evo env x=some (.int .i64 a))(hy:evo env y=some (.int .i64 b))(hn:Nat.ble (d+1) n.k=true)(hb: -9223372036854775808<=a*b/\a*b<=9223372036854775807)(h:VL P m n B w0 ops Q rest ((d,.int .i64 (a*b))::env) H):
 VL P m n B w0 ops Q (⟨some d,.binOp .mul xt x y yt,ty,pos,after,none⟩::rest) env H:=Yoi hx hy hn (by rw[IntWalk.i64_in _ hb];exact h)
theorem Yg8(hx:evo env x=some (.int k a))(hy:evo env y=some (.int k b))(hn:Nat.ble (d+1) n.k=true)(hb:b≠0)(h:VL P m n B w0 ops Q rest ((d,.int k (k.wrap (a.tdiv b)))::env) H):
 VL P m n B w0 ops Q (⟨some d,.binOp .quo xt x y yt,ty,pos,after,none⟩::rest) env H:=Y7 hx hy hn (λ_=>rfl) (λ_=>by rw[binOp_quo];simp[Op.intDiv,hb]) h
theorem Yop(hx:evo env x=some (.int k a))(hy:evo env y=some (.int k b))(hn:Nat.ble (d+1) n.k=true)(hb:b≠0)(h:VL P m n B w0 ops Q rest ((d,.int k (a.tmod b))::env) H):
 VL P m n B w0 ops Q (⟨some d,.binOp .rem xt x y yt,ty,pos,after,none⟩::rest) env H:=Y7 hx hy hn (λ_=>rfl) (λ_=>by rw[binOp_rem];simp[Op.intDiv,hb]) h
theorem YsG(hx:evo env x=some (.int .i64 a))(hy:evo env y=some (.int .i64 b))(hn:Nat.ble (d+1) n.k=true)(hb:0<=a/\a<=9223372036854775807/\1<=b)(h:VL P m n B w0 ops Q rest ((d,.int .i64 (a/b))::env) H):
 VL P m n B w0 ops Q (⟨some d,.binOp .quo xt x y yt,ty,pos,after,none⟩::rest) env H:=by
 refine Yg8 hx hy hn (by omega) ?_
 have h1:a/b<=a:=Int.ediv_le_self _ hb.1
 have h2:0<=a/b:=Int.ediv_nonneg hb.1 (by omega)
 rw[Int.tdiv_eq_ediv_of_nonneg hb.1,IntWalk.i64_in _ (by omega)]
 exact h
theorem YsH(hx:evo env x=some (.int k a))(hy:evo env y=some (.int k b))(hn:Nat.ble (d+1) n.k=true)(hb:0<=a/\1<=b)(h:VL P m n B w0 ops Q rest ((d,.int k (a%b))::env) H):
 VL P m n B w0 ops Q (⟨some d,.binOp .rem xt x y yt,ty,pos,after,none⟩::rest) env H:=by
 refine Yop hx hy hn (by omega) ?_
 rw[RV hb.1]
 exact h
theorem YsB(hx:evo env x=some (.int k a))(hy:evo env y=some (.int k b))(hn:Nat.ble (d+1) n.k=true)(h1:a<b->VL P m n B w0 ops Q rest ((d,.bool true)::env) H)(h2:b<=a->VL P m n B w0 ops Q rest ((d,.bool false)::env) H):
 VL P m n B w0 ops Q (⟨some d,.binOp .lss xt x y yt,ty,pos,after,none⟩::rest) env H:=by
 by_cases hc:a<b
 ·exact Y7 hx hy hn (λ_=>rfl) (λ_=>by rw[binOp_lss,Tc hc];rfl) (h1 hc)
 ·exact Y7 hx hy hn (λ_=>rfl) (λ_=>by rw[binOp_lss,Tn hc];rfl) (h2 (by omega))
theorem YsA(hx:evo env x=some (.int k a))(hy:evo env y=some (.int k b))(hn:Nat.ble (d+1) n.k=true)(h1:a<=b->VL P m n B w0 ops Q rest ((d,.bool true)::env) H)(h2:b<a->VL P m n B w0 ops Q rest ((d,.bool false)::env) H):
 VL P m n B w0 ops Q (⟨some d,.binOp .leq xt x y yt,ty,pos,after,none⟩::rest) env H:=by
 by_cases hc:a<=b
 ·exact Y7 hx hy hn (λ_=>rfl) (λ_=>by rw[binOp_leq,Tc hc];rfl) (h1 hc)
 ·exact Y7 hx hy hn (λ_=>rfl) (λ_=>by rw[binOp_leq,Tn hc];rfl) (h2 (by omega))
theorem Ysy(hx:evo env x=some (.int k a))(hy:evo env y=some (.int k b))(hn:Nat.ble (d+1) n.k=true)(h1:b<a->VL P m n B w0 ops Q rest ((d,.bool true)::env) H)(h2:a<=b->VL P m n B w0 ops Q rest ((d,.bool false)::env) H):
 VL P m n B w0 ops Q (⟨some d,.binOp .gtr xt x y yt,ty,pos,after,none⟩::rest) env H:=by
 by_cases hc:a>b
 ·exact Y7 hx hy hn (λ_=>rfl) (λ_=>by rw[binOp_gtr,Tc hc];rfl) (h1 hc)
 ·exact Y7 hx hy hn (λ_=>rfl) (λ_=>by rw[binOp_gtr,Tn hc];rfl) (h2 (by omega))
theorem Ysx(hx:evo env x=some (.int k a))(hy:evo env y=some (.int k b))(hn:Nat.ble (d+1) n.k=true)(h1:b<=a->VL P m n B w0 ops Q rest ((d,.bool true)::env) H)(h2:a<b->VL P m n B w0 ops Q rest ((d,.bool false)::env) H):
 VL P m n B w0 ops Q (⟨some d,.binOp .geq xt x y yt,ty,pos,after,none⟩::rest) env H:=by
 by_cases hc:a≥b
 ·exact Y7 hx hy hn (λ_=>rfl) (λ_=>by rw[binOp_geq,Tc hc];rfl) (h1 hc)
 ·exact Y7 hx hy hn (λ_=>rfl) (λ_=>by rw[binOp_geq,Tn hc];rfl) (h2 (by omega))
theorem Ysw(hx:evo env x=some (.int k a))(hy:evo env y=some (.int k b))(hn:Nat.ble (d+1) n.k=true)(h1:a=b->VL P m n B w0 ops Q rest ((d,.bool true)::env) H)(h2:a≠b->VL P m n B w0 ops Q rest ((d,.bool false)::env) H):
 VL P m n B w0 ops Q (⟨some d,.binOp .eql xt x y yt,ty,pos,after,none⟩::rest) env H:=by
 by_cases hc:a=b
 ·exact Y7 hx hy hn (λ_=>rfl) (λ_=>by rw[binOp_eql,Nc.2 hc];rfl) (h1 hc)
 ·exact Y7 hx hy hn (λ_=>rfl) (λ_=>by rw[binOp_eql,beq_eq_false_iff_ne.2 hc];rfl) (h2 hc)
theorem YsF(hx:evo env x=some (.int k a))(hy:evo env y=some (.int k b))(hn:Nat.ble (d+1) n.k=true)(h1:a≠b->VL P m n B w0 ops Q rest ((d,.bool true)::env) H)(h2:a=b->VL P m n B w0 ops Q rest ((d,.bool false)::env) H):
 VL P m n B w0 ops Q (⟨some d,.binOp .neq xt x y yt,ty,pos,after,none⟩::rest) env H:=by
 by_cases hc:a=b
 ·exact Y7 hx hy hn (λ_=>rfl) (λ_=>by rw[binOp_neq];simp[hc]) (h2 hc)
 ·exact Y7 hx hy hn (λ_=>rfl) (λ_=>by rw[binOp_neq];simp[hc]) (h1 hc)
variable {yk j:IntKind}
theorem YsJ(hx:evo env x=some (.int k a))(hy:evo env y=some (.int yk b))(hn:Nat.ble (d+1) n.k=true)(hb:0<=b/\b<=k.bits)(h:VL P m n B w0 ops Q rest ((d,.int k (a/2^b.toNat))::env) H):
 VL P m n B w0 ops Q (⟨some d,.binOp .shr xt x y yt,ty,pos,after,none⟩::rest) env H:=
 Y7 hx hy hn (λ_=>rfl) (λ_=>by rw[binOp_shr,shift_shr _ _ _ _ hb.1 hb.2];rfl) h
theorem YsI(hx:evo env x=some (.int k a))(hy:evo env y=some (.int yk b))(hn:Nat.ble (d+1) n.k=true)(hb:0<=b/\b<=k.bits)(h:VL P m n B w0 ops Q rest ((d,.int k (k.wrap (a*2^b.toNat)))::env) H):
 VL P m n B w0 ops Q (⟨some d,.binOp .shl xt x y yt,ty,pos,after,none⟩::rest) env H:=
 Y7 hx hy hn (λ_=>rfl) (λ_=>by rw[binOp_shl,shift_shl _ _ _ _ hb.1 hb.2];rfl) h
theorem Yoq{D:Int}(hx:evo env x=some (.int k a))(hn:Nat.ble (d+1) n.k=true)(hb:0<=b/\b<=k.bits)(hD:(2:Int)^b.toNat=D)(h:VL P m n B w0 ops Q rest ((d,.int k (a/D))::env) H):
 VL P m n B w0 ops Q (⟨some d,.binOp .shr xt x (.const (.int yk b)) yt,ty,pos,after,none⟩::rest) env H:=
 YsJ hx (y:=.const (.int yk b)) rfl hn hb (by rw[hD];exact h)
theorem YsL(hx:evo env x=some (.int k a))(hy:evo env y=some (.int k b))(hn:Nat.ble (d+1) n.k=true)(h:VL P m n B w0 ops Q rest ((d,.int k (bits .xor k a b))::env) H):
 VL P m n B w0 ops Q (⟨some d,.binOp .xor xt x y yt,ty,pos,after,none⟩::rest) env H:=Y7 hx hy hn (λ_=>rfl) (λ_=>by rw[binOp_xor];rfl) h
variable {src dst:TypeId}
theorem YkM(T:Tab P)(hx:evo env x=some (.int k a))(hs:look T.ik src=some j){kd:IntKind}(ht:look T.ik dst=some kd)(hn:Nat.ble (d+1) n.k=true)(h:VL P m n B w0 ops Q rest ((d,.int kd (kd.wrap a))::env) H):
 VL P m n B w0 ops Q (⟨some d,.convert src dst x,ty,pos,after,none⟩::rest) env H:=by
 refine Yy rfl rfl hn rfl (λf w ha _=>?_) h
 simp[execOp,ha.eval hx,convert,run_underlying (Ye3 (T.ints hs)),run_underlying (Ye3 (T.ints ht)),Conv.intToInt]
theorem Yjc(T:Tab P)(hx:evo env x=some (.int k a))(hs:look T.ik src=some j)(ht:look T.ik dst=some .i64)(hn:Nat.ble (d+1) n.k=true)(hb: -9223372036854775808<=a/\a<=9223372036854775807)
 (h:VL P m n B w0 ops Q rest ((d,.int .i64 a)::env) H):VL P m n B w0 ops Q (⟨some d,.convert src dst x,ty,pos,after,none⟩::rest) env H:=
 YkM T hx hs ht hn (by rw[IntWalk.i64_in _ hb];exact h)
end
theorem QH(s t:ByteArray):(s.toList==t.toList)=true↔s=t:=by
 rw[Nc]
 constructor
 ·intro h
  rw[ByteArray.toList_eq,ByteArray.toList_eq]at h
  cases s;cases t
  simp at h
  rw[h]
 ·rintro rfl;rfl
section
variable {xt yt:TypeId}{x y:Operand}{s t:ByteArray}
theorem YqB(hx:evo env x=some (.string s))(hy:evo env y=some (.string t))(hn:Nat.ble (d+1) n.k=true)(h1:s=t->VL P m n B w0 ops Q rest ((d,.bool true)::env) H)(h2:s≠t->VL P m n B w0 ops Q rest ((d,.bool false)::env) H):
 VL P m n B w0 ops Q (⟨some d,.binOp .eql xt x y yt,ty,pos,after,none⟩::rest) env H:=by
 by_cases hc:s=t
 ·exact Y7 hx hy hn (λ_=>rfl) (λ_=>by simp[binOp,Op.stringOp,hc]) (h1 hc)
 ·refine Y7 hx hy hn (λ_=>rfl) (λ_=>?_) (h2 hc)
  have:(s.toList==t.toList)=false:=by rw[S7];exactλe=>hc ((QH s t).1 e)
  simp only[binOp,Op.stringOp,this];rfl
theorem YqA(hx:evo env x=some (.string s))(hy:evo env y=some (.string t))(hn:Nat.ble (d+1) n.k=true)(hb:s.size+t.size<=9223372036854775807)(h:VL P m n B w0 ops Q rest ((d,.string (s++t))::env) H):
 VL P m n B w0 ops Q (⟨some d,.binOp .add xt x y yt,ty,pos,after,none⟩::rest) env H:=by
 refine Y7 hx hy hn (λ_=>rfl) (λ_=>?_) h
 have:¬((s.size+t.size:Nat):Int)>IntKind.i64.max:=by rw[IntKind.max_i64];omega
 simp only[binOp,Op.stringOp,Td this];rfl
theorem YqC(T:Tab P)(hx:evo env x=some (.string s)){tx:TypeId}(ht:look T.st tx=some ())(hn:Nat.ble (d+1) n.k=true)(h:VL P m n B w0 ops Q rest ((d,.int .i64 s.size)::env) H):
 VL P m n B w0 ops Q (⟨some d,.call ⟨.builtin .len,#[x],#[tx]⟩,ty,pos,after,none⟩::rest) env H:=
 Yy rfl rfl hn rfl (λf w ha _=>by simp[execOp,resolve,invoke,builtin,ha.eval hx,Builtin.len_,run_underlying (T.strs ht),goInt]) h
end
theorem YfE(T:Tab P)(hx:evo env x=some (.pointer (some ⟨g,i,none⟩)))(hf:Og T.fo s f=some k)(hn:Nat.ble (d+1) n.k=true)
 (h:VL P m n B w0 ops Q rest ((d,.pointer (some ⟨g,i+k,none⟩))::env) H):VL P m n B w0 ops Q (⟨some d,.fieldAddr s x f,ty,pos,after,none⟩::rest) env H:=by
 refine Yy rfl rfl hn rfl (λa w ha _=>?_) h
 have h1:=T.offs hf
 unfold Oa at h1
 split at h1
 ·rename_i fs hu
  cases hfl:fs[f]? with
  |none=>rw[hfl]at h1;cases h1
  |some fld=>
   rw[hfl]at h1
   simp only[Nu]at h1
   cases hi:P.info? fld.type with
   |none=>rw[hi]at h1;cases h1
   |some inf=>
    rw[hi]at h1
    simp only[Nu]at h1
    by_cases hz:inf.size=0
    ·rw[Tm hz]at h1;cases h1
    ·rw[Td hz]at h1
     have h2:fld.offset=k:=by simpa using h1
     subst h2
     simp[execOp,ha.eval hx,Instr.fieldAt,run_underlying hu,hfl,Instr.sureAddr,fieldPlace,sizeOf,typeInfo,hi,hz,Addr.add_lit]
 ·cases h1
variable {cs:Array Value}{fr:Nat×Nat}
theorem Y3{w:World}{t:TypeId}(h:w.heap[g]? =some (.cells cs t fr)):w.cell? ⟨g,i,none⟩=cs[i]? :=by simp[World.cell?,h]
theorem Yqu(T:Tab P)(hx:evo env x=some (.pointer (some ⟨g,i,none⟩)))(hm:blk g (.cells cs tt fr)∈H)(hv:nth cs.toList i=some v)
 (ht:look T.sc t=some ()) (hn:Nat.ble (d+1) n.k=true) (h:VL P m n B w0 ops Q rest ((d,v)::env) H):VL P m n B w0 ops Q (⟨some d,.load t x,ty,pos,after,none⟩::rest) env H:=by
 refine Yy rfl rfl hn rfl (λa w ha hw=>?_) h
 rw[Ygf]at hv
 have hc:=Y3 (i:=i) (hw.blk hm).1
 simp[execOp,ha.eval hx,Instr.loadAt,Instr.sureAddr,loadVar,Xi (T.scal ht).1,hc,hv]
theorem YdW(T:Tab P)(hx:evo env x=some (.pointer (some ⟨g,0,none⟩)))(hm:blk g (.cells cs tt fr)∈H)
 (ht:look T.ag t=some k) (hk:cs.size=k) (hn:Nat.ble (d+1) n.k=true) (h:VL P m n B w0 ops Q rest ((d,.agg cs)::env) H):
 VL P m n B w0 ops Q (⟨some d,.load t x,ty,pos,after,none⟩::rest) env H:=by
 refine Yy rfl rfl hn rfl (λa w ha hw=>?_) h
 have hb:=(hw.blk hm).1
 have hl:=run_loadCells_list (P:=P) w ⟨g,0,none⟩ cs.toList (λj v hj=>by rw[Addr.add_lit,Y3 hb,Ry];simpa using hj)
 rw[show cs.toList.length=k by simpa using hk]at hl
 simp[execOp,ha.eval hx,Instr.loadAt,Instr.sureAddr,loadVar,ZN (T.aggs ht),Zn (JP (T.aggs ht)),hl]
theorem Yg0(T:Tab P){vs:List Value}(hx:evo env x=some (.pointer (some ⟨g,i,none⟩)))(hm:blk g (.cells cs tt fr)∈H)
 (ht:look T.ag t=some k) (hk:vs.length=k) (hv:∀j v,vs[j]? =some v->cs[i+j]? =some v) (hn:Nat.ble (d+1) n.k=true) (h:VL P m n B w0 ops Q rest ((d,.agg vs.toArray)::env) H):
 VL P m n B w0 ops Q (⟨some d,.load t x,ty,pos,after,none⟩::rest) env H:=by
 refine Yy rfl rfl hn rfl (λa w ha hw=>?_) h
 have hb:=(hw.blk hm).1
 have hl:=run_loadCells_list (P:=P) w ⟨g,i,none⟩ vs (λj v hj=>by rw[Addr.add_lit,Y3 hb];exact hv j v hj)
 rw[hk]at hl
 simp[execOp,ha.eval hx,Instr.loadAt,Instr.sureAddr,loadVar,ZN (T.aggs ht),Zn (JP (T.aggs ht)),hl]
def Yel(l:List Value)(i:Nat)(v:Value)(l':List Value):Prop:=i<l.length/\l'=l.set i v
variable {l:List Value}
theorem Ydz{x:Value}:Yel (x::l) 0 v (v::l):=⟨by simp,rfl⟩
theorem YbD{x:Value}{l':List Value}(h:Yel l i v l'):Yel (x::l) (i+1) v (x::l'):=⟨by have:=h.1;simp;omega,by rw[h.2];rfl⟩
theorem Yor(T:Tab P){cs cs':List Value}{K:List HP}(hx:evo env x=some (.pointer (some ⟨g,i,none⟩)))(hy:evo env y=some v)(h1:v.oneCell'=true)
 (hu:Upd (blk g (.cells cs.toArray tt (0,0))) (blk g (.cells cs'.toArray tt (0,0))) H K) (hs:Yel cs i v cs')
 (ht:look T.sc t=some ()) (h:VL P none n B w0 ops Q rest env K):VL P none n B w0 ops Q (⟨none,.store t x y,ty,pos,after,none⟩::rest) env H:=by
 obtain⟨hi,rfl⟩:=hs
 have hu':Upd (blk g (.cells cs.toArray tt (0,0))) (blk g (.cells (cs.toArray.setIfInBounds i v) tt (0,0))) H K:=by rw[List.setIfInBounds_toArray];exact hu
 refine J5 rfl rfl (λa w ha hw=>⟨w.setCell ⟨g,i,none⟩ v,?_,hw.setCell hu'⟩) h
 have hb:w.heap[g]? =some (.cells cs.toArray tt (0,0)):=by
  obtain⟨L1,L2,rfl,_⟩:=hu
  exact(hw.blk (by simp)).1
 have hc:=Y3 (i:=i) hb
 have hcs:v.cells=#[v]:=by cases v<;>first|rfl|simp[Value.oneCell']at h1
 have hz:w.frozen? ⟨g,i,none⟩=false:=by simp[World.frozen?,hb]
 have hv:(cs.toArray)[i]? =some cs[i]:=by simp[hi]
 rw[hv]at hc
 simp[execOp,ha.eval hx,ha.eval hy,Instr.storeAt,Instr.sureAddr,storeVar,hcs,Zn (T.scal ht).2,storeCells,run_store _ _ _ _ _ h1,Addr.add_zero',hc,hz]
theorem YR{t:TypeId}(hx:evo env x=some (.agg cs))(hn:Nat.ble (d+1) n.k=true)
 (h:∀g,VL P none n B w0 ops Q rest ((d,.pointer (some ⟨g,0,none⟩))::env) (blk g (.cells cs t (0,0))::H)):VL P none n B w0 ops Q (⟨some d,.box t x,ty,pos,after,none⟩::rest) env H:=
 XH (λv K=>∃g,v=.pointer (some ⟨g,0,none⟩)/\K=blk g (.cells cs t (0,0))::H) rfl rfl hn
  (λa w ha hw=>⟨_,_,w.alloc (.cells cs t (0,0)),by simp[execOp,ha.eval hx,Instr.box,newVar,newRow,Value.cells],hw.alloc _,w.heap.size,rfl,rfl⟩)
  (by rintro _ _ ⟨g,rfl,rfl⟩;exact h g)
theorem Yjb{t:TypeId}(hx:evo env x=some v)(h1:v.cells=#[v])(hn:Nat.ble (d+1) n.k=true)
 (h:∀g,VL P none n B w0 ops Q rest ((d,.pointer (some ⟨g,0,none⟩))::env) (blk g (.cells #[v] t (0,0))::H)):VL P none n B w0 ops Q (⟨some d,.box t x,ty,pos,after,none⟩::rest) env H:=
 XH (λv' K=>∃g,v'=.pointer (some ⟨g,0,none⟩)/\K=blk g (.cells #[v] t (0,0))::H) rfl rfl hn
  (λa w ha hw=>⟨_,_,w.alloc (.cells #[v] t (0,0)),by simp[execOp,ha.eval hx,Instr.box,newVar,newRow,h1],hw.alloc _,w.heap.size,rfl,rfl⟩)
  (by rintro _ _ ⟨g,rfl,rfl⟩;exact h g)
theorem Yod{t:TypeId}(hz:∀w,(zeroValue t).run P w=.ok z w)(hc:z.cells=cs)(hn:Nat.ble (d+1) n.k=true)
 (h:∀g,VL P none n B w0 ops Q rest ((d,.pointer (some ⟨g,0,none⟩))::env) (blk g (.cells cs t (0,0))::H)):VL P none n B w0 ops Q (⟨some d,.alloc t,ty,pos,after,none⟩::rest) env H:=
 XH (λv' K=>∃g,v'=.pointer (some ⟨g,0,none⟩)/\K=blk g (.cells cs t (0,0))::H) rfl rfl hn
  (λa w _ hw=>⟨_,_,w.alloc (.cells cs t (0,0)),by simp[execOp,Instr.alloc,hz,newVar,newRow,hc],hw.alloc _,w.heap.size,rfl,rfl⟩)
  (by rintro _ _ ⟨g,rfl,rfl⟩;exact h g)
def Ya1(env:Env):List (Nat×Operand)->List (Nat×Value)->Prop
 |[],[]=>True
 |x::l,v::vs=>x.1=v.1/\evo env x.2=some v.2/\Ya1 env l vs
 |_,_=>False
theorem Yfg{env:Env}:Ya1 env [] []:=trivial
theorem Ykd{env:Env}{l:List (Nat×Operand)}{vs:List (Nat×Value)}(h:evo env x=some v)(hl:Ya1 env l vs):Ya1 env ((i,x)::l) ((i,v)::vs):=⟨rfl,h,hl⟩
theorem YaP{n:Shp}{a:Act}{env:Env}(ha:Fits n a env):∀(l:List (Nat×Operand)) (us:List (Nat×Value)),Ya1 env l us->l.map (λp=>(p.1,a.eval p.2))=us
 |[],[],_=>rfl
 |[],_::_,h=>h.elim
 |_::_,[],h=>h.elim
 |x::l,u::us,h=>by rw[Re,ha.eval h.2.1,YaP ha l us h.2.2,h.1]
theorem Yoe{t:TypeId}{parts:List (Nat×Operand)}{ps:List (Nat×Value)}(hp:Ya1 env parts ps)(hb:∀w,(Instr.build t ps.toArray).run P w=.ok v w)(hn:Nat.ble (d+1) n.k=true)
 (h:VL P m n B w0 ops Q rest ((d,v)::env) H):VL P m n B w0 ops Q (⟨some d,.build t parts.toArray,ty,pos,after,none⟩::rest) env H:=by
 refine Yy rfl rfl hn rfl (λa w ha _=>?_) h
 have hm:(parts.toArray.map λ(i,x)=>(i,a.eval x))=ps.toArray:=by rw[SY];exact TU List.toArray (YaP ha _ _ hp)
 simp only[execOp,hm]
 simp[hb]
end
def sl(e size:Nat)(A:Option Addr)(k cap:Nat)(xs:List Value):HP:=
 ⟨λS w=>w.ownsRow 0 e size (.slice A k cap) k xs/\∀a,A=some a->S a.block,by
  rintro S w w' hs ⟨⟨h1,h2⟩,h3⟩
  refine⟨⟨h1,?_⟩,h3⟩
  rcases h2 with h2|⟨g,c,cur,e1,e2,e3,e4⟩
  ·exact .inl h2
  ·refine .inr ⟨g,c,cur,e1,e2,?_,e4⟩
   injection e1 with e1
   rw[hs g (h3 _ e1)]
   exact e3⟩
variable {e size B k cap j t bytes:Nat}
theorem Yta(S:Nat->Prop)(w:World):(sl e size none 0 0 []).holds S w:=⟨⟨by simp,.inl ⟨rfl,rfl⟩⟩,λa h=>by cases h⟩
variable {w0 w:World}{H:List HP}
theorem St.nilSlice(h:St B w0 H w)(e size:Nat):St B w0 (sl e size none 0 0 []::H) w:=
 ⟨h.below,h.le,λ_=>False,λb=>B<=b/\b<w.heap.size,λ_ hb=>hb.elim,λ_ hb=>hb,λ_ hb=>hb.elim,Yta _ _,h.sep⟩
variable {A:Option Addr}{xs:List Value}
theorem St.sl(h:St B w0 H w)(hm:Eng.sl e size A k cap xs∈H):
 w.ownsRow 0 e size (.slice A k cap) k xs:=by
 obtain⟨S,_,h2,_⟩:=h.at_ hm
 exact h2
variable {v:Value}
theorem Yak(h:w.ownsRow 0 e size (.slice A k cap) k xs)(hv:xs[j]? =some v):
 ∃g,A=some ⟨g,0,none⟩/\w.cell? ⟨g,j,none⟩=some v/\∃cur,w.heap[g]? =some (.cells cur e (0,0))/\cur[j]? =some v:=by
 rcases h.2 with⟨e1,e2⟩|⟨g,c,cur,e1,_,e3,_,_,_,e4⟩
 ·exfalso
  have:=h.1
  rw[e2,N4]at this
  rw[RJ this]at hv
  cases hv
 ·injection e1 with e1
  have hc:cur[j]? =some v:=by
   rw[<-e4]at hv
   rw[SE]at hv
   split at hv
   ·simpa using hv
   ·cases hv
  exact⟨g,e1,by rw[Y3 e3];exact hc,cur,e3,hc⟩
theorem YG{P:Program}(h:YdC P t=some (e,size,bytes)):
 P.underlying t=some (.slice e)/\∃i z,P.info? e=some i/\i.zero=some z/\z.cells.size=size/\i.size=size/\i.bytes=bytes/\0<size/\0<bytes:=by
 unfold YdC at h
 split at h
 ·rename_i e' hu
  cases hi:P.info? e' with
  |none=>rw[hi]at h;cases h
  |some i=>
   rw[hi]at h
   simp only[Nu]at h
   cases hz:i.zero with
   |none=>rw[hz]at h;cases h
   |some z=>
    rw[hz]at h
    simp only[Nu]at h
    split at h
    ·rename_i hc
     simp only[Ru,Prod.mk.injEq]at h
     obtain⟨rfl,rfl,rfl⟩:=h
     exact⟨hu,i,z,hi,hz,hc.1,rfl,rfl,hc.2⟩
    ·cases h
 ·cases h
def Ju:List Value->Bool
 |[]=>true
 |v::l=>v.oneCell'&&Ju l
theorem ZF:∀{l:List Value},Ju l=true->∀u∈l,u.oneCell'=true
 |[],_,u,hu=>by cases hu
 |v::l,h,u,hu=>by
  simp only[Ju,To]at h
  rcases TN.1 hu with e|e
  ·rw[e];exact h.1
  ·exact ZF h.2 u e
def sptr(A:Option Addr)(j:Nat):Value:=.pointer (A.map λa=>a.add j)
section
variable {P:Program}{m:Mode}{n:Shp}{B:Nat}{w0:World}{Q:Exit->Act->World->Prop}{env:Env}{H:List HP}{ops:Array Oper}{rest:List Oper}
variable {d:Nat}{ty:TypeId}{pos:String}{after:Array Edge}
variable {c:Code}
theorem Je(e size:Nat)(h:VC P n B w0 c Q env (sl e size none 0 0 []::H)):VC P n B w0 c Q env H:=⟨λa w ha hw=>h.run a w ha (hw.nilSlice e size)⟩
variable {x y:Operand}{A:Option Addr}{k cap t e size bytes j:Nat}
theorem Ysz(T:Tab P){tx:Nat}{es:Nat×Nat×Nat}(hx:evo env x=some (.slice A k cap))(ht:look T.sl tx=some es)(hn:Nat.ble (d+1) n.k=true)(h:VL P m n B w0 ops Q rest ((d,.int .i64 k)::env) H):
 VL P m n B w0 ops Q (⟨some d,.call ⟨.builtin .len,#[x],#[tx]⟩,ty,pos,after,none⟩::rest) env H:=by
 obtain⟨e,size,bytes⟩:=es
 obtain⟨hu,_⟩:=YG (T.slic ht)
 exact Yy rfl rfl hn rfl (λf w ha _=>by simp[execOp,resolve,invoke,builtin,ha.eval hx,Builtin.len_,run_underlying hu,goInt]) h
variable {xs:List Value}{cs:Array Value}
theorem Yl8(T:Tab P){tt:Nat}{g mm c:Nat}{fr:Nat×Nat}{K:Option Addr->Nat->List HP}
 (hx:evo env x=some (.slice A k cap)) (ht:look T.sl t=some (e,size,bytes))
 (hy:evo env y=some (.slice (some ⟨g,0,none⟩) mm c)) (hb:blk g (.cells cs tt fr)∈H) (hk:cs.size=mm*size) (h1:Ju cs.toList=true) (hn:Nat.ble (d+1) n.k=true)
 (hu:∀A' cap',Upd (sl e size A k cap xs) (sl e size A' (k+mm) cap' (xs++cs.toList)) H (K A' cap')) (hby:(k+mm)*bytes<=140737488355328)
 (h:∀A' cap',VL P none n B w0 ops Q rest ((d,.slice A' (k+mm) cap')::env) (K A' cap')):
 VL P none n B w0 ops Q (⟨some d,.call ⟨.builtin .append,#[x,y],#[t,t]⟩,ty,pos,after,none⟩::rest) env H:=by
 obtain⟨hut,i,z,hi,hz,hzs,hsi,hbi,hs0,hb0⟩:=YG (T.slic ht)
 refine XH (λv K'=>∃A' cap',v=.slice A' (k+mm) cap'/\K'=K A' cap') rfl rfl hn (λa w ha hw=>?_) (by rintro _ _ ⟨A',cap',rfl,rfl⟩;exact h A' cap')
 have hmem:sl e size A k cap xs∈H:=by
  obtain⟨L1,L2,rfl,_⟩:=hu none 0
  simp
 have hown:=hw.sl hmem
 have hblk:=(hw.blk hb).1
 have h63:k+mm<=maxLen:=by
  have:k+mm<=(k+mm)*bytes:=Nat.le_mul_of_pos_right _ hb0
  simp only[maxLen];omega
 obtain⟨v',w',hrun,hown',hgrow,_,hat⟩:=run_append_own_at (P:=P) w 0 t ty e i z size bytes hut hi hz hsi hbi hzs hs0 (.slice A k cap) k xs hown ⟨g,0,none⟩ mm c cs.toList (by simpa using hk)
  (λj u hj=>by rw[Addr.add_lit,Y3 hblk,Ry];simpa using hj) (ZF h1) h63 hby (Tu _)
 have hshape:∃A' cap',v'=.slice A' (k+mm) cap':=by
  rcases hown'.2 with⟨e1,e2⟩|⟨g',c',_,e1,_⟩
  ·exact⟨none,0,by rw[e1,e2]⟩
  ·exact⟨_,_,e1⟩
 obtain⟨A',cap',rfl⟩:=hshape
 refine⟨_,K A' cap',w',by simp[execOp,resolve,invoke,builtin,ha.eval hx,ha.eval hy,hrun],?_,A',cap',rfl,rfl⟩
 refine hw.updN (hu A' cap') hgrow.os hgrow.tape hgrow.output hgrow.size λS1 ⟨_,hS⟩=>⟨⟨λb=>Value.ownBlock (.slice A' (k+mm) cap')=some b,⟨hown',?_⟩,λb hb=>?_⟩,λb hb hlt=>hgrow.block b hlt (λe=>hb ?_)⟩
 ·rintro a rfl;rfl
 ·rcases hat with e|e
  ·rw[e]at hb
   cases A with
   |none=>cases hb
   |some a=>left;have:=hS a rfl;simp only[Value.ownBlock,Ru]at hb;rwa [<-hb]
  ·rw[e]at hb
   right
   simp only[Ru]at hb
   subst hb
   refine⟨TL _,?_⟩
   rcases hown'.2 with⟨e1,_⟩|⟨g',_,_,e1,_,e3,_⟩
   ·rw[e1]at e;cases e
   ·rw[e1]at e
    simp only[Value.ownBlock,Ru]at e
    subst e
    rcases SB w.heap.size w'.heap.size with h|h
    ·exact h
    ·rw[RG h]at e3;cases e3
 ·cases A with
  |none=>cases e
  |some a=>simp only[Value.ownBlock,Ru]at e;rw[e];exact hS a rfl
theorem YgZ(T:Tab P){ki:IntKind}{i:Int}(hx:evo env x=some (.slice A k cap))(hm:sl e size A k cap xs∈H)(hy:evo env y=some (.int ki i))
 (ht:look T.sl t=some (e,size,bytes)) (hn:Nat.ble (d+1) n.k=true) (hi:0<=i/\i<k) (h:VL P m n B w0 ops Q rest ((d,sptr A (i.toNat*size))::env) H):
 VL P m n B w0 ops Q (⟨some d,.indexAddr t x y,ty,pos,after,none⟩::rest) env H:=by
 obtain⟨hut,inf,z,hinf,_,_,hsi,_,_,_⟩:=YG (T.slic ht)
 refine Yy rfl rfl hn rfl (λa w ha hw=>?_) h
 have hown:=hw.sl hm
 rcases hown.2 with⟨_,e2⟩|⟨g,c,cur,e1,_⟩
 ·exfalso;omega
 ·injection e1 with e1
  subst e1
  simp[execOp,ha.eval hx,ha.eval hy,Instr.indexAt,asIntOf,run_underlying hut,hi,sizeOf,typeInfo,hinf,hsi,sptr]
variable {v:Value}
theorem Yce(T:Tab P)(hx:evo env x=some (sptr A j))(hm:sl e size A k cap xs∈H)(ht:look T.sc t=some ())(hn:Nat.ble (d+1) n.k=true)(hv:xs[j]? =some v)
 (h:VL P m n B w0 ops Q rest ((d,v)::env) H):VL P m n B w0 ops Q (⟨some d,.load t x,ty,pos,after,none⟩::rest) env H:=by
 refine Yy rfl rfl hn rfl (λa w ha hw=>?_) h
 obtain⟨g,rfl,hc,_⟩:=Yak (hw.sl hm) hv
 simp[execOp,ha.eval hx,sptr,Instr.loadAt,Instr.sureAddr,loadVar,Xi (T.scal ht).1,Addr.add_lit,hc]
theorem Ya4(T:Tab P){K:List HP}(hx:evo env x=some (sptr A j))(hy:evo env y=some v)(h1:v.oneCell'=true)
 (hu:Upd (sl e size A k cap xs) (sl e size A k cap (xs.set j v)) H K) (ht:look T.sc t=some ()) (hj:j<xs.length)
 (h:VL P none n B w0 ops Q rest env K):VL P none n B w0 ops Q (⟨none,.store t x y,ty,pos,after,none⟩::rest) env H:=by
 have hmem:sl e size A k cap xs∈H:=by
  obtain⟨L1,L2,rfl,_⟩:=hu
  simp
 refine J5 rfl rfl (λa w ha hw=>?_) h
 obtain⟨g,rfl,hc,cur,hb,hcj⟩:=Yak (hw.sl hmem) (Ta hj)
 refine⟨w.setCell ⟨g,j,none⟩ v,?_,?_⟩
 ·have hcs:v.cells=#[v]:=by cases v<;>first|rfl|simp[Value.oneCell']at h1
  have hz:w.frozen? ⟨g,j,none⟩=false:=by simp[World.frozen?,hb]
  simp[execOp,ha.eval hx,ha.eval hy,sptr,Instr.storeAt,Instr.sureAddr,storeVar,hcs,Zn (T.scal ht).2,storeCells,run_store _ _ _ _ _ h1,Addr.add_lit,hc,hz]
 ·refine hw.upd hu rfl rfl rfl (by simp) λS1 ⟨hown,hS⟩=>⟨⟨⟨?_,?_⟩,hS⟩,λb hb' _=>Below.heap_setCell w _ v b (λe=>hb' (by rw[e];exact hS ⟨g,0,none⟩ rfl))⟩
  ·simpa using hown.1
  ·rcases hown.2 with⟨e1,_⟩|⟨g',c',cur',e1,e2,e3,e4,e5,e6,e7⟩
   ·cases e1
   ·injection e1 with e1 e8 e9
    injection e1 with e1
    injection e1 with e1
    subst e1
    refine .inr ⟨g,c',cur'.setIfInBounds j v,by rw[e9],e2,?_,e4,e5,by simpa using e6,?_⟩
    ·simp[World.setCell,Array.getElem?_modify,e3]
    ·rw[<-e7]
     simp only[Array.toList_setIfInBounds]
     rw[List.take_set]
theorem Yqw{k:IntKind}{a b:Int}{tys:Array TypeId}(hx:evo env x=some (.int k a))(hy:evo env y=some (.int k b))(hn:Nat.ble (d+1) n.k=true)(h1:b<a->VL P m n B w0 ops Q rest ((d,.int k b)::env) H)(h2:a<=b->VL P m n B w0 ops Q rest ((d,.int k a)::env) H):
 VL P m n B w0 ops Q (⟨some d,.call ⟨.builtin .min,#[x,y],tys⟩,ty,pos,after,none⟩::rest) env H:=by
 by_cases hc:b<a
 ·exact Yy rfl rfl hn rfl (λf w ha _=>by simp[execOp,resolve,invoke,builtin,ha.eval hx,ha.eval hy,run_min_int2,hc]) (h1 hc)
 ·exact Yy rfl rfl hn rfl (λf w ha _=>by simp[execOp,resolve,invoke,builtin,ha.eval hx,ha.eval hy,run_min_int2,hc]) (h2 (by omega))
theorem OQ{len:Nat}{parts:List (Nat×Operand)}{ps:List (Nat×Value)}(hp:Ya1 env parts ps)(hb:∀w,(Instr.buildSlice t len ps.toArray).run P w=.ok (.slice (some ⟨w.heap.size,0,none⟩) len len) (w.alloc (.cells cs e (0,0))))(hn:Nat.ble (d+1) n.k=true)
 (h:∀g,VL P none n B w0 ops Q rest ((d,.slice (some ⟨g,0,none⟩) len len)::env) (blk g (.cells cs e (0,0))::H)):VL P none n B w0 ops Q (⟨some d,.buildSlice t len parts.toArray,ty,pos,after,none⟩::rest) env H:=by
 refine XH (λv K=>∃g,v=.slice (some ⟨g,0,none⟩) len len/\K=blk g (.cells cs e (0,0))::H) rfl rfl hn (λa w ha hw=>?_) (by rintro _ _ ⟨g,rfl,rfl⟩;exact h g)
 have hm:(parts.toArray.map λ(i,x)=>(i,a.eval x))=ps.toArray:=by rw[SY];exact TU List.toArray (YaP ha _ _ hp)
 refine⟨_,_,w.alloc (.cells cs e (0,0)),?_,hw.alloc _,w.heap.size,rfl,rfl⟩
 simp only[execOp,hm]
 simp[hb]
theorem XT(e size:Nat){ex:Exit}(h:VQ n B w0 Q ex env (sl e size none 0 0 []::H)):VQ n B w0 Q ex env H:=⟨λa w ha hw=>h.run a w ha (hw.nilSlice e size)⟩
theorem Yg1(T:Tab P){c:Int}{z:Value}(hx:evo env x=some (.int .i64 c))(hy:evo env y=some (.int .i64 c))(ht:look T.sl t=some (e,1,bytes))(hz:((P.info? e).bind (·.zero))=some z)(hz1:z.cells=#[z])(hn:Nat.ble (d+1) n.k=true)(hb:Nat.ble bytes 1000=true)(hc:0<=c/\c<=1000000)
 (h:∀g,VL P none n B w0 ops Q rest ((d,.slice (some ⟨g,0,none⟩) c.toNat c.toNat)::env) (sl e 1 (some ⟨g,0,none⟩) c.toNat c.toNat (List.replicate c.toNat z)::H)):VL P none n B w0 ops Q (⟨some d,.makeSlice t x y,ty,pos,after,none⟩::rest) env H:=by
 obtain⟨hu,i,z',hi,hz',_,hsi,hbi,_,_⟩:=YG (T.slic ht)
 obtain rfl:z'=z:=by rw[hi]at hz;simp only[Nu,hz',Ru]at hz;exact hz
 have hb':=T0 hb
 refine XH (λv K=>∃g,v=.slice (some ⟨g,0,none⟩) c.toNat c.toNat/\K=sl e 1 (some ⟨g,0,none⟩) c.toNat c.toNat (List.replicate c.toNat z')::H) rfl rfl hn (λa w ha hw=>?_) (by rintro _ _ ⟨g,rfl,rfl⟩;exact h g)
 have hbytes:(i.bytes:Int)*c<=281474976710656:=by
  have h1:(i.bytes:Int)*c<=1000*c:=SX (by omega) hc.1
  omega
 have hrun:=run_make (P:=P) w t e i z' hu hi hz' .i64 .i64 c c hc.1 (SD _) hbytes (by omega)
 rw[hsi,NE,hz1]at hrun
 refine⟨_,_,w.alloc (.cells (madeCells #[z'] c.toNat) e),by simp only[execOp,ha.eval hx,ha.eval hy,Sem.run_bind,hrun,Result.andThen_ok,Sem.run_pure],?_,w.heap.size,rfl,rfl⟩
 have h2:=hw.alloc (.cells (madeCells #[z'] c.toNat) e)
 refine h2.upd (Upd.here _) rfl rfl rfl (TL _) λS1 ⟨h3,h4⟩=>⟨⟨⟨by simp,.inr ⟨w.heap.size,c.toNat,madeCells #[z'] c.toNat,rfl,Tu _,h4,TL _,by simp only[maxLen];omega,by simp[size_madeCells],?_⟩⟩,λa ha=>by cases ha;exact h3⟩,λ_ _ _=>rfl⟩
 rw[toList_madeCells_one,NE,TQ (by simp)]
variable {α β:Type}
theorem Yca(E:α->β->Env)(HH:α->β->List HP)(I:α->β->Prop)(μ:α->β->Nat)(x0:α)(y0:β)(h0:I x0 y0)
 (he:∀t v,get (E x0 y0) t=some v->get env t=some v) (hH:∀w,St B w0 H w->St B w0 (HH x0 y0) w)
 (round:∀x y,I x y->∀K:Act->World->Prop,(∀x' y',I x' y'->μ x' y'<μ x y->∀env' H',(∀t v,get (E x' y') t=some v->get env' t=some v)->(∀w,St B w0 H' w->St B w0 (HH x' y') w)->VQ n B w0 (Exit.then K Q) .normal env' H')->
  VC P n B w0 c (Exit.then K Q) (E x y) (HH x y)):VC P n B w0 (.loop c) Q env H:=
 Yfz (α:=α×β) (λp=>E p.1 p.2) (λp=>HH p.1 p.2) (λp=>I p.1 p.2) (λp=>μ p.1 p.2) (x0,y0) h0 he hH λp hp=>
  round p.1 p.2 hp _ λx' y' hI hμ _ _ he' hH'=>Ycj (x',y') hI hμ he' hH'
theorem Yi(E:α->Env)(HH:α->List HP)(I:α->Prop)(μ:α->Nat)(x0:α)(h0:I x0)
 (he:∀t v,get (E x0) t=some v->get env t=some v) (hH:∀w,St B w0 H w->St B w0 (HH x0) w)
 (round:∀x,I x->∀K:Act->World->Prop,(∀x',I x'->μ x'<μ x->∀env' H',(∀t v,get (E x') t=some v->get env' t=some v)->(∀w,St B w0 H' w->St B w0 (HH x') w)->VQ n B w0 (Exit.then K Q) .normal env' H')->
  VC P n B w0 c (Exit.then K Q) (E x) (HH x)):VC P n B w0 (.loop c) Q env H:=
 Yfz E HH I μ x0 h0 he hH λp hp=>round p hp _ λx' hI hμ _ _ he' hH'=>Ycj x' hI hμ he' hH'
theorem Yob{γ:Type}(E:α->β->γ->Env)(HH:α->β->γ->List HP)(I:α->β->γ->Prop)(μ:α->β->γ->Nat)(x0:α)(y0:β)(z0:γ)(h0:I x0 y0 z0)
 (he:∀t v,get (E x0 y0 z0) t=some v->get env t=some v) (hH:∀w,St B w0 H w->St B w0 (HH x0 y0 z0) w)
 (round:∀x y z,I x y z->∀K:Act->World->Prop,(∀x' y' z',I x' y' z'->μ x' y' z'<μ x y z->∀env' H',(∀t v,get (E x' y' z') t=some v->get env' t=some v)->(∀w,St B w0 H' w->St B w0 (HH x' y' z') w)->VQ n B w0 (Exit.then K Q) .normal env' H')->
  VC P n B w0 c (Exit.then K Q) (E x y z) (HH x y z)):VC P n B w0 (.loop c) Q env H:=
 Yfz (α:=α×β×γ) (λp=>E p.1 p.2.1 p.2.2) (λp=>HH p.1 p.2.1 p.2.2) (λp=>I p.1 p.2.1 p.2.2) (λp=>μ p.1 p.2.1 p.2.2) (x0,y0,z0) h0 he hH λp hp=>
  round p.1 p.2.1 p.2.2 hp _ λx' y' z' hI hμ _ _ he' hH'=>Ycj (x',y',z') hI hμ he' hH'
end
open Go.ChangeMaps (setBlock)
def Qg(P:Program)(t:TypeId):Option Value->Option Value->Bool
 |some (.int k _),some (.int k' _)=>decide (k=k')&&(match P.underlying t with|some (.int _)=>true|_=>false)
 |some (.string _),some (.string _)=>match P.underlying t with|some .string=>true|_=>false
 |some (.bool _),some (.bool _)=>match P.underlying t with|some .bool=>true|_=>false
 |_,_=>false
def OB(P:Program)(t:TypeId)(xs ys:List Value):Bool:=
 match P.underlying t with
 |some (.struct fs)=>!P.stoodInHeld t&&(fs.toList.map (·.offset)==List.range xs.length)&&(xs.length==ys.length)&&fs.toList.all (λf=>f.name != "_" &&Qg P f.type xs[f.offset]? ys[f.offset]?)
 |_=>false
section
variable {P:Program}
variable {t:TypeId}
theorem Ygs(w:World)(d:Nat){x y:Value}(h:Qg P t (some x) (some y)=true):∃r:Bool,(Op.equalIn (d+1) t x y).run P w=.ok r w/\(r=true↔x=y):=by
 unfold Qg at h
 split at h
 ·rename_i k a k' b e1 e2
  injection e1 with e1;injection e2 with e2
  subst e1;subst e2
  simp only[To,Tq]at h
  obtain⟨rfl,h⟩:=h
  split at h
  ·rename_i q hu
   exact⟨a==b,run_equalIn_int w d t k q a b hu,by simp⟩
  ·cases h
 ·rename_i a b e1 e2
  injection e1 with e1;injection e2 with e2
  subst e1;subst e2
  split at h
  ·rename_i hu
   exact⟨a.toList==b.toList,run_equalIn_string w d t a b hu,by rw[QH];simp⟩
  ·cases h
 ·rename_i a b e1 e2
  injection e1 with e1;injection e2 with e2
  subst e1;subst e2
  split at h
  ·rename_i hu
   exact⟨a==b,run_equalIn_bool w d t a b hu,by simp⟩
  ·cases h
 ·cases h
theorem YjX{x y:Option Value}(h:Qg P t x y=true):P.plainKey t=true/\∃a b,x=some a/\y=some b:=by
 unfold Qg at h
 split at h
 ·simp only[To]at h
  obtain⟨_,h⟩:=h
  split at h
  ·rename_i hu;exact⟨by simp[Program.plainKey,hu],_,_,rfl,rfl⟩
  ·cases h
 ·split at h
  ·rename_i hu;exact⟨by simp[Program.plainKey,hu],_,_,rfl,rfl⟩
  ·cases h
 ·split at h
  ·rename_i hu;exact⟨by simp[Program.plainKey,hu],_,_,rfl,rfl⟩
  ·cases h
 ·cases h
theorem O2(w:World)(d:Nat)(xs ys:List Value):∀fs:List Field,(∀f∈fs,f.name≠ "_" /\Qg P f.type xs[f.offset]? ys[f.offset]? =true)->
 ∃r:Bool,(Op.eqFields (d+1) xs.toArray ys.toArray fs).run P w=.ok r w/\(r=true↔∀f∈fs,xs[f.offset]? =ys[f.offset]?)
 |[],_=>⟨true,by simp[Op.eqFields],by simp⟩
 |f::fs,hall=>by
  obtain⟨hn,hl⟩:=hall f (by simp)
  obtain⟨hp,a,b,hx,hy⟩:=YjX hl
  rw[hx,hy]at hl
  obtain⟨r,hr,hiff⟩:=Ygs w d hl
  obtain⟨r',hr',hiff'⟩:=O2 w d xs ys fs (λg hg=>hall g (by simp[hg]))
  have p1:=run_part_plain (P:=P) (w:=w) hp (xs:=xs.toArray) (off:=f.offset) (v:=a) (by simpa using hx)
  have p2:=run_part_plain (P:=P) (w:=w) hp (xs:=ys.toArray) (off:=f.offset) (v:=b) (by simpa using hy)
  simp only[Op.eqFields,hn,ne_eq,not_false_eq_true,NF,Sem.run_bind,p1,p2,hr,Result.andThen_ok]
  cases r
  ·refine⟨false,by simp,?_⟩
   simp only[SA,false_iff]
   intro h
   have h1:=h f (by simp)
   rw[hx,hy]at h1
   injection h1 with h1
   exact absurd (hiff.2 h1) (by simp)
  ·refine⟨r',by simpa using hr',?_⟩
   rw[hiff']
   have h1:a=b:=hiff.1 rfl
   constructor
   ·intro h g hg
    rcases TN.1 hg with rfl|hg
    ·rw[hx,hy,h1]
    ·exact h g hg
   ·exactλh g hg=>h g (by simp[hg])
variable {xs ys:List Value}
theorem V8(w:World)(h:OB P t xs ys=true):∃r:Bool,(Op.equal t (.agg xs.toArray) (.agg ys.toArray)).run P w=.ok r w/\(r=true↔xs=ys):=by
 unfold OB at h
 split at h
 ·rename_i fs hu
  simp only[To,Si,Nc,TI,bne_iff_ne,ne_eq]at h
  obtain⟨⟨⟨h1,h2⟩,h3⟩,h4⟩:=h
  have hfs:P.fieldsOf t=fs:=by simp[Program.fieldsOf,hu]
  obtain⟨r,hr,hiff⟩:=O2 w 9998 xs ys fs.toList h4
  refine⟨r,?_,?_⟩
  ·unfold Op.equal
   rw[show Op.maxDepth=9999+1 from rfl,run_equalIn_struct w 9999 t _ _ (by rw[hfs];exact hu) h1,hfs]
   exact hr
  ·rw[hiff]
   constructor
   ·intro h
    apply SJ
    intro i
    by_cases hi:i<xs.length
    ·have:i∈fs.toList.map (·.offset):=by rw[h2];exact TO.2 hi
     obtain⟨f,hf,rfl⟩:=TG.1 this
     exact h f hf
    ·rw[RP (by omega),RP (by omega)]
   ·rintro rfl f _;rfl
 ·cases h
end
section
variable {P:Program}{n:Shp}{B:Nat}{w0:World}{Q:Exit->Act->World->Prop}{env:Env}{H:List HP}{m:Mode}{ops:Array Oper}{rest:List Oper}{d:Nat}{ty:TypeId}{pos:String}{after:Array Edge}
variable {t xt yt:TypeId}{x y u:Operand}
theorem Z9(w:World){op:BinOp}{xs ys:Array Value}(hg:P.eqGuardType P.depth t=false):(eqGuard op t x y (.agg xs) (.agg ys)).run P w=.ok () w:=by
 unfold eqGuard
 cases op<;>simp[program,Sem.run,hg,Result.andThen]
variable {xs ys cs:List Value}
theorem Yqo(hx:evo env x=some (.agg xs.toArray))(hy:evo env y=some (.agg ys.toArray))(hn:Nat.ble (d+1) n.k=true)(hg:P.eqGuardType P.depth xt=false)(hl:OB P xt xs ys=true)
 (h1:xs=ys->VL P m n B w0 ops Q rest ((d,.bool true)::env) H) (h2:xs≠ys->VL P m n B w0 ops Q rest ((d,.bool false)::env) H):
 VL P m n B w0 ops Q (⟨some d,.binOp .eql xt x y yt,ty,pos,after,none⟩::rest) env H:=by
 by_cases hc:xs=ys
 ·refine Y7 hx hy hn (λw=>Z9 w hg) (λw=>?_) (h1 hc)
  obtain⟨r,hr,hiff⟩:=V8 w hl
  simp[binOp,hr,hiff.2 hc]
 ·refine Y7 hx hy hn (λw=>Z9 w hg) (λw=>?_) (h2 hc)
  obtain⟨r,hr,hiff⟩:=V8 w hl
  have:r=false:=by rw[S7];exactλe=>hc (hiff.1 e)
  simp[binOp,hr,this]
theorem YfB(hx:evo env x=some (.agg xs.toArray))(hy:evo env y=some (.agg ys.toArray))(hn:Nat.ble (d+1) n.k=true)(hg:P.eqGuardType P.depth xt=false)(hl:OB P xt xs ys=true)
 (h1:xs≠ys->VL P m n B w0 ops Q rest ((d,.bool true)::env) H) (h2:xs=ys->VL P m n B w0 ops Q rest ((d,.bool false)::env) H):
 VL P m n B w0 ops Q (⟨some d,.binOp .neq xt x y yt,ty,pos,after,none⟩::rest) env H:=by
 by_cases hc:xs=ys
 ·refine Y7 hx hy hn (λw=>Z9 w hg) (λw=>?_) (h2 hc)
  obtain⟨r,hr,hiff⟩:=V8 w hl
  simp[binOp,hr,hiff.2 hc]
 ·refine Y7 hx hy hn (λw=>Z9 w hg) (λw=>?_) (h1 hc)
  obtain⟨r,hr,hiff⟩:=V8 w hl
  have:r=false:=by rw[S7];exactλe=>hc (hiff.1 e)
  simp[binOp,hr,this]
theorem YaV(w:World)(k:Nat){e:TypeId}(a:Option Addr)(hu:P.underlying t=some (.pointer e)):(Op.equalIn (k+1) t (.pointer a) (.pointer none)).run P w=.ok a.isNone w:=by
 unfold Op.equalIn
 cases a<;>simp[run_underlying hu]
def Ypi(P:Program)(t:TypeId):Bool:=match P.underlying t with|some (.pointer _)=>true|_=>false
theorem YjT(h:Ypi P t=true):∃e,P.underlying t=some (.pointer e):=by
 unfold Ypi at h
 split at h
 ·rename_i e hu;exact⟨e,hu⟩
 ·cases h
theorem Yg6{a:Option Addr}(hx:evo env x=some (.pointer a))(hn:Nat.ble (d+1) n.k=true)(hu:Ypi P xt=true)
 (h:VL P m n B w0 ops Q rest ((d,.bool a.isNone)::env) H):VL P m n B w0 ops Q (⟨some d,.binOp .eql xt x (.const (.pointer none)) yt,ty,pos,after,none⟩::rest) env H:=by
 obtain⟨e,hu⟩:=YjT hu
 refine Y7 hx (y:=.const (.pointer none)) rfl hn (λw=>by simp[eqGuard]) (λw=>?_) h
 simp only[binOp,Op.equal]
 rw[Sem.run_bind,show Op.maxDepth=9999+1 from rfl,YaV w 9999 a hu]
 simp
theorem Yhm{t k e size:Nat}(h:Ycr P t=some (k,e,size)):∃i,P.underlying t=some (.array k e)/\P.info? e=some i/\i.size=size:=by
 unfold Ycr at h
 split at h
 ·rename_i k' e' hu
  cases hi:P.info? e' with
  |none=>rw[hi]at h;cases h
  |some i=>
   rw[hi]at h
   simp only[RH,Ru,Prod.mk.injEq]at h
   obtain⟨rfl,rfl,rfl⟩:=h
   exact⟨i,hu,hi,rfl⟩
 ·cases h
abbrev Ents:=List (Int×Value×Nat)
def toE(e:Int×Value×Nat):MapEntry:=⟨.int .i64 e.1,e.2.1,e.2.2⟩
def mobj(es:Ents)(clock:Nat):Obj:=.map (es.map toE).toArray clock
def mget(es:Ents)(k:Int):Option Value:=(es.find? λe=>e.1==k).map (·.2.1)
def mapT(P:Program)(t kt et:TypeId):Bool:=(match P.underlying t with|some (.map a b)=>a==kt&&b==et|_=>false)&&(match P.underlying kt with|some (.int .i64)=>true|_=>false)
theorem ZU{kt et:TypeId}(h:mapT P t kt et=true):P.underlying t=some (.map kt et)/\P.underlying kt=some (.int .i64):=by
 unfold mapT at h
 rw[To]at h
 obtain⟨h1,h2⟩:=h
 constructor
 ·split at h1
  ·rename_i a b hu
   simp only[To,Nc]at h1
   rw[hu,h1.1,h1.2]
  ·cases h1
 ·split at h2
  ·rename_i hu;exact hu
  ·cases h2
variable {es l1 l2:Ents}{k:Int}
theorem Wn(i:Nat)(h:mget es k=none):Instr.findNow (.int .i64) (.int .i64 k) (es.map toE) i=some none:=by
 induction es generalizing i with
 |nil=>rfl
 |cons e es ih=>
  simp only[mget,N9]at h
  by_cases hk:e.1=k
  ·simp[hk]at h
  ·have hk':(e.1==k)=false:=by simpa using hk
   rw[hk']at h
   have:(k==e.1)=false:=by simpa usingλe=>hk e.symm
   simp only[Re,Instr.findNow,toE,Instr.sameNow,NF,this]
   exact ih (i+1) h
variable {v v0:Value}
theorem Vx(i:Nat)(h:mget es k=some v):∃l1 b l2,es=l1++(k,v,b)::l2/\(∀e∈l1,e.1≠k)/\Instr.findNow (.int .i64) (.int .i64 k) (es.map toE) i=some (some (i+l1.length,v)):=by
 induction es generalizing i with
 |nil=>simp[mget]at h
 |cons e es ih=>
  simp only[mget,N9]at h
  by_cases hk:e.1=k
  ·have hk':(e.1==k)=true:=by simpa using hk
   rw[hk']at h
   simp only[RH,Ru]at h
   refine⟨[],e.2.2,es,by rw[<-h,<-hk];rfl,by simp,?_⟩
   have:(k==e.1)=true:=by simpa using hk.symm
   simp only[Re,Instr.findNow,toE,Instr.sameNow,NF,this]
   simp[h]
  ·have hk':(e.1==k)=false:=by simpa using hk
   rw[hk']at h
   have:(k==e.1)=false:=by simpa usingλe=>hk e.symm
   obtain⟨l1,b,l2,e1,e2,e3⟩:=ih (i+1) h
   refine⟨e::l1,b,l2,by rw[e1];rfl,?_,?_⟩
   ·intro x hx
    rcases TN.1 hx with rfl|hx
    ·exact hk
    ·exact e2 x hx
   ·simp only[Re,Instr.findNow,toE,Instr.sameNow,NF,this]
    rw[e3]
    simp;omega
variable {b g kt et clock r since:Nat}
theorem Qd(hk:∀e∈l1,e.1≠k):Instr.findNow (.int .i64) (.int .i64 k) ((l1++(k,v0,b)::l2).map toE) 0=some (some (l1.length,v0)):=by
 have:∀i,Instr.findNow (.int .i64) (.int .i64 k) ((l1++(k,v0,b)::l2).map toE) i=some (some (i+l1.length,v0)):=by
  induction l1 with
  |nil=>intro i;simp[Instr.findNow,toE,Instr.sameNow]
  |cons e l ih=>
   intro i
   have:(k==e.1)=false:=by simpa usingλe'=>hk e (by simp) e'.symm
   simp only[TC,Re,Instr.findNow]
   rw[show Instr.sameNow (.int .i64) (.int .i64 k) (toE e).key=some (k==e.1) by simp[toE,Instr.sameNow],this]
   simp only[]
   rw[ih (λx hx=>hk x (by simp[hx])) (i+1)]
   simp;omega
 simpa using this 0
variable {α:Type}
theorem Qi(f:α->α)(xs:List α)(y:α)(zs:List α):(xs++y::zs).modify xs.length f=xs++f y::zs:=by
 induction xs with
 |nil=>rfl
 |cons x xs ih=>simp only[TC,TS,List.modify_succ_cons,ih]
theorem YmK(xs:List α)(y:α)(zs:List α):(xs++y::zs).eraseIdx xs.length=xs++zs:=by
 induction xs with
 |nil=>rfl
 |cons x xs ih=>simp only[TC,TS,List.eraseIdx_cons_succ,ih]
theorem Zm(w:World){kt:TypeId}(hk:P.underlying kt=some (.int .i64))(k:Int)(b:Bool):(Instr.checkKey b 10000 kt (.int .i64 k)).run P w=.ok () w:=by
 rw[show 10000=9999+1 from rfl]
 unfold Instr.checkKey
 simp[run_underlying hk]
variable {K:List HP}
theorem St.setBlock{w:World}{o o':Obj}(h:St B w0 H w)(u:Upd (Eng.blk g o) (Eng.blk g o') H K):St B w0 K (ChangeMaps.setBlock w g o'):=by
 refine h.upd u rfl rfl rfl (by simp[ChangeMaps.setBlock]) λS1 ⟨h1,h2⟩=>⟨⟨h1,?_⟩,λb hb _=>?_⟩
 ·have:g<w.heap.size:=(R9.1 h2).1
  simp[ChangeMaps.setBlock,this]
 ·have:g≠b:=λe=>hb (e▸h1)
  simp[ChangeMaps.setBlock,this]
theorem Ycg(hn:Nat.ble (d+1) n.k=true)(h:∀g,VL P none n B w0 ops Q rest ((d,.map (some g))::env) (blk g (mobj [] 0)::H)):VL P none n B w0 ops Q (⟨some d,.makeMap t none,ty,pos,after,none⟩::rest) env H:=
 XH (λv K=>∃g,v=.map (some g)/\K=blk g (mobj [] 0)::H) rfl rfl hn
  (λa w _ hw=>⟨_,_,w.alloc (mobj [] 0),by simp[execOp,Instr.makeMap,newObj,Sem.run,mobj],hw.alloc _,w.heap.size,rfl,rfl⟩)
  (by rintro _ _ ⟨g,rfl,rfl⟩;exact h g)
theorem Yjf{t:Nat}(hx:evo env x=some (.map (some g)))(hy:evo env y=some (.int .i64 k))(hm:blk g (mobj es clock)∈H)(ht:mapT P t kt et=true)(hn:Nat.ble (d+1) n.k=true)(hk:mget es k=some v)
 (h:VL P m n B w0 ops Q rest ((d,v)::env) H):VL P m n B w0 ops Q (⟨some d,.lookup t x y false,ty,pos,after,none⟩::rest) env H:=by
 obtain⟨h1,h2⟩:=ZU ht
 refine Yy rfl rfl hn rfl (λa w ha hw=>?_) h
 have hb:=(hw.blk hm).1
 unfold mobj at hb
 obtain⟨l1,b,l2,_,_,e3⟩:=Vx 0 hk
 simp[execOp,ha.eval hx,ha.eval hy,Instr.lookup,run_underlying h1,getObj,Sem.run,hb,Zm _ h2,MapKept.run_findKey h2 e3]
theorem Yje{t:Nat}{z:Value}(hx:evo env x=some (.map (some g)))(hy:evo env y=some (.int .i64 k))(hm:blk g (mobj es clock)∈H)(ht:mapT P t kt et=true)(hn:Nat.ble (d+1) n.k=true)(hk:mget es k=none)(hz:∀w,(zeroValue et).run P w=.ok z w)
 (h:VL P m n B w0 ops Q rest ((d,z)::env) H):VL P m n B w0 ops Q (⟨some d,.lookup t x y false,ty,pos,after,none⟩::rest) env H:=by
 obtain⟨h1,h2⟩:=ZU ht
 refine Yy rfl rfl hn rfl (λa w ha hw=>?_) h
 have hb:=(hw.blk hm).1
 unfold mobj at hb
 simp[execOp,ha.eval hx,ha.eval hy,Instr.lookup,run_underlying h1,getObj,Sem.run,hb,Zm _ h2,MapKept.run_findKey h2 (Wn 0 hk),hz]
theorem Yme{t:Nat}(hx:evo env x=some (.map (some g)))(hy:evo env y=some (.int .i64 k))(hv:evo env u=some v)(ht:mapT P t kt et=true)
 (hu:Upd (blk g (mobj es clock)) (blk g (mobj (es++[(k,v,clock)]) (clock+1))) H K) (hk:mget es k=none)
 (h:VL P none n B w0 ops Q rest env K):VL P none n B w0 ops Q (⟨none,.mapUpdate t x y u,ty,pos,after,none⟩::rest) env H:=by
 obtain⟨h1,h2⟩:=ZU ht
 refine J5 rfl rfl (λa w ha hw=>⟨setBlock w g (mobj (es++[(k,v,clock)]) (clock+1)),?_,hw.setBlock hu⟩) h
 have hb:w.heap[g]? =some (mobj es clock):=by
  obtain⟨L1,L2,rfl,_⟩:=hu
  exact(hw.blk (by simp)).1
 have hb':=hb
 unfold mobj at hb
 simp[execOp,ha.eval hx,ha.eval hy,ha.eval hv,Instr.mapUpdate,run_underlying h1,getObj,Sem.run,hb,Zm _ h2,MapKept.run_findKey h2 (Wn 0 hk),MapKept.run_setObj_map _ hb,setBlock,mobj,toE]
theorem Ymf{t:Nat}(hx:evo env x=some (.map (some g)))(hy:evo env y=some (.int .i64 k))(hv:evo env u=some v)(ht:mapT P t kt et=true)
 (hu:Upd (blk g (mobj (l1++(k,v0,b)::l2) clock)) (blk g (mobj (l1++(k,v,b)::l2) clock)) H K) (hk:∀e∈l1,e.1≠k)
 (h:VL P none n B w0 ops Q rest env K):VL P none n B w0 ops Q (⟨none,.mapUpdate t x y u,ty,pos,after,none⟩::rest) env H:=by
 obtain⟨h1,h2⟩:=ZU ht
 refine J5 rfl rfl (λa w ha hw=>⟨setBlock w g (mobj (l1++(k,v,b)::l2) clock),?_,hw.setBlock hu⟩) h
 have hb:w.heap[g]? =some (mobj (l1++(k,v0,b)::l2) clock):=by
  obtain⟨L1,L2,rfl,_⟩:=hu
  exact(hw.blk (by simp)).1
 unfold mobj at hb
 have hf:=Qd (l2:=l2) (v0:=v0) (b:=b) hk
 have hsz:(l1++(k,v0,b)::l2).map toE=l1.map toE++toE (k,v0,b)::l2.map toE:=by simp
 have hget:((List.map toE (l1++(k,v0,b)::l2)).toArray)[l1.length]? =some (toE (k,v0,b)):=by rw[hsz];simp
 have hmod:((List.map toE (l1++(k,v0,b)::l2)).toArray).modify l1.length (λe=>{e with key:=.int .i64 k,val:=v})=(List.map toE (l1++(k,v,b)::l2)).toArray:=by
  rw[hsz,List.modify_toArray,show l1.length=(l1.map toE).length by simp,Qi];simp[toE]
 have hks:(Instr.keyThatStays (.int .i64 k) (.int .i64 k)).run P w=.ok (.int .i64 k) w:=by
  unfold Instr.keyThatStays;simp[Instr.sameBits]
 have hkey:(Option.map (λx:MapEntry=>x.key) (some (toE (k,v0,b)))).getD (.int .i64 k)=.int .i64 k:=rfl
 have hrun:(Instr.mapUpdate t (.map (some g)) (.int .i64 k) v).run P w=.ok () (setBlock w g (mobj (l1++(k,v,b)::l2) clock)):=by
  simp only[Instr.mapUpdate,Sem.run_bind,run_underlying h1,getObj,Sem.run,hb,Zm _ h2,MapKept.run_findKey h2 hf,hget,hkey,hks,hmod,Result.andThen,MapKept.run_setObj_map _ hb,setBlock,mobj]
 simp[execOp,ha.eval hx,ha.eval hy,ha.eval hv,hrun]
theorem Yoo{t:Nat}(hx:evo env x=some (.map (some g)))(hm:blk g (mobj es clock)∈H)(ht:mapT P t kt et=true)(hn:Nat.ble (d+1) n.k=true)
 (h:∀r,VL P none n B w0 ops Q rest ((d,.pointer (some ⟨r,0,none⟩))::env) (blk r (.mapIter (some g) clock #[] clock)::H)):VL P none n B w0 ops Q (⟨some d,.range t x,ty,pos,after,none⟩::rest) env H:=by
 obtain⟨h1,h2⟩:=ZU ht
 refine XH (λv K=>∃r,v=.pointer (some ⟨r,0,none⟩)/\K=blk r (.mapIter (some g) clock #[] clock)::H) rfl rfl hn (λa w ha hw=>?_) (by rintro _ _ ⟨g,rfl,rfl⟩;exact h g)
 have hb:=(hw.blk hm).1
 unfold mobj at hb
 refine⟨_,_,w.alloc (.mapIter (some g) clock #[] clock),?_,hw.alloc _,w.heap.size,rfl,rfl⟩
 simp[execOp,ha.eval hx,Instr.range,run_underlying h1,getObj,Sem.run,hb,newObj]
variable {seen:Array Nat}
theorem Yqy{c0:Nat}{K:Nat->List HP}(hx:evo env x=some (.pointer (some ⟨r,0,none⟩)))(hm:blk g (mobj es clock)∈H)(hn:Nat.ble (d+1) n.k=true)
 (hu:∀b,Upd (blk r (.mapIter (some g) since seen c0)) (blk r (.mapIter (some g) since (seen.push b) clock)) H (K b)) (hold:∀e∈es,e.2.2<since) (hsc:since<=c0)
 (h1:(∀e∈es,seen.contains e.2.2=true)->VL P none n B w0 ops Q rest ((d,.tuple #[.bool false])::env) H)
 (h2:∀e∈es,seen.contains e.2.2=false->VL P none n B w0 ops Q rest ((d,.tuple #[.bool true,.int .i64 e.1,e.2.1])::env) (K e.2.2)):
 VL P none n B w0 ops Q (⟨some d,.next x false,ty,pos,after,none⟩::rest) env H:=by
 refine XH (λv K'=>(v=.tuple #[.bool false]/\K'=H/\∀e∈es,seen.contains e.2.2=true)\/∃e∈es,seen.contains e.2.2=false/\v=.tuple #[.bool true,.int .i64 e.1,e.2.1]/\K'=K e.2.2) rfl rfl hn (λa w ha hw=>?_) (by
  rintro _ _ (⟨rfl,rfl,hs⟩|⟨e,he,hs,rfl,rfl⟩)
  ·exact h1 hs
  ·exact h2 e he hs)
 have hb:=(hw.blk hm).1
 unfold mobj at hb
 have hr:w.heap[r]? =some (.mapIter (some g) since seen c0):=by
  obtain⟨L1,L2,e,_⟩:=hu 0
  exact(hw.blk (by rw[e];simp)).1
 have hold':∀x∈((es.map toE).toArray).toList,x.born<since:=by
  intro x hx
  obtain⟨e,he,rfl⟩:=TG.1 hx
  exact hold e he
 have hx':(execOp a.eval ⟨some d,.next x false,ty,pos,after,none⟩).run P w=((Instr.next (.pointer (some ⟨r,0,none⟩)) false ty).run P w).andThen λv w'=>.ok (.value v) w':=by
  simp[execOp,ha.eval hx]
 rcases run_next_at (P:=P) w ty r g since c0 seen _ clock hr hb hold' hsc with⟨hz,hrun⟩|⟨e,he,w1,hw1,hrun⟩
 ·refine⟨_,H,w,by rw[hx',hrun];rfl,hw,.inl ⟨rfl,rfl,λe he=>?_⟩⟩
  cases hs:seen.contains e.2.2 with
  |true=>rfl
  |false=>
   exfalso
   have:toE e∈(leftOf (es.map toE).toArray seen).toList:=by
    simp only[leftOf,Array.toList_filter,Rr,TG]
    exact⟨⟨e,he,rfl⟩,by rw[show(toE e).born=e.2.2 from rfl,hs];rfl⟩
   have h0:(leftOf (es.map toE).toArray seen).toList=[]:=by
    rw[Array.eq_empty_of_size_eq_zero hz]
   rw[h0]at this
   cases this
 ·have hmem:e∈es.map toE/\seen.contains e.born=false:=by
   have:=he
   simp only[leftOf,Array.toList_filter,Rr]at this
   exact⟨this.1,by simpa using this.2⟩
  obtain⟨⟨e0,he0,rfl⟩,hs⟩:=(⟨TG.1 hmem.1,hmem.2⟩:(∃e0∈es,toE e0=e)/\_)
  have hw1':St B w0 H w1:=by
   rcases hw1 with rfl|rfl
   ·exact hw
   ·exact hw.drew
  exact⟨_,K e0.2.2,_,by rw[hx',hrun];rfl,hw1'.setBlock (hu _),.inr ⟨e0,he0,hs,rfl,rfl⟩⟩
theorem Yoh{e:Int×Value×Nat}(hx:evo env x=some (.pointer (some ⟨r,0,none⟩)))(hm:blk g (mobj es clock)∈H)(hr:blk r (.mapIter (some g) since (seen.push e.2.2) clock)∈H)(hn:Nat.ble (d+1) n.k=true)
 (he:e∈es) (hnd:(es.map (·.2.2)).Nodup)
 (h:VL P none n B w0 ops Q rest ((d,.tuple #[.int .i64 e.1,e.2.1])::env) H):VL P none n B w0 ops Q (⟨some d,.entry x,ty,pos,after,none⟩::rest) env H:=by
 refine Yem rfl rfl hn (λa w ha hw=>⟨w,?_,hw⟩) h
 have hb:=(hw.blk hm).1
 unfold mobj at hb
 have hrun:=run_entry_at (P:=P) w r g since seen _ clock (toE e) (hw.blk hr).1 hb (TG.2 ⟨e,he,rfl⟩) (by simpa [Function.comp_def,toE]using hnd)
 simp[execOp,ha.eval hx,hrun,toE]
theorem Yon{o:Oper}{H':List HP}(hg:o.guard=none)(hd:o.dst=none)
 (hr:∀a w,Fits n a env->St B w0 H w->∃w',(execOp a.eval o).run P w=.ok (.value v) w'/\St B w0 H' w')
 (h:VL P none n B w0 ops Q rest env H'):VL P none n B w0 ops Q (o::rest) env H:=by
 refine⟨λa ha w hw=>wpList_plain hg λK hK=>?_⟩
 obtain⟨w',hrun,hst⟩:=hr a w ha hw
 unfold Oper.wp
 rw[hrun,Oper.upon_value,hd]
 exact hK _ _ (h.run _ ha _ hst)
theorem Ymb{t:Nat}(hx:evo env x=some (.map (some g)))(hy:evo env y=some (.int .i64 k))(ht:mapT P t kt et=true)
 (hu:Upd (blk g (mobj (l1++(k,v0,b)::l2) clock)) (blk g (mobj (l1++l2) clock)) H K) (hk:∀e∈l1,e.1≠k)
 (h:VL P none n B w0 ops Q rest env K):VL P none n B w0 ops Q (⟨none,.call ⟨.builtin .delete,#[x,y],#[t,kt]⟩,ty,pos,after,none⟩::rest) env H:=by
 obtain⟨h1,h2⟩:=ZU ht
 have hf:=Qd (l2:=l2) (v0:=v0) (b:=b) hk
 have hsz:(l1++(k,v0,b)::l2).map toE=l1.map toE++toE (k,v0,b)::l2.map toE:=by simp
 have her:(List.map toE (l1++(k,v0,b)::l2)).eraseIdx l1.length=List.map toE (l1++l2):=by
  rw[hsz,show l1.length=(l1.map toE).length by simp,YmK];simp
 refine Yon (v:=.tuple #[]) rfl rfl (λa w ha hw=>⟨setBlock w g (mobj (l1++l2) clock),?_,hw.setBlock hu⟩) h
 have hb:w.heap[g]? =some (mobj (l1++(k,v0,b)::l2) clock):=by
  obtain⟨L1,L2,rfl,_⟩:=hu
  exact(hw.blk (by simp)).1
 unfold mobj at hb
 have hrun:(Builtin.delete_ #[t,kt] ty #[.map (some g),.int .i64 k]).run P w=.ok (.tuple #[]) (setBlock w g (mobj (l1++l2) clock)):=by
  unfold mobj
  clear hsz hu hk
  generalize List.map toE (l1++(k,v0,b)::l2)=L at hf her hb
  generalize List.map toE (l1++l2)=L2 at her
  simp[Builtin.delete_,run_underlying h1,getObj,Sem.run,hb,Zm _ h2,MapKept.run_findKey h2 hf,her,MapKept.run_setObj_map _ hb,setBlock]
 simp[execOp,resolve,ha.eval hx,ha.eval hy,invoke,builtin,hrun]
theorem Ym{fn:Fn}{caps:List Operand}(hc:Args env caps cs)(hn:Nat.ble (d+1) n.k=true)(h:VL P none n B w0 ops Q rest ((d,.func fn #[] cs.toArray)::env) H):
 VL P none n B w0 ops Q (⟨some d,.makeFunc fn #[] caps.toArray,ty,pos,after,none⟩::rest) env H:=by
 refine Yem rfl rfl hn (λa w ha hw=>⟨w,?_,hw⟩) h
 have hmap:caps.toArray.map a.eval=cs.toArray:=by rw[SY,Uw ha _ _ hc]
 simp[execOp,Instr.makeFunc,hmap]
theorem Yof{f:Nat}{args:List Operand}{tys:Array TypeId}{vs:List Value}(Φ:Value->List HP->Prop)(hx:evo env x=some (.func (.func f) #[] cs.toArray))
 (hc:∀xs w,(callFunc f xs).run P w=.ok (.enter f xs) w) (hargs:Args env args vs) (hn:Nat.ble (d+1) n.k=true)
 (hcall:∀w,St B w0 H w->Calls P f (vs++cs).toArray w (Post B w0 Φ))
 (h:∀v H',Φ v H'->VL P none n B w0 ops Q rest ((d,v)::env) H'):
 VL P none n B w0 ops Q (⟨some d,.call ⟨.value x,args.toArray,tys⟩,ty,pos,after,none⟩::rest) env H:=by
 refine⟨λa ha w hw=>wpList_plain rfl λK hK=>?_⟩
 unfold Oper.wp
 have hmap:args.toArray.map a.eval=vs.toArray:=by rw[SY,Uw ha _ _ hargs]
 have hrun:(execOp a.eval ⟨some d,.call ⟨.value x,args.toArray,tys⟩,ty,pos,after,none⟩).run P w=.ok (.enter f (vs++cs).toArray) w:=by
  simp only[execOp,resolve,ha.eval hx,hmap,Deferred.ofValue,Sem.run_bind,Sem.run_pure,Result.andThen_ok,invoke]
  simpa using hc ((vs++cs).toArray) w
 rw[hrun,Oper.upon_enter]
 refine(hcall w hw).mono ?_
 rintro e w' ⟨v,H',rfl,hst,hΦ⟩
 exact hK _ _ ((h v H' hΦ).run _ (ha.put (T0 hn) v) _ hst)
def many(L:List HP):HP:=⟨λS w=>sepL L S w,λh hs=>Yaj hs h⟩
theorem Ydy{M:List HP}{w:World}:∀{L:List HP}{S:Nat->Prop},sepL (L++M) S w->∃S1 S2:Nat->Prop,(∀b,S1 b->S b)/\(∀b,S2 b->S b)/\(∀b,S1 b->¬S2 b)/\sepL L S1 w/\sepL M S2 w
 |[],S,h=>⟨λ_=>False,S,λ_ hb=>hb.elim,λ_ hb=>hb,λ_ hb=>hb.elim,trivial,h⟩
 |A::L,S,h=>by
  obtain⟨T1,T2,h1,h2,h3,h4,h5⟩:=h
  obtain⟨U1,U2,k1,k2,k3,k4,k5⟩:=Ydy h5
  refine⟨λb=>T1 b\/U1 b,U2,λb hb=>hb.elim (h1 b) (λhb=>h2 b (k1 b hb)),λb hb=>h2 b (k2 b hb),λb hb hc=>?_,⟨T1,U1,λb hb=>.inl hb,λb hb=>.inr hb,λb hb hc=>h3 b hb (k1 b hc),h4,k4⟩,k5⟩
  rcases hb with hb|hb
  ·exact h3 b hb (k2 b hc)
  ·exact k3 b hb hc
theorem Yfp{M:List HP}{w:World}:∀{L:List HP}{S S1 S2:Nat->Prop},(∀b,S1 b->S b)->(∀b,S2 b->S b)->(∀b,S1 b->¬S2 b)->sepL L S1 w->sepL M S2 w->sepL (L++M) S w
 |[],_,_,_,_,h2,_,_,h=>VK h h2
 |A::L,S,S1,S2,h1,h2,h3,h4,h5=>by
  obtain⟨T1,T2,k1,k2,k3,k4,k5⟩:=h4
  refine⟨T1,λb=>T2 b\/S2 b,λb hb=>h1 b (k1 b hb),λb hb=>hb.elim (λhb=>h1 b (k2 b hb)) (h2 b),λb hb hc=>?_,k4,Yfp (λb hb=>.inl hb) (λb hb=>.inr hb) (λb hb hc=>h3 b (k2 b hb) hc) k5 h5⟩
  rcases hc with hc|hc
  ·exact k3 b hb hc
  ·exact h3 b (k1 b hb) hc
theorem Perm.open_(L M:List HP):Perm (many L::M) (L++M):=⟨λ_ _ ⟨_,_,h1,h2,h3,h4,h5⟩=>Yfp h1 h2 h3 h4 h5⟩
theorem Perm.close(L M:List HP):Perm (L++M) (many L::M):=⟨λ_ _ h=>Ydy h⟩
theorem Perm.mid(A:HP):∀(L M:List HP),Perm (L++A::M) (A::(L++M))
 |[],_=>.refl _
 |B::L,M=>.trans (.cons B (.mid A L M)) (.swap B A (L++M))
theorem Perm.mid'(A:HP):∀(L M:List HP),Perm (A::(L++M)) (L++A::M)
 |[],_=>.refl _
 |B::L,M=>.trans (.swap A B (L++M)) (.cons B (.mid' A L M))
theorem Perm.drop(A:HP)(L:List HP):Perm (A::L) L:=⟨λ_ _ h=>Yfq h⟩
theorem Perm.pull(A:HP)(L1 L2 M:List HP):Perm (many (L1++A::L2)::M) (A::many (L1++L2)::M):=by
 refine .trans (.open_ _ _) ?_
 rw[TX,TC]
 refine .trans (.mid A L1 (L2++M)) (.cons A ?_)
 rw[<-TX]
 exact .close _ _
theorem Perm.push(A:HP)(L1 L2 M:List HP):Perm (A::many (L1++L2)::M) (many (L1++A::L2)::M):=by
 refine .trans (.cons A (.open_ _ _)) ?_
 rw[TX]
 refine .trans (.mid' A L1 (L2++M)) ?_
 rw[<-TC,<-TX]
 exact .close _ _
theorem Perm.noMany(M:List HP):Perm M (many []::M):=.close [] M
end
inductive PutAt:List Value->Nat->List Value->List Value->Prop
 |nil {l:List Value}{o:Nat}:PutAt l o [] l
 |cons {l l1 l' r:List Value}{o:Nat}{v:Value}(h:Yel l o v l1) (h2:PutAt l1 (o+1) r l'):PutAt l o (v::r) l'
section
variable {P:Program}{m:Mode}{n:Shp}{B:Nat}{w0:World}{ops:Array Oper}{Q:Exit->Act->World->Prop}{rest:List Oper}{env:Env}{H:List HP}{d:Nat}{ty:TypeId}{pos:String}{after:Array Edge}
theorem OY{g:Nat}{tt:TypeId}{fr:Nat×Nat}:∀{vs cs cs':List Value}{o:Nat}{w:World},PutAt cs o vs cs'->w.heap[g]? =some (.cells cs.toArray tt fr)->(w.setCells g o vs).heap[g]? =some (.cells cs'.toArray tt fr)
 |[],_,_,_,_,h,hb=>by cases h;exact hb
 |v::vs,cs,cs',o,w,h,hb=>by
  cases h with
  |cons h1 h2=>
   rw[World.setCells]
   refine OY h2 ?_
   obtain⟨_,rfl⟩:=h1
   simp[World.setCell,Array.getElem?_modify,hb]
theorem Vo{g b:Nat}(hne:b≠g):∀(vs:List Value) (o:Nat) (w:World),(w.setCells g o vs).heap[b]? =w.heap[b]?
 |[],_,_=>rfl
 |v::vs,o,w=>by rw[World.setCells,Vo hne vs (o+1)];exact Below.heap_setCell w _ v b hne
theorem O4{g:Nat}:∀(vs:List Value) (o:Nat) (w:World),(w.setCells g o vs).os=w.os/\(w.setCells g o vs).tape=w.tape/\(w.setCells g o vs).output=w.output/\(w.setCells g o vs).heap.size=w.heap.size
 |[],_,_=>⟨rfl,rfl,rfl,rfl⟩
 |v::vs,o,w=>by
  obtain⟨h1,h2,h3,h4⟩:=O4 (g:=g) vs (o+1) (w.setCell ⟨g,o,none⟩ v)
  exact⟨h1,h2,h3,h4.trans (by simp)⟩
variable {w:World}{K H2:List HP}{g t k p rt:Nat}{cs' vs:List Value}{tt:TypeId}{fr:Nat×Nat}
theorem St.setCells{o:Nat}{cs:List Value}(h:St B w0 H w)(hp:PutAt cs o vs cs')
 (u:Upd (Eng.blk g (.cells cs.toArray tt fr)) (Eng.blk g (.cells cs'.toArray tt fr)) H K):St B w0 K (w.setCells g o vs):=by
 obtain⟨h1,h2,h3,h4⟩:=O4 (g:=g) vs o w
 refine h.upd u h1 h2 h3 (Nat.le_of_eq h4.symm) λS1 ⟨hs,hb⟩=>⟨⟨hs,OY hp hb⟩,λb hnb _=>Vo (λe:b=g=>hnb (by rw[e];exact hs)) vs o w⟩
theorem YiE:∀{vs l l':List Value}{o:Nat},PutAt l o vs l'->∀j,j<vs.length->o+j<l.length
 |[],_,_,_,_,j,hj=>by simp at hj
 |v::vs,l,l',o,h,j,hj=>by
  cases h with
  |cons h1 h2=>
   obtain⟨h0,rfl⟩:=h1
   cases j with
   |zero=>exact h0
   |succ j=>have:=YiE h2 j (by simpa using hj);simp at this;omega
theorem YfL(T:Tab P){i:Nat}{cs:List Value}{x y:Operand}(hx:evo env x=some (.pointer (some ⟨g,i,none⟩)))(hy:evo env y=some (.agg vs.toArray))(h1:Ju vs=true)
 (hu:Upd (blk g (.cells cs.toArray tt (0,0))) (blk g (.cells cs'.toArray tt (0,0))) H K) (hs:PutAt cs i vs cs')
 (ht:look T.ag t=some k) (hk:vs.length=k) (h:VL P none n B w0 ops Q rest env K):VL P none n B w0 ops Q (⟨none,.store t x y,ty,pos,after,none⟩::rest) env H:=by
 refine J5 rfl rfl (λa w ha hw=>⟨w.setCells g i vs,?_,hw.setCells hs hu⟩) h
 have hb:w.heap[g]? =some (.cells cs.toArray tt (0,0)):=by
  obtain⟨L1,L2,rfl,_⟩:=hu
  exact(hw.blk (by simp)).1
 have hr:=run_storeCells_cells (P:=P) g i vs 0 w (λj hj=>by
  rw[SQ,Y3 hb];have:=YiE hs j hj;simp[this]) (λj hj=>by simp[World.frozen?,hb]) (ZF h1)
 simp[execOp,ha.eval hx,ha.eval hy,Instr.storeAt,Instr.sureAddr,storeVar,Value.cells,Zn (JP (T.aggs ht)),hk,hr]
variable {cs:Array Value}
theorem VB(T:Tab P)(hb:w.heap[g]? =some (.cells cs tt fr))(ht:look T.ag t=some k)(hk:cs.size=k):(loadVar t ⟨g,0,none⟩).run P w=.ok (.agg cs) w:=by
 have hl:=run_loadCells_list (P:=P) w ⟨g,0,none⟩ cs.toList (λj v hj=>by rw[Addr.add_lit,Y3 hb,Ry];simpa using hj)
 rw[show cs.toList.length=k by simpa using hk]at hl
 simp[loadVar,ZN (T.aggs ht),Zn (JP (T.aggs ht)),hl]
variable {fn:Func}{Φ:Value->List HP->Prop}
theorem Yov{n:Nat}(T:Tab P)(hr:fn.results=#[.cell p rt])(hp:get env p=some (.pointer (some ⟨g,0,none⟩)))
 (hm:blk g (.cells cs tt fr)∈H) (ht:look T.ag rt=some k) (hk:cs.size=k) (hH:∀w,St B w0 H w->St B w0 H2 w) (h:Φ (.agg cs) H2):VQ ⟨n,[],none⟩ B w0 (bodyPost P fn (Post B w0 Φ)) .ret env H:=by
 refine⟨λa w ha hw=>bodyPost_ret (v:=.agg cs) ?_ ha.defers ⟨_,H2,rfl,hH w hw,h⟩⟩
 have hp':=ha.slot p _ hp
 simp[results,hr,Array.getD_eq_getD_getElem?,hp',asAddr,VB T (hw.blk hm).1 ht hk]
theorem Yv{n:Nat}(T:Tab P){u:Nat}{x:Value}(hr:fn.results=#[.cell p rt,.tmp u])(hp:get env p=some (.pointer (some ⟨g,0,none⟩)))(hu:get env u=some x)
 (hm:blk g (.cells cs tt fr)∈H) (ht:look T.ag rt=some k) (hk:cs.size=k) (hH:∀w,St B w0 H w->St B w0 H2 w) (h:Φ (.tuple #[.agg cs,x]) H2):VQ ⟨n,[],none⟩ B w0 (bodyPost P fn (Post B w0 Φ)) .ret env H:=by
 refine⟨λa w ha hw=>bodyPost_ret (v:=.tuple #[.agg cs,x]) ?_ ha.defers ⟨_,H2,rfl,hH w hw,h⟩⟩
 have hp':=ha.slot p _ hp
 simp[results,hr,Array.getD_eq_getD_getElem?,hp',ha.slot u _ hu,asAddr,VB T (hw.blk hm).1 ht hk]
end
inductive OT where
 |done
 |n1 (i:Nat) (t:OT)
 |n2 (i:Nat) (t:OT) (j:Nat) (u:OT)
section
variable {P:Program}{n:Shp}{B:Nat}{w0:World}{Q:Exit->Act->World->Prop}{env:Env}{H:List HP}{ops:Array Oper}
def Ue(P:Program)(ops:Array Oper)(l:List Oper)(Q:Exit->Act->World->Prop)(S:World->Prop):OT->Act->World->Prop
 |.done,a,w=>Q .normal a w
 |.n1 i t,a,w=>Ys P ops (λe a w=>match e with|.normal=>Ue P ops l Q S t a w|_=>False) S [nthO l i] a w
 |.n2 i t j u,a,w=>Ys P ops (λe a w=>match e with|.normal=>Ue P ops l Q S t a w|_=>False) S [nthO l i] a w/\Ys P ops (λe a w=>match e with|.normal=>Ue P ops l Q S u a w|_=>False) S [nthO l j] a w
def Uv(ops:Array Oper)(i:Nat):Bool:=match ops[i]? with|some o=>eff o|none=>false
def YdK(ops:Array Oper)(last:List Nat):OT->Array Bool->Nat->Bool
 |.done,listed,0=>Wt ops last listed
 |.done,_,_+1=>false
 |.n1 i t,listed,k+1=>!last.contains i&&(match ops[i]? with
  |some o=>if eff o then decide (Region.ready .any ops listed=[i])else(Region.ready .any ops listed).contains i&&Region.free .any ops listed i
  |none=>false)&&YdK ops last t (listed.setIfInBounds i true) k
 |.n2 i t j u,listed,k+1=>!last.contains i&&!last.contains j&&Uv ops i&&Uv ops j&&((Region.ready .any ops listed).all λx=>x==i||x==j)&&!(Region.ready .any ops listed).isEmpty&&YdK ops last t (listed.setIfInBounds i true) k&&YdK ops last u (listed.setIfInBounds j true) k
 |.n1 _ _,_,0=>false
 |.n2 _ _ _ _,_,0=>false
variable {l:List Oper}{i:Nat}{o:Oper}
theorem Xh(hl:ops=l.toArray)(ho:ops[i]? =some o):nthO l i=o:=by
 rw[Q8]
 rw[hl]at ho
 simp only[NG]at ho
 simp[List.getD,ho]
theorem Jx{S:World->Prop}{Q1:Exit->Act->World->Prop}{last:List Nat}{k:Nat}{listed:Array Bool}{a:Act}{w:World}(ho:ops[i]? =some o)(he:eff o=true)(_hl:last.contains i=false)
 (hQ1:∀e a w,e≠.normal->¬Q1 e a w) (hS:S w) (h:Ys P ops Q1 S [o] a w)
 (hk:∀a w,S w->Q1 .normal a w->Zf P ops Q S last k (listed.setIfInBounds i true) a w):
 wpOp P ops Q i (λa' w'=>(last.contains i=false->S w')/\Zf P ops Q S last k (listed.setIfInBounds i true) a' w') a w:=by
 unfold Ys at h
 rw[Tm he]at h
 unfold wpOp
 simp only[ho]
 by_cases hw:Region.wanted o (yielded ops a.tmps)=true
 ·rw[Tm hw]at h⊢
  refine .inl (Oper.wp_mono_noQ (λc a w=>hQ1 _ a w (by intro h;cases h)) (by rintro⟨a,w,h⟩;exact hQ1 _ _ _ (by intro h;cases h) h) (Oper.wp_mono (λa' w' h'=>?_) h))
  exact⟨λ_=>h'.1,hk a' w' h'.1 h'.2⟩
 ·rw[Td hw]at h⊢
  exact⟨λ_=>hS,hk _ w hS h⟩
theorem Uc{S:World->Prop}{last:List Nat}(hs:Region.noSelect ops=true)(hQ:∀c (a:Act) (w:World),¬Q (.panic c) a w)(hlo:¬LetsOut Q)(l:List Oper)(hl:ops=l.toArray)(hlast:Ye6 ops last=true):
 ∀(t:OT) (k:Nat) (listed:Array Bool) (a:Act) (w:World),Closed ops listed->YdK ops last t listed k=true->S w->Ue P ops l (Jd P ops Q (Yg l last)) S t a w->
  Zf P ops Q S last (k+last.length) listed a w
 |.done,0,listed,a,w,_,hB,_,h=>by
  have:=WD (S:=S) l hl (Wp hlast).1 hlo last listed a w (λj hj=>by simpa using hj) hB h
  rw[Ry]
  exact this
 |.done,_+1,_,_,_,_,hB,_,_=>by cases hB
 |.n1 _ _,0,_,_,_,_,hB,_,_=>by cases hB
 |.n2 _ _ _ _,0,_,_,_,_,hB,_,_=>by cases hB
 |.n1 i t,k+1,listed,a,w,hcl,hB,hS,h=>by
  simp only[YdK,To]at hB
  obtain⟨⟨h0,h1⟩,h2⟩:=hB
  have hno:last.contains i=false:=by simpa using h0
  cases ho:ops[i]? with
  |none=>rw[ho]at h1;cases h1
  |some o=>
   rw[ho]at h1
   have hget:=Xh hl ho
   unfold Ue at h
   rw[hget]at h
   rw[Nh]
   by_cases he:eff o=true
   ·simp only[he,NF,Tq]at h1
    refine⟨λh0=>(by rw[h1]at h0;cases h0),λj hj=>?_⟩
    have hj':=hj
    rw[h1]at hj
    obtain rfl:j=i:=by simpa using hj
    exact Jx ho he hno (λe a w hne=>by cases e<;>simp_all) hS h λa w hS' h'=>Uc hs hQ hlo l hl hlast t k _ a w (hcl.set hj') h2 hS' h'
   ·simp only[he]at h1
    simp only[SA,N8,To]at h1
    unfold Ys at h
    rw[Td he]at h
    obtain⟨v,hy,h3⟩:=h
    have hr:i∈Region.ready .any ops listed:=by simpa using h1.1
    exact JK ho (Region.noSelect_spec hs) hQ ((Wp hlast).2 i o ho (by simpa using he)) hno _ listed a w hcl (Region.free_spec ho h1.2) hr hy hS (Uc hs hQ hlo l hl hlast t k _ _ w (hcl.set hr) h2 hS h3)
 |.n2 i t j u,k+1,listed,a,w,hcl,hB,hS,h=>by
  simp only[YdK,To]at hB
  obtain⟨⟨⟨⟨⟨⟨⟨b1,b2⟩,b3⟩,b4⟩,b5⟩,b6⟩,b7⟩,b8⟩:=hB
  have hi:last.contains i=false:=by simpa using b1
  have hj:last.contains j=false:=by simpa using b2
  unfold Ue at h
  rw[Nh]
  refine⟨λh0=>(by rw[h0]at b6;cases b6),λx hx=>?_⟩
  have h5:=TI.1 b5 x hx
  simp only[Sj,Nc]at h5
  rcases h5 with rfl|rfl
  ·unfold Uv at b3
   cases ho:ops[x]? with
   |none=>rw[ho]at b3;cases b3
   |some o=>
    rw[ho]at b3
    have hg:=h.1
    rw[Xh hl ho]at hg
    exact Jx ho b3 hi (λe a w hne=>by cases e<;>simp_all) hS hg λa w hS' h'=>Uc hs hQ hlo l hl hlast t k _ a w (hcl.set hx) b7 hS' h'
  ·unfold Uv at b4
   cases ho:ops[x]? with
   |none=>rw[ho]at b4;cases b4
   |some o=>
    rw[ho]at b4
    have hg:=h.2
    rw[Xh hl ho]at hg
    exact Jx ho b4 hj (λe a w hne=>by cases e<;>simp_all) hS hg λa w hS' h'=>Uc hs hQ hlo l hl hlast u k _ a w (hcl.set hx) b8 hS' h'
structure VT(P:Program)(n:Shp)(B:Nat)(w0:World)(ops:Array Oper)(l:List Oper)(Q:Exit->Act->World->Prop)(t:OT)(env:Env)(H F:List HP):Prop where
 run:∀a,Fits n a env->∀w,St B w0 (H++F) w->Ue P ops l Q (St B w0 H) t a w
def WU(P:Program)(B:Nat)(w0:World)(ops:Array Oper)(l:List Oper)(Q:Exit->Act->World->Prop)(Hc:List HP)(t:OT):Exit->Act->World->Prop
 |.normal,a,w=>Ue P ops l Q (St B w0 Hc) t a w
 |_,_,_=>False
variable {t:OT}
theorem YdL:WU P B w0 ops l Q H t=λe a w=>match e with|.normal=>Ue P ops l Q (St B w0 H) t a w|_=>False:=by
 funext e a w
 cases e<;>rfl
variable {F Hc:List HP}
theorem YkR{HF:List HP}(happ:App H F HF)(h:VQ n B w0 Q .normal env HF):VT P n B w0 ops l Q .done env H F:=
 ⟨λa ha w hw=>by rw[<-Wg happ]at hw;exact h.run a w ha hw⟩
theorem Ytp(ho:nthO l i=o)(h:VL P (some (some F)) n B w0 ops (WU P B w0 ops l Q H t) [o] env H):VT P n B w0 ops l Q (.n1 i t) env H F:=by
 refine⟨λa ha w hw=>?_⟩
 have h1:Ys P ops (WU P B w0 ops l Q H t) (St B w0 H) [o] a w:=h.run a ha w hw
 unfold Ue
 rw[ho,<-YdL]
 exact h1
theorem Ytq{j:Nat}{u:OT}{o':Oper}(ho:nthO l i=o)(ho':nthO l j=o')(h:VL P (some (some F)) n B w0 ops (WU P B w0 ops l Q H t) [o] env H)
 (h':VL P (some (some F)) n B w0 ops (WU P B w0 ops l Q H u) [o'] env H):VT P n B w0 ops l Q (.n2 i t j u) env H F:=by
 refine⟨λa ha w hw=>?_⟩
 have h1:Ys P ops (WU P B w0 ops l Q H t) (St B w0 H) [o] a w:=h.run a ha w hw
 have h2:Ys P ops (WU P B w0 ops l Q H u) (St B w0 H) [o'] a w:=h'.run a ha w hw
 unfold Ue
 rw[ho,ho',<-YdL,<-YdL]
 exact⟨h1,h2⟩
theorem Xp{H':List HP}(hp:Pull Hc H' F)(h:VT P n B w0 ops l Q t env Hc F):VQ n B w0 (WU P B w0 ops l Q Hc t) .normal env H':=
 ⟨λa w ha hw=>h.run a ha w (hw.perm hp)⟩
theorem Vr{id:Nat}(t:OT)(last:List Nat)(mask:List Bool)(hm:P.follows .mixedOrders=true)
 (hB:(Region.noSelect l.toArray&&decide (last.length<=l.toArray.size)&&Ye6 l.toArray last&&YdK l.toArray last t (Array.replicate l.toArray.size false) (l.toArray.size-last.length))=true)
 (hsp:Split mask H Hc F) {l2:List Oper}(hl2:Yg l last=l2) (h:VT P n B w0 l.toArray l (Jd P l.toArray (Only Q) l2) t env Hc F):VC P n B w0 (.region id l.toArray true) Q env H:=by
 simp only[To,Tq]at hB
 obtain⟨⟨⟨h1,h2⟩,h3⟩,h5⟩:=hB
 refine⟨λa w ha hw=>ZQ (Q:=Only Q) ?_ λe a w h=>by cases e<;>first|exact h|cases h⟩
 have hst:St B w0 (Hc++F) w.drew:=(hw.perm (XK hsp)).drew
 have hr:=h.run a ha w.drew hst
 rw[<-hl2]at hr
 have:=Uc (S:=St B w0 Hc) h1 (λc a w h=>h) (by rintro⟨_,_,h⟩;exact h) l rfl h3 t _ _ a w.drew (XU _ _) h5 hst.prefix_ hr
 rw[Nat.sub_add_cancel h2]at this
 exact VE hm (ZP _ _ _ _ this)
theorem J4{α:Type}(E:α->Env)(HH:α->List HP){x y:Code}(h1:∀K:Act->World->Prop,(∀z env' H',(∀t v,get (E z) t=some v->get env' t=some v)->(∀w,St B w0 H' w->St B w0 (HH z) w)->VQ n B w0 (Exit.then K Q) .normal env' H')->VC P n B w0 x (Exit.then K Q) env H)
 (h2:∀z,VC P n B w0 y Q (E z) (HH z)):VC P n B w0 x (Exit.then (wpR P n.r y Q) Q) env H:=by
 have h:=h1 (λa w=>∃z,Fits n a (E z)/\St B w0 (HH z) w) (λz env' H' he hH=>⟨λa w ha hw=>⟨z,ha.sub he,hH w hw⟩⟩)
 refine⟨λa w ha hw=>ZQ (h.run a w ha hw) ?_⟩
 intro e a w hq
 cases e with
 |normal=>obtain⟨z,h3,h4⟩:=hq;exact(h2 z).run a w h3 h4
 |exit id=>exact hq
 |goto l=>exact hq
 |ret=>exact hq
 |panic ch=>exact hq
 |outgrown=>exact hq
theorem Xw{d f:Nat}{args:List Operand}{tys:Array TypeId}{ty:TypeId}{pos:String}{after:Array Edge}{vs:List Value}{rest:List Oper}(L:List HP){M LM:List HP}(Φ:Value->List HP->Prop)
 (hc:∀xs w,(callFunc f xs).run P w=.ok (.enter f xs) w) (hargs:Args env args vs) (hp:Pull L H M) (happ:App L M LM) (hn:Nat.ble (d+1) n.k=true)
 (hcall:∀w,St B w0 LM w->Calls P f vs.toArray w (Post B w0 Φ))
 (h:∀v H',Φ v H'->VL P none n B w0 ops Q rest ((d,v)::env) H'):
 VL P none n B w0 ops Q (⟨some d,.call ⟨.value (.func f),args.toArray,tys⟩,ty,pos,after,none⟩::rest) env H:=
 Yh Φ hc hargs hn (λw hw=>hcall w (by rw[Wg happ];exact hw.perm hp)) h
end
def Rd(B:Nat)(w0:World)(H:List HP)(A:Option Addr)(xs:List Value):Prop:=
 ∀w,St B w0 H w->∀j v,xs[j]? =some v->∃g o,A=some ⟨g,o,none⟩/\w.cell? ⟨g,o+j,none⟩=some v
section
variable {B:Nat}{w0:World}{H:List HP}{A:Option Addr}{xs:List Value}
theorem Rd.cons{X:HP}(h:Rd B w0 H A xs):Rd B w0 (X::H) A xs:=λw hw=>h w hw.tail
variable {e size k cap:Nat}
theorem Rd.sl(hm:Eng.sl e size A k cap xs∈H):Rd B w0 H A xs:=λw hw j v hv=>by
 obtain⟨g,e1,hc,_⟩:=Yak (hw.sl hm) hv
 exact⟨g,0,e1,by rw[Ry];exact hc⟩
theorem Rd.old(h:∀j v,xs[j]? =some v->∃g o,A=some ⟨g,o,none⟩/\g<B/\w0.cell? ⟨g,o+j,none⟩=some v):Rd B w0 H A xs:=λw hw j v hv=>by
 obtain⟨g,o,e1,hg,hc⟩:=h j v hv
 exact⟨g,o,e1,(hw.below.cell (p:=⟨g,o+j,none⟩) hg).trans hc⟩
theorem Rd.nil:Rd B w0 H A []:=λw _ j v hv=>by simp at hv
theorem Rd.mono{H':List HP}(h:Rd B w0 H A xs)(hH:∀w,St B w0 H' w->St B w0 H w):Rd B w0 H' A xs:=λw hw=>h w (hH w hw)
theorem Rd.blk{g:Nat}{cs:Array Value}{t:TypeId}{fr:Nat×Nat}(hm:Eng.blk g (.cells cs t fr)∈H):Rd B w0 H (some ⟨g,0,none⟩) cs.toList:=λw hw j v hv=>by
 refine⟨g,0,rfl,?_⟩
 rw[Ry,Y3 (hw.blk hm).1]
 simpa using hv
end
theorem Xa{α:Type}{f:α->List Value}{q:Nat}(hq:∀a,(f a).length=q):∀l:List α,(l.flatMap f).length=l.length*q
 |[]=>by simp
 |a::l=>by rw[TR,Tj,hq,Xa hq l,TS,RX];omega
theorem UY{α:Type}{f:α->List Value}{q:Nat}(hq:∀a,(f a).length=q):∀(l:List α) (i j:Nat) (a:α),l[i]? =some a->j<q->(l.flatMap f)[i*q+j]? =(f a)[j]?
 |[],i,j,a,h,_=>by simp at h
 |b::l,0,j,a,h,hj=>by
  obtain rfl:b=a:=by simpa using h
  rw[TR,Sl (by rw[hq];omega),N4,Ry]
 |b::l,i+1,j,a,h,hj=>by
  rw[TR,Ro (by rw[hq,RX];omega),hq,show(i+1)*q+j-q=i*q+j by rw[RX];omega]
  exact UY hq l i j a (by simpa using h) hj
section
variable {P:Program}{m:Mode}{n:Shp}{B:Nat}{w0:World}{ops:Array Oper}{Q:Exit->Act->World->Prop}{rest:List Oper}{env:Env}{H:List HP}{d:Nat}{ty:TypeId}{pos:String}{after:Array Edge}
variable {α:Type}{t cap e size k i q:Nat}{x y:Operand}{A:Option Addr}
theorem ZE(T:Tab P){f:α->List Value}{l:List α}{bytes:Nat}{ki:IntKind}{i:Int}(hx:evo env x=some (.slice A l.length cap))(hy:evo env y=some (.int ki i))
 (hr:Rd B w0 H A (l.flatMap f)) (ht:look T.sl t=some (e,size,bytes)) (hq:∀a,(f a).length=size) (h0:Nat.blt 0 size=true) (hn:Nat.ble (d+1) n.k=true) (hi:0<=i/\i<l.length)
 (h:VL P m n B w0 ops Q rest ((d,sptr A (i.toNat*size))::env) H):VL P m n B w0 ops Q (⟨some d,.indexAddr t x y,ty,pos,after,none⟩::rest) env H:=by
 obtain⟨hut,inf,z,hinf,_,_,hsi,_,_,_⟩:=YG (T.slic ht)
 refine Yy rfl rfl hn rfl (λa w ha hw=>?_) h
 have h0':0<size:=by simpa using h0
 have hlt:i.toNat<l.length:=by omega
 have hget:=UY hq l i.toNat 0 _ (Ta hlt) h0'
 have hg2:(f l[i.toNat])[0]? =some ((f l[i.toNat])[0]'(by rw[hq];exact h0')):=Ta _
 rw[hg2]at hget
 obtain⟨g,o,rfl,_⟩:=hr w hw _ _ hget
 simp[execOp,ha.eval hx,ha.eval hy,Instr.indexAt,asIntOf,run_underlying hut,hi,sizeOf,typeInfo,hinf,hsi,sptr]
theorem YgX(T:Tab P){s f j:Nat}{xs:List Value}(hx:evo env x=some (sptr A j))(hr:Rd B w0 H A xs)(hj:j<xs.length)(hf:Og T.fo s f=some k)(hn:Nat.ble (d+1) n.k=true)
 (h:VL P m n B w0 ops Q rest ((d,sptr A (j+k))::env) H):VL P m n B w0 ops Q (⟨some d,.fieldAddr s x f,ty,pos,after,none⟩::rest) env H:=by
 refine Yy rfl rfl hn rfl (λa w ha hw=>?_) h
 obtain⟨g,o,rfl,_⟩:=hr w hw _ _ (Ta hj)
 have h1:=T.offs hf
 unfold Oa at h1
 split at h1
 ·rename_i fs hu
  cases hfl:fs[f]? with
  |none=>rw[hfl]at h1;cases h1
  |some fld=>
   rw[hfl]at h1
   simp only[Nu]at h1
   cases hi:P.info? fld.type with
   |none=>rw[hi]at h1;cases h1
   |some inf=>
    rw[hi]at h1
    simp only[Nu]at h1
    by_cases hz:inf.size=0
    ·rw[Tm hz]at h1;cases h1
    ·rw[Td hz]at h1
     have h2:fld.offset=k:=by simpa using h1
     subst h2
     simp[execOp,ha.eval hx,sptr,Instr.fieldAt,run_underlying hu,hfl,Instr.sureAddr,fieldPlace,sizeOf,typeInfo,hi,hz,Addr.add_lit,Nat.add_assoc]
 ·cases h1
variable {v:Value}
theorem Ycd(T:Tab P){f:α->List Value}{l:List α}{o:Nat}{b:α}(hx:evo env x=some (sptr A (i*q+o)))(hr:Rd B w0 H A (l.flatMap f))(hb:l[i]? =some b)(hq:∀a,(f a).length=q)
 (ho:Nat.blt o q=true) (hv:nth (f b) o=some v) (ht:look T.sc t=some ()) (hn:Nat.ble (d+1) n.k=true)
 (h:VL P m n B w0 ops Q rest ((d,v)::env) H):VL P m n B w0 ops Q (⟨some d,.load t x,ty,pos,after,none⟩::rest) env H:=by
 refine Yy rfl rfl hn rfl (λa w ha hw=>?_) h
 have hg:=UY hq l i o b hb (by simpa using ho)
 rw[<-Yj5 (f b),hv]at hg
 obtain⟨g,u,rfl,hc⟩:=hr w hw _ _ hg
 simp[execOp,ha.eval hx,sptr,Instr.loadAt,Instr.sureAddr,loadVar,Xi (T.scal ht).1,Addr.add_lit,hc]
theorem Jj(T:Tab P){f:α->List Value}{l:List α}{b:α}(hx:evo env x=some (sptr A (i*q)))(hr:Rd B w0 H A (l.flatMap f))(hb:l[i]? =some b)(hq:∀a,(f a).length=q)
 (ho:Nat.blt 0 q=true) (hv:nth (f b) 0=some v) (ht:look T.sc t=some ()) (hn:Nat.ble (d+1) n.k=true)
 (h:VL P m n B w0 ops Q rest ((d,v)::env) H):VL P m n B w0 ops Q (⟨some d,.load t x,ty,pos,after,none⟩::rest) env H:=
 Ycd T (i:=i) (q:=q) (o:=0) (by rw[SQ];exact hx) hr hb hq ho hv ht hn h
theorem Ycc(T:Tab P){f:α->List Value}{l:List α}{b:α}(hx:evo env x=some (sptr A (i*q)))(hr:Rd B w0 H A (l.flatMap f))(hb:l[i]? =some b)(hq:∀a,(f a).length=q)
 (ho:Nat.blt 0 q=true) (ht:look T.ag t=some q) (hn:Nat.ble (d+1) n.k=true)
 (h:VL P m n B w0 ops Q rest ((d,.agg (f b).toArray)::env) H):VL P m n B w0 ops Q (⟨some d,.load t x,ty,pos,after,none⟩::rest) env H:=by
 refine Yy rfl rfl hn rfl (λa w ha hw=>?_) h
 have h0:0<q:=by simpa using ho
 have hget:∀j v,(f b)[j]? =some v->(l.flatMap f)[i*q+j]? =some v:=λj v hj=>by
  have hlt:j<q:=by have:=(Ti.1 hj).1;rwa [hq]at this
  rw[UY hq l i j b hb hlt];exact hj
 obtain⟨g,u,rfl,_⟩:=hr w hw _ _ (hget 0 _ (Ta (by rw[hq];exact h0)))
 have hl:=run_loadCells_list (P:=P) w ⟨g,u+i*q,none⟩ (f b) (λj v hj=>by
  obtain⟨g',u',e1,hc⟩:=hr w hw _ _ (hget j v hj)
  injection e1 with e1
  injection e1 with e1 e2
  subst e1 e2
  rw[Addr.add_lit,NW];exact hc)
 rw[hq]at hl
 simp[execOp,ha.eval hx,sptr,Instr.loadAt,Instr.sureAddr,loadVar,ZN (T.aggs ht),Zn (JP (T.aggs ht)),Addr.add_lit,hl]
theorem Yqv{k:IntKind}{a b:Int}{tys:Array TypeId}(hx:evo env x=some (.int k a))(hy:evo env y=some (.int k b))(hn:Nat.ble (d+1) n.k=true)(h1:a<b->VL P m n B w0 ops Q rest ((d,.int k b)::env) H)(h2:b<=a->VL P m n B w0 ops Q rest ((d,.int k a)::env) H):
 VL P m n B w0 ops Q (⟨some d,.call ⟨.builtin .max,#[x,y],tys⟩,ty,pos,after,none⟩::rest) env H:=by
 by_cases hc:b>a
 ·exact Yy rfl rfl hn rfl (λf w ha _=>by simp[execOp,resolve,invoke,builtin,ha.eval hx,ha.eval hy,run_max_int2,hc]) (h1 hc)
 ·exact Yy rfl rfl hn rfl (λf w ha _=>by simp[execOp,resolve,invoke,builtin,ha.eval hx,ha.eval hy,run_max_int2,hc]) (h2 (by omega))
end
def Wu(env:Env):List (Nat×Operand)->Option (List (Nat×Value))
 |[]=>some []
 |(i,x)::l=>match evo env x with
  |none=>none
  |some v=>match Wu env l with
   |none=>none
   |some r=>some ((i,v)::r)
theorem Om{env:Env}:∀{l:List (Nat×Operand)}{ps:List (Nat×Value)},Wu env l=some ps->Ya1 env l ps
 |[],ps,h=>by simp[Wu]at h;subst h;exact Yfg
 |(i,x)::l,ps,h=>by
  unfold Wu at h
  cases hx:evo env x with
  |none=>rw[hx]at h;cases h
  |some v=>
   rw[hx]at h
   cases hl:Wu env l with
   |none=>rw[hl]at h;cases h
   |some r=>
    rw[hl]at h
    simp only[Ru]at h
    subst h
    exact Ykd hx (Om hl)
def YdE(P:Program)(t:Nat):Option (List (Nat×Nat)):=
 match P.underlying t with
 |some (.struct fs)=>fs.toList.mapM (λf=>(P.info? f.type).map λi=>(f.offset,i.size))
 |some (.array k e)=>(P.info? e).map λi=>(List.range k).map λj=>(j*i.size,i.size)
 |_=>none
def Yaq(P:Program)(t:Nat):Option Value:=(P.info? t).bind (·.zero)
structure Tab2(P:Program) where
 zt:List (Nat×Value)
 bt:List (Nat×List (Nat×Nat))
 zt_ok:(zt.map λx=>Yaq P x.1)=zt.map λx=>some x.2
 bt_ok:(bt.map λx=>YdE P x.1)=bt.map λx=>some x.2
theorem Oh{β:Type}{f:Nat->Option β}:∀{l:List (Nat×β)},(l.map λx=>f x.1)=(l.map λx=>some x.2)->∀{t:Nat}{v:β},look l t=some v->f t=some v:=by
 intro l h t v hl
 have hm:=Vd hl
 clear hl
 induction l with
 |nil=>cases hm
 |cons x l ih=>
  simp only[Re,List.cons.injEq]at h
  rcases TN.1 hm with e|e
  ·rw[<-e]at h;exact h.1
  ·exact ih h.2 e
variable {t:Nat}{z:Value}
theorem YdT{P:Program}(h:Yaq P t=some z)(w:World):(zeroValue t).run P w=.ok z w:=by
 unfold Yaq at h
 cases hi:P.info? t with
 |none=>rw[hi]at h;cases h
 |some i=>
  rw[hi]at h
  have h2:i.zero=some z:=h
  simp[zeroValue,typeInfo,hi,h2]
def Yf5{β:Type}:List Value->(List Value->Option β)->Option β
 |[],k=>k []
 |a::l,k=>Yf5 l λl'=>k (a::l')
theorem YaG{β:Type}:∀(l:List Value) (k:List Value->Option β),Yf5 l k=k l
 |[],_=>rfl
 |a::l,k=>by rw[Yf5,YaG l]
def OM:List Value->Nat->List Value->List Value
 |cs,_,[]=>cs
 |cs,off,v::vs=>OM (cs.set off v) (off+1) vs
def fillL(place:Nat->Option (Nat×Nat))(cs:List Value):List (Nat×Value)->Option (List Value)
 |[]=>some cs
 |(i,v)::rest=>match place i with
  |none=>none
  |some (off,size)=>match Nat.beq v.cells.toList.length size&&Nat.ble (off+size) cs.length with
   |true=>Yf5 (OM cs off v.cells.toList) λcs'=>fillL place cs' rest
   |false=>none
theorem QR(off:Nat):∀(l:List Value) (k:Nat) (cs:Array Value),(l.zipIdx k).foldl (λcs (c,j)=>cs.setIfInBounds (off+j) c) cs=(OM cs.toList (off+k) l).toArray
 |[],_,cs=>by simp[OM]
 |v::l,k,cs=>by
  rw[List.zipIdx_cons,Na,QR off l (k+1)]
  simp[OM,Nat.add_assoc]
theorem YcM{place place':Nat->Option (Nat×Nat)}(hp:∀i q,place i=some q->place' i=some q):∀{ps:List (Nat×Value)}{cs r:List Value},fillL place cs ps=some r->fillL place' cs ps=some r
 |[],_,_,h=>h
 |(i,v)::rest,cs,r,h=>by
  unfold fillL at h⊢
  cases hi:place i with
  |none=>rw[hi]at h;cases h
  |some q=>
   rw[hi]at h
   rw[hp i q hi]
   obtain⟨off,size⟩:=q
   simp only at h⊢
   split at h
   ·rw[YaG]at h⊢
    exact YcM hp h
   ·cases h
theorem Wl{place:Nat->Option (Nat×Nat)}:∀{ps:List (Nat×Value)}{cs:Array Value}{r:List Value},fillL place cs.toList ps=some r->Instr.fill place cs ps=some r.toArray
 |[],cs,r,h=>by simp[fillL]at h;subst h;simp[Instr.fill]
 |(i,v)::rest,cs,r,h=>by
  unfold fillL at h
  unfold Instr.fill
  cases hp:place i with
  |none=>rw[hp]at h;cases h
  |some q=>
   obtain⟨off,size⟩:=q
   rw[hp]at h
   simp only at h⊢
   split at h
   ·rename_i hb
    simp only[To,S5]at hb
    obtain⟨h1,h2⟩:=hb
    have h2':=T0 h2
    have h1':v.cells.size=size:=by simpa using h1
    rw[YaG]at h
    have hz:v.cells.zipIdx.foldl (λcs (c,j)=>cs.setIfInBounds (off+j) c) cs=(OM cs.toList off v.cells.toList).toArray:=by
     rw[<-Array.foldl_toList,Array.toList_zipIdx]
     exact QR off v.cells.toList 0 cs
    rw[Td (by simp[h1'];omega),hz]
    exact Wl (by simpa using h)
   ·cases h
def repZ:Nat->List Value->List Value
 |0,_=>[]
 |n+1,z=>z++repZ n z
theorem Ybz(z:List Value):∀n,(repZ n z).length=n*z.length
 |0=>by simp[repZ]
 |n+1=>by rw[repZ,Tj,Ybz z n,RX];omega
theorem YiH(z:List Value)(hz:0<z.length):∀(n j:Nat),j<n*z.length->(repZ n z)[j]? =z[j%z.length]?
 |0,j,h=>by omega
 |n+1,j,h=>by
  rw[repZ]
  by_cases hj:j<z.length
  ·rw[Sl hj,Nat.mod_eq_of_lt hj]
  ·rw[Ro (by omega),YiH z hz n _ (by rw[RX]at h;omega),<-Nat.mod_eq_sub_mod (by omega)]
theorem YpM(zs:Array Value)(hz:0<zs.size)(n:Nat):((Array.range (n*zs.size)).map (zs[·%zs.size]!))=(repZ n zs.toList).toArray:=by
 apply Array.ext'
 apply SJ
 intro j
 have hl:zs.toList.length=zs.size:=by simp
 by_cases hj:j<n*zs.size
 ·have h1:=YiH zs.toList (by omega) n j (by rw[hl];exact hj)
  rw[hl]at h1
  have hm:j%zs.size<zs.size:=Nat.mod_lt _ hz
  rw[List.toList_toArray,h1]
  simp[hj,hm,Array.getElem!_eq_getD,Array.getD_eq_getD_getElem?]
 ·rw[RP (by simp;omega),RP (by simp[Ybz];omega)]
section
variable {P:Program}{m:Mode}{n:Shp}{B:Nat}{w0:World}{ops:Array Oper}{Q:Exit->Act->World->Prop}{rest:List Oper}{env:Env}{H:List HP}{d:Nat}{ty:TypeId}{pos:String}{after:Array Edge}
variable {z v:Value}
theorem Yl6(T2:Tab2 P){t:TypeId}{cs:Array Value}(hz:look T2.zt t=some z)(hc:z.cells=cs)(hn:Nat.ble (d+1) n.k=true)
 (h:∀g,VL P none n B w0 ops Q rest ((d,.pointer (some ⟨g,0,none⟩))::env) (blk g (.cells cs t (0,0))::H)):VL P none n B w0 ops Q (⟨some d,.alloc t,ty,pos,after,none⟩::rest) env H:=
 Yod (YdT (Oh T2.zt_ok hz)) hc hn h
variable {parts:List (Nat×Operand)}{ps:List (Nat×Value)}{cs vs:List Value}
theorem Yma(T2:Tab2 P){t:TypeId}{zc:Array Value}{pl:List (Nat×Nat)}(hp:Wu env parts=some ps)(hz:look T2.zt t=some (.agg zc))(hl:look T2.bt t=some pl)
 (hf:fillL (pl[·]?) zc.toList ps=some cs) (hn:Nat.ble (d+1) n.k=true)
 (h:VL P m n B w0 ops Q rest ((d,.agg cs.toArray)::env) H):VL P m n B w0 ops Q (⟨some d,.build t parts.toArray,ty,pos,after,none⟩::rest) env H:=by
 refine Yoe (Om hp) (λw=>run_build w t _ cs.toArray ?_) hn h
 have h1:=Oh T2.zt_ok hz
 have h2:=Oh T2.bt_ok hl
 unfold Yaq at h1
 unfold YdE at h2
 unfold Program.built
 cases hi:P.info? t with
 |none=>rw[hi]at h1;cases h1
 |some i=>
  rw[hi]at h1
  have h3:i.zero=some (.agg zc):=h1
  cases hu:P.underlying t with
  |none=>rw[hu]at h2;cases h2
  |some dd=>
   rw[hu]at h2
   cases dd<;>try(cases h2;done)
   ·rename_i k e
    cases hie:P.info? e with
    |none=>simp only[hie]at h2;cases h2
    |some ie=>
     simp only[hie,RH,Ru]at h2
     simp only[h3,hie]
     refine Wl (cs:=zc) (YcM (λa q ha=>?_) hf)
     rw[<-h2,TE]at ha
     by_cases hak:a<k
     ·rw[SN hak]at ha;exact ha
     ·rw[RP (by simpa using hak)]at ha;cases ha
   ·rename_i fs
    have h4:fs.toList.mapM (λf=>(P.info? f.type).map λi=>(f.offset,i.size))=some pl:=h2
    simp only[h3,h4]
    have h5:=Wl (place:=(pl[·]?)) (cs:=zc) hf
    simpa [Value.cells]using h5
variable {t f:Nat}
theorem VO(T:Tab P)(T2:Tab2 P){e len size bytes:Nat}{zl:List Value}(ht:look T.sl t=some (e,size,bytes))(hp:Wu env parts=some ps)(hz:look T2.zt e=some z)(hzc:z.cells=zl.toArray)
 (hf:fillL (λi=>some (i*size,size)) (repZ len zl) ps=some cs) (hn:Nat.ble (d+1) n.k=true) (hl:(Nat.blt 0 (len*size)&&Nat.beq zl.length size&&Nat.ble (len*size) 1000000)=true)
 (h:∀g,VL P none n B w0 ops Q rest ((d,.slice (some ⟨g,0,none⟩) len len)::env) (blk g (.cells cs.toArray e (0,0))::H)):VL P none n B w0 ops Q (⟨some d,.buildSlice t len parts.toArray,ty,pos,after,none⟩::rest) env H:=by
 simp only[To]at hl
 obtain⟨⟨hl1,hl2⟩,hl3⟩:=hl
 have hl1':0<len*size:=by simpa using hl1
 have hl2':zl.length=size:=Nat.eq_of_beq_eq_true hl2
 have hl3':=T0 hl3
 obtain⟨hut,inf,z',hinf,hz',_,hsi,_⟩:=YG (T.slic ht)
 have h1:=Oh T2.zt_ok hz
 unfold Yaq at h1
 rw[hinf]at h1
 have h3:inf.zero=some z:=h1
 refine OQ (Om hp) (λw=>run_buildSlice w t e len _ cs.toArray inf z hut hinf h3 (by rw[hsi];omega) (by rw[hsi];omega) ?_) hn h
 have hzs:z.cells.size=size:=by rw[hzc];simpa using hl2'
 have hpos:0<z.cells.size:=by
  rcases NQ size with h0|h0
  ·rw[h0,Nat.mul_zero]at hl1';omega
  ·omega
 rw[hsi]
 have h5:=YpM z.cells hpos len
 rw[hzs]at h5
 rw[show(λx=>z.cells[x%z.cells.size]!)=λx=>z.cells[x%size]! by rw[hzs],h5,hzc]
 simpa using Wl (place:=λi=>some (i*size,size)) (cs:=(repZ len zl).toArray) (by simpa using hf)
variable {x:Operand}
theorem YfF(T:Tab P){α:Type}{f:α->List Value}{l:List α}{s fl k i q:Nat}{A:Option Addr}(hx:evo env x=some (sptr A (i*q)))(hr:Rd B w0 H A (l.flatMap f))(hq:∀a,(f a).length=q)(h0:Nat.blt 0 q=true)(hf:Og T.fo s fl=some k)(hn:Nat.ble (d+1) n.k=true)(hi:i<l.length)
 (h:VL P m n B w0 ops Q rest ((d,sptr A (i*q+k))::env) H):VL P m n B w0 ops Q (⟨some d,.fieldAddr s x fl,ty,pos,after,none⟩::rest) env H:=by
 refine YgX T hx hr ?_ hf hn h
 rw[Xa hq]
 have h0':0<q:=by simpa using h0
 calc i*q<i*q+q:=by omega
  _=(i+1)*q:=by rw[RX];omega
  _<=l.length*q:=Rq q hi
variable {args:List Operand}{tys:Array TypeId}
theorem Ynz{a:Act}(ha:Fits n a env)(hx:evo env x=some (.func (.func f) #[] cs.toArray))
 (hc:∀xs w,(callFunc f xs).run P w=.ok (.enter f xs) w) (hargs:Args env args vs) (w:World):
 (execOp a.eval ⟨some d,.call ⟨.value x,args.toArray,tys⟩,ty,pos,after,none⟩).run P w=.ok (.enter f (vs++cs).toArray) w:=by
 have hmap:args.toArray.map a.eval=vs.toArray:=by rw[SY,Uw ha _ _ hargs]
 simp only[execOp,resolve,ha.eval hx,hmap,Deferred.ofValue,Sem.run_bind,Sem.run_pure,Result.andThen_ok,invoke]
 simpa using hc ((vs++cs).toArray) w
theorem Yz(hx:evo env x=some (.func (.func f) #[] cs.toArray))
 (hc:∀xs w,(callFunc f xs).run P w=.ok (.enter f xs) w) (hargs:Args env args vs) (hn:Nat.ble (d+1) n.k=true)
 (hcall:∀w,St B w0 H w->Calls P f (vs++cs).toArray w (Post B w0 λu K=>u=v/\K=H))
 (h:VL P none n B w0 ops Q rest ((d,v)::env) H):
 VL P none n B w0 ops Q (⟨some d,.call ⟨.value x,args.toArray,tys⟩,ty,pos,after,none⟩::rest) env H:=
 Yof _ hx hc hargs hn hcall (by rintro _ _ ⟨rfl,rfl⟩;exact h)
theorem Y4(hx:evo env x=some (.func (.func f) #[] cs.toArray))
 (hc:∀xs w,(callFunc f xs).run P w=.ok (.enter f xs) w) (hargs:Args env args vs) (hn:Nat.ble (d+1) n.k=true)
 (hcall:∀w,St B w0 H w->Calls P f (vs++cs).toArray w (Post B w0 λu K=>u=v/\K=H))
 (h:VL P (some none) n B w0 ops Q rest ((d,v)::env) H):
 VL P (some none) n B w0 ops Q (⟨some d,.call ⟨.value x,args.toArray,tys⟩,ty,pos,after,none⟩::rest) env H:=by
 refine⟨λa ha=>wpQuiet_step λK hK=>?_⟩
 rw[Tm (by simp[Region.wanted])]
 refine⟨v,λw hw=>?_,hK _ ?_⟩
 ·unfold Oper.quietAt
  rw[Ynz ha hx hc hargs]
  refine⟨rfl,(hcall w hw).mono ?_⟩
  rintro e w' ⟨_,_,rfl,hst,rfl,rfl⟩
  exact⟨rfl,hst⟩
 ·exact h.run _ (ha.put (T0 hn) v)
def effW(o:Oper):Bool:=eff o&&match o.op with|.call ⟨.value _,_,_⟩=>false|.makeFunc _ _ _=>false|_=>true
theorem Yn8{id:Nat}{l:List Oper}(hq:(l.all λo=>!effW o)=true)(hm:P.follows .mixedOrders=true)(hB:Region.lexB .any l.toArray=true)(h:VL P (some none) n B w0 l.toArray Q l env H):VC P n B w0 (.region id l.toArray true) Q env H:=
 YkK hm (by have:=hq;exact hB) h
theorem Ynt{xs:Array Value}{w:World}(hw:St B w0 H w)(h:Calls P f xs w λe w'=>e=.returned v/\w'=w):Calls P f xs w (Post B w0 λu K=>u=v/\K=H):=
 h.mono (by rintro e w' ⟨rfl,rfl⟩;exact⟨v,H,rfl,hw,rfl,rfl⟩)
end
end Go.Eng
namespace Go.Proofs.YtaholidehobiiaaGreatDoor
open Go.Eng
theorem Ytg:([(3,()),(4,()),(5,()),(22,()),(23,()),(24,()),(27,()),(30,()),(31,()),(35,()),(39,()),(40,()),(84,()),(93,()),(160,()),(161,()),(266,()),(272,()),(345,()),(394,()),(413,()),(431,())].all λx:Nat×Unit=>oneT Tryz.prog x.1)=true:=by kernel_rfl
theorem Ytb:([(26,6),(37,3),(42,12),(53,6),(64,5),(86,7),(132,5),(140,3),(173,5),(276,17),(292,9),(298,3),(411,2),(438,4)].all λx:Nat×Nat=>aggT Tryz.prog x.1==some x.2)=true:=by kernel_rfl
theorem Yte:([(26,0,0),(26,1,1),(26,2,2),(26,3,3),(26,4,4),(26,5,5),(37,0,0),(37,1,1),(37,2,2),(42,0,0),(42,1,6),(42,2,7),(42,3,10),(42,4,11),(53,0,0),(53,1,1),(53,2,2),(53,3,3),(53,4,4),(53,5,5),(64,0,0),(64,1,1),(64,2,2),(64,3,3),(64,4,4),(86,0,0),(86,1,6),(114,0,0),(114,1,12),(132,0,0),(132,1,1),(132,2,2),(132,3,3),(132,4,4),(140,0,0),(140,1,1),(140,2,2),(163,0,0),(163,1,1),(276,0,0),(276,1,6),(276,2,9),(276,3,15),(276,4,16),(292,0,0),(292,1,6),(298,0,0),(298,1,1),(298,2,2),(411,0,0),(411,1,1),(433,0,0),(433,1,1),(438,0,0),(438,1,1),(438,2,2),(438,3,3)].all λx:Nat×Nat×Nat=>Oa Tryz.prog x.1 x.2.1==some x.2.2)=true:=by kernel_rfl
theorem Yth:([(22,(24,1,24)),(23,(140,3,24)),(24,(3,1,8)),(27,(53,6,48)),(30,(86,7,72)),(35,(64,5,40)),(39,(132,5,104)),(40,(3,1,8)),(84,(93,1,24)),(93,(3,1,8)),(161,(5,1,1)),(295,(298,3,24)),(413,(411,2,16)),(431,(438,4,32))].all λx:Nat×(Nat×Nat×Nat)=>YdC Tryz.prog x.1==some x.2)=true:=by kernel_rfl
theorem Ytc:([(173,(5,3,1))].all λx:Nat×(Nat×Nat×Nat)=>Ycr Tryz.prog x.1==some x.2)=true:=by kernel_rfl
theorem Ytf:([(2,.i64),(3,.i64),(5,.u8),(231,.u64)].all λx:Nat×IntKind=>decide (intT Tryz.prog x.1=some x.2))=true:=by kernel_rfl
theorem Yti:([(9,())].all λx:Nat×Unit=>YgG Tryz.prog x.1)=true:=by kernel_rfl
def T:Tab Tryz.prog:=⟨_,_,_,_,_,_,_,Ytg,Ytb,Yte,Yth,Ytc,Ytf,Yti⟩
abbrev tabL_zt:List (Nat×Value):=[(3,.int .i64 0),(4,.bool false),(5,.int .u8 0),(24,.slice none 0 0),(26,.agg #[.int .i64 0,.slice none 0 0,.int .i64 0,.int .i64 0,.slice none 0 0,.slice none 0 0]),(35,.slice none 0 0),(37,.agg #[.int .i64 0,.int .i64 0,.slice none 0 0]),(42,.agg #[.int .i64 0,.slice none 0 0,.int .i64 0,.int .i64 0,.slice none 0 0,.slice none 0 0,.slice none 0 0,.int .i64 0,.int .i64 0,.slice none 0 0,.slice none 0 0,.slice none 0 0]),(53,.agg #[.int .i64 0,.int .i64 0,.int .i64 0,.int .i64 0,.int .i64 0,.int .i64 0]),(64,.agg #[.int .i64 0,.int .i64 0,.int .i64 0,.int .i64 0,.int .i64 0]),(86,.agg #[.int .i64 0,.int .i64 0,.int .i64 0,.int .i64 0,.int .i64 0,.int .i64 0,.slice none 0 0]),(93,.slice none 0 0),(114,.agg #[.int .i64 0,.slice none 0 0,.int .i64 0,.int .i64 0,.slice none 0 0,.slice none 0 0,.slice none 0 0,.int .i64 0,.int .i64 0,.slice none 0 0,.slice none 0 0,.slice none 0 0,.int .i64 0]),(132,.agg #[.int .i64 0,.slice none 0 0,.slice none 0 0,.slice none 0 0,.slice none 0 0]),(140,.agg #[.int .i64 0,.int .i64 0,.int .i64 0]),(163,.agg #[.pointer none,.slice none 0 0]),(173,.agg #[.int .i64 0,.int .i64 0,.int .i64 0,.int .i64 0,.int .i64 0]),(266,.nilFunc),(272,.map none),(276,.agg #[.int .i64 0,.slice none 0 0,.int .i64 0,.int .i64 0,.slice none 0 0,.slice none 0 0,.int .i64 0,.int .i64 0,.slice none 0 0,.int .i64 0,.int .i64 0,.int .i64 0,.int .i64 0,.int .i64 0,.int .i64 0,.slice none 0 0,.int .i64 0]),(292,.agg #[.int .i64 0,.slice none 0 0,.int .i64 0,.int .i64 0,.slice none 0 0,.slice none 0 0,.int .i64 0,.int .i64 0,.slice none 0 0]),(298,.agg #[.int .i64 0,.int .i64 0,.int .i64 0]),(394,.map none),(411,.agg #[.int .i64 0,.int .i64 0]),(433,.agg #[.int .i64 0,.slice none 0 0]),(438,.agg #[.int .i64 0,.int .i64 0,.int .i64 0,.int .i64 0])]
theorem Ytj:(tabL_zt.map λx:Nat×Value=>Yaq Tryz.prog x.1)=tabL_zt.map λx:Nat×Value=>some x.2:=by kernel_rfl
abbrev tabL_bt:List (Nat×List (Nat×Nat)):=[(26,[(0,1),(1,1),(2,1),(3,1),(4,1),(5,1)]),(37,[(0,1),(1,1),(2,1)]),(42,[(0,6),(6,1),(7,3),(10,1),(11,1)]),(53,[(0,1),(1,1),(2,1),(3,1),(4,1),(5,1)]),(64,[(0,1),(1,1),(2,1),(3,1),(4,1)]),(86,[(0,6),(6,1)]),(114,[(0,12),(12,1)]),(132,[(0,1),(1,1),(2,1),(3,1),(4,1)]),(140,[(0,1),(1,1),(2,1)]),(173,[(0,1),(1,1),(2,1),(3,1),(4,1)]),(276,[(0,6),(6,3),(9,6),(15,1),(16,1)]),(292,[(0,6),(6,3)]),(298,[(0,1),(1,1),(2,1)]),(411,[(0,1),(1,1)]),(433,[(0,1),(1,1)]),(438,[(0,1),(1,1),(2,1),(3,1)])]
theorem Ytd:(tabL_bt.map λx:Nat×List (Nat×Nat)=>YdE Tryz.prog x.1)=tabL_bt.map λx:Nat×List (Nat×Nat)=>some x.2:=by kernel_rfl
def T2:Tab2 Tryz.prog:=⟨_,_,Ytj,Ytd⟩
abbrev EnT(k:Nat):Prop:=∀(xs:Array Value) (w:World),(callFunc k xs).run Tryz.prog w=.ok (.enter k xs) w
theorem enT{k:Nat}(h:EnT k:=by exactλ_ _=>by kernel_rfl):EnT k:=h
theorem en11:EnT 11:=enT
theorem en12:EnT 12:=enT
theorem en13:EnT 13:=enT
theorem en16:EnT 16:=enT
theorem en19:EnT 19:=enT
theorem en20:EnT 20:=enT
theorem en21:EnT 21:=enT
theorem en22:EnT 22:=enT
theorem en23:EnT 23:=enT
theorem en24:EnT 24:=enT
theorem en25:EnT 25:=enT
theorem en29:EnT 29:=enT
theorem en31:EnT 31:=enT
theorem en32:EnT 32:=enT
theorem en35:EnT 35:=enT
theorem en40:EnT 40:=enT
theorem en41:EnT 41:=enT
theorem en54:EnT 54:=enT
theorem en55:EnT 55:=enT
theorem en56:EnT 56:=enT
theorem en57:EnT 57:=enT
theorem en58:EnT 58:=enT
theorem en59:EnT 59:=enT
theorem en60:EnT 60:=enT
theorem en66:EnT 66:=enT
theorem en67:EnT 67:=enT
theorem en68:EnT 68:=enT
theorem en69:EnT 69:=enT
theorem en70:EnT 70:=enT
theorem en71:EnT 71:=enT
theorem en72:EnT 72:=enT
theorem en80:EnT 80:=enT
theorem en81:EnT 81:=enT
theorem en82:EnT 82:=enT
theorem en83:EnT 83:=enT
theorem en84:EnT 84:=enT
theorem en85:EnT 85:=enT
theorem en86:EnT 86:=enT
theorem en87:EnT 87:=enT
theorem en88:EnT 88:=enT
theorem en89:EnT 89:=enT
theorem en90:EnT 90:=enT
theorem en91:EnT 91:=enT
theorem en92:EnT 92:=enT
theorem en99:EnT 99:=enT
theorem YrL:EnT 100:=enT
theorem Ytr:EnT 101:=enT
theorem YoQ:EnT 102:=enT
theorem Yk6:EnT 106:=enT
theorem Yts:EnT 107:=enT
theorem Ytt:EnT 108:=enT
theorem Ytu:EnT 109:=enT
theorem Yk7:EnT 111:=enT
theorem Ytv:EnT 112:=enT
theorem YeC:EnT 113:=enT
theorem YeD:EnT 115:=enT
theorem Yk8:EnT 116:=enT
theorem YoR:EnT 117:=enT
theorem Yk9:EnT 126:=enT
theorem Yla:EnT 127:=enT
theorem YoS:EnT 128:=enT
theorem Ylb:EnT 129:=enT
theorem Ya9:EnT 130:=enT
theorem Xc:EnT 136:=enT
theorem Ylc:EnT 139:=enT
theorem WJ:EnT 140:=enT
theorem Yld:EnT 146:=enT
theorem Yba:EnT 147:=enT
theorem YoT:EnT 148:=enT
theorem Ytw:EnT 156:=enT
theorem Yle:EnT 157:=enT
theorem Ylf:EnT 158:=enT
theorem Ytx:EnT 159:=enT
theorem Yty:EnT 160:=enT
theorem YoU:EnT 161:=enT
theorem Ytz:EnT 162:=enT
theorem YtA:EnT 163:=enT
theorem YrM:EnT 164:=enT
theorem YtB:EnT 165:=enT
theorem YtC:EnT 166:=enT
theorem YoV:EnT 167:=enT
theorem YeE:EnT 175:=enT
theorem Ylg:EnT 176:=enT
theorem YrN:EnT 177:=enT
theorem YrO:EnT 178:=enT
theorem YeF:EnT 179:=enT
theorem YrP:EnT 180:=enT
theorem WK:EnT 181:=enT
theorem Ybb:EnT 182:=enT
theorem YrQ:EnT 183:=enT
theorem YrR:EnT 184:=enT
theorem YrS:EnT 185:=enT
theorem Uo:EnT 186:=enT
theorem ZZ:EnT 187:=enT
theorem YeG:EnT 188:=enT
theorem YrT:EnT 189:=enT
theorem WL:EnT 190:=enT
theorem OW:EnT 191:=enT
theorem YrU:EnT 192:=enT
theorem YtD:EnT 193:=enT
theorem Ylh:EnT 197:=enT
theorem YtE:EnT 198:=enT
theorem YeH:EnT 199:=enT
theorem YtF:EnT 200:=enT
theorem YtG:EnT 201:=enT
theorem YeI:EnT 202:=enT
theorem YtH:EnT 203:=enT
theorem Yli:EnT 207:=enT
theorem YtI:EnT 208:=enT
theorem YtJ:EnT 210:=enT
theorem YeJ:EnT 211:=enT
theorem Ylj:EnT 224:=enT
theorem Ybc:EnT 225:=enT
theorem YeK:EnT 232:=enT
theorem YrV:EnT 235:=enT
theorem Ybd:EnT 236:=enT
theorem YrW:EnT 237:=enT
theorem YtK:EnT 238:=enT
theorem Up:EnT 239:=enT
theorem YrX:EnT 240:=enT
theorem WM:EnT 241:=enT
theorem YtL:EnT 246:=enT
theorem YrY:EnT 247:=enT
theorem YrZ:EnT 248:=enT
theorem Yr0:EnT 249:=enT
theorem YtM:EnT 250:=enT
theorem Ylk:EnT 254:=enT
theorem YoW:EnT 255:=enT
theorem YtN:EnT 256:=enT
theorem YtO:EnT 257:=enT
theorem YtP:EnT 258:=enT
theorem Yll:EnT 259:=enT
theorem Ylm:EnT 260:=enT
theorem YeL:EnT 261:=enT
theorem Yln:EnT 262:=enT
theorem Yr1:EnT 263:=enT
theorem Yr2:EnT 264:=enT
theorem Yr3:EnT 265:=enT
theorem Ylo:EnT 266:=enT
theorem YtQ:EnT 267:=enT
theorem Ybe:EnT 268:=enT
theorem Ylp:EnT 269:=enT
theorem YtR:EnT 271:=enT
theorem Yr4:EnT 272:=enT
theorem YtS:EnT 273:=enT
theorem Yr5:EnT 274:=enT
theorem YoX:EnT 275:=enT
theorem Z0:EnT 293:=enT
theorem YtT:EnT 299:=enT
theorem YeM:EnT 310:=enT
theorem YtU:EnT 311:=enT
theorem Vn:EnT 312:=enT
theorem Yr6:EnT 313:=enT
theorem YtV:EnT 314:=enT
theorem Yr7:EnT 315:=enT
theorem YeN:EnT 316:=enT
theorem YeO:EnT 317:=enT
theorem Yr8:EnT 318:=enT
theorem YeP:EnT 323:=enT
theorem Yr9:EnT 324:=enT
theorem Ysa:EnT 325:=enT
theorem Ysb:EnT 326:=enT
theorem YtW:EnT 327:=enT
theorem YeQ:EnT 339:=enT
theorem Ysc:EnT 340:=enT
theorem Ysd:EnT 341:=enT
theorem Yse:EnT 342:=enT
theorem YtX:EnT 344:=enT
theorem YoY:EnT 345:=enT
theorem YtY:EnT 359:=enT
theorem Ysf:EnT 376:=enT
theorem YtZ:EnT 377:=enT
theorem Ysg:EnT 378:=enT
theorem Ysh:EnT 379:=enT
theorem Yt0:EnT 380:=enT
theorem Yt1:EnT 381:=enT
theorem Ylq:EnT 382:=enT
theorem Ysi:EnT 385:=enT
theorem Ysj:EnT 386:=enT
theorem Yt2:EnT 387:=enT
theorem Ylr:EnT 393:=enT
theorem Yt3:EnT 394:=enT
theorem Ysk:EnT 395:=enT
theorem Yt4:EnT 396:=enT
theorem YoZ:EnT 397:=enT
theorem YeR:EnT 398:=enT
theorem Yt5:EnT 399:=enT
theorem Yt6:EnT 400:=enT
theorem Ysl:EnT 414:=enT
theorem Yt7:EnT 415:=enT
theorem Yls:EnT 416:=enT
theorem Yt8:EnT 418:=enT
theorem Yt9:EnT 419:=enT
theorem Ylt:EnT 420:=enT
theorem Yua:EnT 421:=enT
theorem Ysm:EnT 422:=enT
theorem Ysn:EnT 425:=enT
theorem Yub:EnT 426:=enT
theorem Yuc:EnT 427:=enT
theorem Yud:EnT 435:=enT
theorem Ylu:EnT 442:=enT
theorem Ylv:EnT 444:=enT
theorem Yo0:EnT 445:=enT
theorem WN:EnT 464:=enT
theorem Yue:EnT 465:=enT
theorem Yuf:EnT 466:=enT
theorem YhJ:EnT 467:=enT
theorem z3(w:World):(zeroValue 3).run Tryz.prog w=.ok (.int .i64 0) w:=by kernel_rfl
theorem z4(w:World):(zeroValue 4).run Tryz.prog w=.ok (.bool false) w:=by kernel_rfl
theorem z37(w:World):(zeroValue 37).run Tryz.prog w=.ok (.agg #[.int .i64 0,.int .i64 0,.slice none 0 0]) w:=by kernel_rfl
theorem z53(w:World):(zeroValue 53).run Tryz.prog w=.ok (.agg #[.int .i64 0,.int .i64 0,.int .i64 0,.int .i64 0,.int .i64 0,.int .i64 0]) w:=by kernel_rfl
theorem z173(w:World):(zeroValue 173).run Tryz.prog w=.ok (.agg #[.int .i64 0,.int .i64 0,.int .i64 0,.int .i64 0,.int .i64 0]) w:=by kernel_rfl
theorem zi3:((Tryz.prog.info? 3).bind (·.zero))=some (.int .i64 0):=by kernel_rfl
end Go.Proofs.YtaholidehobiiaaGreatDoor
namespace Go.Eng
open Go.RowKit
section
variable {P:Program}{m:Mode}{n:Shp}{B:Nat}{w0:World}{ops:Array Oper}{Q:Exit->Act->World->Prop}{rest:List Oper}{env:Env}{H:List HP}{d:Nat}{ty:TypeId}{pos:String}{after:Array Edge}{x y:Operand}{k:IntKind}{a b:Int}
theorem YgW(T:Tab P){src dst:TypeId}{j:IntKind}(hx:evo env x=some (.int k a))(hs:look T.ik src=some j)(ht:look T.ik dst=some .u64)(hn:Nat.ble (d+1) n.k=true)(hb:0<=a/\a<=18446744073709551615)
 (h:VL P m n B w0 ops Q rest ((d,.int .u64 a)::env) H):VL P m n B w0 ops Q (⟨some d,.convert src dst x,ty,pos,after,none⟩::rest) env H:=
 YkM T hx hs ht hn (by rw[IntWalk.u64_in _ hb];exact h)
variable {f:Nat}{args:List Operand}{tys:Array TypeId}{vs cs:List Value}
theorem Jh{b:Bool}
 (hc:∀xs w,(callFunc f xs).run P w=.ok (.enter f xs) w) (hargs:Args env args vs) (hn:Nat.ble (d+1) n.k=true)
 (hcall:∀w,St B w0 H w->Calls P f vs.toArray w (Post B w0 λu K=>u=.bool b/\K=H))
 (h1:b=true->VL P none n B w0 ops Q rest ((d,.bool true)::env) H) (h2:b=false->VL P none n B w0 ops Q rest ((d,.bool false)::env) H):
 VL P none n B w0 ops Q (⟨some d,.call ⟨.value (.func f),args.toArray,tys⟩,ty,pos,after,none⟩::rest) env H:=by
 cases b
 ·exact Ya hc hargs hn hcall (h2 rfl)
 ·exact Ya hc hargs hn hcall (h1 rfl)
theorem Jg{b:Bool}
 (hc:∀xs w,(callFunc f xs).run P w=.ok (.enter f xs) w) (hargs:Args env args vs) (hn:Nat.ble (d+1) n.k=true)
 (hcall:∀w,St B w0 H w->Calls P f vs.toArray w (Post B w0 λu K=>u=.bool b/\K=H))
 (h1:b=true->VL P (some none) n B w0 ops Q rest ((d,.bool true)::env) H) (h2:b=false->VL P (some none) n B w0 ops Q rest ((d,.bool false)::env) H):
 VL P (some none) n B w0 ops Q (⟨some d,.call ⟨.value (.func f),args.toArray,tys⟩,ty,pos,after,none⟩::rest) env H:=by
 cases b
 ·exact Yb hc hargs hn hcall (h2 rfl)
 ·exact Yb hc hargs hn hcall (h1 rfl)
theorem VR{x:Operand}{b:Bool}(hx:evo env x=some (.func (.func f) #[] cs.toArray))
 (hc:∀xs w,(callFunc f xs).run P w=.ok (.enter f xs) w) (hargs:Args env args vs) (hn:Nat.ble (d+1) n.k=true)
 (hcall:∀w,St B w0 H w->Calls P f (vs++cs).toArray w (Post B w0 λu K=>u=.bool b/\K=H))
 (h1:b=true->VL P none n B w0 ops Q rest ((d,.bool true)::env) H) (h2:b=false->VL P none n B w0 ops Q rest ((d,.bool false)::env) H):
 VL P none n B w0 ops Q (⟨some d,.call ⟨.value x,args.toArray,tys⟩,ty,pos,after,none⟩::rest) env H:=by
 cases b
 ·exact Yz hx hc hargs hn hcall (h2 rfl)
 ·exact Yz hx hc hargs hn hcall (h1 rfl)
theorem VP{x:Operand}{b:Bool}(hx:evo env x=some (.func (.func f) #[] cs.toArray))
 (hc:∀xs w,(callFunc f xs).run P w=.ok (.enter f xs) w) (hargs:Args env args vs) (hn:Nat.ble (d+1) n.k=true)
 (hcall:∀w,St B w0 H w->Calls P f (vs++cs).toArray w (Post B w0 λu K=>u=.bool b/\K=H))
 (h1:b=true->VL P (some none) n B w0 ops Q rest ((d,.bool true)::env) H) (h2:b=false->VL P (some none) n B w0 ops Q rest ((d,.bool false)::env) H):
 VL P (some none) n B w0 ops Q (⟨some d,.call ⟨.value x,args.toArray,tys⟩,ty,pos,after,none⟩::rest) env H:=by
 cases b
 ·exact Y4 hx hc hargs hn hcall (h2 rfl)
 ·exact Y4 hx hc hargs hn hcall (h1 rfl)
theorem St.blk_sl{w:World}{g e size len:Nat}(h:St B w0 (Eng.blk g (.cells cs.toArray e (0,0))::H) w)(hk:cs.length=len*size)(hl:len<=1000000):St B w0 (Eng.sl e size (some ⟨g,0,none⟩) len len cs::H) w:=by
 refine h.upd (Upd.here _) rfl rfl rfl (TL _) λS1 ⟨h1,h2⟩=>⟨⟨⟨hk,.inr ⟨g,len,cs.toArray,rfl,Tu _,h2,TL _,?_,by simpa using hk,?_⟩⟩,λa ha=>by cases ha;exact h1⟩,λ_ _ _=>rfl⟩
 ·simp only[maxLen];omega
 ·rw[TQ (by simp[hk])]
end
open Go.RowKit Go.Proofs Go.Proofs.YtaholidehobiiaaGreatDoor
section
variable {m:Mode}{n:Shp}{B:Nat}{w0:World}{ops:Array Oper}{Q:Exit->Act->World->Prop}{rest:List Oper}{env:Env}{H:List HP}{d:Nat}{ty:TypeId}{pos:String}{after:Array Edge}{xt yt:TypeId}{x y:Operand}{k:IntKind}{a b:Int}{s t:ByteArray}
variable {v z:Value}
theorem zs1{x:Operand}(h:VL Tryz.prog m n B w0 ops Q rest ((d,v)::env) H)(hx:evo env x=some v:=by exact rfl)(hn:Nat.ble (d+1) n.k=true:=by exact rfl):VL Tryz.prog m n B w0 ops Q (⟨some d,.move x,ty,pos,after,none⟩::rest) env H:=Yqx hx hn h
theorem zs2{x:Operand}(h:VL Tryz.prog m n B w0 ops Q rest ((d,v)::env) H)(hx:evo env x=some v:=by exact rfl)(hn:Nat.ble (d+1) n.k=true:=by exact rfl):VL Tryz.prog m n B w0 ops Q (⟨some d,.assign x,ty,pos,after,none⟩::rest) env H:=Yl9 hx hn h
variable {op:Op}{j f g i tx cap e size bytes len q id:Nat}{oj o:Oper}
theorem zs3{m:Mode}{d:Nat}{ty:TypeId}{pos:String}{after:Array Edge}{s:Nat}{b:Bool}(h:VL Tryz.prog m n B w0 ops Q rest ((d,undef)::env) H)(hj:ops[j]? =some oj:=by exact rfl)(hs:oj.dst=some s:=by exact rfl)(hv:get env s=some v:=by exact rfl)(hne:notB v b=true:=by exact rfl)(hn:Nat.ble (d+1) n.k=true:=by exact rfl):VL Tryz.prog m n B w0 ops Q (⟨some d,op,ty,pos,after,some (j,b)⟩::rest) env H:=YgY hj hs hv hne hn h
theorem zs4{m:Mode}{dst:Option Tmp}{ty:TypeId}{pos:String}{after:Array Edge}{s:Nat}{b:Bool}(h:VL Tryz.prog m n B w0 ops Q (⟨dst,op,ty,pos,after,none⟩::rest) env H)(hj:ops[j]? =some oj:=by exact rfl)(hs:oj.dst=some s:=by exact rfl)(hv:get env s=some (.bool b):=by exact rfl):VL Tryz.prog m n B w0 ops Q (⟨dst,op,ty,pos,after,some (j,b)⟩::rest) env H:=YfG hj hs hv h
theorem zs5{x:Operand}{p:Addr}(h:VL Tryz.prog m n B w0 ops Q rest ((d,.pointer (some p))::env) H)(hx:evo env x=some (.pointer (some p)):=by exact rfl)(hn:Nat.ble (d+1) n.k=true:=by exact rfl):VL Tryz.prog m n B w0 ops Q (⟨some d,.nilCheck x,ty,pos,after,none⟩::rest) env H:=Yg3 hx hn h
theorem zs6{s k:Nat}{x:Operand}(h:VL Tryz.prog m n B w0 ops Q rest ((d,.pointer (some ⟨g,i+k,none⟩))::env) H)(hx:evo env x=some (.pointer (some ⟨g,i,none⟩)):=by exact rfl)(hf:Og T.fo s f=some k:=by exact rfl)(hn:Nat.ble (d+1) n.k=true:=by exact rfl):VL Tryz.prog m n B w0 ops Q (⟨some d,.fieldAddr s x f,ty,pos,after,none⟩::rest) env H:=YfE T hx hf hn h
variable {cs:Array Value}{tt src dst:TypeId}{fr:Nat×Nat}
theorem zs7{t:Nat}{x:Operand}(h:VL Tryz.prog m n B w0 ops Q rest ((d,v)::env) H)(hx:evo env x=some (.pointer (some ⟨g,i,none⟩)):=by exact rfl)(hm:blk g (.cells cs tt fr)∈H:=by(exact zm;done))(hv:nth cs.toList i=some v:=by exact rfl)(ht:look T.sc t=some ():=by exact rfl)(hn:Nat.ble (d+1) n.k=true:=by exact rfl):VL Tryz.prog m n B w0 ops Q (⟨some d,.load t x,ty,pos,after,none⟩::rest) env H:=Yqu T hx hm hv ht hn h
theorem zs8{t k:Nat}{x:Operand}(h:VL Tryz.prog m n B w0 ops Q rest ((d,.agg cs)::env) H)(hx:evo env x=some (.pointer (some ⟨g,0,none⟩)):=by exact rfl)(hm:blk g (.cells cs tt fr)∈H:=by(exact zm;done))(ht:look T.ag t=some k:=by exact rfl)(hk:cs.size=k:=by exact rfl)(hn:Nat.ble (d+1) n.k=true:=by exact rfl):VL Tryz.prog m n B w0 ops Q (⟨some d,.load t x,ty,pos,after,none⟩::rest) env H:=YdW T hx hm ht hk hn h
variable {A:Option Addr}
theorem zs9{x:Operand}{k:Nat}{es:Nat×Nat×Nat}(h:VL Tryz.prog m n B w0 ops Q rest ((d,.int .i64 k)::env) H)(hx:evo env x=some (.slice A k cap):=by exact rfl)(ht:look T.sl tx=some es:=by exact rfl)(hn:Nat.ble (d+1) n.k=true:=by exact rfl):VL Tryz.prog m n B w0 ops Q (⟨some d,.call ⟨.builtin .len,#[x],#[tx]⟩,ty,pos,after,none⟩::rest) env H:=Ysz T hx ht hn h
variable {xs cs':List Value}{ki yk:IntKind}
theorem zs10{t:Nat}{x y:Operand}{k:Nat}{i:Int}(h:VL Tryz.prog m n B w0 ops Q rest ((d,sptr A (i.toNat*size))::env) H)(hx:evo env x=some (.slice A k cap):=by exact rfl)(hm:sl e size A k cap xs∈H:=by(exact zm;done))(hy:evo env y=some (.int ki i):=by exact rfl)(ht:look T.sl t=some (e,size,bytes):=by exact rfl)(hn:Nat.ble (d+1) n.k=true:=by exact rfl)(hi:0<=i/\i<k:=by omega):VL Tryz.prog m n B w0 ops Q (⟨some d,.indexAddr t x y,ty,pos,after,none⟩::rest) env H:=YgZ T hx hm hy ht hn hi h
variable {c:Operand}
theorem zs11{x y:Operand}(h:VL Tryz.prog m n B w0 ops Q rest ((d,v)::env) H)(hc:evo env c=some (.bool true):=by exact rfl)(hx:evo env x=some v:=by exact rfl)(hn:Nat.ble (d+1) n.k=true:=by exact rfl):VL Tryz.prog m n B w0 ops Q (⟨some d,.pick c x y,ty,pos,after,none⟩::rest) env H:=YfJ hc hx hn h
theorem zs12{x y:Operand}(h:VL Tryz.prog m n B w0 ops Q rest ((d,v)::env) H)(hc:evo env c=some (.bool false):=by exact rfl)(hx:evo env y=some v:=by exact rfl)(hn:Nat.ble (d+1) n.k=true:=by exact rfl):VL Tryz.prog m n B w0 ops Q (⟨some d,.pick c x y,ty,pos,after,none⟩::rest) env H:=YdX hc hx hn h
theorem zs13{x:Operand}{vs:Array Value}(h:VL Tryz.prog m n B w0 ops Q rest ((d,v)::env) H)(hx:evo env x=some (.tuple vs):=by exact rfl)(hv:nth vs.toList i=some v:=by exact rfl)(hn:Nat.ble (d+1) n.k=true:=by exact rfl):VL Tryz.prog m n B w0 ops Q (⟨some d,.extract x i,ty,pos,after,none⟩::rest) env H:=Yjd hx hv hn h
theorem zs14{tx:TypeId}(h:VL Tryz.prog m n B w0 ops Q rest ((d,.int .i64 s.size)::env) H)(hx:evo env x=some (.string s):=by exact rfl)(ht:look T.st tx=some ():=by exact rfl)(hn:Nat.ble (d+1) n.k=true:=by exact rfl):VL Tryz.prog m n B w0 ops Q (⟨some d,.call ⟨.builtin .len,#[x],#[tx]⟩,ty,pos,after,none⟩::rest) env H:=YqC T hx ht hn h
theorem zs15(h1:a=b->VL Tryz.prog m n B w0 ops Q rest ((d,.bool true)::env) H)(h2:a≠b->VL Tryz.prog m n B w0 ops Q rest ((d,.bool false)::env) H)(hx:evo env x=some (.int k a):=by exact rfl)(hy:evo env y=some (.int k b):=by exact rfl)(hn:Nat.ble (d+1) n.k=true:=by exact rfl):VL Tryz.prog m n B w0 ops Q (⟨some d,.binOp .eql xt x y yt,ty,pos,after,none⟩::rest) env H:=Ysw hx hy hn h1 h2
theorem zs16(h1:a≠b->VL Tryz.prog m n B w0 ops Q rest ((d,.bool true)::env) H)(h2:a=b->VL Tryz.prog m n B w0 ops Q rest ((d,.bool false)::env) H)(hx:evo env x=some (.int k a):=by exact rfl)(hy:evo env y=some (.int k b):=by exact rfl)(hn:Nat.ble (d+1) n.k=true:=by exact rfl):VL Tryz.prog m n B w0 ops Q (⟨some d,.binOp .neq xt x y yt,ty,pos,after,none⟩::rest) env H:=YsF hx hy hn h1 h2
theorem zs17(h1:a<b->VL Tryz.prog m n B w0 ops Q rest ((d,.bool true)::env) H)(h2:b<=a->VL Tryz.prog m n B w0 ops Q rest ((d,.bool false)::env) H)(hx:evo env x=some (.int k a):=by exact rfl)(hy:evo env y=some (.int k b):=by exact rfl)(hn:Nat.ble (d+1) n.k=true:=by exact rfl):VL Tryz.prog m n B w0 ops Q (⟨some d,.binOp .lss xt x y yt,ty,pos,after,none⟩::rest) env H:=YsB hx hy hn h1 h2
theorem zs18(h1:a<=b->VL Tryz.prog m n B w0 ops Q rest ((d,.bool true)::env) H)(h2:b<a->VL Tryz.prog m n B w0 ops Q rest ((d,.bool false)::env) H)(hx:evo env x=some (.int k a):=by exact rfl)(hy:evo env y=some (.int k b):=by exact rfl)(hn:Nat.ble (d+1) n.k=true:=by exact rfl):VL Tryz.prog m n B w0 ops Q (⟨some d,.binOp .leq xt x y yt,ty,pos,after,none⟩::rest) env H:=YsA hx hy hn h1 h2
theorem zs19(h1:b<a->VL Tryz.prog m n B w0 ops Q rest ((d,.bool true)::env) H)(h2:a<=b->VL Tryz.prog m n B w0 ops Q rest ((d,.bool false)::env) H)(hx:evo env x=some (.int k a):=by exact rfl)(hy:evo env y=some (.int k b):=by exact rfl)(hn:Nat.ble (d+1) n.k=true:=by exact rfl):VL Tryz.prog m n B w0 ops Q (⟨some d,.binOp .gtr xt x y yt,ty,pos,after,none⟩::rest) env H:=Ysy hx hy hn h1 h2
theorem zs20(h1:b<=a->VL Tryz.prog m n B w0 ops Q rest ((d,.bool true)::env) H)(h2:a<b->VL Tryz.prog m n B w0 ops Q rest ((d,.bool false)::env) H)(hx:evo env x=some (.int k a):=by exact rfl)(hy:evo env y=some (.int k b):=by exact rfl)(hn:Nat.ble (d+1) n.k=true:=by exact rfl):VL Tryz.prog m n B w0 ops Q (⟨some d,.binOp .geq xt x y yt,ty,pos,after,none⟩::rest) env H:=Ysx hx hy hn h1 h2
variable {tys:Array TypeId}
theorem zs25{x y:Operand}{k:IntKind}{a b:Int}(h1:b<a->VL Tryz.prog m n B w0 ops Q rest ((d,.int k b)::env) H)(h2:a<=b->VL Tryz.prog m n B w0 ops Q rest ((d,.int k a)::env) H)(hx:evo env x=some (.int k a):=by exact rfl)(hy:evo env y=some (.int k b):=by exact rfl)(hn:Nat.ble (d+1) n.k=true:=by exact rfl):VL Tryz.prog m n B w0 ops Q (⟨some d,.call ⟨.builtin .min,#[x,y],tys⟩,ty,pos,after,none⟩::rest) env H:=Yqw hx hy hn h1 h2
theorem zs30(h:VL Tryz.prog m n B w0 ops Q rest ((d,.int .i64 (a+b))::env) H)(hx:evo env x=some (.int .i64 a):=by exact rfl)(hy:evo env y=some (.int .i64 b):=by exact rfl)(hn:Nat.ble (d+1) n.k=true:=by exact rfl)(hb: -9223372036854775808<=a+b/\a+b<=9223372036854775807:=by omega):VL Tryz.prog m n B w0 ops Q (⟨some d,.binOp .add xt x y yt,ty,pos,after,none⟩::rest) env H:=Ysv hx hy hn hb h
theorem zs31(h:VL Tryz.prog m n B w0 ops Q rest ((d,.int .i64 (a-b))::env) H)(hx:evo env x=some (.int .i64 a):=by exact rfl)(hy:evo env y=some (.int .i64 b):=by exact rfl)(hn:Nat.ble (d+1) n.k=true:=by exact rfl)(hb: -9223372036854775808<=a-b/\a-b<=9223372036854775807:=by omega):VL Tryz.prog m n B w0 ops Q (⟨some d,.binOp .sub xt x y yt,ty,pos,after,none⟩::rest) env H:=YsK hx hy hn hb h
theorem zs32(h:VL Tryz.prog m n B w0 ops Q rest ((d,.int .i64 (a*b))::env) H)(hx:evo env x=some (.int .i64 a):=by exact rfl)(hy:evo env y=some (.int .i64 b):=by exact rfl)(hn:Nat.ble (d+1) n.k=true:=by exact rfl)(hb: -9223372036854775808<=a*b/\a*b<=9223372036854775807:=by first|exact Ypx (by omega) (by omega) (by omega) (by omega)|exact Yre (by omega) (by omega) (by omega) (by omega)|omega):VL Tryz.prog m n B w0 ops Q (⟨some d,.binOp .mul xt x y yt,ty,pos,after,none⟩::rest) env H:=YsD hx hy hn hb h
theorem zs36(h:VL Tryz.prog m n B w0 ops Q rest ((d,.int .i64 (a/b))::env) H)(hx:evo env x=some (.int .i64 a):=by exact rfl)(hy:evo env y=some (.int .i64 b):=by exact rfl)(hn:Nat.ble (d+1) n.k=true:=by exact rfl)(hb:0<=a/\a<=9223372036854775807/\1<=b:=by omega):VL Tryz.prog m n B w0 ops Q (⟨some d,.binOp .quo xt x y yt,ty,pos,after,none⟩::rest) env H:=YsG hx hy hn hb h
theorem zs37(h:VL Tryz.prog m n B w0 ops Q rest ((d,.int k (a%b))::env) H)(hx:evo env x=some (.int k a):=by exact rfl)(hy:evo env y=some (.int k b):=by exact rfl)(hn:Nat.ble (d+1) n.k=true:=by exact rfl)(hb:0<=a/\1<=b:=by omega):VL Tryz.prog m n B w0 ops Q (⟨some d,.binOp .rem xt x y yt,ty,pos,after,none⟩::rest) env H:=YsH hx hy hn hb h
theorem zs38{D:Int}(h:VL Tryz.prog m n B w0 ops Q rest ((d,.int k (a/D))::env) H)(hx:evo env x=some (.int k a):=by exact rfl)(hn:Nat.ble (d+1) n.k=true:=by exact rfl)(hb:0<=b/\b<=k.bits:=by(simp only[IntKind.bits];omega))(hD:(2:Int)^b.toNat=D:=by(simp only[Int.reduceToNat,Int.reducePow];rfl)):VL Tryz.prog m n B w0 ops Q (⟨some d,.binOp .shr xt x (.const (.int yk b)) yt,ty,pos,after,none⟩::rest) env H:=Yoq hx hn hb hD h
theorem zs40(h:VL Tryz.prog m n B w0 ops Q rest ((d,.int k (k.wrap (a*2^b.toNat)))::env) H)(hx:evo env x=some (.int k a):=by exact rfl)(hy:evo env y=some (.int yk b):=by exact rfl)(hn:Nat.ble (d+1) n.k=true:=by exact rfl)(hb:0<=b/\b<=k.bits:=by(simp only[IntKind.bits];omega)):VL Tryz.prog m n B w0 ops Q (⟨some d,.binOp .shl xt x y yt,ty,pos,after,none⟩::rest) env H:=YsI hx hy hn hb h
theorem zs44{j:IntKind}(h:VL Tryz.prog m n B w0 ops Q rest ((d,.int .i64 a)::env) H)(hx:evo env x=some (.int k a):=by exact rfl)(hs:look T.ik src=some j:=by exact rfl)(ht:look T.ik dst=some .i64:=by exact rfl)(hn:Nat.ble (d+1) n.k=true:=by exact rfl)(hb: -9223372036854775808<=a/\a<=9223372036854775807:=by omega):VL Tryz.prog m n B w0 ops Q (⟨some d,.convert src dst x,ty,pos,after,none⟩::rest) env H:=Yjc T hx hs ht hn hb h
theorem zs45{j:IntKind}(h:VL Tryz.prog m n B w0 ops Q rest ((d,.int .u64 a)::env) H)(hx:evo env x=some (.int k a):=by exact rfl)(hs:look T.ik src=some j:=by exact rfl)(ht:look T.ik dst=some .u64:=by exact rfl)(hn:Nat.ble (d+1) n.k=true:=by exact rfl)(hb:0<=a/\a<=18446744073709551615:=by omega):VL Tryz.prog m n B w0 ops Q (⟨some d,.convert src dst x,ty,pos,after,none⟩::rest) env H:=YgW T hx hs ht hn hb h
theorem zs47{x:Operand}{xt:TypeId}(h:VL Tryz.prog m n B w0 ops Q rest ((d,.bool false)::env) H)(hx:evo env x=some (.bool true):=by exact rfl)(hn:Nat.ble (d+1) n.k=true:=by exact rfl):VL Tryz.prog m n B w0 ops Q (⟨some d,.unOp .not xt x,ty,pos,after,none⟩::rest) env H:=Yg4 hx hn h
theorem zs48{x:Operand}{xt:TypeId}(h:VL Tryz.prog m n B w0 ops Q rest ((d,.bool true)::env) H)(hx:evo env x=some (.bool false):=by exact rfl)(hn:Nat.ble (d+1) n.k=true:=by exact rfl):VL Tryz.prog m n B w0 ops Q (⟨some d,.unOp .not xt x,ty,pos,after,none⟩::rest) env H:=YfH hx hn h
theorem zs49{t tt:Nat}{x y:Operand}{k:Nat}{mm c:Nat}{K:Option Addr->Nat->List HP}(h:∀A' cap',VL Tryz.prog none n B w0 ops Q rest ((d,.slice A' (k+mm) cap')::env) (K A' cap'))(hx:evo env x=some (.slice A k cap):=by exact rfl)(ht:look T.sl t=some (e,size,bytes):=by exact rfl)(hy:evo env y=some (.slice (some ⟨g,0,none⟩) mm c):=by exact rfl)(hb:blk g (.cells cs tt fr)∈H:=by(exact zm;done))(hk:cs.size=mm*size:=by exact rfl)(h1:Ju cs.toList=true:=by exact rfl)(hn:Nat.ble (d+1) n.k=true:=by exact rfl)(hu:∀A' cap',Upd (sl e size A k cap xs) (sl e size A' (k+mm) cap' (xs++cs.toList)) H (K A' cap'):=by((intro _ _;exact zd);done))(hby:(k+mm)*bytes<=140737488355328:=by omega):VL Tryz.prog none n B w0 ops Q (⟨some d,.call ⟨.builtin .append,#[x,y],#[t,t]⟩,ty,pos,after,none⟩::rest) env H:=Yl8 T hx ht hy hb hk h1 hn hu hby h
variable {K F:List HP}
theorem zs50{t:Nat}{cs:List Value}{x y:Operand}(h:VL Tryz.prog none n B w0 ops Q rest env K)(hx:evo env x=some (.pointer (some ⟨g,i,none⟩)):=by exact rfl)(hy:evo env y=some v:=by exact rfl)(h1:v.oneCell'=true:=by exact rfl)(hu:Upd (blk g (.cells cs.toArray tt (0,0))) (blk g (.cells cs'.toArray tt (0,0))) H K:=by(exact zd;done))(hs:Yel cs i v cs':=by(exact zt;done))(ht:look T.sc t=some ():=by exact rfl):VL Tryz.prog none n B w0 ops Q (⟨none,.store t x y,ty,pos,after,none⟩::rest) env H:=Yor T hx hy h1 hu hs ht h
theorem zs51{t k:Nat}{cs vs:List Value}{x y:Operand}(h:VL Tryz.prog none n B w0 ops Q rest env K)(hx:evo env x=some (.pointer (some ⟨g,i,none⟩)):=by exact rfl)(hy:evo env y=some (.agg vs.toArray):=by exact rfl)(h1:Ju vs=true:=by exact rfl)(hu:Upd (blk g (.cells cs.toArray tt (0,0))) (blk g (.cells cs'.toArray tt (0,0))) H K:=by(exact zd;done))(hs:PutAt cs i vs cs':=by((repeat(first|exact PutAt.nil|(apply PutAt.cons;exact zt)));done))(ht:look T.ag t=some k:=by exact rfl)(hk:vs.length=k:=by exact rfl):VL Tryz.prog none n B w0 ops Q (⟨none,.store t x y,ty,pos,after,none⟩::rest) env H:=YfL T hx hy h1 hu hs ht hk h
theorem zs52{t:TypeId}{x:Operand}(h:∀g,VL Tryz.prog none n B w0 ops Q rest ((d,.pointer (some ⟨g,0,none⟩))::env) (blk g (.cells cs t (0,0))::H))(hx:evo env x=some (.agg cs):=by exact rfl)(hn:Nat.ble (d+1) n.k=true:=by exact rfl):VL Tryz.prog none n B w0 ops Q (⟨some d,.box t x,ty,pos,after,none⟩::rest) env H:=YR hx hn h
theorem zs53{t:TypeId}{x:Operand}(h:∀g,VL Tryz.prog none n B w0 ops Q rest ((d,.pointer (some ⟨g,0,none⟩))::env) (blk g (.cells #[v] t (0,0))::H))(hx:evo env x=some v:=by exact rfl)(h1:v.cells=#[v]:=by exact rfl)(hn:Nat.ble (d+1) n.k=true:=by exact rfl):VL Tryz.prog none n B w0 ops Q (⟨some d,.box t x,ty,pos,after,none⟩::rest) env H:=Yjb hx h1 hn h
theorem zs54{t:TypeId}(h:∀g,VL Tryz.prog none n B w0 ops Q rest ((d,.pointer (some ⟨g,0,none⟩))::env) (blk g (.cells cs t (0,0))::H))(hz:look T2.zt t=some z:=by exact rfl)(hc:z.cells=cs:=by exact rfl)(hn:Nat.ble (d+1) n.k=true:=by exact rfl):VL Tryz.prog none n B w0 ops Q (⟨some d,.alloc t,ty,pos,after,none⟩::rest) env H:=Yl6 T2 hz hc hn h
variable {parts:List (Nat×Operand)}{ps:List (Nat×Value)}
theorem zs55{t:TypeId}{zc:Array Value}{pl:List (Nat×Nat)}{cs:List Value}(h:VL Tryz.prog m n B w0 ops Q rest ((d,.agg cs.toArray)::env) H)(hp:Wu env parts=some ps:=by exact rfl)(hz:look T2.zt t=some (.agg zc):=by exact rfl)(hl:look T2.bt t=some pl:=by exact rfl)(hf:fillL (pl[·]?) zc.toList ps=some cs:=by exact rfl)(hn:Nat.ble (d+1) n.k=true:=by exact rfl):VL Tryz.prog m n B w0 ops Q (⟨some d,.build t parts.toArray,ty,pos,after,none⟩::rest) env H:=Yma T2 hp hz hl hf hn h
theorem zs56{t:Nat}{zl cs:List Value}(h:∀g,VL Tryz.prog none n B w0 ops Q rest ((d,.slice (some ⟨g,0,none⟩) len len)::env) (blk g (.cells cs.toArray e (0,0))::H))(ht:look T.sl t=some (e,size,bytes):=by exact rfl)(hp:Wu env parts=some ps:=by exact rfl)(hz:look T2.zt e=some z:=by exact rfl)(hzc:z.cells=zl.toArray:=by exact rfl)(hf:fillL (λi=>some (i*size,size)) (repZ len zl) ps=some cs:=by exact rfl)(hn:Nat.ble (d+1) n.k=true:=by exact rfl)(hl:(Nat.blt 0 (len*size)&&Nat.beq zl.length size&&Nat.ble (len*size) 1000000)=true:=by exact rfl):VL Tryz.prog none n B w0 ops Q (⟨some d,.buildSlice t len parts.toArray,ty,pos,after,none⟩::rest) env H:=VO T T2 ht hp hz hzc hf hn hl h
variable {α:Type}
theorem zs57{f:α->List Value}{l:List α}{t:Nat}{x y:Operand}{i:Int}(h:VL Tryz.prog m n B w0 ops Q rest ((d,sptr A (i.toNat*size))::env) H)(hx:evo env x=some (.slice A l.length cap):=by exact rfl)(hy:evo env y=some (.int ki i):=by exact rfl)(hr:Rd B w0 H A (l.flatMap f):=by(exact zr;done))(ht:look T.sl t=some (e,size,bytes):=by exact rfl)(hq:∀a,(f a).length=size:=by exactλ_=>rfl)(h0:Nat.blt 0 size=true:=by exact rfl)(hn:Nat.ble (d+1) n.k=true:=by exact rfl)(hi:0<=i/\i<l.length:=by omega):VL Tryz.prog m n B w0 ops Q (⟨some d,.indexAddr t x y,ty,pos,after,none⟩::rest) env H:=ZE T hx hy hr ht hq h0 hn hi h
theorem zs58{f:α->List Value}{l:List α}{s fl k:Nat}{x:Operand}(h:VL Tryz.prog m n B w0 ops Q rest ((d,sptr A (i*q+k))::env) H)(hx:evo env x=some (sptr A (i*q)):=by exact rfl)(hr:Rd B w0 H A (l.flatMap f):=by(exact zr;done))(hq:∀a,(f a).length=q:=by exactλ_=>rfl)(h0:Nat.blt 0 q=true:=by exact rfl)(hf:Og T.fo s fl=some k:=by exact rfl)(hn:Nat.ble (d+1) n.k=true:=by exact rfl)(hi:i<l.length:=by omega):VL Tryz.prog m n B w0 ops Q (⟨some d,.fieldAddr s x fl,ty,pos,after,none⟩::rest) env H:=YfF T hx hr hq h0 hf hn hi h
theorem zs59{f:α->List Value}{l:List α}{t o:Nat}{b:α}{x:Operand}(h:VL Tryz.prog m n B w0 ops Q rest ((d,v)::env) H)(hx:evo env x=some (sptr A (i*q+o)):=by exact rfl)(hr:Rd B w0 H A (l.flatMap f):=by(exact zr;done))(hb:l[i]? =some b:=by assumption)(hq:∀a,(f a).length=q:=by exactλ_=>rfl)(ho:Nat.blt o q=true:=by exact rfl)(hv:nth (f b) o=some v:=by exact rfl)(ht:look T.sc t=some ():=by exact rfl)(hn:Nat.ble (d+1) n.k=true:=by exact rfl):VL Tryz.prog m n B w0 ops Q (⟨some d,.load t x,ty,pos,after,none⟩::rest) env H:=Ycd T hx hr hb hq ho hv ht hn h
theorem zs60{f:α->List Value}{l:List α}{t:Nat}{b:α}{x:Operand}(h:VL Tryz.prog m n B w0 ops Q rest ((d,v)::env) H)(hx:evo env x=some (sptr A (i*q)):=by exact rfl)(hr:Rd B w0 H A (l.flatMap f):=by(exact zr;done))(hb:l[i]? =some b:=by assumption)(hq:∀a,(f a).length=q:=by exactλ_=>rfl)(ho:Nat.blt 0 q=true:=by exact rfl)(hv:nth (f b) 0=some v:=by exact rfl)(ht:look T.sc t=some ():=by exact rfl)(hn:Nat.ble (d+1) n.k=true:=by exact rfl):VL Tryz.prog m n B w0 ops Q (⟨some d,.load t x,ty,pos,after,none⟩::rest) env H:=Jj T hx hr hb hq ho hv ht hn h
theorem zs61{f:α->List Value}{l:List α}{t:Nat}{b:α}{x:Operand}(h:VL Tryz.prog m n B w0 ops Q rest ((d,.agg (f b).toArray)::env) H)(hx:evo env x=some (sptr A (i*q)):=by exact rfl)(hr:Rd B w0 H A (l.flatMap f):=by(exact zr;done))(hb:l[i]? =some b:=by assumption)(hq:∀a,(f a).length=q:=by exactλ_=>rfl)(ho:Nat.blt 0 q=true:=by exact rfl)(ht:look T.ag t=some q:=by exact rfl)(hn:Nat.ble (d+1) n.k=true:=by exact rfl):VL Tryz.prog m n B w0 ops Q (⟨some d,.load t x,ty,pos,after,none⟩::rest) env H:=Ycc T hx hr hb hq ho ht hn h
theorem zs62{x y:Operand}{k:IntKind}{a b:Int}(h1:a<b->VL Tryz.prog m n B w0 ops Q rest ((d,.int k b)::env) H)(h2:b<=a->VL Tryz.prog m n B w0 ops Q rest ((d,.int k a)::env) H)(hx:evo env x=some (.int k a):=by exact rfl)(hy:evo env y=some (.int k b):=by exact rfl)(hn:Nat.ble (d+1) n.k=true:=by exact rfl):VL Tryz.prog m n B w0 ops Q (⟨some d,.call ⟨.builtin .max,#[x,y],tys⟩,ty,pos,after,none⟩::rest) env H:=Yqv hx hy hn h1 h2
theorem zs65(h:VQ n B w0 Q .normal env H):VL Tryz.prog none n B w0 ops Q [] env H:=Yoj h
theorem zs66(h:VQ n B w0 Q .normal env H):VL Tryz.prog (some none) n B w0 ops Q [] env H:=Yqz h
theorem zs68{y:Code}(h:VC Tryz.prog n B w0 y Q env H):VQ n B w0 (Exit.then (wpR Tryz.prog n.r y Q) Q) .normal env H:=YfN h
theorem zs69{x y:Code}(h:VC Tryz.prog n B w0 x (Exit.then (wpR Tryz.prog n.r y Q) Q) env H):VC Tryz.prog n B w0 (.seq x y) Q env H:=Xt h
variable {l:List Oper}
theorem zs70(h:VL Tryz.prog none n B w0 l.toArray Q l env H):VC Tryz.prog n B w0 (.region id l.toArray false) Q env H:=Y0 h
theorem zs71{x y:Code}(h:VC Tryz.prog n B w0 x Q env H)(hc:evo env c=some (.bool true):=by exact rfl):VC Tryz.prog n B w0 (.cond c x y) Q env H:=Yfy hc h
theorem zs72{x y:Code}(h:VC Tryz.prog n B w0 y Q env H)(hc:evo env c=some (.bool false):=by exact rfl):VC Tryz.prog n B w0 (.cond c x y) Q env H:=YdU hc h
theorem zs73{c:Code}(h:VC Tryz.prog n B w0 c (Exit.inBlock id Q) env H):VC Tryz.prog n B w0 (.block id c) Q env H:=YgQ h
theorem zs74(h:VQ n B w0 Q .ret env H):VC Tryz.prog n B w0 .ret Q env H:=Ysu h
theorem zs75(h:VQ n B w0 Q (.exit id) env H):VC Tryz.prog n B w0 (.exit id) Q env H:=Yqm h
theorem zs76(h:VQ n B w0 Q .normal env H):VC Tryz.prog n B w0 .skip Q env H:=Yqn h
theorem zs77{K:Act->World->Prop}(h:VQ n B w0 Q .ret env H):VQ n B w0 (Exit.then K Q) .ret env H:=Yhd h
theorem zs78(h:VQ n B w0 Q .ret env H):VQ n B w0 (Exit.inBlock id Q) .ret env H:=YfM h
theorem zs79(h:VQ n B w0 Q .normal env H):VQ n B w0 (Exit.inBlock id Q) .normal env H:=YbM h
theorem zs80{K:Act->World->Prop}(h:VQ n B w0 Q (.exit id) env H):VQ n B w0 (Exit.then K Q) (.exit id) env H:=YfO h
theorem zs81(h:VQ n B w0 Q .normal env H):VQ n B w0 (Exit.inBlock id Q) (.exit id) env H:=YdY h
theorem zs82{id':Nat}(h:VQ n B w0 Q (.exit id') env H)(hne:Nat.beq id' id=false:=by exact rfl):VQ n B w0 (Exit.inBlock id Q) (.exit id') env H:=Ych hne h
theorem zs83(h:VL Tryz.prog (some none) n B w0 l.toArray Q l env H)(hq:(l.all λo=>!eff o)=true:=by exact rfl)(hm:Tryz.prog.follows .mixedOrders=true:=by kernel_rfl)(hB:Region.lexB .any l.toArray=true:=by kernel_rfl):VC Tryz.prog n B w0 (.region id l.toArray true) Q env H:=Yn9 hq hm hB h
theorem zs84(h:VL Tryz.prog (some none) n B w0 l.toArray Q l env H)(hq:(l.all λo=>!effW o)=true:=by exact rfl)(hm:Tryz.prog.follows .mixedOrders=true:=by kernel_rfl)(hB:Region.lexB .any l.toArray=true:=by kernel_rfl):VC Tryz.prog n B w0 (.region id l.toArray true) Q env H:=Yn8 hq hm hB h
theorem zs87{HF:List HP}(h:VL Tryz.prog none n B w0 ops (YgO Tryz.prog B w0 ops Q H rest) [o] env HF)(he:eff o=true:=by exact rfl)(hg:o.guard=none:=by exact rfl)(happ:App H F HF:=by(exact zp;done)):VL Tryz.prog (some (some F)) n B w0 ops Q (o::rest) env H:=Yqs he hg happ h
theorem zs90{t:OT}(h:VL Tryz.prog (some (some F)) n B w0 ops (WU Tryz.prog B w0 ops l Q H t) [o] env H)(ho:nthO l i=o:=by(simp only[nthO];rfl)):VT Tryz.prog n B w0 ops l Q (.n1 i t) env H F:=Ytp ho h
theorem zs91{t u:OT}{o':Oper}(h:VL Tryz.prog (some (some F)) n B w0 ops (WU Tryz.prog B w0 ops l Q H t) [o] env H)(h':VL Tryz.prog (some (some F)) n B w0 ops (WU Tryz.prog B w0 ops l Q H u) [o'] env H)(ho:nthO l i=o:=by(simp only[nthO];rfl))(ho':nthO l j=o':=by(simp only[nthO];rfl)):VT Tryz.prog n B w0 ops l Q (.n2 i t j u) env H F:=Ytq ho ho' h h'
theorem zs93(h:VL Tryz.prog none n B w0 ops Q l env H):VQ n B w0 (Jd Tryz.prog ops Q l) .normal env H:=Yox h
theorem zs94(h:VQ n B w0 Q .normal env H):VQ n B w0 (Only Q) .normal env H:=YqE h
theorem zg1{m:Mode}{d:Nat}{ty:TypeId}{pos:String}{after:Array Edge}{b:Bool}(h:VL Tryz.prog m n B w0 ops Q (⟨some d,op,ty,pos,after,some (j,b)⟩::rest) env H):VL Tryz.prog m n B w0 ops Q (⟨some d,op,ty,pos,after,some (j,b)⟩::rest) env H:=h
theorem zg2{s:Nat}{x:Operand}(h:VL Tryz.prog m n B w0 ops Q (⟨some d,.fieldAddr s x f,ty,pos,after,none⟩::rest) env H):VL Tryz.prog m n B w0 ops Q (⟨some d,.fieldAddr s x f,ty,pos,after,none⟩::rest) env H:=h
theorem zg3{t:Nat}{x:Operand}(h:VL Tryz.prog m n B w0 ops Q (⟨some d,.load t x,ty,pos,after,none⟩::rest) env H):VL Tryz.prog m n B w0 ops Q (⟨some d,.load t x,ty,pos,after,none⟩::rest) env H:=h
theorem zg4{x:Operand}(h:VL Tryz.prog m n B w0 ops Q (⟨some d,.call ⟨.builtin .len,#[x],#[tx]⟩,ty,pos,after,none⟩::rest) env H):VL Tryz.prog m n B w0 ops Q (⟨some d,.call ⟨.builtin .len,#[x],#[tx]⟩,ty,pos,after,none⟩::rest) env H:=h
theorem zg5{t:Nat}{x y:Operand}(h:VL Tryz.prog m n B w0 ops Q (⟨some d,.indexAddr t x y,ty,pos,after,none⟩::rest) env H):VL Tryz.prog m n B w0 ops Q (⟨some d,.indexAddr t x y,ty,pos,after,none⟩::rest) env H:=h
theorem zg6{x y:Operand}(h:VL Tryz.prog m n B w0 ops Q (⟨some d,.pick c x y,ty,pos,after,none⟩::rest) env H):VL Tryz.prog m n B w0 ops Q (⟨some d,.pick c x y,ty,pos,after,none⟩::rest) env H:=h
theorem zg7(h:VL Tryz.prog m n B w0 ops Q (⟨some d,.binOp .eql xt x y yt,ty,pos,after,none⟩::rest) env H):VL Tryz.prog m n B w0 ops Q (⟨some d,.binOp .eql xt x y yt,ty,pos,after,none⟩::rest) env H:=h
theorem zg8(h:VL Tryz.prog m n B w0 ops Q (⟨some d,.binOp .neq xt x y yt,ty,pos,after,none⟩::rest) env H):VL Tryz.prog m n B w0 ops Q (⟨some d,.binOp .neq xt x y yt,ty,pos,after,none⟩::rest) env H:=h
theorem zg13(h:VL Tryz.prog m n B w0 ops Q (⟨some d,.binOp .add xt x y yt,ty,pos,after,none⟩::rest) env H):VL Tryz.prog m n B w0 ops Q (⟨some d,.binOp .add xt x y yt,ty,pos,after,none⟩::rest) env H:=h
theorem zg14(h:VL Tryz.prog m n B w0 ops Q (⟨some d,.binOp .sub xt x y yt,ty,pos,after,none⟩::rest) env H):VL Tryz.prog m n B w0 ops Q (⟨some d,.binOp .sub xt x y yt,ty,pos,after,none⟩::rest) env H:=h
theorem zg15(h:VL Tryz.prog m n B w0 ops Q (⟨some d,.binOp .mul xt x y yt,ty,pos,after,none⟩::rest) env H):VL Tryz.prog m n B w0 ops Q (⟨some d,.binOp .mul xt x y yt,ty,pos,after,none⟩::rest) env H:=h
theorem zg16(h:VL Tryz.prog m n B w0 ops Q (⟨some d,.binOp .quo xt x y yt,ty,pos,after,none⟩::rest) env H):VL Tryz.prog m n B w0 ops Q (⟨some d,.binOp .quo xt x y yt,ty,pos,after,none⟩::rest) env H:=h
theorem zg17(h:VL Tryz.prog m n B w0 ops Q (⟨some d,.binOp .rem xt x y yt,ty,pos,after,none⟩::rest) env H):VL Tryz.prog m n B w0 ops Q (⟨some d,.binOp .rem xt x y yt,ty,pos,after,none⟩::rest) env H:=h
theorem zg18(h:VL Tryz.prog m n B w0 ops Q (⟨some d,.binOp .shr xt x y yt,ty,pos,after,none⟩::rest) env H):VL Tryz.prog m n B w0 ops Q (⟨some d,.binOp .shr xt x y yt,ty,pos,after,none⟩::rest) env H:=h
theorem zg19(h:VL Tryz.prog m n B w0 ops Q (⟨some d,.convert src dst x,ty,pos,after,none⟩::rest) env H):VL Tryz.prog m n B w0 ops Q (⟨some d,.convert src dst x,ty,pos,after,none⟩::rest) env H:=h
theorem zg20{x:Operand}{xt:TypeId}(h:VL Tryz.prog m n B w0 ops Q (⟨some d,.unOp .not xt x,ty,pos,after,none⟩::rest) env H):VL Tryz.prog m n B w0 ops Q (⟨some d,.unOp .not xt x,ty,pos,after,none⟩::rest) env H:=h
theorem zg21{t:Nat}{x y:Operand}(h:VL Tryz.prog m n B w0 ops Q (⟨some d,.call ⟨.builtin .append,#[x,y],#[t,t]⟩,ty,pos,after,none⟩::rest) env H):VL Tryz.prog m n B w0 ops Q (⟨some d,.call ⟨.builtin .append,#[x,y],#[t,t]⟩,ty,pos,after,none⟩::rest) env H:=h
theorem zg22{t:Nat}{x y:Operand}(h:VL Tryz.prog m n B w0 ops Q (⟨none,.store t x y,ty,pos,after,none⟩::rest) env H):VL Tryz.prog m n B w0 ops Q (⟨none,.store t x y,ty,pos,after,none⟩::rest) env H:=h
theorem zg23{t:TypeId}{x:Operand}(h:VL Tryz.prog m n B w0 ops Q (⟨some d,.box t x,ty,pos,after,none⟩::rest) env H):VL Tryz.prog m n B w0 ops Q (⟨some d,.box t x,ty,pos,after,none⟩::rest) env H:=h
theorem zg24{t:TypeId}(h:VL Tryz.prog m n B w0 ops Q (⟨some d,.alloc t,ty,pos,after,none⟩::rest) env H):VL Tryz.prog m n B w0 ops Q (⟨some d,.alloc t,ty,pos,after,none⟩::rest) env H:=h
theorem zg25{t:TypeId}(h:VL Tryz.prog m n B w0 ops Q (⟨some d,.build t parts.toArray,ty,pos,after,none⟩::rest) env H):VL Tryz.prog m n B w0 ops Q (⟨some d,.build t parts.toArray,ty,pos,after,none⟩::rest) env H:=h
theorem zg26{t:Nat}(h:VL Tryz.prog m n B w0 ops Q (⟨some d,.buildSlice t len parts.toArray,ty,pos,after,none⟩::rest) env H):VL Tryz.prog m n B w0 ops Q (⟨some d,.buildSlice t len parts.toArray,ty,pos,after,none⟩::rest) env H:=h
theorem zg27{x y:Code}(h:VC Tryz.prog n B w0 (.cond c x y) Q env H):VC Tryz.prog n B w0 (.cond c x y) Q env H:=h
theorem zg28(h:VC Tryz.prog n B w0 (.region id l.toArray true) Q env H):VC Tryz.prog n B w0 (.region id l.toArray true) Q env H:=h
theorem zg29{fn:Fn}{caps:List Operand}(h:VL Tryz.prog m n B w0 ops Q (⟨some d,.makeFunc fn #[] caps.toArray,ty,pos,after,none⟩::rest) env H):VL Tryz.prog m n B w0 ops Q (⟨some d,.makeFunc fn #[] caps.toArray,ty,pos,after,none⟩::rest) env H:=h
end
end Go.Eng
namespace Go.Proofs.YtaholidehobiiaaGreatDoor
open Go.RowKit Go.Eng Go.Nw
structure RowM where
 A:Option Addr
 cap:Nat
 xs:List Int
structure NetM where
 nodes:Int
 pA:Option Addr
 pcap:Nat
 rows:List RowM
 noise:Int
 thr:Int
 lA:Option Addr
 lcap:Nat
 links:List Lk
 mA:Option Addr
 mcap:Nat
 margin:List Int
def NetM.net(n:NetM):Net:=⟨n.nodes,n.rows.map (·.xs),n.noise,n.thr,n.links,n.margin⟩
def NetM.val(n:NetM):Value:=.agg #[.int .i64 n.nodes,.slice n.pA n.rows.length n.pcap,.int .i64 n.noise,.int .i64 n.thr,.slice n.lA n.links.length n.lcap,.slice n.mA n.margin.length n.mcap]
def rowF(r:RowM):List Value:=[.slice r.A r.xs.length r.cap]
def numF(z:Int):List Value:=[.int .i64 z]
def lkF(l:Lk):List Value:=[.int .i64 l.1,.int .i64 l.2.1,.int .i64 l.2.2]
def lkV(l:Lk):Value:=.agg #[.int .i64 l.1,.int .i64 l.2.1,.int .i64 l.2.2]
structure NetM.In(B:Nat)(w0:World)(H:List HP)(n:NetM):Prop where
 pw:Rd B w0 H n.pA (n.rows.flatMap rowF)
 rw_:∀r∈n.rows,Rd B w0 H r.A (r.xs.flatMap numF)
 lk:Rd B w0 H n.lA (n.links.flatMap lkF)
 mg:Rd B w0 H n.mA (n.margin.flatMap numF)
 s1:n.rows.length<=9223372036854775807
 s2:∀r∈n.rows,r.xs.length<=9223372036854775807
 s3:n.links.length<=9223372036854775807
 s4:n.margin.length<=9223372036854775807
variable {B cap:Nat}{w0 w:World}{H:List HP}
theorem NetM.In.cons{n:NetM}{X:HP}(h:n.In B w0 H):n.In B w0 (X::H):=
 ⟨h.pw.cons,λr hr=>(h.rw_ r hr).cons,h.lk.cons,h.mg.cons,h.s1,h.s2,h.s3,h.s4⟩
variable {α:Type}{A:Option Addr}
theorem Yd8(val:α->Value)(p:α->Bool)(l:List α)(f:Nat)(cs:List Value)(hen:∀xs w,(callFunc f xs).run Tryz.prog w=.ok (.enter f xs) w)(hlen:l.length<=9223372036854775807)(hr:Rd B w0 H A (l.flatMap λa=>[val a]))
 (hp:∀a∈l,∀w,St B w0 H w->Calls Tryz.prog f ([val a]++cs).toArray w (Post B w0 λv K=>v=.bool (p a)/\K=H)) (hw:St B w0 H w):
 Calls Tryz.prog 341 [.slice A l.length cap,.func (.func f) #[] cs.toArray].toArray w (Post B w0 λv K=>v=.int .i64 (Yn p l 0)/\K=H):=by
 refine Yc Tryz.func341 Tryz.ntmps341 rfl rfl hw ?_
 repeat'(first|refine zgb ?_|fail)
 refine Yi (λ(k:Nat)=>[(8,.int .i64 k),(7,.int .i64 l.length),(0,.slice A l.length cap),(1,.func (.func f) #[] cs.toArray)]) (λ_=>H) (λk=>k<=l.length/\Yn p l 0=Yn p (l.drop k) k) (λk=>l.length-k) 0 ⟨Tu _,by simp⟩ ?_ (λw hw=>hw) ?_
 ·exact zu
 rintro k ⟨hk,hi⟩ K hK
 by_cases hlt:k<l.length
 ·obtain⟨a,ha⟩:∃a,l[k]? =some a:=⟨_,Ta hlt⟩
  have hpa:=hp a (Tf ha)
  rw[JA p l ha]at hi
  repeat'(first|((first|apply Yz (cs:=cs));exact rfl;exact hen;exact za;exact rfl;exactλ_ hw=>hpa _ hw)|refine zgd ?_|(refine zge ?_ ?_<;>intro _<;>try exact zo)|fail)
  cases hpv:p a
  ·rw[hpv]at hi
   repeat'(first|refine zgc ?_|fail)
   apply hK (k+1)
   ·exact⟨by omega,hi⟩
   ·omega
   ·exact zu
   ·exactλw hw=>hw
  ·rw[hpv]at hi
   repeat'(first|refine zgd ?_|fail)
   apply Yd;exact rfl;exact rfl
   exact⟨by rw[hi];rfl,rfl⟩
 ·repeat'(first|refine zgc ?_|(refine zge ?_ ?_<;>intro _<;>try exact zo)|fail)
  apply Yd;exact rfl;exact rfl
  rw[hi,TZ (by omega)]
  exact⟨rfl,rfl⟩
theorem US(val:α->Value)(p:α->Bool)(l:List α)(f:Nat)(cs:List Value)(hen:∀xs w,(callFunc f xs).run Tryz.prog w=.ok (.enter f xs) w)(hlen:l.length<=9223372036854775807)(hr:Rd B w0 H A (l.flatMap λa=>[val a]))
 (hp:∀a∈l,∀w,St B w0 H w->Calls Tryz.prog f ([val a]++cs).toArray w (Post B w0 λv K=>v=.bool (p a)/\K=H)) (hw:St B w0 H w):
 Calls Tryz.prog 259 [.slice A l.length cap,.func (.func f) #[] cs.toArray].toArray w (Post B w0 λv K=>v=.bool (l.any p)/\K=H):=by
 refine Yc Tryz.func259 Tryz.ntmps259 rfl rfl hw ?_
 have hia:=Vz p l 0 (by omega)
 repeat'(first|((first|apply Ya Ysd|apply Yb Ysd);exact za;exact rfl;exactλ_ hw=>(Yd8 val p l f cs hen hlen hr hp hw))|refine zga ?_|(refine zgf ?_ ?_<;>intro _<;>try exact zo)|fail)
 all_goals(apply Yd;exact rfl;exact rfl)
 ·rename_i h;exact⟨by rw[hia.1 h],rfl⟩
 ·rename_i h
  have:¬l.any p=true:=λe=>by have:=hia.2 e;omega
  exact⟨by rw[S7.2 this],rfl⟩
theorem Yd9(val:α->Value)(p:α->Bool)(l:List α)(f:Nat)(cs:List Value)(hen:∀xs w,(callFunc f xs).run Tryz.prog w=.ok (.enter f xs) w)(hlen:l.length<=9223372036854775807)(hr:Rd B w0 H A (l.flatMap λa=>[val a]))
 (hp:∀a∈l,∀w,St B w0 H w->Calls Tryz.prog f ([val a]++cs).toArray w (Post B w0 λv K=>v=.bool (p a)/\K=H)) (hw:St B w0 H w):
 Calls Tryz.prog 340 [.slice A l.length cap,.func (.func f) #[] cs.toArray].toArray w (Post B w0 λv K=>v=.int .i64 (Yn p l 0)/\K=H):=by
 refine Yc Tryz.func340 Tryz.ntmps340 rfl rfl hw ?_
 repeat'(first|refine zgb ?_|fail)
 refine Yi (λ(k:Nat)=>[(8,.int .i64 k),(7,.int .i64 l.length),(0,.slice A l.length cap),(1,.func (.func f) #[] cs.toArray)]) (λ_=>H) (λk=>k<=l.length/\Yn p l 0=Yn p (l.drop k) k) (λk=>l.length-k) 0 ⟨Tu _,by simp⟩ ?_ (λw hw=>hw) ?_
 ·exact zu
 rintro k ⟨hk,hi⟩ K hK
 by_cases hlt:k<l.length
 ·obtain⟨a,ha⟩:∃a,l[k]? =some a:=⟨_,Ta hlt⟩
  have hpa:=hp a (Tf ha)
  rw[JA p l ha]at hi
  repeat'(first|((first|apply Yz (cs:=cs));exact rfl;exact hen;exact za;exact rfl;exactλ_ hw=>hpa _ hw)|refine zgd ?_|(refine zge ?_ ?_<;>intro _<;>try exact zo)|fail)
  cases hpv:p a
  ·rw[hpv]at hi
   repeat'(first|refine zgc ?_|fail)
   apply hK (k+1)
   ·exact⟨by omega,hi⟩
   ·omega
   ·exact zu
   ·exactλw hw=>hw
  ·rw[hpv]at hi
   repeat'(first|refine zgd ?_|fail)
   apply Yd;exact rfl;exact rfl
   exact⟨by rw[hi];rfl,rfl⟩
 ·repeat'(first|refine zgc ?_|(refine zge ?_ ?_<;>intro _<;>try exact zo)|fail)
  apply Yd;exact rfl;exact rfl
  rw[hi,TZ (by omega)]
  exact⟨rfl,rfl⟩
theorem UT(val:α->Value)(p:α->Bool)(l:List α)(f:Nat)(cs:List Value)(hen:∀xs w,(callFunc f xs).run Tryz.prog w=.ok (.enter f xs) w)(hlen:l.length<=9223372036854775807)(hr:Rd B w0 H A (l.flatMap λa=>[val a]))
 (hp:∀a∈l,∀w,St B w0 H w->Calls Tryz.prog f ([val a]++cs).toArray w (Post B w0 λv K=>v=.bool (p a)/\K=H)) (hw:St B w0 H w):
 Calls Tryz.prog 255 [.slice A l.length cap,.func (.func f) #[] cs.toArray].toArray w (Post B w0 λv K=>v=.bool (l.any p)/\K=H):=by
 refine Yc Tryz.func255 Tryz.ntmps255 rfl rfl hw ?_
 have hia:=Vz p l 0 (by omega)
 repeat'(first|((first|apply Ya Ysc|apply Yb Ysc);exact za;exact rfl;exactλ_ hw=>(Yd9 val p l f cs hen hlen hr hp hw))|refine zga ?_|(refine zgf ?_ ?_<;>intro _<;>try exact zo)|fail)
 all_goals(apply Yd;exact rfl;exact rfl)
 ·rename_i h;exact⟨by rw[hia.1 h],rfl⟩
 ·rename_i h
  have:¬l.any p=true:=λe=>by have:=hia.2 e;omega
  exact⟨by rw[S7.2 this],rfl⟩
theorem Yc7(val:α->Value)(p:α->Bool)(l:List α)(f:Nat)(cs:List Value)(hen:∀xs w,(callFunc f xs).run Tryz.prog w=.ok (.enter f xs) w)(hlen:l.length<=9223372036854775807)(hr:Rd B w0 H A (l.flatMap λa=>[val a]))
 (hp:∀a∈l,∀w,St B w0 H w->Calls Tryz.prog f ([val a]++cs).toArray w (Post B w0 λv K=>v=.bool (p a)/\K=H)) (hw:St B w0 H w):
 Calls Tryz.prog 376 [.slice A l.length cap,.func (.func f) #[] cs.toArray].toArray w (Post B w0 λv K=>v=.int .i64 (Yn p l 0)/\K=H):=by
 refine Yc Tryz.func376 Tryz.ntmps376 rfl rfl hw ?_
 repeat'(first|refine zgb ?_|fail)
 refine Yi (λ(k:Nat)=>[(8,.int .i64 k),(7,.int .i64 l.length),(0,.slice A l.length cap),(1,.func (.func f) #[] cs.toArray)]) (λ_=>H) (λk=>k<=l.length/\Yn p l 0=Yn p (l.drop k) k) (λk=>l.length-k) 0 ⟨Tu _,by simp⟩ ?_ (λw hw=>hw) ?_
 ·exact zu
 rintro k ⟨hk,hi⟩ K hK
 by_cases hlt:k<l.length
 ·obtain⟨a,ha⟩:∃a,l[k]? =some a:=⟨_,Ta hlt⟩
  have hpa:=hp a (Tf ha)
  rw[JA p l ha]at hi
  repeat'(first|((first|apply Yz (cs:=cs));exact rfl;exact hen;exact za;exact rfl;exactλ_ hw=>hpa _ hw)|refine zgd ?_|(refine zge ?_ ?_<;>intro _<;>try exact zo)|fail)
  cases hpv:p a
  ·rw[hpv]at hi
   repeat'(first|refine zgc ?_|fail)
   apply hK (k+1)
   ·exact⟨by omega,hi⟩
   ·omega
   ·exact zu
   ·exactλw hw=>hw
  ·rw[hpv]at hi
   repeat'(first|refine zgd ?_|fail)
   apply Yd;exact rfl;exact rfl
   exact⟨by rw[hi];rfl,rfl⟩
 ·repeat'(first|refine zgc ?_|(refine zge ?_ ?_<;>intro _<;>try exact zo)|fail)
  apply Yd;exact rfl;exact rfl
  rw[hi,TZ (by omega)]
  exact⟨rfl,rfl⟩
theorem QL(val:α->Value)(p:α->Bool)(l:List α)(f:Nat)(cs:List Value)(hen:∀xs w,(callFunc f xs).run Tryz.prog w=.ok (.enter f xs) w)(hlen:l.length<=9223372036854775807)(hr:Rd B w0 H A (l.flatMap λa=>[val a]))
 (hp:∀a∈l,∀w,St B w0 H w->Calls Tryz.prog f ([val a]++cs).toArray w (Post B w0 λv K=>v=.bool (p a)/\K=H)) (hw:St B w0 H w):
 Calls Tryz.prog 310 [.slice A l.length cap,.func (.func f) #[] cs.toArray].toArray w (Post B w0 λv K=>v=.bool (l.any p)/\K=H):=by
 refine Yc Tryz.func310 Tryz.ntmps310 rfl rfl hw ?_
 have hia:=Vz p l 0 (by omega)
 repeat'(first|((first|apply Ya Ysf|apply Yb Ysf);exact za;exact rfl;exactλ_ hw=>(Yc7 val p l f cs hen hlen hr hp hw))|refine zga ?_|(refine zgf ?_ ?_<;>intro _<;>try exact zo)|fail)
 all_goals(apply Yd;exact rfl;exact rfl)
 ·rename_i h;exact⟨by rw[hia.1 h],rfl⟩
 ·rename_i h
  have:¬l.any p=true:=λe=>by have:=hia.2 e;omega
  exact⟨by rw[S7.2 this],rfl⟩
theorem Ym3(x:Int)(hw:St B w0 H w):Calls Tryz.prog 235 [.int .i64 x].toArray w (Post B w0 λv K=>v=.bool false/\K=H):=by
 refine Yc Tryz.func235 Tryz.ntmps235 rfl rfl hw ?_
 repeat'(first|refine zga ?_|(refine zge ?_ ?_<;>intro _<;>try exact zo)|fail)
 apply Yd;exact rfl;exact rfl
 exact⟨rfl,rfl⟩
theorem Uj(x y:Int)(hw:St B w0 H w):Calls Tryz.prog 140 [.int .i64 x,.int .i64 y].toArray w (Post B w0 λv K=>v=.int .i64 (cmpI x y)/\K=H):=by
 refine Yc Tryz.func140 Tryz.ntmps140 rfl rfl hw ?_
 unfold cmpI
 repeat'(first|((first|apply Ya YrV|apply Yb YrV);exact za;exact rfl;exactλ_ hw=>(Ym3 _ hw))|refine zgb ?_|(refine zgf ?_ ?_<;>intro _<;>try exact zo)|fail)
 all_goals(((repeat apply Yl);apply Yd;exact rfl;exact rfl;refine⟨TU _ ?_,rfl⟩);(repeat(first|refine XW (by omega) ?_|refine XY (by omega) ?_));rfl)
variable {A:Option Addr}{cap B:Nat}{w0 w:World}{H:List HP}
theorem YoJ(xs:List Int)(n:NetM)(g:Nat)(hw:St B w0 (blk g (.cells #[.int .i64 n.nodes,.slice n.pA n.rows.length n.pcap,.int .i64 n.noise,.int .i64 n.thr,.slice n.lA n.links.length n.lcap,.slice n.mA n.margin.length n.mcap] 26 (0,0))::H) w):
 Calls Tryz.prog 256 [.slice A xs.length cap,.pointer (some ⟨g,0,none⟩)].toArray w (Post B w0 λv K=>v=.bool (wide n.nodes xs)/\K=blk g (.cells #[.int .i64 n.nodes,.slice n.pA n.rows.length n.pcap,.int .i64 n.noise,.int .i64 n.thr,.slice n.lA n.links.length n.lcap,.slice n.mA n.margin.length n.mcap] 26 (0,0))::H):=by
 refine Yc Tryz.func256 Tryz.ntmps256 rfl rfl hw ?_
 unfold wide
 repeat'(first|refine zgb ?_|(refine zge ?_ ?_<;>intro _<;>try exact zo)|fail)
 ·rename_i h
  apply Yd;exact rfl;exact rfl
  exact⟨by rw[Tc h],rfl⟩
 ·rename_i h
  apply Yd;exact rfl;exact rfl
  exact⟨by rw[Tn (by omega)],rfl⟩
theorem YoK(p:Int)(hw:St B w0 H w):Calls Tryz.prog 257 [.int .i64 p].toArray w (Post B w0 λv K=>v=.bool (JF p)/\K=H):=by
 refine Yc Tryz.func257 Tryz.ntmps257 rfl rfl hw ?_
 unfold JF
 repeat'(first|refine zgc ?_|(refine zgf ?_ ?_<;>intro _<;>try exact zo)|fail)
 ·apply Yd;exact rfl;exact rfl
  exact⟨by rw[Tc (by omega)],rfl⟩
 ·apply Yd;exact rfl;exact rfl
  exact⟨by rw[Tc (by omega)],rfl⟩
 ·apply Yd;exact rfl;exact rfl
  exact⟨by rw[Tn (by omega)],rfl⟩
theorem YoL(xs:List Int)(hl:xs.length<=9223372036854775807)(g:Nat)(hr:Rd B w0 H A (xs.flatMap numF))(hw:St B w0 (blk g (.cells #[.func (.func 257) #[] #[]] 266 (0,0))::H) w):
 Calls Tryz.prog 258 [.slice A xs.length cap,.pointer (some ⟨g,0,none⟩)].toArray w (Post B w0 λv K=>v=.bool (xs.any JF)/\K=blk g (.cells #[.func (.func 257) #[] #[]] 266 (0,0))::H):=by
 refine Yc Tryz.func258 Tryz.ntmps258 rfl rfl hw ?_
 repeat'(first|((first|apply Ya Yll|apply Yb Yll);exact za;exact rfl;exactλ_ hw=>(US (λz:Int=>.int .i64 z) JF xs 257 [] YtO hl hr.cons (λa _ _ hw=>YoK a hw) hw))|refine zga ?_|fail)
 apply Yd;exact rfl;exact rfl
 exact⟨rfl,rfl⟩
theorem Yhi(n:NetM)(p:List Int->Bool):(n.rows.any λr=>p r.xs)=n.net.power.any p:=by simp[NetM.net,List.any_map,Function.comp_def]
theorem YbO(n:NetM)(hin:n.In B w0 H)(hw:St B w0 H w):
 Calls Tryz.prog 184 [n.val].toArray w (Post B w0 λv K=>v=.int .i64 (WC n.net)/\K=H):=by
 refine Yc Tryz.func184 Tryz.ntmps184 rfl rfl hw ?_
 obtain⟨hpw,hrw,hlk,hmg,hs1,hs2,hs3,hs4⟩:=hin
 have e1:n.net.power.length=n.rows.length:=by simp[NetM.net]
 have e2:n.net.nodes=n.nodes:=rfl
 unfold WC
 rw[e1,e2,<-Yhi,<-Yhi n (λr=>r.any JF)]
 repeat'(first|(apply zg29;(apply Ym;exact za;exact rfl))|refine zgc ?_|(refine zge ?_ ?_<;>intro _<;>try exact zo)|(refine zgh ?_;intro _)|fail)
 ·((repeat apply Yl);apply Yd;exact rfl;exact rfl;refine⟨TU _ ?_,rfl⟩)
  (repeat(first|refine XW (by omega) ?_|refine XY (by omega) ?_))
  rfl
 rename_i g _
 repeat'(first|((first|apply Ya YoW|apply Yb YoW);exact za;exact rfl;exactλ_ hw=>(UT (λr:RowM=>.slice r.A r.xs.length r.cap) (λr=>wide n.nodes r.xs) n.rows 256 [.pointer (some ⟨g,0,none⟩)] YtN hs1 hpw.cons (λa _ _ hw=>YoJ a.xs n g hw) hw))|refine zgc ?_|fail)
 cases hc:(n.rows.any λr=>wide n.nodes r.xs)
 rotate_left
 ·repeat'(first|refine zgb ?_|fail)
  ((repeat apply Yl);apply Yd;exact rfl;exact rfl;refine⟨TU _ ?_,rfl⟩)
  rw[Td (by omega)];rfl
 repeat'(first|(apply zg29;(apply Ym;exact za;exact rfl))|refine zgd ?_|(refine zgh ?_;intro _)|fail)
 rename_i g2
 apply Ya YoW
 exact za
 exact rfl
 exactλ_ hw=>UT (λr:RowM=>.slice r.A r.xs.length r.cap) (λr=>r.xs.any JF) n.rows 258 [.pointer (some ⟨g2,0,none⟩)] YtP hs1 hpw.cons.cons (λa ha _ hw=>YoL a.xs (hs2 a ha) g2 (hrw a ha).cons hw) hw
 cases hd:(n.rows.any λr=>r.xs.any JF)
 ·repeat'(first|refine zgb ?_|fail)
  ((repeat apply Yl);apply Yd;exact rfl;exact rfl;refine⟨TU _ ?_,rfl⟩)
  rw[Td (by omega)];rfl
 ·repeat'(first|refine zgb ?_|fail)
  ((repeat apply Yl);apply Yd;exact rfl;exact rfl;refine⟨TU _ ?_,rfl⟩)
  rw[Td (by omega)];rfl
end Go.Proofs.YtaholidehobiiaaGreatDoor
