/- Lemmas. -/
import Derived.KernelRfl
import Derived.WalkKit
import Derived.Lib.Hide
import Derived.Deep.LoopGhost
import Derived.Deep.Quiet
import Derived.OrdersHeld
import Derived.OrdersIn
import Derived.TacticsIn
import Derived.RangeFuncCalls
import Derived.Sort.LoopGhostIn
set_option maxRecDepth 100000
set_option maxHeartbeats 8000000
set_option linter.all false
namespace Go
end Go
namespace Go.Eng
end Go.Eng
namespace Go.Nw
end Go.Nw
namespace Go.Proofs
end Go.Proofs
namespace Go.Proofs.YtjommdkgfbhbdaaGreatDoor
end Go.Proofs.YtjommdkgfbhbdaaGreatDoor
namespace Go.Rt
end Go.Rt
namespace Go
theorem Ta:type_of%@List.getElem?_eq_getElem:=@List.getElem?_eq_getElem
theorem Tc:type_of%@List.mem_of_getElem?:=@List.mem_of_getElem?
theorem Td:type_of%@Nat.zero_le:=@Nat.zero_le
theorem Tf:type_of%@decide_eq_true:=@decide_eq_true
theorem Ti:type_of%@decide_eq_false:=@decide_eq_false
theorem Tj:type_of%@if_neg:=@if_neg
theorem Tm:type_of%@decide_eq_true_eq:=@decide_eq_true_eq
theorem Tn:type_of%@if_pos:=@if_pos
theorem To:type_of%@List.length_map:=@List.length_map
theorem Tq:type_of%@Bool.and_eq_true:=@Bool.and_eq_true
theorem Tt:type_of%@List.length_append:=@List.length_append
theorem Tu:type_of%@List.getElem?_eq_some_iff:=@List.getElem?_eq_some_iff
theorem Tv:type_of%@decide_eq_false_iff_not:=@decide_eq_false_iff_not
theorem Tz:type_of%@List.getD_eq_getElem?_getD:=@List.getD_eq_getElem?_getD
theorem TA:type_of%@List.cons_append:=@List.cons_append
theorem TB:type_of%@List.take_add_one:=@List.take_add_one
theorem TC:type_of%@List.nil_append:=@List.nil_append
theorem TD:type_of%@List.mem_map:=@List.mem_map
theorem TE:type_of%@List.length_set:=@List.length_set
theorem TF:type_of%@congrArg:=@congrArg
theorem TG:type_of%@List.mem_cons_self:=@List.mem_cons_self
theorem TI:type_of%@List.take_length:=@List.take_length
theorem TJ:type_of%@Option.some.inj:=@Option.some.inj
theorem TK:type_of%@Nat.le_refl:=@Nat.le_refl
theorem TL:type_of%@List.all_eq_true:=@List.all_eq_true
theorem TM:type_of%@List.take_of_length_le:=@List.take_of_length_le
theorem TN:type_of%@List.getElem?_map:=@List.getElem?_map
theorem TO:type_of%@List.mem_cons_of_mem:=@List.mem_cons_of_mem
theorem TP:type_of%@List.mem_iff_getElem?:=@List.mem_iff_getElem?
theorem TQ:type_of%@List.mem_range:=@List.mem_range
theorem TR:type_of%@Nat.le_of_ble_eq_true:=@Nat.le_of_ble_eq_true
theorem TS:type_of%@List.length_replicate:=@List.length_replicate
theorem TT:type_of%@of_decide_eq_true:=@of_decide_eq_true
theorem TU:type_of%@List.length_take:=@List.length_take
theorem TV:type_of%@List.append_assoc:=@List.append_assoc
theorem TX:type_of%@Nat.le_trans:=@Nat.le_trans
theorem TY:type_of%@List.length_drop:=@List.length_drop
theorem TZ:type_of%@Nat.not_lt_zero:=@Nat.not_lt_zero
theorem T8:type_of%@Nat.mul_le_mul_right:=@Nat.mul_le_mul_right
theorem T9:type_of%@List.length_singleton:=@List.length_singleton
theorem Rb:type_of%@List.drop_eq_nil_of_le:=@List.drop_eq_nil_of_le
theorem Re:type_of%@List.flatMap_cons:=@List.flatMap_cons
theorem Rf:type_of%@List.map_append:=@List.map_append
theorem Rh:type_of%@Int.tmod_eq_emod_of_nonneg:=@Int.tmod_eq_emod_of_nonneg
theorem Ri:type_of%@Nat.zero_add:=@Nat.zero_add
theorem Rj:type_of%@List.any_eq_true:=@List.any_eq_true
theorem Rk:type_of%@Nat.lt_succ_iff_lt_or_eq:=@Nat.lt_succ_iff_lt_or_eq
theorem Rl:type_of%@List.mem_append:=@List.mem_append
theorem Rm:type_of%@List.drop_eq_getElem_cons:=@List.drop_eq_getElem_cons
theorem Rn:type_of%@List.pairwise_iff_getElem:=@List.pairwise_iff_getElem
theorem Ro:type_of%@List.length_cons:=@List.length_cons
theorem Rq:type_of%@List.range_succ:=@List.range_succ
theorem Rr:type_of%@List.append_nil:=@List.append_nil
theorem Ru:type_of%@List.mem_singleton:=@List.mem_singleton
theorem Rw:type_of%@Decidable.not_not:=@Decidable.not_not
theorem Rx:type_of%@List.map_cons:=@List.map_cons
theorem Ry:type_of%@Int.toNat_natCast:=@Int.toNat_natCast
theorem RA:type_of%@List.mem_cons:=@List.mem_cons
theorem RB:type_of%@List.flatMap_append:=@List.flatMap_append
theorem RD:type_of%@Bool.true_and:=@Bool.true_and
theorem RE:type_of%@List.any_eq_false:=@List.any_eq_false
theorem RG:type_of%@Nat.mul_one:=@Nat.mul_one
theorem RH:type_of%@Bool.or_eq_true:=@Bool.or_eq_true
theorem RJ:type_of%@List.mem_map_of_mem:=@List.mem_map_of_mem
theorem RL:type_of%@List.eq_nil_of_length_eq_zero:=@List.eq_nil_of_length_eq_zero
theorem RN:type_of%@Option.toList_some:=@Option.toList_some
theorem RO:type_of%@Bool.false_eq_true:=@Bool.false_eq_true
theorem RS:type_of%@List.getElem?_drop:=@List.getElem?_drop
theorem RU:type_of%@List.mem_filter:=@List.mem_filter
theorem RV:type_of%@List.take_append_drop:=@List.take_append_drop
theorem RX:type_of%@Option.some.injEq:=@Option.some.injEq
theorem RY:type_of%@List.mem_of_mem_take:=@List.mem_of_mem_take
theorem RZ:type_of%@Int.mul_le_mul_of_nonneg_right:=@Int.mul_le_mul_of_nonneg_right
theorem R7:type_of%@Array.getElem?_eq_getElem:=@Array.getElem?_eq_getElem
theorem R9:type_of%@Bool.not_eq_true':=@Bool.not_eq_true'
theorem Si:type_of%@List.ext_getElem?:=@List.ext_getElem?
theorem Sj:type_of%@Bool.eq_false_iff:=@Bool.eq_false_iff
theorem Sl:type_of%@List.length_filter_le:=@List.length_filter_le
theorem Sr:type_of%@List.length_nil:=@List.length_nil
theorem Ss:type_of%@Option.map_some:=@Option.map_some
theorem Su:type_of%@Nat.eq_zero_or_pos:=@Nat.eq_zero_or_pos
theorem Sv:type_of%@Nat.add_right_comm:=@Nat.add_right_comm
theorem SA:type_of%@List.getElem?_take:=@List.getElem?_take
theorem SB:type_of%@List.drop_length:=@List.drop_length
theorem SC:type_of%@Array.getElem?_eq_none:=@Array.getElem?_eq_none
theorem SD:type_of%@List.getElem?_append_right:=@List.getElem?_append_right
theorem SE:type_of%@List.range_succ_eq_map:=@List.range_succ_eq_map
theorem SG:type_of%@List.mem_append_right:=@List.mem_append_right
theorem SH:type_of%@List.take_append:=@List.take_append
theorem SI:type_of%@List.filter_append:=@List.filter_append
theorem SJ:type_of%@List.not_mem_nil:=@List.not_mem_nil
theorem SK:type_of%@Int.le_refl:=@Int.le_refl
theorem SL:type_of%@Nat.add_mul:=@Nat.add_mul
theorem SN:type_of%@Int.mul_le_mul_of_nonneg_left:=@Int.mul_le_mul_of_nonneg_left
theorem SO:type_of%@List.filter_sublist:=@List.filter_sublist
theorem SQ:type_of%@List.replicate_succ:=@List.replicate_succ
theorem SR:type_of%@Nat.add_zero:=@Nat.add_zero
theorem SU:type_of%@List.getElem?_set_self:=@List.getElem?_set_self
theorem SV:type_of%@List.mem_flatMap:=@List.mem_flatMap
theorem SX:type_of%@Nat.add_sub_cancel:=@Nat.add_sub_cancel
theorem SY:type_of%@List.pairwise_cons:=@List.pairwise_cons
theorem SZ:type_of%@List.set_append_right:=@List.set_append_right
theorem S0:type_of%@Array.getElem?_toList:=@Array.getElem?_toList
theorem S5:type_of%@Decidable.byContradiction:=@Decidable.byContradiction
theorem S7:type_of%@List.any_append:=@List.any_append
theorem S8:type_of%@Nat.min_eq_left:=@Nat.min_eq_left
theorem S9:type_of%@List.getElem?_take_of_lt:=@List.getElem?_take_of_lt
theorem Na:type_of%@List.replicate_zero:=@List.replicate_zero
theorem Nb:type_of%@Bool.false_and:=@Bool.false_and
theorem Nc:type_of%@List.drop_drop:=@List.drop_drop
theorem Nh:type_of%@Nat.lt_or_ge:=@Nat.lt_or_ge
theorem Ni:type_of%@if_true:=@if_true
theorem Nj:type_of%@List.set_cons_zero:=@List.set_cons_zero
theorem Nk:type_of%@Option.map_eq_some_iff:=@Option.map_eq_some_iff
theorem Nl:type_of%@Nat.sub_self:=@Nat.sub_self
theorem Nn:type_of%@Array.getElem?_modify:=@Array.getElem?_modify
theorem Np:type_of%@List.perm_append_comm:=@List.perm_append_comm
theorem Nq:type_of%@List.filter_congr:=@List.filter_congr
theorem Nr:type_of%@List.all_eq_false:=@List.all_eq_false
theorem Ns:type_of%@List.take_zero:=@List.take_zero
theorem Nu:type_of%@List.getElem?_set_ne:=@List.getElem?_set_ne
theorem Nv:type_of%@Option.bind_some:=@Option.bind_some
theorem Nx:type_of%@List.filter_cons:=@List.filter_cons
theorem Ny:type_of%@List.all_cons:=@List.all_cons
theorem Nz:type_of%@Bool.false_or:=@Bool.false_or
theorem NA:type_of%@List.map_drop:=@List.map_drop
theorem NB:type_of%@beq_iff_eq:=@beq_iff_eq
theorem NC:type_of%@if_false:=@if_false
theorem ND:type_of%@List.nodup_append:=@List.nodup_append
theorem NE:type_of%@Nat.lt_trichotomy:=@Nat.lt_trichotomy
theorem NF:type_of%@Ne.symm:=@Ne.symm
theorem NG:type_of%@List.map_take:=@List.map_take
theorem NH:type_of%@Int.add_zero:=@Int.add_zero
end Go
namespace Go.Eng
theorem zo{p:Prop}(h:p:=by exfalso;omega):p:=h
theorem zk{p:Prop}(h:p:=by first|((intro w hw;refine hw.perm ?_;focus repeat(first|with_reducible exact Perm.refl _|(with_reducible apply YaV;focus((repeat(first|with_reducible exact Yo|with_reducible apply Yw));done))|with_reducible apply Perm.dropK));done)|fail):p:=h
theorem zu{p:Prop}(h:p:=by first|((repeat(first|exact Ysi _|(apply Yqx;first|exact rfl|exact congrArg (fun z:Int=>some (Value.int .i64 z)) (by omega))));done)|fail):p:=h
theorem zr{p:Prop}(h:p:=by first|((first|(focus(repeat(first|assumption|apply Rd.cons));done)|exact Rd.sl (by(focus repeat(first|with_reducible exact List.mem_cons_self|with_reducible apply List.mem_cons_of_mem|assumption))));done)|fail):p:=h
theorem zm{p:Prop}(h:p:=by first|((focus repeat(first|with_reducible exact List.mem_cons_self|with_reducible apply List.mem_cons_of_mem|assumption));done)|fail):p:=h
theorem za{p:Prop}(h:p:=by first|((repeat(first|exact Yo0|(apply Ym2;exact rfl)));done)|fail):p:=h
theorem zp{p:Prop}(h:p:=by first|((repeat(first|with_reducible exact Yrt|with_reducible apply YoW|exact Yhu _));done)|fail):p:=h
theorem zy{p:Prop}(h:p:=by first|((repeat(first|with_reducible exact Yn6|with_reducible apply Ysh|with_reducible apply Ysg));done)|fail):p:=h
theorem zq{p:Prop}(h:p:=by first|((repeat(first|exact PutAt.nil|(apply PutAt.cons;(repeat(first|exact Yd1|apply YbF)))));done)|fail):p:=h
theorem zt{p:Prop}(h:p:=by first|((repeat(first|exact Yd1|apply YbF));done)|fail):p:=h
theorem zd{p:Prop}(h:p:=by first|((repeat(first|with_reducible exact Upd.here _|with_reducible apply Upd.there));done)|fail):p:=h
theorem zl{p:Prop}(h:p:=by first|((repeat(first|with_reducible exact YY|(with_reducible apply YN;(repeat(first|with_reducible exact Yo|with_reducible apply Yw)))));done)|fail):p:=h
theorem zv{p:Prop}(h:p:=by first|((simp only[subL,List.toList_toArray,List.drop_succ_cons,List.drop_zero,List.take_succ_cons,List.take_zero,Nat.zero_add];rfl);done)|fail):p:=h
structure Hid(Q:Prop):Prop where
 h:Q
theorem zga{P Q:Prop}(q:Q)(h:Hid Q→P:=by intro q;first|(apply(zs1 ?_);exact q.h)|(apply(zs2 ?_);exact q.h)|(apply(zs65 ?_);exact q.h)|(apply(zs68 ?_);exact q.h)|(apply(zs69 ?_);exact q.h)|(apply(zs70 ?_);exact q.h)|(apply zg27;(first|refine zs71 ?_|refine zs72 ?_);exact q.h)|(apply(zs74 ?_);exact q.h)|fail):P:=h ⟨q⟩
theorem zgb{P Q:Prop}(q:Q)(h:Hid Q→P:=by intro q;first|(apply(zs1 ?_);exact q.h)|(apply(zs2 ?_);exact q.h)|(apply zg2;refine zs6 ?_;exact q.h)|(apply zg3;(first|refine zs7 ?_|refine zs8 ?_);exact q.h)|(apply zg4;refine zs9 ?_;exact q.h)|(apply(zs65 ?_);exact q.h)|(apply(zs68 ?_);exact q.h)|(apply(zs69 ?_);exact q.h)|(apply(zs70 ?_);exact q.h)|(apply zg27;(first|refine zs71 ?_|refine zs72 ?_);exact q.h)|(apply(zs73 ?_);exact q.h)|(apply(zs74 ?_);exact q.h)|(apply(zs76 ?_);exact q.h)|(apply(zs77 ?_);exact q.h)|fail):P:=h ⟨q⟩
theorem zgc{P Q:Prop}(q:Q)(h:Hid Q→P:=by intro q;first|(apply(zs1 ?_);exact q.h)|(apply(zs2 ?_);exact q.h)|(apply zg1;refine zs4 ?_;exact q.h)|(apply zg2;refine zs6 ?_;exact q.h)|(apply zg3;(first|refine zs7 ?_|refine zs8 ?_);exact q.h)|(apply zg4;refine zs9 ?_;exact q.h)|(apply zg6;(first|refine zs11 ?_|refine zs12 ?_);exact q.h)|(apply(zs13 ?_);exact q.h)|(apply zg13;refine zs30 ?_;exact q.h)|(apply zg20;refine zs47 ?_;exact q.h)|(apply zg22;refine zs51 ?_;exact q.h)|(apply zg5;refine zs57 ?_;exact q.h)|(apply(zs65 ?_);exact q.h)|(apply(zs68 ?_);exact q.h)|(apply(zs69 ?_);exact q.h)|(apply(zs70 ?_);exact q.h)|(apply zg27;(first|refine zs71 ?_|refine zs72 ?_);exact q.h)|(apply(zs73 ?_);exact q.h)|(apply(zs74 ?_);exact q.h)|(apply(zs75 ?_);exact q.h)|(apply(zs76 ?_);exact q.h)|(apply(zs77 ?_);exact q.h)|(apply(zs79 ?_);exact q.h)|(apply(zs80 ?_);exact q.h)|(apply(zs81 ?_);exact q.h)|fail):P:=h ⟨q⟩
theorem zgd{P Q:Prop}(q:Q)(h:Hid Q→P:=by intro q;first|(apply(zs1 ?_);exact q.h)|(apply(zs2 ?_);exact q.h)|(apply zg1;(first|refine zs3 ?_|refine zs4 ?_);exact q.h)|(apply(zs5 ?_);exact q.h)|(apply zg2;(first|refine zs6 ?_|refine zs58 ?_);exact q.h)|(apply zg3;(first|refine zs7 ?_|refine zs8 ?_|refine zs59 ?_|refine zs60 ?_|refine zs61 ?_);exact q.h)|(apply zg4;(first|refine zs9 ?_|refine zs14 ?_);exact q.h)|(apply zg5;(first|refine zs10 ?_|refine zs57 ?_);exact q.h)|(apply zg6;(first|refine zs11 ?_|refine zs12 ?_);exact q.h)|(apply(zs13 ?_);exact q.h)|(apply zg13;refine zs30 ?_;exact q.h)|(apply zg14;refine zs31 ?_;exact q.h)|(apply zg15;refine zs32 ?_;exact q.h)|(apply zg16;refine zs36 ?_;exact q.h)|(apply zg17;refine zs37 ?_;exact q.h)|(apply zg18;refine zs38 ?_;exact q.h)|(apply(zs40 ?_);exact q.h)|(apply(zs41 ?_);exact q.h)|(apply zg19;(first|refine zs44 ?_|refine zs45 ?_|refine zs46 ?_);exact q.h)|(apply zg20;(first|refine zs47 ?_|refine zs48 ?_);exact q.h)|(apply zg22;(first|refine zs50 ?_|refine zs51 ?_);exact q.h)|(apply zg25;refine zs55 ?_;exact q.h)|(apply(zs65 ?_);exact q.h)|(apply(zs66 ?_);exact q.h)|(apply(zs68 ?_);exact q.h)|(apply(zs69 ?_);exact q.h)|(apply(zs70 ?_);exact q.h)|(apply zg27;(first|refine zs71 ?_|refine zs72 ?_);exact q.h)|(apply(zs73 ?_);exact q.h)|(apply(zs74 ?_);exact q.h)|(apply(zs75 ?_);exact q.h)|(apply(zs76 ?_);exact q.h)|(apply(zs77 ?_);exact q.h)|(apply(zs78 ?_);exact q.h)|(apply(zs79 ?_);exact q.h)|(apply(zs80 ?_);exact q.h)|(apply(zs81 ?_);exact q.h)|(apply(zs82 ?_);exact q.h)|(apply zg28;refine zs83 ?_;exact q.h)|(apply(zs87 ?_);exact q.h)|(apply(zs90 ?_);exact q.h)|(apply(zs93 ?_);exact q.h)|(apply(zs94 ?_);exact q.h)|(apply XH;exact zp;exact q.h)|(apply Ylr;exact zp;exact q.h)|(apply Yrq;exact zp;exact q.h)|(apply Yrr;exact zp;exact q.h)|fail):P:=h ⟨q⟩
theorem zge{P Q R:Prop}(q:Q)(r:R)(h:Hid Q→Hid R→P:=by intro q r;first|(apply zg8;refine zs16 ?_ ?_;exact q.h;exact r.h)|(apply(zs17 ?_ ?_);exact q.h;exact r.h)|(apply(zs19 ?_ ?_);exact q.h;exact r.h)|fail):P:=h ⟨q⟩ ⟨r⟩
theorem zgf{P Q R:Prop}(q:Q)(r:R)(h:Hid Q→Hid R→P:=by intro q r;first|(apply zg7;refine zs15 ?_ ?_;exact q.h;exact r.h)|(apply zg8;refine zs16 ?_ ?_;exact q.h;exact r.h)|(apply(zs17 ?_ ?_);exact q.h;exact r.h)|(apply(zs18 ?_ ?_);exact q.h;exact r.h)|(apply(zs19 ?_ ?_);exact q.h;exact r.h)|(apply(zs20 ?_ ?_);exact q.h;exact r.h)|(apply(zs25 ?_ ?_);exact q.h;exact r.h)|(apply(zs62 ?_ ?_);exact q.h;exact r.h)|fail):P:=h ⟨q⟩ ⟨r⟩
theorem zgh{P Q:Prop}(q:Q)(h:Hid Q→P:=by intro q;first|(apply zg23;(first|refine zs52 ?_|refine zs53 ?_);exact q.h)|(apply zg24;refine zs54 ?_;exact q.h)|(apply zg26;refine zs56 ?_;exact q.h)|fail):P:=h ⟨q⟩
theorem zgi{P Q:Prop}(q:Q)(h:Hid Q→P:=by intro q;first|(apply zg12;refine zs29 ?_;exact q.h)|(apply zg21;refine zs49 ?_;exact q.h)|fail):P:=h ⟨q⟩
theorem zX0{P Q0:Prop}(q0:Q0)(h:Hid Q0→P:=by intro q0;(repeat'(first|refine zgc ?_|(refine zge ?_ ?_<;>intro zz<;>try(exfalso;omega))|fail));(repeat revert zz);exact q0.h):P:=h ⟨q0⟩
theorem zX1{P Q0:Prop}(q0:Q0)(h:Hid Q0→P:=by intro q0;(repeat'(first|refine zgb ?_|(refine zge ?_ ?_<;>intro zz<;>try(exfalso;omega))|fail));(repeat revert zz);exact q0.h):P:=h ⟨q0⟩
theorem zX2{P Q0:Prop}(q0:Q0)(h:Hid Q0→P:=by intro q0;(repeat'(first|refine zga ?_|fail));(repeat revert zz);exact q0.h):P:=h ⟨q0⟩
theorem zX3{P Q0:Prop}(q0:Q0)(h:Hid Q0→P:=by intro q0;(repeat'(first|refine zgd ?_|fail));(repeat revert zz);exact q0.h):P:=h ⟨q0⟩
theorem zX6{P Q0:Prop}(q0:Q0)(h:Hid Q0→P:=by intro q0;(repeat'(first|(apply Js;exact rfl;exact rfl;exact rfl)|refine zgb ?_|fail));(repeat revert zz);exact q0.h):P:=h ⟨q0⟩
theorem zX7{P Q0:Prop}(q0:Q0)(h:Hid Q0→P:=by intro q0;(repeat'(first|refine zgb ?_|fail));(repeat revert zz);exact q0.h):P:=h ⟨q0⟩
theorem zX8{P Q0:Prop}(q0:Q0)(h:Hid Q0→P:=by intro q0;(repeat'(first|fail));(repeat revert zz);exact q0.h):P:=h ⟨q0⟩
theorem zX9{P Q0:Prop}(q0:Q0)(h:Hid Q0→P:=by intro q0;(repeat'(first|((first|apply Zg (cs:=cs));exact rfl;exact hen;exact za;exact rfl;exact fun _ hw=>hpa _ hw)|refine zgd ?_|(refine zge ?_ ?_<;>intro zz<;>try(exfalso;omega))|fail));(repeat revert zz);exact q0.h):P:=h ⟨q0⟩
theorem zX10{P Q0:Prop}(q0:Q0)(h:Hid Q0→P:=by intro q0;(repeat'(first|refine zgc ?_|fail));(repeat revert zz);exact q0.h):P:=h ⟨q0⟩
theorem zX14{P Q0:Prop}(q0:Q0)(h:Hid Q0→P:=by intro q0;(repeat'(first|refine zga ?_|(refine zgh ?_;intro zz)|fail));(repeat revert zz);exact q0.h):P:=h ⟨q0⟩
theorem zX15{P Q0:Prop}(q0:Q0)(h:Hid Q0→P:=by intro q0;(repeat'(first|((apply Yb Yph);exact za;exact rfl;exact fun _ hw=>(WY _ _ hw))|(apply Yh;try exact zl)|refine zgd ?_|(refine zgh ?_;intro zz)|fail));(repeat revert zz);exact q0.h):P:=h ⟨q0⟩
theorem zX16{P Q0:Prop}(q0:Q0)(h:Hid Q0→P:=by intro q0;(repeat'(first|(apply Yh;try exact zl)|refine zgd ?_|fail));(repeat revert zz);exact q0.h):P:=h ⟨q0⟩
theorem zX17{P Q0:Prop}(q0:Q0)(h:Hid Q0→P:=by intro q0;(repeat'(first|(apply zg28;refine zs84 ?_)|refine zgd ?_|(refine zge ?_ ?_<;>intro zz<;>try(exfalso;omega))|fail));(repeat revert zz);exact q0.h):P:=h ⟨q0⟩
theorem zX22{P Q0:Prop}(q0:Q0)(h:Hid Q0→P:=by intro q0;(repeat'(first|refine zgb ?_|(refine zge ?_ ?_<;>intro zz<;>try(exfalso;omega))|(refine zgh ?_;intro zz)|fail));(repeat revert zz);exact q0.h):P:=h ⟨q0⟩
theorem zX23{P Q0:Prop}(q0:Q0)(h:Hid Q0→P:=by intro q0;(repeat'(first|((apply Yn Yff);exact za;exact rfl;exact fun _ hw=>(V6 n _ _ hin.cons hw))|(apply zg28;refine zs84 ?_)|refine zgd ?_|(refine zgf ?_ ?_<;>intro zz<;>try(exfalso;omega))|(refine zgh ?_;intro zz)|fail));(repeat revert zz);exact q0.h):P:=h ⟨q0⟩
theorem zX24{P Q0:Prop}(q0:Q0)(h:Hid Q0→P:=by intro q0;(repeat'(first|((apply Yb Yph);exact za;exact rfl;exact fun _ hw=>(hcm hw))|refine zgd ?_|(refine zgf ?_ ?_<;>intro zz<;>try(exfalso;omega))|fail));(repeat revert zz);exact q0.h):P:=h ⟨q0⟩
theorem zX25{P Q0:Prop}(q0:Q0)(h:Hid Q0→P:=by intro q0;(repeat'(first|refine zgd ?_|(refine zgf ?_ ?_<;>intro zz<;>try(exfalso;omega))|fail));(repeat revert zz);exact q0.h):P:=h ⟨q0⟩
theorem zX26{P Q0:Prop}(q0:Q0)(h:Hid Q0→P:=by intro q0;(repeat'(first|refine zgd ?_|(refine zgh ?_;intro zz)|fail));(repeat revert zz);exact q0.h):P:=h ⟨q0⟩
theorem zX28{P Q0:Prop}(q0:Q0)(h:Hid Q0→P:=by intro q0;(repeat'(first|(first|(refine zs52 ?_;intro zz)|(refine zs53 ?_;intro zz))|((apply Ys;exact za;exact rfl))|refine zga ?_|fail));(repeat revert zz);exact q0.h):P:=h ⟨q0⟩
theorem zX31{P Q0:Prop}(q0:Q0)(h:Hid Q0→P:=by intro q0;(repeat'(first|((apply Yb YsD);exact za;exact rfl;exact fun _ hw=>(Yfo n (by omega) (by omega) ht hw))|(apply XY [32] (Lib.itoa n);exact rfl;exact rfl;exact rfl;(show 1+_≤_;omega))|(apply XY (XW word (l.take i)) ([32]++Lib.itoa n);exact rfl;exact rfl;exact rfl;(rw[List.length_append];show _+(1+_)≤_;omega))|refine zgd ?_|(refine zge ?_ ?_<;>intro zz<;>try(exfalso;omega))|fail));(repeat revert zz);exact q0.h):P:=h ⟨q0⟩
theorem zX39{P Q0:Prop}(q0:Q0)(h:Hid Q0→P:=by intro q0;(repeat'(first|(apply ZP T (n':=M.length-i);exact rfl;exact rfl;exact rfl;exact rfl;omega;omega)|refine zgc ?_|(refine zge ?_ ?_<;>intro zz<;>try(exfalso;omega))|fail));(repeat revert zz);exact q0.h):P:=h ⟨q0⟩
theorem zX44{P Q0:Prop}(q0:Q0)(h:Hid Q0→P:=by intro q0;(repeat'(first|((apply Yb Ypf);exact za;exact rfl;exact fun _ hw=>(hck hw))|refine zgd ?_|(refine zgf ?_ ?_<;>intro zz<;>try(exfalso;omega))|(refine zgh ?_;intro zz)|fail));(repeat revert zz);exact q0.h):P:=h ⟨q0⟩
theorem zX45{P Q0:Prop}(q0:Q0)(h:Hid Q0→P:=by intro q0;(repeat'(first|refine zgb ?_|(refine zgf ?_ ?_<;>intro zz<;>try(exfalso;omega))|(refine zgh ?_;intro zz)|fail));(repeat revert zz);exact q0.h):P:=h ⟨q0⟩
theorem zX46{P Q0:Prop}(q0:Q0)(h:Hid Q0→P:=by intro q0;(repeat'(first|refine zgd ?_|(refine zge ?_ ?_<;>intro zz<;>try(exfalso;omega))|(refine zgh ?_;intro zz)|fail));(repeat revert zz);exact q0.h):P:=h ⟨q0⟩
theorem zX49{P Q0:Prop}(q0:Q0)(h:Hid Q0→P:=by intro q0;(repeat'(first|((apply Yb XM);exact za;exact rfl;exact fun _ hw=>(Y4 n hin.cons hw))|refine zgb ?_|(refine zge ?_ ?_<;>intro zz<;>try(exfalso;omega))|(refine zgh ?_;intro zz)|fail));(repeat revert zz);exact q0.h):P:=h ⟨q0⟩
theorem zX50{P Q0:Prop}(q0:Q0)(h:Hid Q0→P:=by intro q0;(repeat'(first|refine zgd ?_|(refine zge ?_ ?_<;>intro zz<;>try(exfalso;omega))|fail));(repeat revert zz);exact q0.h):P:=h ⟨q0⟩
theorem zX51{P Q0:Prop}(q0:Q0)(h:Hid Q0→P:=by intro q0;(repeat'(first|((apply Yb Ys9);exact za;exact rfl;exact fun _ hw=>(hoff hw))|(apply zg29;(apply Ys;exact za;exact rfl))|refine zgd ?_|(refine zge ?_ ?_<;>intro zz<;>try(exfalso;omega))|fail));(repeat revert zz);exact q0.h):P:=h ⟨q0⟩
theorem zX52{P Q0:Prop}(q0:Q0)(h:Hid Q0→P:=by intro q0;(repeat'(first|(apply ZO T (l:=r) (n':=(r.take k).length);exact rfl;exact rfl;exact rfl;exact rfl;omega;exact hcap;(simp;omega))|((apply Yb Yww);exact za;exact rfl;exact fun _ hw=>(hcon hw))|refine zgd ?_|(refine zge ?_ ?_<;>intro zz<;>try(exfalso;omega))|fail));(repeat revert zz);exact q0.h):P:=h ⟨q0⟩
theorem zX54{P Q0:Prop}(q0:Q0)(h:Hid Q0→P:=by intro q0;(repeat'(first|((apply Yn Vg);exact za;exact rfl;exact fun _ hw=>(Zv n _ _ (hin.cons) hw))|((apply Yn Ybi);exact za;exact rfl;exact fun _ hw=>(hus hw))|(apply zg28;refine zs84 ?_)|refine zgd ?_|(refine zge ?_ ?_<;>intro zz<;>try(exfalso;omega))|fail));(repeat revert zz);exact q0.h):P:=h ⟨q0⟩
theorem zX67{P Q0:Prop}(q0:Q0)(h:Hid Q0→P:=by intro q0;(repeat'(first|refine zgc ?_|(refine zgh ?_;intro zz)|fail));(repeat revert zz);exact q0.h):P:=h ⟨q0⟩
theorem zX68{P Q0:Prop}(q0:Q0)(h:Hid Q0→P:=by intro q0;(repeat'(first|((apply Yn WH);exact za;exact rfl;exact fun _ hw=>(hss hw))|(apply zg28;refine zs84 ?_)|refine zgd ?_|(refine zge ?_ ?_<;>intro zz<;>try(exfalso;omega))|fail));(repeat revert zz);exact q0.h):P:=h ⟨q0⟩
theorem zX71{P Q0:Prop}(q0:Q0)(h:Hid Q0→P:=by intro q0;(repeat'(first|((apply Yb Ywy);exact za;exact rfl;exact fun _ hw=>(p1 (hi.mono zk) hw))|refine zgd ?_|(refine zge ?_ ?_<;>intro zz<;>try(exfalso;omega))|(refine zgh ?_;intro zz)|fail));(repeat revert zz);exact q0.h):P:=h ⟨q0⟩
theorem zX72{P Q0:Prop}(q0:Q0)(h:Hid Q0→P:=by intro q0;(repeat'(first|refine Yr T ?_|refine zgd ?_|(refine zge ?_ ?_<;>intro zz<;>try(exfalso;omega))|fail));(repeat revert zz);exact q0.h):P:=h ⟨q0⟩
theorem zX73{P Q0:Prop}(q0:Q0)(h:Hid Q0→P:=by intro q0;(repeat'(first|refine zgb ?_|(refine zgh ?_;intro zz)|fail));(repeat revert zz);exact q0.h):P:=h ⟨q0⟩
theorem zX76{P Q0:Prop}(q0:Q0)(h:Hid Q0→P:=by intro q0;(repeat'(first|((apply Yb YhM);exact za;exact rfl;exact fun _ hw=>(hplc hw))|((apply Yn Vg);exact za;exact rfl;exact fun _ hw=>(hix hin.cons.cons.cons hw))|((apply Yn Ybi);exact za;exact rfl;exact fun _ hw=>(hus hin.cons.cons.cons hw))|((apply Yn Ytf);exact za;exact rfl;exact fun _ hw=>(hfi hrf.cons.cons.cons hw))|(apply zg28;refine zs84 ?_)|refine zgd ?_|(refine zge ?_ ?_<;>intro zz<;>try(exfalso;omega))|(refine zgh ?_;intro zz)|fail));(repeat revert zz);exact q0.h):P:=h ⟨q0⟩
theorem zX77{P Q0:Prop}(q0:Q0)(h:Hid Q0→P:=by intro q0;(repeat'(first|((apply Yb YhM);exact za;exact rfl;exact fun _ hw=>(hplc hw))|((apply Yn Vg);exact za;exact rfl;exact fun _ hw=>(hix hin.cons.cons.cons hw))|((apply Yn Ybi);exact za;exact rfl;exact fun _ hw=>(hus hin.cons.cons.cons hw))|((apply Yn Ytf);exact za;exact rfl;exact fun _ hw=>(hfi hrf.cons.cons.cons hw))|((apply Yn YsZ);exact za;exact rfl;exact fun _ hw=>(hcm hw))|(apply zg28;refine zs84 ?_)|refine zgd ?_|(refine zgf ?_ ?_<;>intro zz<;>try(exfalso;omega))|(refine zgh ?_;intro zz)|fail));(repeat revert zz);exact q0.h):P:=h ⟨q0⟩
theorem zX78{P Q0:Prop}(q0:Q0)(h:Hid Q0→P:=by intro q0;(repeat'(first|(apply zg23;first|(refine zs52 ?_;intro zz)|(refine zs53 ?_;intro zz))|refine zgd ?_|(refine zgh ?_;intro zz)|fail));(repeat revert zz);exact q0.h):P:=h ⟨q0⟩
theorem zX79{P Q0:Prop}(q0:Q0)(h:Hid Q0→P:=by intro q0;(repeat'(first|refine zgd ?_|(refine zgf ?_ ?_<;>intro zz<;>try(exfalso;omega))|(refine zgh ?_;intro zz)|fail));(repeat revert zz);exact q0.h):P:=h ⟨q0⟩
theorem zX80{P Q0:Prop}(q0:Q0)(h:Hid Q0→P:=by intro q0;(repeat'(first|((apply Yb Yps);exact za;exact rfl;exact fun _ hw=>(hcn hw))|refine zgd ?_|(refine zge ?_ ?_<;>intro zz<;>try(exfalso;omega))|fail));(repeat revert zz);exact q0.h):P:=h ⟨q0⟩
theorem zX82{P Q0:Prop}(q0:Q0)(h:Hid Q0→P:=by intro q0;(repeat'(first|(apply YjG T;exact rfl;exact zm;exact rfl;exact rfl;exact rfl)|(apply Yh;try exact zl)|refine zgd ?_|(refine zgh ?_;intro zz)|(refine zgi ?_;intro zz zz)|fail));(repeat revert zz);exact q0.h):P:=h ⟨q0⟩
theorem zX83{P Q0:Prop}(q0:Q0)(h:Hid Q0→P:=by intro q0;(repeat'(first|(apply zg28;refine zs84 ?_)|refine zgd ?_|(refine zgh ?_;intro zz)|fail));(repeat revert zz);exact q0.h):P:=h ⟨q0⟩
theorem zX84{P Q0:Prop}(q0:Q0)(h:Hid Q0→P:=by intro q0;(repeat'(first|(apply zg28;refine zs84 ?_)|refine zgd ?_|fail));(repeat revert zz);exact q0.h):P:=h ⟨q0⟩
theorem zX88{P Q0:Prop}(q0:Q0)(h:Hid Q0→P:=by intro q0;(repeat'(first|((apply Yb XM);exact za;exact rfl;exact fun _ hw=>(hchk hin.cons.cons hw))|((apply Yb en39);exact za;exact rfl;exact fun _ hw=>(Xw n.nodes l hlf hrf.cons.cons hw))|((apply Yb YlK);exact za;exact rfl;exact fun _ hw=>(hsz hw))|((apply Yb en40);exact za;exact rfl;exact fun _ hw=>(hcf _ zm hrf.cons.cons hw))|(apply zg29;(apply Ys;exact za;exact rfl))|refine zgd ?_|(refine zge ?_ ?_<;>intro zz<;>try(exfalso;omega))|(refine zgh ?_;intro zz)|fail));(repeat revert zz);exact q0.h):P:=h ⟨q0⟩
theorem zX89{P Q0:Prop}(q0:Q0)(h:Hid Q0→P:=by intro q0;(repeat'(first|((apply Yb XM);exact za;exact rfl;exact fun _ hw=>(hchk hin.cons.cons hw))|((apply Yb en39);exact za;exact rfl;exact fun _ hw=>(Xw n.nodes l hlf hrf.cons.cons hw))|((apply Yb YlK);exact za;exact rfl;exact fun _ hw=>(hsz hw))|((apply Yb en40);exact za;exact rfl;exact fun _ hw=>(hcf _ zm hrf.cons.cons hw))|((apply Yb Ywn);exact za;exact rfl;exact fun _ hw=>(hcc hin.cons.cons hrf.cons.cons hr.cons.cons hw))|(apply zg29;(apply Ys;exact za;exact rfl))|refine zgc ?_|(refine zge ?_ ?_<;>intro zz<;>try(exfalso;omega))|(refine zgh ?_;intro zz)|fail));(repeat revert zz);exact q0.h):P:=h ⟨q0⟩
theorem zX94{P Q0:Prop}(q0:Q0)(h:Hid Q0→P:=by intro q0;(repeat'(first|((apply Yb Yv4);exact za;exact rfl;exact fun _ hw=>(p1 (hin.mono zk) (hq.mono zk) hw))|refine zgc ?_|(refine zge ?_ ?_<;>intro zz<;>try(exfalso;omega))|(refine zgh ?_;intro zz)|fail));(repeat revert zz);exact q0.h):P:=h ⟨q0⟩
theorem zX95{P Q0:Prop}(q0:Q0)(h:Hid Q0→P:=by intro q0;(repeat'(first|(apply Yh;try exact zl)|refine zgd ?_|(refine zge ?_ ?_<;>intro zz<;>try(exfalso;omega))|fail));(repeat revert zz);exact q0.h):P:=h ⟨q0⟩
theorem zX98{P Q0:Prop}(q0:Q0)(h:Hid Q0→P:=by intro q0;(repeat'(first|((apply Zg (cs:=[]));exact rfl;exact Ywo;exact za;exact rfl;exact fun _ hw=>(hss hw))|refine zgd ?_|(refine zge ?_ ?_<;>intro zz<;>try(exfalso;omega))|fail));(repeat revert zz);exact q0.h):P:=h ⟨q0⟩
theorem YtC{P Q0:Prop}(q0:Q0)(h:Hid Q0→P:=by intro q0;(repeat'(first|((apply Zg (cs:=[]));exact rfl;exact Ywp;exact za;exact rfl;exact fun _ hw=>(hss hw))|refine zgd ?_|(refine zge ?_ ?_<;>intro zz<;>try(exfalso;omega))|fail));(repeat revert zz);exact q0.h):P:=h ⟨q0⟩
theorem Ymm{P Q0:Prop}(q0:Q0)(h:Hid Q0→P:=by intro q0;(repeat'(first|refine zgc ?_|(refine zgf ?_ ?_<;>intro zz<;>try(exfalso;omega))|(refine zgh ?_;intro zz)|fail));(repeat revert zz);exact q0.h):P:=h ⟨q0⟩
theorem YfO{P Q0:Prop}(q0:Q0)(h:Hid Q0→P:=by intro q0;(repeat'(first|refine zgc ?_|(refine zge ?_ ?_<;>intro zz<;>try(exfalso;omega))|(refine zgh ?_;intro zz)|fail));(repeat revert zz);exact q0.h):P:=h ⟨q0⟩
theorem Yaw{P Q0:Prop}(q0:Q0)(h:Hid Q0→P:=by intro q0;(repeat'(first|refine zgc ?_|(refine zgf ?_ ?_<;>intro zz<;>try(exfalso;omega))|fail));(repeat revert zz);exact q0.h):P:=h ⟨q0⟩
theorem YtD{P Q0:Prop}(q0:Q0)(h:Hid Q0→P:=by intro q0;(repeat'(first|(apply XI T (f:=numF) (l:=m) (i:=c.1.toNat) (a:=bits .andNot .i64 v (IntKind.i64.wrap (1*2^c.2.1.toNat)));exact rfl;exact rfl;exact rfl;exact zd;exact rfl;exact fun _=>rfl;exact rfl;omega)|(apply YmG;exact rfl;exact rfl;exact rfl)|refine zgd ?_|fail));(repeat revert zz);exact q0.h):P:=h ⟨q0⟩
theorem YtE{P Q0:Prop}(q0:Q0)(h:Hid Q0→P:=by intro q0;(repeat'(first|refine zgd ?_|(refine zge ?_ ?_<;>intro zz<;>try(exfalso;omega))|(refine zgh ?_;intro zz)|(refine zgi ?_;intro zz zz)|fail));(repeat revert zz);exact q0.h):P:=h ⟨q0⟩
theorem YtF{P Q0:Prop}(q0:Q0)(h:Hid Q0→P:=by intro q0;(repeat'(first|(apply Ya9;exact rfl;kernel_rfl;exact rfl)|refine zgd ?_|(refine zge ?_ ?_<;>intro zz<;>try(exfalso;omega))|(refine zgh ?_;intro zz)|fail));(repeat revert zz);exact q0.h):P:=h ⟨q0⟩
theorem YtG{P Q0:Prop}(q0:Q0)(h:Hid Q0→P:=by intro q0;(repeat'(first|((apply Yb YlJ);exact za;exact rfl;exact fun _ hw=>(hen hin.cons hw))|refine zgb ?_|(refine zge ?_ ?_<;>intro zz<;>try(exfalso;omega))|fail));(repeat revert zz);exact q0.h):P:=h ⟨q0⟩
theorem YtH{P Q0:Prop}(q0:Q0)(h:Hid Q0→P:=by intro q0;(repeat'(first|(apply Js;exact rfl;exact rfl;exact rfl)|((apply Yb Ywl);exact za;exact rfl;exact fun _ hw=>(hsh hw))|refine zgb ?_|(refine zge ?_ ?_<;>intro zz<;>try(exfalso;omega))|fail));(repeat revert zz);exact q0.h):P:=h ⟨q0⟩
theorem Ymn{P Q0:Prop}(q0:Q0)(h:Hid Q0→P:=by intro q0;(repeat'(first|((apply Yb UR);exact za;exact rfl;exact fun _ hw=>(hck hin.cons hw))|refine zgb ?_|(refine zge ?_ ?_<;>intro zz<;>try(exfalso;omega))|(refine zgh ?_;intro zz)|fail));(repeat revert zz);exact q0.h):P:=h ⟨q0⟩
theorem YtI{P Q0:Prop}(q0:Q0)(h:Hid Q0→P:=by intro q0;(repeat'(first|((apply Yn Ybj);exact za;exact rfl;exact fun _ hw=>(hnd hw))|(apply zg28;refine zs84 ?_)|refine zgd ?_|(refine zge ?_ ?_<;>intro zz<;>try(exfalso;omega))|fail));(repeat revert zz);exact q0.h):P:=h ⟨q0⟩
theorem YtJ{P Q0:Prop}(q0:Q0)(h:Hid Q0→P:=by intro q0;(repeat'(first|((apply Yn Yc0);exact za;exact rfl;exact fun _ hw=>(hgd hin.cons hw))|(apply zg28;refine zs84 ?_)|refine zgd ?_|(refine zge ?_ ?_<;>intro zz<;>try(exfalso;omega))|fail));(repeat revert zz);exact q0.h):P:=h ⟨q0⟩
theorem YqJ{P Q0:Prop}(q0:Q0)(h:Hid Q0→P:=by intro q0;(repeat'(first|refine zgd ?_|(refine zgf ?_ ?_<;>intro zz<;>try(exfalso;omega))|(refine zgh ?_;intro zz)|(refine zgi ?_;intro zz zz)|fail));(repeat revert zz);exact q0.h):P:=h ⟨q0⟩
theorem YtK{P Q0:Prop}(q0:Q0)(h:Hid Q0→P:=by intro q0;(repeat'(first|((apply Yb Yfb);exact za;exact rfl;exact fun _ hw=>(hck hw))|refine zgd ?_|(refine zgf ?_ ?_<;>intro zz<;>try(exfalso;omega))|fail));(repeat revert zz);exact q0.h):P:=h ⟨q0⟩
theorem YtL{P Q0:Prop}(q0:Q0)(h:Hid Q0→P:=by intro q0;(repeat'(first|((apply Yb UR);exact za;exact rfl;exact fun _ hw=>(p1 hin.cons hw))|apply(zs2 ?_)|(apply zg3;refine zs8 ?_)|(apply zg8;(refine zs16 ?_ ?_<;>intro zz<;>try(exfalso;omega)))|(apply zg23;(refine zs52 ?_;intro zz))|apply(zs65 ?_)|apply(zs68 ?_)|apply(zs69 ?_)|apply(zs70 ?_)|(apply zg27;refine zs72 ?_)|apply(zs76 ?_)|fail));(repeat revert zz);exact q0.h):P:=h ⟨q0⟩
theorem YtM{P Q0:Prop}(q0:Q0)(h:Hid Q0→P:=by intro q0;(repeat'(first|apply(zs1 ?_)|(apply zg4;refine zs9 ?_)|(apply(zs17 ?_ ?_)<;>intro zz<;>try(exfalso;omega))|apply(zs65 ?_)|apply(zs68 ?_)|apply(zs69 ?_)|apply(zs70 ?_)|(apply zg27;refine zs71 ?_)|apply(zs73 ?_)|apply(zs76 ?_)|fail));(repeat revert zz);exact q0.h):P:=h ⟨q0⟩
theorem YtN{P Q0:Prop}(q0:Q0)(h:Hid Q0→P:=by intro q0;(repeat'(first|apply(zs1 ?_)|(apply zg2;refine zs58 ?_)|(apply zg3;first|refine zs8 ?_|refine zs59 ?_|refine zs60 ?_)|(apply zg5;refine zs57 ?_)|apply(zs87 ?_)|fail));(repeat revert zz);exact q0.h):P:=h ⟨q0⟩
theorem YqK{P Q0:Prop}(q0:Q0)(h:Hid Q0→P:=by intro q0;(repeat'(first|apply(zs1 ?_)|(apply zg4;refine zs9 ?_)|(apply(zs17 ?_ ?_)<;>intro zz<;>try(exfalso;omega))|apply(zs65 ?_)|apply(zs68 ?_)|apply(zs69 ?_)|apply(zs70 ?_)|(apply zg27;refine zs72 ?_)|apply(zs75 ?_)|apply(zs80 ?_)|apply(zs81 ?_)|fail));(repeat revert zz);exact q0.h):P:=h ⟨q0⟩
theorem YtO{P Q0:Prop}(q0:Q0)(h:Hid Q0→P:=by intro q0;(repeat'(first|apply(zs1 ?_)|(apply zg1;refine zs4 ?_)|(apply zg3;refine zs60 ?_)|(apply zg4;refine zs9 ?_)|(apply zg5;refine zs57 ?_)|(apply zg7;(refine zs15 ?_ ?_<;>intro zz<;>try(exfalso;omega)))|apply(zs87 ?_)|fail));(repeat revert zz);exact q0.h):P:=h ⟨q0⟩
theorem Ue{P Q0:Prop}(q0:Q0)(h:Hid Q0→P:=by intro q0;(repeat'(first|refine Yr T ?_|refine zgd ?_|fail));(repeat revert zz);exact q0.h):P:=h ⟨q0⟩
theorem YtP{P Q0:Prop}(q0:Q0)(h:Hid Q0→P:=by intro q0;(repeat'(first|((apply Yb YwL);exact za;exact rfl;exact fun _ hw=>(hwl hinm.cons.cons hrfm.cons.cons hw))|refine zgb ?_|(refine zge ?_ ?_<;>intro zz<;>try(exfalso;omega))|(refine zgh ?_;intro zz)|fail));(repeat revert zz);exact q0.h):P:=h ⟨q0⟩
theorem Yjr{P Q0:Prop}(q0:Q0)(h:Hid Q0→P:=by intro q0;(repeat'(first|(apply zg23;first|(refine zs52 ?_;intro zz)|(refine zs53 ?_;intro zz))|refine zgb ?_|(refine zgh ?_;intro zz)|fail));(repeat revert zz);exact q0.h):P:=h ⟨q0⟩
theorem Yel{P Q0:Prop}(q0:Q0)(h:Hid Q0→P:=by intro q0;(repeat'(first|refine Yr T ?_|refine zgc ?_|(refine zge ?_ ?_<;>intro zz<;>try(exfalso;omega))|fail));(repeat revert zz);exact q0.h):P:=h ⟨q0⟩
theorem YtQ{P Q0:Prop}(q0:Q0)(h:Hid Q0→P:=by intro q0;(repeat'(first|refine Yr T ?_|((apply Yb en93);exact za;exact rfl;exact fun _ hw=>(p1 (hpM zm) hw))|refine zgc ?_|(refine zge ?_ ?_<;>intro zz<;>try(exfalso;omega))|(refine zgh ?_;intro zz)|fail));(repeat revert zz);exact q0.h):P:=h ⟨q0⟩
theorem Yjs{P Q0:Prop}(q0:Q0)(h:Hid Q0→P:=by intro q0;(repeat'(first|refine Yr T ?_|refine zgc ?_|fail));(repeat revert zz);exact q0.h):P:=h ⟨q0⟩
theorem Yjt{P Q0:Prop}(q0:Q0)(h:Hid Q0→P:=by intro q0;(repeat'(first|refine Yr T ?_|refine zgd ?_|(refine zge ?_ ?_<;>intro zz<;>try(exfalso;omega))|(refine zgh ?_;intro zz)|fail));(repeat revert zz);exact q0.h):P:=h ⟨q0⟩
theorem YqL{P Q0:Prop}(q0:Q0)(h:Hid Q0→P:=by intro q0;(repeat'(first|(apply ZN;exact rfl;exact rfl;exact rfl)|(apply JR;exact rfl;exact rfl;exact rfl)|refine zga ?_|fail));(repeat revert zz);exact q0.h):P:=h ⟨q0⟩
theorem YtR{P Q0:Prop}(q0:Q0)(h:Hid Q0→P:=by intro q0;(repeat'(first|refine Yr T ?_|refine zgd ?_|(refine zgf ?_ ?_<;>intro zz<;>try(exfalso;omega))|(refine zgh ?_;intro zz)|fail));(repeat revert zz);exact q0.h):P:=h ⟨q0⟩
theorem Yju{P Q0:Prop}(q0:Q0)(h:Hid Q0→P:=by intro q0;(repeat'(first|refine Yr T ?_|(apply Yh;try exact zl)|refine zgd ?_|fail));(repeat revert zz);exact q0.h):P:=h ⟨q0⟩
end Go.Eng
namespace Go
variable {p:Prop}
theorem zc0(h:p:=by exact zk):p:=h
theorem zc1(h:p:=by exact zu):p:=h
theorem zc2(h:p:=by repeat(first|with_reducible exact TG|with_reducible apply TO|assumption)):p:=h
theorem zc3(h:p:=by apply Yd;exact rfl;exact rfl;exact⟨rfl,rfl⟩):p:=h
theorem zc4(h:p:=by repeat(first|with_reducible exact Perm.refl _|(with_reducible apply YaV;focus((repeat(first|with_reducible exact Yo|with_reducible apply Yw));done))|with_reducible apply Perm.dropK)):p:=h
theorem zc5(h:p:=by apply YH;(iterate 3 exact rfl);exact⟨rfl,rfl⟩):p:=h
theorem zc6(h:p:=by
 ·refine zX0 ?_<;>intros
  apply Yd;exact rfl;exact rfl
  rw[hi,Rb (by omega)]
  exact⟨rfl,rfl⟩):p:=h
theorem zc7(h:p:=by
 ·refine zX0 ?_<;>intros
  apply Yd;exact rfl;exact rfl
  rw[TM (by omega),TM (by omega)]at hi
  exact⟨by rw[Tf hi],rfl⟩):p:=h
theorem zc8(h:p:=by
 refine zX1 ?_<;>intros
 apply Yd;exact rfl;exact rfl
 exact⟨by rw[Ti λe=>hll (by rw[e])],rfl⟩):p:=h
theorem zc9(h:p:=by
 repeat'(first|(apply Js;(iterate 3 exact rfl))|(apply YK T;exact rfl;exact rfl;intro g2)|refine zgb ?_|fail)
 apply Xt T (f:=numF) (l2:=l) (e:=3) (size:=1) (xs:=[]);(iterate 3 exact rfl);exact hr.cons;exact(λ_=>rfl);exact(λ_=>rfl);exact rfl;(intro _ _;exact zd);omega;intro A' cap'
 refine zX2 ?_
 rw[Ri,TC]
 apply Yd;exact rfl;exact rfl;grind):p:=h
theorem zc10(h:p:=by apply Yd;exact rfl;exact rfl;simp_all):p:=h
theorem zc11(h:p:=by
 ·rw[hpv]at hi
  refine zX3 ?_
  apply Yd;exact rfl;exact rfl
  grind):p:=h
theorem zc12(h:p:=by
 intro A1 c1 r8 hr8 A3 c3 A4 c4 A5 c5
 have hst:(x.rows.take (i+1)).map (·.xs)=(x.rows.take i).map (·.xs)++[r.xs]:=by
  rw[TB,hr,RN,Rf];rfl
 have hli:((x.rows.take i).map (·.xs)).length=i:=by rw[To,TU];omega
 rw[hst]
 unfold ClM.clm YcJ at hcm
 injection hcm with f1 f2 f3 f4 f5
 have l1:c.rs.length=i:=by rw[<-hli,<-f2,To]
 have l2:c.bs.length=i:=by rw[f3,To,hli]
 have l3:c.ws.length=i:=by rw[f4,To,hli]
 have l4:c.ss.length=i:=by
  have:=TF List.length f5
  rw[To,To,hli]at this
  exact this
 refine⟨by omega,?_,⟨?_,?_,?_⟩,?_⟩
 ·unfold ClM.clm YcJ
  simp only[Rf,Rx,List.map_nil,hr8,f1,f2,f3,f4,f5,e1,hRt]
 ·simp only[Tt,Ro,Sr,l1,l2,l3,l4]
  omega
 ·intro q hq
  rcases Rl.1 hq with h|h
  ·exact hlen.2.1 q h
  ·rw[Ru.1 h,hr8];omega
 ·intro q hq
  rcases Rl.1 hq with h|h
  ·exact hlen.2.2 q h
  ·rw[Ru.1 h];show sx.length<=1000;omega
 ·rw[S7,hno]
  simp[hPr]):p:=h
theorem zc13(h:p:=by
 ·skip
  repeat'(first|(apply XY (XW word (l.take i)) [10];(iterate 3 exact rfl);(show _+1<=_;omega))|refine zgc ?_|(refine zge ?_ ?_<;>intro _<;>try exact zo)|fail)
  apply Yd;exact rfl;exact rfl
  rw[show i=l.length by omega,TI]
  exact⟨rfl,rfl⟩):p:=h
theorem zc14(h:p:=by
 have hget:((List.map toE (l1++(k,v0,b)::l2)).toArray)[l1.length]? =some (toE (k,v0,b)):=by simp_all
 have hmod:((List.map toE (l1++(k,v0,b)::l2)).toArray).modify l1.length (λe=>{e with key:=.int .i64 k,val:=v})=(List.map toE (l1++(k,v,b)::l2)).toArray:=by
  grind [toE,YdD]
 have hks:(Instr.keyThatStays (.int .i64 k) (.int .i64 k)).run P w=.ok (.int .i64 k) w:=by
  unfold Instr.keyThatStays;simp[Instr.sameBits]
 have hkey:(Option.map (λx:MapEntry=>x.key) (some (toE (k,v0,b)))).getD (.int .i64 k)=.int .i64 k:=rfl
 have hrun:(Instr.mapUpdate t (.map (some g)) (.int .i64 k) v).run P w=.ok () (setBlock w g (mobj (l1++(k,v,b)::l2) clock)):=by
  simp only[Instr.mapUpdate,Sem.run_bind,run_underlying h1,getObj,Sem.run,hb,VD _ h2,MapKept.run_findKey h2 hf,hget,hkey,hks,hmod,Result.andThen,MapKept.run_setObj_map _ hb,setBlock,mobj]
 simp[execOp,ha.eval hx,ha.eval hy,ha.eval hv,hrun]):p:=h
theorem zc15(h:p:=by
 repeat'(first|refine zgd ?_|(refine zgf ?_ ?_<;>intro _<;>try exact zo)|(refine zgh ?_;intro _)|fail)
 all_goals(
  apply Yf H
  ·exact zk
  apply Yd;exact rfl;exact rfl
  first
   |exact⟨by rw[show insE v n.net.nodes=true from Tf (by omega)],rfl⟩
   |exact⟨by rw[show insE v n.net.nodes=false from Ti (by omega)],rfl⟩)):p:=h
theorem zc16(h:p:=by
 repeat'(first|(apply(zs20 ?_ ?_)<;>intro _<;>try(omega))|refine zga ?_|fail)
 apply Yd;exact rfl;exact rfl
 simp_all):p:=h
theorem zc17(h:p:=by
 have hb: -9223372036854775808<=n.thr*(n.noise+d)/\n.thr*(n.noise+d)<=9223372036854775807:=YrF hok hd.1 hd.2
 have hz0:0<=n.noise:=hok.z0
 have hz1:n.noise<=68719476736:=hok.z1
 unfold XQ
 show VC Tryz.prog _ B w0 _ (bodyPost Tryz.prog _ (Post B w0 λv K=>v=.bool (decide (n.thr*(n.noise+d)<=s*1000))/\K=H)) _ _
 repeat'(first|refine zgd ?_|(refine zgf ?_ ?_<;>intro _<;>try exact zo)|(refine zgh ?_;intro _)|fail)
 ·(repeat apply Yi);apply Yd;exact rfl;exact rfl
  simp_all
 ·(repeat apply Yi);apply Yd;exact rfl;exact rfl
  simp_all):p:=h
theorem zc18(h:p:=by
 refine zX1 ?_<;>intros
 apply Yd;exact rfl;exact rfl
 exact⟨by rw[Ti λe=>hll (by have:=TF List.length e;grind)],rfl⟩):p:=h
theorem zc19(h:p:=by
 repeat'(first|refine zgd ?_|(refine zge ?_ ?_<;>intro _<;>try exact zo)|fail)
 all_goals(apply Yd;exact rfl;exact rfl;exact⟨_,q1,rfl,hp,rfl⟩)):p:=h
theorem zc20(h:p:=by
 (repeat apply Yi);apply Yd;exact rfl;exact rfl
 exact⟨rfl,rfl⟩):p:=h
theorem zc21(h:p:=by·exactλw hw=>hw):p:=h
theorem zc22(h:p:=by
 refine zX6 ?_
 apply ZQ 3 1;apply Yd;exact rfl;exact rfl;exact⟨none,0,rfl,rfl⟩):p:=h
theorem zc23(h:p:=by repeat(first|exact hinm|apply NetM.In.cons)):p:=h
theorem zc24(h:p:=by
 apply Yd;exact rfl;exact rfl
 simp_all):p:=h
theorem zc25(h:p:=by
 apply Yd;exact rfl;exact rfl
 have hne:¬(l.map (·.xs)=m.map (·.xs)):=λe=>by
  have h1:(l.map (·.xs))[k]? =(m.map (·.xs))[k]? :=by rw[e]
  rw[TN,TN,ha,hb]at h1
  exact hab (TJ h1)
 exact⟨by rw[Ti hne],rfl⟩):p:=h
theorem zc26(h:p:=by
 refine hfree k ok hk hki ?_ hno
 by_cases hjk:j=k
 ·subst hjk;exact hjun
 ·rw[getD_set_ne true hjk]at hu;exact hu):p:=h
theorem zc27(h:p:=by
 repeat'(first|refine zgd ?_|(refine zgf ?_ ?_<;>intro _<;>try exact zo)|fail)
 all_goals(
  apply Yd;exact rfl;exact rfl
  first
   |exact⟨by rw[Tf (by omega)],rfl⟩
   |exact⟨by rw[Ti (by omega)],rfl⟩)):p:=h
theorem zc28(h:p:=by rw[Rr];exact Perm.refl _):p:=h
theorem zc29(h:p:=by
 obtain⟨h1,h2⟩:=JZ ht
 refine J6 rfl rfl (λa w ha hw=>⟨setBlock w g (mobj (es++[(k,v,clock)]) (clock+1)),?_,hw.setBlock hu⟩) h
 have hb:w.heap[g]? =some (mobj es clock):=by
  obtain⟨L1,L2,rfl,_⟩:=hu
  exact(hw.blk (by simp)).1
 have hb':=hb
 unfold mobj at hb
 simp[execOp,ha.eval hx,ha.eval hy,ha.eval hv,Instr.mapUpdate,run_underlying h1,getObj,Sem.run,hb,VD _ h2,MapKept.run_findKey h2 (QY 0 hk),MapKept.run_setObj_map _ hb,setBlock,mobj,toE]):p:=h
theorem zc30(h:p:=by
 ·refine zX0 ?_<;>intros
  apply Yd;exact rfl;exact rfl
  rw[TM (by omega),TM (by omega)]at hi
  exact⟨by rw[Tf hi],rfl⟩):p:=h
theorem zc31(h:p:=by
 unfold mar
 rw[Tz,show n.net.margin=n.margin from rfl,Ta (by omega)];rfl):p:=h
theorem zc32(h:p:=by
 ·refine zX0 ?_<;>intros
  ((repeat apply Yi);apply Yd;exact rfl;exact rfl;refine⟨TF _ ?_,rfl⟩)
  rw[hi,Rb (by omega)];rfl):p:=h
theorem zc33(h:p:=by repeat(first|exact hin|apply NetM.In.cons)):p:=h
theorem zc34(h:p:=by
 rcases hlast j hc with h4|⟨f,hf⟩
 ·have h5:listed.getD j true=true:=by
   rcases Nh j listed.size with h'|h'
   ·simp[h']at h4⊢;exact h4
   ·simp[Array.getElem?_eq_none h']
  rw[h5]at hjun;cases hjun
 ·have:=Wa hcl f j i (λok hk e he hb=>by
   obtain rfl:ok=oj:=TJ (hk.symm.trans hoj)
   exact hall e he hb) hf
  rw[hun']at this
  cases this):p:=h
theorem zc35(h:p:=by
 unfold rqsE at h
 split at h
 ·cases h
 split at h
 ·exact absurd h (by assumption)
 obtain⟨k,hk⟩:=TP.1 hx
 have h1:=YI.1 h k (Td _) (by rw[To];have:=(Tu.1 hk).1;omega)
 rw[Yam hk]at h1
 have h2:=Yan h1
 have h3:x.rq.2.length=x.rows.length:=by unfold RqM.rq;rw[To]
 omega):p:=h
theorem zc36(h:p:=by
 cases x<;>simp only[Oper.upon,Oper.uponIn]at h2⊢<;>first
  |exact h2
  |(refine⟨λhd=>by simp[Fence.wide]at hd,?_⟩
    refine CallsIn.mono (callsIn_wide.2 h2) λe w'' he=>?_
    cases e<;>exact he)
  |(refine⟨λhd=>by simp[Fence.wide]at hd,λc cs _=>?_⟩
    obtain⟨v,w2,k1,k2⟩:=h2 c cs
    exact⟨v,w2,k1,stepsIn_wide.2 k2⟩)
  |exact h2.elim):p:=h
theorem zc37(h:p:=by
 apply YbY;(iterate 5 exact rfl)
 exact⟨none,0,rfl,rfl⟩):p:=h
theorem zc38(h:p:=by
 simp only[execOp,resolve,ha.eval hx,hmap,Deferred.ofValue,Sem.run_bind,Sem.run_pure,Result.andThen_ok,invoke]
 simp_all):p:=h
theorem zc39(h:p:=by
 obtain⟨L1,L2,rfl,_⟩:=hu
 exact(hw.blk (by simp)).1):p:=h
theorem zc40(h:p:=by
 rcases Nh i listed.size with h'|h'
 ·simp[h']at hun⊢;exact hun
 ·simp[Array.getElem?_eq_none h']at hun):p:=h
theorem zc41(h:p:=by
 refine zX2 ?_
 rw[Ri,TC]
 apply Yd;exact rfl;exact rfl;grind):p:=h
theorem zc42(h:p:=by
 cases nx<;>simp only[Oper.upon]at h⊢<;>first
  |exact h
  |(cases e with
    |returned u=>exact he
    |panicked c=>exact he
    |outgrown=>exact⟨a',w',h'⟩)):p:=h
theorem zc43(h:p:=by
 refine(hf.once.sublist hsub).imp_of_mem λ{a b} ha hb hab=>hab ?_
 have h1:=(RU.1 ha).2
 have h2:=(RU.1 hb).2
 simp_all [Y9]):p:=h
theorem zc44(h:p:=by
 rename_i h
 apply Yd;exact rfl;exact rfl
 exact⟨by rw[Ti λe=>by simp_all],rfl⟩):p:=h
theorem zc45(h:p:=by(intro w hw;refine hw.perm ?_;focus repeat(first|with_reducible exact Perm.refl _|(with_reducible focus(done))|with_reducible apply Perm.dropK))):p:=h
theorem zc46(h:p:=by
 obtain⟨g,o,e,_⟩:=hr w hw 0 _ rfl
 cases e):p:=h
theorem zc47(h:p:=by
 ((repeat apply Yi);apply Yd;exact rfl;exact rfl;refine⟨TF _ ?_,rfl⟩)
 rw[hi]):p:=h
theorem zc48(h:p:=by
 apply J7;(iterate 4 exact rfl)
 exact Yl9 rfl rfl):p:=h
theorem zc49(h:p:=by
 refine zX7 ?_
 ((repeat apply Yi);apply Yd;exact rfl;exact rfl;refine⟨TF _ ?_,rfl⟩)
 simp_all):p:=h
theorem zc50(h:p:=by dsimp only;omega):p:=h
theorem zc51(h:p:=by
 refine(hcall w hw).mono ?_
 rintro e w' ⟨v,H',rfl,hst,hΦ⟩
 exact hK _ _ ((h v H' hΦ).run _ (ha.put (TR hn) v) _ hst)):p:=h
theorem zc52(h:p:=by
 have h0:(Y1 n.net s.sch x.f r.xs).2=0:=by rw[hRt]
 obtain⟨h1,b,h2,h3⟩:=YdS h0
 have hok:=Ycd (x:=⟨n,s,x.f,r.A,r.cap,r.xs⟩) h1
 have h4:=Ym5 hok h2
 rw[hRt]at h3
 injection h3 with h3 _
 rw[<-h3]at h4
 exact⟨hok.len.2,h4⟩):p:=h
theorem zc53(h:p:=by rintro _ _ ⟨g,rfl,rfl⟩;exact h g):p:=h
theorem zc54(h:p:=by rintro⟨_,_,h⟩;exact h):p:=h
theorem zc55(h:p:=by apply YH;(iterate 3 exact rfl);simp_all):p:=h
theorem zc56(h:p:=by
 ((repeat apply Yi);apply Yd;exact rfl;exact rfl;refine⟨TF _ ?_,rfl⟩)
 (repeat(first|refine Xm (by omega) ?_|refine Xn (by omega) ?_))
 rw[hi];exact(Yin n.net hlt (by assumption)).symm):p:=h
theorem zc57(h:p:=by simp only;omega):p:=h
theorem zc58(h:p:=by exact⟨by omega,by rw[TB,TB,ha,hb,Rf,Rf,hi];simp[hab]⟩):p:=h
theorem zc59(h:p:=by apply Yd;exact rfl;exact rfl;exact⟨none,0,rfl,rfl⟩):p:=h
theorem zc60(h:p:=by
 rcases hlast k hk with h4|h4
 ·left
  by_cases hjk:j=k
  ·subst hjk
   rcases Nh j listed.size with h'|h'
   ·simp[h']
   ·simp[Array.getElem?_eq_none h']at hjun
  ·rw[getD_set_ne false hjk];exact h4
 ·exact .inr h4):p:=h
theorem zc61(h:p:=by simp[execOp,ha.eval hx,ha.eval hy,Instr.indexAt,asIntOf,run_underlying hut,hi,sizeOf,typeInfo,hinf,hsi,sptr]):p:=h
theorem zc62(h:p:=by
 ((repeat apply Yi);apply Yd;exact rfl;exact rfl;refine⟨TF _ ?_,rfl⟩)
 (repeat(first|refine Xm (by omega) ?_|refine Xn (by omega) ?_))
 rw[hi,show n.links.length-k=0 by omega];rfl):p:=h
theorem zc63(h:p:=by rintro _ _ ⟨rfl,rfl⟩;exact h):p:=h
theorem zc64(h:p:=by
 rw[show((i:Int)-1).toNat=i-1 by omega]
 exact YM (s:=s.sch) (show i-1<s.cells.length by omega)):p:=h
theorem zc65(h:p:=by simp_all [Go.Instr.sliceBounds,Go.Instr.sliceBound,asIntOf]):p:=h
theorem zc66(h:p:=by
 rw[ho]at b3
 have hg:=h.1
 rw[Xx hl ho]at hg
 exact VZ ho b3 hi (λe a w hne=>by cases e<;>simp_all) hS hg λa w hS' h'=>Jz hs hQ hlo l hl hlast t k _ a w (hcl.set hx) b7 hS' h'):p:=h
theorem zc67(h:p:=by
 rw[Array.setIfInBounds_comm _ _ hji]
 exact h3.2.2):p:=h
theorem zc68(h:p:=by
 rw[Bool.eq_iff_iff,Rj,Rj]
 constructor
 ·rintro⟨k,hk,h⟩;refine⟨k,hk,?_⟩;simp_all [UK]
 ·rintro⟨k,hk,h⟩;refine⟨k,hk,?_⟩;simp_all [UK]):p:=h
theorem zc69(h:p:=by exact h5.perm (.cons _ (.openT H))):p:=h
theorem zc70(h:p:=by exact St.nilSlice (h5.perm (.openT H)) _ _):p:=h
theorem zc71(h:p:=by
 apply Yf (ints none 0 []::H)
 ·exactλw hw=>(hw.front 2).tail.tail.tail.nilSlice _ _
 apply YH;(iterate 3 exact rfl)
 exact⟨none,0,rfl,λ_=>rfl,λ_=>hdd,rfl⟩):p:=h
theorem zc72(h:p:=by cases e<;>first|exact h|cases h):p:=h
theorem zc73(h:p:=by
 refine zX2 ?_
 rw[Ri,TC]
 apply Yd;exact rfl;exact rfl;exact⟨A',cap',rfl,rfl⟩):p:=h
theorem zc74(h:p:=by
 intro c hc
 obtain⟨i,hi⟩:=TP.1 hc
 have hl:=(Tu.1 hi).1
 have:=k1 i (Td _) (by omega)
 unfold ZJ at this
 rw[Zi hi]at this
 grind):p:=h
theorem zc75(h:p:=by all_goals(((repeat apply Yi);apply Yd;exact rfl;exact rfl;refine⟨TF _ ?_,rfl⟩);(repeat(first|refine Xm (by omega) ?_|refine Xn (by omega) ?_));rfl)):p:=h
theorem zc76(h:p:=by grind [TB]):p:=h
theorem zc77(h:p:=by
 ·have:=ready_mono hj hji
  rw[H.1]at this
  simp_all):p:=h
theorem zc78(h:p:=by
 go_ret
 exact⟨by simp_all [Zc],rfl⟩):p:=h
theorem zc79(h:p:=by
 rw[hv]at hc
 simp[execOp,ha.eval hx,ha.eval hy,Instr.storeAt,Instr.sureAddr,storeVar,hcs,Jl (T.scal ht).2,storeCells,run_store _ _ _ _ _ h1,Addr.add_zero',hc,hz]):p:=h
theorem zc80(h:p:=by
 rw[Xx hl ho]at hg
 exact VZ ho b4 hj (λe a w hne=>by cases e<;>simp_all) hS hg λa w hS' h'=>Jz hs hQ hlo l hl hlast u k _ a w (hcl.set hx) b8 hS' h'):p:=h
theorem zc81(h:p:=by exact h5.perm (.openT H)):p:=h
theorem zc82(h:p:=by cases x<;>simp only[Oper.upon,Oper.uponIn]at h2⊢<;>first|exact h2|exact h2.elim):p:=h
theorem zc83(h:p:=by exact⟨hb,by show x.s.len-(rel+x.f.2.2.2.1)<=((k:Nat):Int);omega,by show 0<=rel+x.f.2.2.2.1;omega,by show rel+x.f.2.2.2.1<=2000;omega,hb0,hb1⟩):p:=h
theorem zc84(h:p:=by
 apply Yd;exact rfl;exact rfl
 grind):p:=h
theorem zc85(h:p:=by simp[execOp,resolve,invoke,builtin,ha.eval hx,Builtin.clear_,run_underlying hut]):p:=h
theorem zc86(h:p:=by apply Yd;exact rfl;exact rfl;exact⟨⟨_,rfl,λh=>by cases h⟩,rfl⟩):p:=h
theorem zc87(h:p:=by
 intro w hw
 refine hw.shrink (e:=162) (size:=5) (cap:=cap) (A:=A) (xs:=M.flatMap celF) (k:=M.length) (k':=i) (by omega) ?_
 rw[hfl]
 exact Upd.here _):p:=h
theorem zc88(h:p:=by
 obtain⟨r,hr,hiff⟩:=YdW w hl
 simp_all [binOp]):p:=h
theorem zc89(h:p:=by
 rcases hown.2 with⟨e1,e2⟩|⟨g,c,cur,e1,_,_,e4,_⟩
 all_goals simp_all):p:=h
theorem zc90(h:p:=by
 obtain⟨rfl,rfl⟩:=Prod.mk.inj (TJ (show some (s,z)=some (t,y) from e))
 exact⟨h,.refl _ _,by omega,λu _=>Td _⟩):p:=h
theorem zc91(h:p:=by
 have h7:=TL.1 h6 j (by simpa using hj)
 simp only[RH]at h7
 rcases h7 with h7|h7
 ·exact .inl h7
 ·exact .inr ⟨_,h7⟩):p:=h
theorem zc92(h:p:=by simp[execOp,ha.eval hx,sptr,Instr.loadAt,Instr.sureAddr,loadVar,JJ (T.aggs ht),Jl (UF (T.aggs ht)),Addr.add_lit,hl]):p:=h
theorem zc93(h:p:=by(repeat(first|with_reducible exact Yo|with_reducible apply Yw))):p:=h
theorem zc94(h:p:=by
 have hc:=Y7 (i:=i) (hw.blk hm).1
 simp[execOp,ha.eval hx,Instr.loadAt,Instr.sureAddr,loadVar,Xj (T.scal ht).1,hc,hv]):p:=h
theorem zc95(h:p:=by
 have:=(List.takeWhile_prefix (p:=λy:Rqs=>decide (y.1.1<x.f.1)) (l:=q.map RqM.rq)).length_le
 rw[To]at this
 exact this):p:=h
theorem zc96(h:p:=by
 ((repeat apply Yi);apply Yd;exact rfl;exact rfl;refine⟨TF _ ?_,rfl⟩)
 rw[hi,Rb (by omega)];rfl):p:=h
theorem zc97(h:p:=by exact h5.perm (.cons _ (.cons _ (.cons _ (.openT H))))):p:=h
theorem zc98(h:p:=by
 rw[hF,Xh (i:=k) (λj _ hj=>by simp only[hall j hj];rfl) (Td _) (by omega) (by simp only[htw];decide)]
 simp[htw]):p:=h
theorem zc99(h:p:=by
 apply YH;(iterate 3 exact rfl)
 exact⟨A,cap,rfl,rfl⟩):p:=h
theorem Ymo(h:p:=by
 have h1:=TL.1 h j (by simp_all)
 grind):p:=h
theorem YtS(h:p:=by exact⟨s1,true,P,rfl,λ_=>⟨hrel.symm,hF.rd.mono λw hw=>hw.perm (.cons _ (.closeT H))⟩,λh=>(by cases h),rfl⟩):p:=h
theorem YqM(h:p:=by apply Yd;exact rfl;exact rfl;first|exact⟨rfl,rfl⟩|omega):p:=h
theorem YtT(h:p:=by
 have hr:=JK T (A:=A) ht hb2
 simp only[execOp,ha.eval hx,Ss,ha.eval hl,Option.map_none]
 simp[hr,subA]):p:=h
theorem Ymp(h:p:=by subst hji;exact hy.wpOp hi hS ⟨λ_=>hS,H⟩):p:=h
theorem YtU(h:p:=by
 by_cases hjm:j<min mm kd
 ·rw[Tn hjm]at hj
  obtain⟨g3',o3,e3,hc⟩:=hr w hw j v hj
  grind [Go.Addr.add_lit]
 simp_all):p:=h
theorem YtV(h:p:=by simp[execOp,ha.eval hx,Instr.loadAt,Instr.sureAddr,loadVar,JJ (T.aggs ht),Jl (UF (T.aggs ht)),hl]):p:=h
theorem YqN(h:p:=by apply YH;(iterate 3 exact rfl);exact⟨_,rfl,rfl⟩):p:=h
theorem Yax(h:p:=by exactλw hw=>hw.tail):p:=h
theorem YqO(h:p:=by simp[execOp,resolve,invoke,builtin,ha.eval hx,ha.eval hy,hrun]):p:=h
theorem Ymq(h:p:=by rw[<-YaA happ]at hw;exact h.run a w ha hw):p:=h
theorem YtW(h:p:=by
 apply J7;(iterate 4 exact rfl)
 exact⟨A3,cap3,C,rfl,by rw[hC,List.map_map];rfl,hCl,rfl⟩):p:=h
theorem Qf(h:p:=by show i+1<=_;omega):p:=h
theorem YtX(h:p:=by exact⟨by omega,by rw[TB,TB,ha,hb,Rf,Rf,hz];simp[he]⟩):p:=h
theorem Yjv(h:p:=by
 obtain⟨L1,L2,rfl,_⟩:=hu
 simp):p:=h
theorem Yjw(h:p:=by rintro⟨_,_,_,_,h,_⟩;cases h):p:=h
theorem YtY(h:p:=by
 exact⟨by omega,λj h1 h2=>by
  rcases Rk.1 h2 with h|rfl
  ·exact hz j h1 h
  ·exact hFz⟩):p:=h
theorem YtZ(h:p:=by simp[execOp,ha.eval hx,sptr,Instr.loadAt,Instr.sureAddr,loadVar,Xj (T.scal ht).1,Addr.add_lit,hc]):p:=h
theorem Yem(h:p:=by rw[TU];omega):p:=h
theorem YqP(h:p:=by exact za):p:=h
theorem YqQ(h:p:=by
 by_cases e:k=i
 ·rw[e];exact h
 ·exact hall k (by omega)):p:=h
theorem Yt0(h:p:=by
 exact⟨by omega,λj h2=>by
  rcases Rk.1 h2 with h|rfl
  ·exact hz j h
  ·exact hkt⟩):p:=h
theorem Yt1(h:p:=by
 have:=Vo (S:=S) l hl (V3 hlast).1 hlo last listed a w (λj hj=>by simp_all) hB h
 simp_all):p:=h
theorem Yt2(h:p:=by
 rw[Yd8]
 refine zX8 ?_
 apply Yd;exact rfl;exact rfl
 exact⟨by rw[hil],by rw[hil]⟩):p:=h
theorem Ymr(h:p:=by exact h5.perm (.cons _ (.cons _ (.openT H)))):p:=h
theorem Yms(h:p:=by unfold RqM.fl;rw[To];omega):p:=h
theorem YqR(h:p:=by
 rw[e,hb2]at hx
 injection hx with hx;subst hx;exact hc):p:=h
theorem Yt3(h:p:=by
 refine⟨by omega,λj hj=>?_⟩
 by_cases e:j=k
 ·rw[e];exact htw
 ·exact hall j (by omega)):p:=h
theorem Yjx(h:p:=by apply JB;all_goals simp_all):p:=h
theorem Yt4(h:p:=by
 have:=TF List.length hC
 rw[To,To,TU]at this
 omega):p:=h
theorem Qg(h:p:=by exact⟨rfl,rfl⟩):p:=h
theorem Yt5(h:p:=by
 rw[hA]at hr
 simp only[execOp,ha.eval hx,Ss,ha.eval hl,Option.map_none]
 simp[hr]):p:=h
theorem Yt6(h:p:=by
 apply YbY;(iterate 5 exact rfl)
 exact⟨A2,cap2,rfl,rfl⟩):p:=h
theorem Yt7(h:p:=by
 have h1:(i.bytes:Int)*c<=1000*c:=RZ (by omega) hc.1
 omega):p:=h
theorem Yt8(h:p:=by
 have:(s.toList==t.toList)=false:=by grind [QO]
 simp_all [binOp,Go.Op.stringOp]):p:=h
theorem Yt9(h:p:=by
 apply YbY;(iterate 5 exact rfl)
 exact⟨A,cap,rfl,rfl⟩):p:=h
theorem YqS(h:p:=by cases v<;>first|rfl|simp[Value.oneCell']at h1):p:=h
theorem YqT(h:p:=by rintro _ _ ⟨A',cap',rfl,rfl⟩;exact h A' cap'):p:=h
theorem Yua(h:p:=by
 apply Yd;exact rfl;exact rfl
 exact⟨A',cap',by rw[Tt];rfl,rfl⟩):p:=h
theorem YqU(h:p:=by exact h.run _ (ha.put (TR hn) v)):p:=h
theorem YqV(h:p:=by
 split at h
 all_goals simp_all [Go.Program.plainKey]):p:=h
theorem Yub(h:p:=by
 have:=hok.p0
 rwa [show n.net.power=n.rows.map RowM.xs from rfl,To]at this):p:=h
theorem Yuc(h:p:=by
 refine⟨rfl,(hcall w hw).mono ?_⟩
 rintro e w' ⟨_,_,rfl,hst,rfl,rfl⟩
 simp_all):p:=h
theorem Yud(h:p:=by left;have:=hS a rfl;simp only[Value.ownBlock,RX]at hb;rwa [<-hb]):p:=h
theorem Yue(h:p:=by
 rw[TN,TN,ha,hb]at h1
 exact he (TJ h1)):p:=h
theorem YqW(h:p:=by grind [Nat.sub_add_cancel,Yce,Qy]):p:=h
theorem Yuf(h:p:=by rw[hu]at h;cases d<;>first|(simp[isAgg,run_underlying hu];done)|cases h):p:=h
theorem Yug(h:p:=by
 apply YH;(iterate 3 exact rfl)
 exact⟨A1,c1,iA,ic,rfl,rfl⟩):p:=h
theorem YqX(h:p:=by exact(h5.perm (.noMany _)).perm (.swap _ _ _)):p:=h
theorem Qh(h:p:=by rw[<-hw1];simp):p:=h
theorem Yuh(h:p:=by simp[execOp,resolve,invoke,builtin,ha.eval hx,ha.eval hy,run_min_int2,hc]):p:=h
theorem Yui(h:p:=by simp[execOp,resolve,invoke,builtin,ha.eval hx,ha.eval hy,run_max_int2,hc]):p:=h
theorem YbM(h:p:=by exactλw hw=>hw):p:=h
theorem YfP(h:p:=by simp[World.frozen?,hb]):p:=h
theorem YqY(h:p:=by
 obtain⟨L1,L2,rfl,_⟩:=hu none 0
 simp):p:=h
theorem Yuj(h:p:=by
 obtain⟨g',u',e1,hc⟩:=hr w hw _ _ (hget j v hj)
 grind [Go.Addr.add_lit]):p:=h
theorem YqZ(h:p:=by exact⟨by omega,by simp_all [Yoc]⟩):p:=h
theorem Yuk(h:p:=by
 unfold subA
 rw[Tj (by omega),Ss,Addr.add_lit,Ri]):p:=h
theorem Yul(h:p:=by unfold celL;rw[Tz,Ta hlt];rfl):p:=h
theorem Yum(h:p:=by obtain⟨y,h1,h2,h3,h4⟩:=hq;exact⟨μ y,h2,y,rfl,h1,h3,h4⟩):p:=h
theorem Yun(h:p:=by exact⟨by omega,by rw[hi];exact Yim n.net hlt (by assumption)⟩):p:=h
theorem Yuo(h:p:=by
 rcases hown'.2 with⟨e1,e2⟩|⟨g',c',_,e1,_⟩
 all_goals simp_all):p:=h
theorem Yup(h:p:=by
 rw[show((i:Int)-1).toNat=i-1 by omega]
 exact V1 (by omega)):p:=h
theorem Yen(h:p:=by exact h5.nilSlice _ _):p:=h
theorem Yuq(h:p:=by rw[<-hF];show(if ZK _ _ _=true then _ else _)=_;rw[Yam h]):p:=h
theorem Yur(h:p:=by
 rw[TM (by rw[TY];omega)]at h1
 exact h1):p:=h
theorem Ymt(h:p:=by exact⟨by omega,hstep hce⟩):p:=h
theorem Yus(h:p:=by rw[List.map_toArray];exact TF List.toArray (Yfu ha _ _ hp)):p:=h
theorem Yut(h:p:=by
 apply Yd;exact rfl;exact rfl
 exact⟨_,cap,by rw[hli],rfl⟩):p:=h
theorem Yq0(h:p:=by rw[To];exact TK _):p:=h
theorem Yuu(h:p:=by subst hji;exact hy.wpOp hi hS ⟨⟨λh=>absurd h hno,hS⟩,H⟩):p:=h
theorem Yuv(h:p:=by
 apply Yd;exact rfl;exact rfl
 exact⟨_,c2,by rw[hli],rfl⟩):p:=h
theorem Yuw(h:p:=by
 have:(i+1)*q<=l.length*q:=T8 _ hi
 grind):p:=h
theorem Ymu(h:p:=by exact⟨by omega,hstep hf⟩):p:=h
theorem YfQ(h:p:=by
 show k+1<=_
 omega):p:=h
theorem Yux(h:p:=by
 rw[show(y-z).toNat=(y-(z+1)).toNat+1 by omega,cntS]
 omega):p:=h
theorem Yq1(h:p:=by simp only[Sr]at h2;omega):p:=h
theorem Yuy(h:p:=by show x.s.len-x.f.2.2.2.2.1<=((x.s.len.toNat:Nat):Int);omega):p:=h
theorem Yuz(h:p:=by exact YdK (n:=n.net) (r:=r.xs) (by simp[NetM.net,hrw]) hq):p:=h
theorem YuA(h:p:=by subst hji;exact hy.wpOp hi hS ⟨⟨λ_=>hS,hSS _ hS⟩,H⟩):p:=h
theorem YuB(h:p:=by subst hji;exact hy.wpOp hi trivial ⟨λh=>absurd h hno,H⟩):p:=h
theorem YuC(h:p:=by show x.s.len-(rel+x.f.2.2.2.1)<=((k:Nat):Int);omega):p:=h
theorem YuD(h:p:=by
 split
 ·exact Td _
 ·exact Sl _ _):p:=h
theorem Yjy(h:p:=by show j+1<=_;omega):p:=h
theorem Ymv(h:p:=by grind [Yce,Qy]):p:=h
theorem YfR(h:p:=by rw[To]):p:=h
theorem YuE(h:p:=by
 intro args h
 obtain⟨z,_,rfl⟩:=TD.1 h
 rfl):p:=h
theorem YuF(h:p:=by rw[h]at hk;exact⟨z,rfl,(TJ hk).symm⟩):p:=h
theorem YuG(h:p:=by rw[show i-1=((i:Int)-1).toNat by omega];exact hq):p:=h
theorem YuH(h:p:=by rw[Addr.add_lit,Y7 hb,Ri];simp_all):p:=h
theorem YuI(h:p:=by unfold YP;rw[Tj he,Tj (λh=>hle h.2)]):p:=h
theorem YuJ(h:p:=by
 unfold Zw at h3
 have h4:=TT h3
 omega):p:=h
theorem YuK(h:p:=by
 ·obtain⟨_,h2⟩:=Ydf args 0 t v ht
  grind):p:=h
theorem Ymw(h:p:=by simp[execOp,ha.eval hx]):p:=h
theorem Ymx(h:p:=by grind [Go.Value.ownBlock]):p:=h
theorem Ymy(h:p:=by exact⟨by omega,hst⟩):p:=h
end Go
namespace Go.Eng
open Go.RowKit
variable {α:Type}
theorem Xn{c:Prop}[Decidable c]{x a b:α}(hc:c)(h:x=a):x=if c then a else b:=by simp_all
theorem Xm{c:Prop}[Decidable c]{x a b:α}(hc:¬c)(h:x=b):x=if c then a else b:=by simp_all
variable {b:Int}
theorem YpZ{a:Int}(h0:0<=a)(h1:a<=1000000)(h2:0<=b)(h3:b<=1000000000000): -9223372036854775808<=a*b/\a*b<=9223372036854775807:=by
 have h4:0<=a*b:=Int.mul_nonneg h0 h2
 have h5:a*b<=1000000*b:=RZ h1 h2
 omega
theorem YrV{a:Int}(h0:0<=b)(h1:b<=1000000)(h2:0<=a)(h3:a<=1000000000000): -9223372036854775808<=a*b/\a*b<=9223372036854775807:=by
 rw[Int.mul_comm];simp_all [YpZ]
structure HP where
 holds:(Nat->Prop)->World->Prop
 loc:∀{S:Nat->Prop}{w w':World},(∀b,S b->w'.heap[b]? =w.heap[b]?)->holds S w->holds S w'
def blk(g:Nat)(o:Obj):HP:=⟨λS w=>S g/\w.heap[g]? =some o,λh ⟨hs,hg⟩=>⟨hs,(h _ hs).trans hg⟩⟩
def sepL:List HP->(Nat->Prop)->World->Prop
 |[],_,_=>True
 |A::L,S,w=>∃S1 S2:Nat->Prop,(∀b,S1 b->S b)/\(∀b,S2 b->S b)/\(∀b,S1 b->¬S2 b)/\A.holds S1 w/\sepL L S2 w
variable {L M H:List HP}{S:Nat->Prop}{w w0 w':World}
theorem U5{T:Nat->Prop}(h:sepL L S w)(hs:∀b,S b->T b):sepL L T w:=by
 cases L with
 |nil=>trivial
 |cons A L=>
  obtain⟨S1,S2,h1,h2,h3,h4,h5⟩:=h
  exact⟨S1,S2,λb hb=>hs b (h1 b hb),λb hb=>hs b (h2 b hb),h3,h4,h5⟩
theorem Yao:∀{S:Nat->Prop}{w w':World},sepL L S w->(∀b,S b->w'.heap[b]? =w.heap[b]?)->sepL L S w':=by
 induction L with
 |nil=>intros;trivial
 |cons A L ih=>
  intro S w w' h hs
  obtain⟨S1,S2,h1,h2,h3,h4,h5⟩:=h
  exact⟨S1,S2,h1,h2,h3,A.loc (λb hb=>hs b (h1 b hb)) h4,ih h5 (λb hb=>hs b (h2 b hb))⟩
variable {A A':HP}
theorem YnZ{B:HP}(h:sepL (A::B::L) S w):sepL (B::A::L) S w:=by
 obtain⟨S1,S2,h1,h2,h3,h4,T1,T2,k1,k2,k3,k4,k5⟩:=h
 refine⟨T1,λb=>S1 b\/T2 b,λb hb=>h2 b (k1 b hb),λb hb=>hb.elim (h1 b) (λhb=>h2 b (k2 b hb)),λb hb hc=>?_,k4,S1,T2,λb hb=>.inl hb,λb hb=>.inr hb,λb hb hc=>h3 b hb (k2 b hc),h4,k5⟩
 grind
theorem YfI(h:sepL (A::L) S w):sepL L S w:=by
 obtain⟨S1,S2,_,h2,_,_,h5⟩:=h
 exact U5 h5 h2
structure Perm(L M:List HP):Prop where
 go:∀(S:Nat->Prop) (w:World),sepL L S w->sepL M S w
theorem Perm.refl(L:List HP):Perm L L:=⟨λ_ _ h=>h⟩
theorem Perm.cons(A:HP)(p:Perm L M):Perm (A::L) (A::M):=by
 refine⟨λS w h=>?_⟩
 obtain⟨S1,S2,h1,h2,h3,h4,h5⟩:=h
 exact⟨S1,S2,h1,h2,h3,h4,p.go _ _ h5⟩
theorem Perm.swap(A B:HP)(L:List HP):Perm (A::B::L) (B::A::L):=⟨λ_ _=>YnZ⟩
theorem Perm.trans{N:List HP}(p:Perm L M)(q:Perm M N):Perm L N:=⟨λ_ _ h=>q.go _ _ (p.go _ _ h)⟩
def front:Nat->List HP->List HP
 |0,L=>L
 |_,[]=>[]
 |k+1,A::L=>match front k L with
  |[]=>A::L
  |B::M=>B::A::M
theorem YdI:∀(k:Nat) (L:List HP),Perm L (front k L)
 |0,L=>.refl L
 |_+1,[]=>.refl []
 |k+1,A::L=>by
  have h:=YdI k L
  show Perm (A::L) (match front k L with|[]=>A::L|B::M=>B::A::M)
  split
  ·exact .refl _
  ·rename_i B M e
   rw[e]at h
   exact .trans (.cons A h) (.swap A B M)
structure St(B:Nat)(w0:World)(H:List HP)(w:World):Prop where
 below:Below B w0 w
 le:B<=w.heap.size
 sep:sepL H (λb=>B<=b/\b<w.heap.size) w
theorem St.start(w:World):St w.heap.size w [] w:=⟨Below.refl _ _,TK _,trivial⟩
variable {B g i d:Nat}
theorem St.perm{K:List HP}(h:St B w0 H w)(p:Perm H K):St B w0 K w:=⟨h.below,h.le,p.go _ _ h.sep⟩
theorem St.front(h:St B w0 H w)(k:Nat):St B w0 (Eng.front k H) w:=h.perm (YdI k H)
theorem St.tail(h:St B w0 (A::H) w):St B w0 H w:=⟨h.below,h.le,YfI h.sep⟩
theorem Ymg(hA:A∈L):∀{S:Nat->Prop}{w:World},sepL L S w->∃S1:Nat->Prop,(∀b,S1 b->S b)/\A.holds S1 w:=by
 induction L with
 |nil=>cases hA
 |cons B L ih=>
  intro S w h
  obtain⟨S1,S2,h1,h2,_,h4,h5⟩:=h
  grind
theorem St.at_(h:St B w0 H w)(hA:A∈H):∃S1:Nat->Prop,(∀b,S1 b->B<=b/\b<w.heap.size)/\A.holds S1 w:=Ymg hA h.sep
theorem St.blk{o:Obj}(h:St B w0 H w)(hA:blk g o∈H):w.heap[g]? =some o/\B<=g/\g<w.heap.size:=by
 obtain⟨S1,h1,h2,h3⟩:=h.at_ hA
 simp_all
theorem St.grow(h:St B w0 H w)(k:Below w.heap.size w w'):St B w0 H w':=
 ⟨h.below.trans (k.mono h.le),TX h.le k.size,U5 (Yao h.sep λb hb=>k.block b hb.2) λ_ hb=>⟨hb.1,Nat.lt_of_lt_of_le hb.2 k.size⟩⟩
theorem St.drew(h:St B w0 H w):St B w0 H w.drew:=h.grow (Below.refl _ _).drew
theorem St.alloc(h:St B w0 H w)(o:Obj):St B w0 (Eng.blk w.heap.size o::H) (w.alloc o):=by
 refine⟨h.below.alloc h.le o,by have:=h.le;simp;omega,λb=>b=w.heap.size,λb=>B<=b/\b<w.heap.size,?_,?_,?_,?_,?_⟩
 ·rintro b rfl;exact⟨h.le,by simp⟩
 ·rintro b ⟨h1,h2⟩;exact⟨h1,by simp;omega⟩
 ·omega
 ·exact⟨rfl,heap_alloc_new w o⟩
 ·exact Yao h.sep λb hb=>Below.heap_alloc w o b hb.2
def Upd(A A':HP)(L M:List HP):Prop:=∃L1 L2,L=L1++A::L2/\M=L1++A'::L2
theorem Upd.here(L:List HP):Upd A A' (A::L) (A'::L):=⟨[],L,rfl,rfl⟩
theorem Upd.there(X:HP)(u:Upd A A' L M):Upd A A' (X::L) (X::M):=by
 obtain⟨L1,L2,rfl,rfl⟩:=u
 exact⟨X::L1,L2,rfl,rfl⟩
theorem Yi7{A A':HP}{w w':World}
 (hA:∀S1:Nat->Prop,A.holds S1 w->(∃S':Nat->Prop,A'.holds S' w'/\∀b,S' b->S1 b\/(w.heap.size<=b/\b<w'.heap.size))/\∀b,¬S1 b->b<w.heap.size->w'.heap[b]? =w.heap[b]?) (L2:List HP):
 ∀(L1:List HP) {S:Nat->Prop},(∀b,S b->b<w.heap.size)->sepL (L1++A::L2) S w->
  ∃S1:Nat->Prop,(∀b,S1 b->S b)/\A.holds S1 w/\sepL (L1++A'::L2) (λb=>S b\/(w.heap.size<=b/\b<w'.heap.size)) w'
 |[],S,hS,h=>by
  obtain⟨S1,S2,h1,h2,h3,h4,h5⟩:=h
  obtain⟨⟨S',k1,k3⟩,k2⟩:=hA S1 h4
  refine⟨S1,h1,h4,S',S2,λb hb=>(k3 b hb).elim (λh=>.inl (h1 b h)) .inr,λb hb=>.inl (h2 b hb),λb hb hc=>?_,k1,Yao h5 λb hb=>k2 b (λhc=>h3 b hc hb) (hS b (h2 b hb))⟩
  grind
 |X::L1,S,hS,h=>by
  obtain⟨S1,S2,h1,h2,h3,h4,h5⟩:=h
  obtain⟨T,t1,t2,t3⟩:=Yi7 hA L2 L1 (λb hb=>hS b (h2 b hb)) h5
  obtain⟨_,k2⟩:=hA T t2
  refine⟨T,λb hb=>h2 b (t1 b hb),t2,S1,_,λb hb=>.inl (h1 b hb),λb hb=>hb.elim (λh=>.inl (h2 b h)) .inr,λb hb hc=>?_,X.loc (λb hb=>k2 b (λhc=>h3 b hb (t1 b hc)) (hS b (h1 b hb))) h4,t3⟩
  grind
theorem St.updN{K:List HP}(h:St B w0 H w)(u:Upd A A' H K)
 (hos:w'.os=w.os) (ht:w'.tape=w.tape) (hout:w'.output=w.output) (hsz:w.heap.size<=w'.heap.size)
 (hA:∀S1:Nat->Prop,A.holds S1 w->(∃S':Nat->Prop,A'.holds S' w'/\∀b,S' b->S1 b\/(w.heap.size<=b/\b<w'.heap.size))/\∀b,¬S1 b->b<w.heap.size->w'.heap[b]? =w.heap[b]?):St B w0 K w':=by
 obtain⟨L1,L2,rfl,rfl⟩:=u
 obtain⟨S1,h1,h2,h3⟩:=Yi7 hA L2 L1 (S:=λb=>B<=b/\b<w.heap.size) (λb hb=>hb.2) h.sep
 obtain⟨_,k2⟩:=hA S1 h2
 have hle:=h.le
 refine⟨⟨hos.trans h.below.os,ht.trans h.below.tape,hout.trans h.below.output,TX h.below.size hsz,λb hb=>?_⟩,TX h.le hsz,U5 h3 λb hb=>?_⟩
 ·rw[k2 b (λhc=>by grind) (Nat.lt_of_lt_of_le hb h.le),h.below.block b hb]
 omega
theorem St.upd{K:List HP}(h:St B w0 H w)(u:Upd A A' H K)
 (hos:w'.os=w.os) (ht:w'.tape=w.tape) (hout:w'.output=w.output) (hsz:w.heap.size<=w'.heap.size)
 (hA:∀S1:Nat->Prop,A.holds S1 w->A'.holds S1 w'/\∀b,¬S1 b->b<w.heap.size->w'.heap[b]? =w.heap[b]?):St B w0 K w':=
 h.updN u hos ht hout hsz λS1 hS=>let⟨k1,k2⟩:=hA S1 hS;⟨⟨S1,k1,λ_ hb=>.inl hb⟩,k2⟩
variable {v:Value}
theorem St.setCell{K:List HP}{cs:Array Value}{t:TypeId}{fr:Nat×Nat}(h:St B w0 H w)
 (u:Upd (Eng.blk g (.cells cs t fr)) (Eng.blk g (.cells (cs.setIfInBounds i v) t fr)) H K):St B w0 K (w.setCell ⟨g,i,none⟩ v):=by
 refine h.upd u rfl rfl rfl (by simp) λS1 ⟨h1,h2⟩=>⟨⟨h1,?_⟩,λb hb _=>Below.heap_setCell w _ v b (λe=>hb (e▸h1))⟩
 grind [Go.World.setCell]
abbrev Env:=List (Nat×Value)
def get:Env->Nat->Option Value
 |[],_=>none
 |(s,v)::e,t=>if s=t then some v else get e t
def evo(env:Env):Operand->Option Value
 |.tmp t=>get env t
 |.const v=>some v
 |.global g=>some (.pointer (some ⟨g,0,none⟩))
 |.func f=>some (.func (.func f) #[] #[])
structure Shp where
 k:Nat
 ds:List Deferred
 r:Option Nat
structure Fits(n:Shp)(a:Act)(env:Env):Prop where
 defers:a.defers=n.ds
 size:a.tmps.size=n.k
 slot:∀t v,get env t=some v->a.tmps[t]? =some v
variable {a:Act}{env:Env}
theorem Fits.eval{n:Shp}(h:Fits n a env){x:Operand}(hx:evo env x=some v):a.eval x=v:=by
 cases x with
 |tmp t=>have:=h.slot t v hx;simp_all [Go.Act.eval]
 |const c=>exact TJ hx
 |global g=>exact TJ hx
 |func f=>exact TJ hx
theorem Fits.put{n:Shp}(h:Fits n a env)(hd:d<n.k)(v:Value):Fits n (a.put (some d) v) ((d,v)::env):=by
 refine⟨h.defers,by simp[Act.put,h.size],λt u ht=>?_⟩
 by_cases e:d=t
 ·subst e
  simp only[get,Ni,RX]at ht
  subst ht
  simp[Act.put,h.size,hd]
 ·rw[get,Tj e]at ht
  simp[Act.put,e,h.slot t u ht]
theorem Fits.sub{n:Shp}{env':Env}(h:Fits n a env)(hs:∀t v,get env' t=some v->get env t=some v):Fits n a env':=
 ⟨h.defers,h.size,λt v ht=>h.slot t v (hs t v ht)⟩
def Va(o:Oper):Bool:=
 match o.op with
 |.defer _=>false
 |_=>true
def calm:Code->Bool
 |.seq x y=>calm x&&calm y
 |.cond _ x y=>calm x&&calm y
 |.loop c=>calm c
 |.block _ c=>calm c
 |.region _ ops _=>ops.toList.all Va
 |.rangeFunc _ _ x y=>calm x&&calm y
 |.scope _=>false
 |_=>true
def wpR(P:Program)(r:Option Nat)(c:Code)(Q:Exit->Act->World->Prop)(a:Act)(w:World):Prop:=
 match r with
 |none=>c.wp P Q a w
 |some l=>¬LetsOut Q->calm c=true->c.wpIn (Fence.wide.inRound l) 0 P Q a w
section
variable {P:Program}{r:Option Nat}{Q:Exit->Act->World->Prop}{a:Act}{w:World}
variable {c x y:Code}
theorem ZX{Q':Exit->Act->World->Prop}(h:wpR P r c Q a w)(hq:∀e a w,Q e a w->Q' e a w):wpR P r c Q' a w:=by
 cases r with
 |none=>exact wp_mono h hq
 |some l=>exactλhlo hc=>wpIn_mono (h (λ⟨a,w,hl⟩=>hlo ⟨a,w,hq _ _ _ hl⟩) hc) hq
theorem Yss(h:wpR P r x (Exit.then (wpR P r y Q) Q) a w):wpR P r (.seq x y) Q a w:=by
 cases r with
 |none=>exact wp_seq h
 |some l=>
  intro hlo hc
  simp only[calm,Tq]at hc
  refine wpIn_seq (wpIn_mono (h (λ⟨a,w,hl⟩=>hlo ⟨a,w,hl⟩) hc.1) λe a w hq=>?_)
  cases e<;>first|exact hq|exact hq hlo hc.2
variable {id n:Nat}
theorem Yoi(h:wpR P r c (Exit.inBlock id Q) a w):wpR P r (.block id c) Q a w:=by
 cases r with
 |none=>exact wp_block h
 |some l=>exactλhlo hc=>wpIn_block (h (λ⟨a,w,hl⟩=>hlo ⟨a,w,hl⟩) hc)
theorem YqH(h:Q .normal a w):wpR P r .skip Q a w:=by
 cases r with
 |none=>exact wp_skip h
 |some l=>exactλ_ _=>wpIn_skip h
theorem Ysr(h:Q .ret a w):wpR P r .ret Q a w:=by
 cases r with
 |none=>exact wp_ret h
 |some l=>exactλ_ _=>wpIn_ret h
theorem YqG(h:Q (.exit id) a w):wpR P r (.exit id) Q a w:=by
 cases r with
 |none=>exact wp_exit h
 |some l=>exactλ_ _=>wpIn_exit h
theorem Yjp{c:Operand}{t:Bool}(hc:a.eval c=.bool t)(ht:t=true->wpR P r x Q a w)(hf:t=false->wpR P r y Q a w):wpR P r (.cond c x y) Q a w:=by
 cases r with
 |none=>exact wp_cond_split hc ht hf
 |some l=>
  intro hlo hca
  simp only[calm,Tq]at hca
  exact wpIn_cond_split hc (λe=>ht e hlo hca.1) (λe=>hf e hlo hca.2)
theorem YbC{l:Nat}{row:String}{args:Array Value}{R:Value->World->Prop}(h:Rows P row args w R):RowsIn (Fence.wide.inRound l) n P row args w R:=λc cs _=>by
 obtain⟨v,w',h1,h2⟩:=h c cs
 exact⟨v,w',h1,stepsIn_wide.2 h2⟩
variable {o:Oper}{K:Act->World->Prop}
theorem Yfz{l:Nat}(hp:Va o=true)(h:o.wp P a w K Q):o.wpIn (Fence.wide.inRound l) n P a w K Q:=by
 have hs:Oper.semAt (some l) a.eval o=execOp a.eval o:=by grind [Go.Oper.semAt_some,Va]
 refine⟨λf _=>trivial,?_⟩
 rw[Fence.inRound_round,hs]
 unfold Oper.wp at h
 generalize(execOp a.eval o).run P w=res at h⊢
 cases res with
 |ok x w'=>
  cases x<;>simp only[Oper.upon,Oper.uponIn]at h⊢<;>first
   |exact h
   |(refine⟨λhd=>by simp[Fence.wide]at hd,?_⟩
     refine CallsIn.mono (CallsIn.inRound l (callsIn_wide.2 h)) λe w'' he=>?_
     cases e<;>exact he)
   |exact⟨λhd=>by simp[Fence.wide]at hd,YbC h⟩
   |exact h.elim
 |halt x w'=>cases x<;>simp only[Oper.upon,Oper.uponIn]at h⊢<;>first|exact h|exact h.elim
theorem UX{l n:Nat}{ops:Array Oper}(hlo:¬LetsOut Q):∀(os:List Oper) (a:Act) (w:World),os.all Va=true->wpList P ops Q os a w->wpListIn (Fence.wide.inRound l) n P ops Q os a w
 |[],_,_,_,h=>h
 |o::os,a,w,hc,h=>by
  simp only[Ny,Tq]at hc
  unfold wpList at h
  unfold wpListIn
  split
  ·rename_i hw
   rw[Tn hw]at h
   rcases h with h|⟨_,h⟩
   ·exact Yfz hc.1 (Oper.wp_mono (λa w h=>UX hlo os a w hc.2 h) h)
   simp_all
  ·rename_i hw
   rw[Tj hw]at h
   exact⟨λf _=>trivial,UX hlo os _ w hc.2 h⟩
theorem QI{l n:Nat}{ops:Array Oper}(hlo:¬LetsOut Q)(hc:ops.toList.all Va=true):∀(fuel:Nat) (listed:Array Bool) (a:Act) (w:World),wpAny P .any ops Q fuel listed a w->wpAnyIn (Fence.wide.inRound l) n P .any ops Q fuel listed a w
 |0,_,_,_,h=>h
 |fuel+1,listed,a,w,h=>by
  refine⟨h.1,λi hi=>?_⟩
  have h2:=h.2 i hi
  unfold wpOp at h2
  unfold wpOpIn
  cases ho:ops[i]? with
  |none=>rw[ho]at h2;exact QI hlo hc fuel _ a w h2
  |some o=>
   rw[ho]at h2
   have hpl:Va o=true:=by
    grind
   simp only at h2⊢
   split
   ·rename_i hw
    rw[Tn hw]at h2
    rcases h2 with h2|⟨_,h2⟩
    ·exact Yfz hpl (Oper.wp_mono (λa w h=>QI hlo hc fuel _ a w h) h2)
    simp_all
   ·rename_i hw
    rw[Tj hw]at h2
    exact⟨λf _=>trivial,QI hlo hc fuel _ _ w h2⟩
variable {l:List Oper}
theorem Yle(h:wpList P l.toArray Q l a w):wpR P r (.region id l.toArray false) Q a w:=by
 cases r with
 |none=>exact wp_region_lit h
 |some k=>exactλhlo hc=>wpIn_region_lit (UX hlo l a w (by grind [calm]) h)
variable {ops:Array Oper}
theorem Yce(hm:P.follows .mixedOrders=true)(h:wpAny P .any ops Q ops.size (Array.replicate ops.size false) a w.drew):wpR P r (.region id ops true) Q a w:=by
 cases r with
 |none=>exact wp_region_any hm h
 |some k=>exactλhlo hc=>wpIn_region_any hm (QI hlo (by grind [calm]) _ _ a _ h)
theorem Yoj{C:World->Prop}(hm:P.follows .mixedOrders=true)(hB:Region.lexB .any ops=true)(hC:C w.drew)
 (h:wpQuiet P ops C (λa'=>∀w',C w'->Q .normal a' w') ops.toList a):wpR P r (.region id ops true) Q a w:=by
 simp only[Region.lexB,Tq]at hB
 refine Yce hm (wpAny_of_quiet (Q:=λa'=>∀w',C w'->Q .normal a' w') (λ_ w' hw' h=>h w' hw') _ _ _ _ hC ?_)
 have:=wpAnyQ_lex (C:=C) (md:=.any) hB.1 ops.toList 0 (Array.replicate ops.size false) a (by simp) (by simp_all) h
 omega
theorem Yjq(I:Nat->Act->World->Prop)(n₀:Nat)(h₀:I n₀ a w)
 (round:∀n a w,I n a w->wpR P r c (Exit.then (λa' w'=>∃n',n'<n/\I n' a' w') Q) a w):wpR P r (.loop c) Q a w:=by
 cases r with
 |none=>exact wp_loop_ghost I n₀ h₀ round
 |some l=>exactλhlo hc=>wpIn_loop_ghost I n₀ h₀ λn a w hI=>round n a w hI (λ⟨a,w,hl⟩=>hlo ⟨a,w,hl⟩) hc
end
structure VQ(n:Shp)(B:Nat)(w0:World)(Q:Exit->Act->World->Prop)(e:Exit)(env:Env)(H:List HP):Prop where
 run:∀a w,Fits n a env->St B w0 H w->Q e a w
structure VC(P:Program)(n:Shp)(B:Nat)(w0:World)(c:Code)(Q:Exit->Act->World->Prop)(env:Env)(H:List HP):Prop where
 run:∀a w,Fits n a env->St B w0 H w->wpR P n.r c Q a w
def eff(o:Oper):Bool:=
 match o.op with
 |.move _|.assign _|.pick _ _ _|.build _ _|.load _ _|.nilCheck _|.binOp _ _ _ _ _|.unOp _ _ _|.slice _ _ _ _ _|.fieldAddr _ _ _|.field _ _ _|.indexAddr _ _ _|.index _ _ _|.lookup _ _ _ _|.extract _ _=>false
 |.call ⟨.builtin .len,_,_⟩|.call ⟨.builtin .min,_,_⟩|.call ⟨.builtin .max,_,_⟩|.call ⟨.builtin .cap,_,_⟩=>false
 |.convert _ _ _=>false
 |_=>true
def Yv(P:Program)(ops:Array Oper)(Q:Exit->Act->World->Prop)(S:World->Prop):List Oper->Act->World->Prop
 |[],a,w=>Q .normal a w
 |o::rest,a,w=>
  if eff o then
   (if Region.wanted o (yielded ops a.tmps)then o.wp P a w (λa' w'=>S w'/\Yv P ops Q S rest a' w') Q else Yv P ops Q S rest (a.put o.dst undef) w)
  else∃v,YieldsIf P ops S o v a/\Yv P ops Q S rest (a.put o.dst v) w
abbrev Mode:=Option (Option (List HP))
def YoP(P:Program)(m:Mode)(B:Nat)(w0:World)(ops:Array Oper)(Q:Exit->Act->World->Prop)(l:List Oper)(a:Act)(H:List HP):Prop:=
 match m with
 |none=>∀w,St B w0 H w->wpList P ops Q l a w
 |some none=>wpQuiet P ops (St B w0 H) (λa'=>∀w,St B w0 H w->Q .normal a' w) l a
 |some (some F)=>∀w,St B w0 (H++F) w->Yv P ops Q (St B w0 H) l a w
structure VL(P:Program)(m:Mode)(n:Shp)(B:Nat)(w0:World)(ops:Array Oper)(Q:Exit->Act->World->Prop)(l:List Oper)(env:Env)(H:List HP):Prop where
 run:∀a,Fits n a env->YoP P m B w0 ops Q l a H
def Post(B:Nat)(w0:World)(Φ:Value->List HP->Prop)(e:Ending)(w:World):Prop:=∃v H,e=.returned v/\St B w0 H w/\Φ v H
section
variable {P:Program}{n:Shp}{B:Nat}{w0:World}{Q:Exit->Act->World->Prop}{env:Env}{H:List HP}
variable {x y c:Code}
theorem Xc(h:VC P n B w0 x (Exit.then (wpR P n.r y Q) Q) env H):VC P n B w0 (.seq x y) Q env H:=⟨λa w ha hw=>Yss (h.run a w ha hw)⟩
variable {id t u s d j f i:Nat}
theorem Yg1(h:VC P n B w0 c (Exit.inBlock id Q) env H):VC P n B w0 (.block id c) Q env H:=⟨λa w ha hw=>Yoi (h.run a w ha hw)⟩
theorem Yq5(h:VQ n B w0 Q .normal env H):VC P n B w0 .skip Q env H:=⟨λa w ha hw=>YqH (h.run a w ha hw)⟩
theorem YuM(h:VQ n B w0 Q .ret env H):VC P n B w0 .ret Q env H:=⟨λa w ha hw=>Ysr (h.run a w ha hw)⟩
theorem Yq4(h:VQ n B w0 Q (.exit id) env H):VC P n B w0 (.exit id) Q env H:=⟨λa w ha hw=>YqG (h.run a w ha hw)⟩
theorem YfS{c:Operand}(hc:evo env c=some (.bool true))(h:VC P n B w0 x Q env H):VC P n B w0 (.cond c x y) Q env H:=
 ⟨λa w ha hw=>Yjp (ha.eval hc) (λ_=>h.run a w ha hw) (λe=>by cases e)⟩
theorem Yep{c:Operand}(hc:evo env c=some (.bool false))(h:VC P n B w0 y Q env H):VC P n B w0 (.cond c x y) Q env H:=
 ⟨λa w ha hw=>Yjp (ha.eval hc) (λe=>by cases e) (λ_=>h.run a w ha hw)⟩
variable {l:List Oper}
theorem YW(h:VL P none n B w0 l.toArray Q l env H):VC P n B w0 (.region id l.toArray false) Q env H:=⟨λa w ha hw=>Yle (h.run a ha w hw)⟩
theorem Ylk(hm:P.follows .mixedOrders=true)(hB:Region.lexB .any l.toArray=true)(h:VL P (some none) n B w0 l.toArray Q l env H):VC P n B w0 (.region id l.toArray true) Q env H:=
 ⟨λa _ ha hw=>Yoj (C:=St B w0 H) hm hB (hw.drew) (by exact h.run a ha)⟩
theorem YbZ(h:VC P n B w0 y Q env H):VQ n B w0 (Exit.then (wpR P n.r y Q) Q) .normal env H:=⟨λa w ha hw=>h.run a w ha hw⟩
variable {K:Act->World->Prop}
theorem Yhq(h:VQ n B w0 Q .ret env H):VQ n B w0 (Exit.then K Q) .ret env H:=⟨λa w ha hw=>h.run a w ha hw⟩
theorem Yf6(h:VQ n B w0 Q (.exit id) env H):VQ n B w0 (Exit.then K Q) (.exit id) env H:=⟨λa w ha hw=>h.run a w ha hw⟩
theorem YbO(h:VQ n B w0 Q .normal env H):VQ n B w0 (Exit.inBlock id Q) .normal env H:=⟨λa w ha hw=>h.run a w ha hw⟩
theorem Yf5(h:VQ n B w0 Q .ret env H):VQ n B w0 (Exit.inBlock id Q) .ret env H:=⟨λa w ha hw=>h.run a w ha hw⟩
theorem Yes(h:VQ n B w0 Q .normal env H):VQ n B w0 (Exit.inBlock id Q) (.exit id) env H:=
 ⟨λa w ha hw=>by simp only[Exit.inBlock,Ni];exact h.run a w ha hw⟩
theorem Yct{id':Nat}(hne:Nat.beq id' id=false)(h:VQ n B w0 Q (.exit id') env H):VQ n B w0 (Exit.inBlock id Q) (.exit id') env H:=
 ⟨λa w ha hw=>by simp only[Exit.inBlock,Tj (Nat.ne_of_beq_eq_false hne)];exact h.run a w ha hw⟩
def Next{α:Type}(n:Shp)(B:Nat)(w0:World)(E:α->Env)(HH:α->List HP)(I:α->Prop)(μ:α->Nat)(x:α)(a:Act)(w:World):Prop:=
 ∃y,I y/\μ y<μ x/\Fits n a (E y)/\St B w0 (HH y) w
variable {α:Type}
theorem YfT(E:α->Env)(HH:α->List HP)(I:α->Prop)(μ:α->Nat)(x0:α)(h0:I x0)
 (he:∀t v,get (E x0) t=some v->get env t=some v) (hH:∀w,St B w0 H w->St B w0 (HH x0) w)
 (round:∀x,I x->VC P n B w0 c (Exit.then (Next n B w0 E HH I μ x) Q) (E x) (HH x)):VC P n B w0 (.loop c) Q env H:=by
 refine⟨λa w ha hw=>Yjq (λk a w=>∃x,μ x=k/\I x/\Fits n a (E x)/\St B w0 (HH x) w) (μ x0) ⟨x0,rfl,h0,ha.sub he,hH w hw⟩ ?_⟩
 rintro k a w ⟨x,rfl,hx,ha,hw⟩
 refine ZX ((round x hx).run a w ha hw) ?_
 intro e a w hq
 cases e with
 |normal=>exact Yum
 |exit id=>exact hq
 |goto l=>exact hq
 |ret=>exact hq
 |panic ch=>exact hq
 |outgrown=>exact hq
theorem Ycv{E:α->Env}{HH:α->List HP}{I:α->Prop}{μ:α->Nat}{x:α}(y:α)(hI:I y)(hμ:μ y<μ x)
 (he:∀t v,get (E y) t=some v->get env t=some v) (hH:∀w,St B w0 H w->St B w0 (HH y) w):VQ n B w0 (Exit.then (Next n B w0 E HH I μ x) Q) .normal env H:=
 ⟨λ_ w ha hw=>⟨y,hI,hμ,ha.sub he,hH w hw⟩⟩
theorem Ysi(env:Env):∀t v,get [] t=some v->get env t=some v:=λ_ _ h=>by cases h
variable {v:Value}
theorem Yqx{env e:Env}(h:get env t=some v)(he:∀t v,get e t=some v->get env t=some v):∀t' v',get ((t,v)::e) t'=some v'->get env t'=some v':=by
 intro t' v' h'
 by_cases e':t=t'
 all_goals simp_all [get]
theorem Y6(H':List HP)(hH:∀w,St B w0 H w->St B w0 H' w)(h:VC P n B w0 c Q env H'):VC P n B w0 c Q env H:=⟨λa w ha hw=>h.run a w ha (hH w hw)⟩
variable {ops:Array Oper}
theorem Zh(H':List HP)(hH:∀w,St B w0 H w->St B w0 H' w)(h:VL P none n B w0 ops Q l env H'):VL P none n B w0 ops Q l env H:=⟨λa ha w hw=>h.run a ha w (hH w hw)⟩
variable {e:Exit}{A:HP}
theorem Yi(h:VQ n B w0 Q e env H):VQ n B w0 Q e env (A::H):=⟨λa w ha hw=>h.run a w ha hw.tail⟩
theorem Yf(H':List HP)(hH:∀w,St B w0 H w->St B w0 H' w)(h:VQ n B w0 Q e env H'):VQ n B w0 Q e env H:=⟨λa w ha hw=>h.run a w ha (hH w hw)⟩
def WV:Nat->List Value->Env
 |_,[]=>[]
 |i,v::l=>(i,v)::WV (i+1) l
theorem Ydf:∀(l:List Value) (i t:Nat) (v:Value),get (WV i l) t=some v->i<=t/\l[t-i]? =some v
 |[],i,t,v,h=>by cases h
 |u::l,i,t,v,h=>by
  by_cases e:i=t
  ·simp_all [WV,get]
  ·rw[WV,get,Tj e]at h
   obtain⟨h1,h2⟩:=Ydf l (i+1) t v h
   grind
variable {fn:Func}{w:World}{Φ:Value->List HP->Prop}
theorem Ya{n:Nat}{f:FuncId}{args:List Value}(hf:P.funcs[f]? =some fn)(hn:fn.ntmps=n)(hb:fn.body=some c)
 (hle:Nat.ble args.length n=true) (hw:St B w0 H w) (h:VC P ⟨n,[],none⟩ B w0 c (bodyPost P fn (Post B w0 Φ)) (WV 0 args) H):Calls P f args.toArray w (Post B w0 Φ):=by
 refine calls_of_wp hf hb (h.run _ w ⟨rfl,?_,λt v ht=>?_⟩ hw)
 ·simp_all
 exact YuK
theorem Yd{n:Nat}(hr:fn.results=#[.tmp t])(hv:get env t=some v)(h:Φ v H):VQ ⟨n,[],none⟩ B w0 (bodyPost P fn (Post B w0 Φ)) .ret env H:=
 ⟨λa w ha hw=>bodyPost_ret (results_tmp hr _ _ _) ha.defers ⟨v,H,by rw[Array.getD_eq_getD_getElem?,ha.slot t v hv];rfl,hw,h⟩⟩
theorem YH{n:Nat}{x:Value}(hr:fn.results=#[.tmp t,.tmp u])(hv:get env t=some v)(hx:get env u=some x)(h:Φ (.tuple #[v,x]) H):
 VQ ⟨n,[],none⟩ B w0 (bodyPost P fn (Post B w0 Φ)) .ret env H:=
 ⟨λa w ha hw=>bodyPost_ret (results_tmp2 hr _ _ _) ha.defers ⟨_,H,by rw[Array.getD_eq_getD_getElem?,Array.getD_eq_getD_getElem?,ha.slot t v hv,ha.slot u x hx];rfl,hw,h⟩⟩
theorem J7{n:Nat}{x y:Value}(hr:fn.results=#[.tmp t,.tmp u,.tmp s])(hv:get env t=some v)(hx:get env u=some x)(hy:get env s=some y)(h:Φ (.tuple #[v,x,y]) H):
 VQ ⟨n,[],none⟩ B w0 (bodyPost P fn (Post B w0 Φ)) .ret env H:=
 ⟨λa w ha hw=>bodyPost_ret (v:=.tuple #[v,x,y]) (by simp[results,hr,Array.getD_eq_getD_getElem?,ha.slot t v hv,ha.slot u x hx,ha.slot s y hy]) ha.defers ⟨_,H,rfl,hw,h⟩⟩
theorem JB{n:Nat}(hr:fn.results=#[])(h:Φ (.tuple #[]) H):VQ ⟨n,[],none⟩ B w0 (bodyPost P fn (Post B w0 Φ)) .normal env H:=
 ⟨λ_ _ ha hw=>bodyPost_end (results_none hr _ _ _) ha.defers ⟨_,H,rfl,hw,h⟩⟩
theorem U9{n:Nat}(hr:fn.results=#[])(h:Φ (.tuple #[]) H):VQ ⟨n,[],none⟩ B w0 (bodyPost P fn (Post B w0 Φ)) .ret env H:=
 ⟨λ_ _ ha hw=>bodyPost_ret (results_none hr _ _ _) ha.defers ⟨_,H,rfl,hw,h⟩⟩
variable {ops:Array Oper}{rest:List Oper}
theorem YoD(h:VQ n B w0 Q .normal env H):VL P none n B w0 ops Q [] env H:=⟨λa ha w hw=>wpList_nil (h.run a w ha hw)⟩
theorem Yrj(h:VQ n B w0 Q .normal env H):VL P (some none) n B w0 ops Q [] env H:=⟨λa ha=>show∀w,St B w0 H w->Q .normal a w fromλw hw=>h.run a w ha hw⟩
variable {o oj:Oper}
theorem XA(Φ:Value->List HP->Prop)(hg:o.guard=none)(hd:o.dst=some d)(hn:Nat.ble (d+1) n.k=true)
 (hr:∀a w,Fits n a env->St B w0 H w->∃v H' w',(execOp a.eval o).run P w=.ok (.value v) w'/\St B w0 H' w'/\Φ v H')
 (h:∀v H',Φ v H'->VL P none n B w0 ops Q rest ((d,v)::env) H'):VL P none n B w0 ops Q (o::rest) env H:=by
 refine⟨λa ha w hw=>wpList_plain hg λK hK=>?_⟩
 obtain⟨v,H',w',hrun,hst,hΦ⟩:=hr a w ha hw
 unfold Oper.wp
 rw[hrun,Oper.upon_value,hd]
 exact hK _ _ ((h v H' hΦ).run _ (ha.put (TR hn) v) _ hst)
variable {H' L Hc F HF M:List HP}
theorem YeX(hg:o.guard=none)(hd:o.dst=some d)(hn:Nat.ble (d+1) n.k=true)
 (hr:∀a w,Fits n a env->St B w0 H w->∃w',(execOp a.eval o).run P w=.ok (.value v) w'/\St B w0 H' w')
 (h:VL P none n B w0 ops Q rest ((d,v)::env) H'):VL P none n B w0 ops Q (o::rest) env H:=
 XA (λu K=>u=v/\K=H') hg hd hn (λa w ha hw=>let⟨w',h1,h2⟩:=hr a w ha hw;⟨v,H',w',h1,h2,rfl,rfl⟩) zc63
variable {a:Act}
theorem YbL(hne:eff o=false)(hy:YieldsIf P ops (St B w0 H) o v a)(h:Yv P ops Q (St B w0 H) rest (a.put o.dst v) w):
 Yv P ops Q (St B w0 H) (o::rest) a w:=by
 unfold Yv
 grind
variable {m:Mode}
theorem Yt(hg:o.guard=none)(hd:o.dst=some d)(hn:Nat.ble (d+1) n.k=true)(hne:eff o=false)
 (hr:∀a w,Fits n a env->St B w0 H w->(execOp a.eval o).run P w=.ok (.value v) w)
 (h:VL P m n B w0 ops Q rest ((d,v)::env) H):VL P m n B w0 ops Q (o::rest) env H:=by
 match m with
 |none=>exact YeX hg hd hn (λa w ha hw=>⟨w,hr a w ha hw,hw⟩) h
 |some none=>
  refine⟨λa ha=>wpQuiet_step λK hK=>?_⟩
  rw[Tn (by simp[Region.wanted,hg])]
  refine⟨v,λw hw=>?_,hK _ ?_⟩
  ·unfold Oper.quietAt;rw[hr a w ha hw];exact Qg
  ·rw[hd];exact YqU
 |some (some F)=>
  refine⟨λa ha w hw=>YbL hne (.inl ⟨by simp[Region.wanted,hg],λw' hw'=>hr a w' ha hw'⟩) ?_⟩
  rw[hd];exact h.run _ (ha.put (TR hn) v) w hw
theorem J6(hg:o.guard=none)(hd:o.dst=none)
 (hr:∀a w,Fits n a env->St B w0 H w->∃w',(execOp a.eval o).run P w=.ok .skip w'/\St B w0 H' w')
 (h:VL P none n B w0 ops Q rest env H'):VL P none n B w0 ops Q (o::rest) env H:=by
 refine⟨λa ha w hw=>wpList_plain hg λK hK=>?_⟩
 obtain⟨w',hrun,hst⟩:=hr a w ha hw
 unfold Oper.wp
 rw[hrun,Oper.upon_skip,hd]
 exact hK _ _ (h.run _ ha _ hst)
variable {op:Op}{ty:TypeId}{pos:String}{after:Array Edge}
theorem YfY{dst:Option Tmp}{b:Bool}(hj:ops[j]? =some oj)(hs:oj.dst=some s)
 (hv:get env s=some (.bool b)) (h:VL P m n B w0 ops Q (⟨dst,op,ty,pos,after,none⟩::rest) env H):VL P m n B w0 ops Q (⟨dst,op,ty,pos,after,some (j,b)⟩::rest) env H:=by
 have hy:∀a:Act,Fits n a env->Region.wanted ⟨dst,op,ty,pos,after,some (j,b)⟩ (yielded ops a.tmps)=true:=λa ha=>by simp[Region.wanted,yielded,hj,hs,ha.slot s _ hv]
 match m with
 |none=>
  refine⟨λa ha w hw=>?_⟩
  have h1:=h.run a ha w hw
  unfold wpList at h1⊢
  rw[Tn (hy a ha)]
  exact h1
 |some none=>
  refine⟨λa ha=>?_⟩
  have h1:=h.run a ha
  unfold YoP wpQuiet at h1⊢
  rw[Tn (hy a ha)]
  exact h1
 |some (some F)=>
  refine⟨λa ha w hw=>?_⟩
  have h1:=h.run a ha w hw
  unfold Yv at h1⊢
  have he:eff ⟨dst,op,ty,pos,after,some (j,b)⟩=eff ⟨dst,op,ty,pos,after,none⟩:=rfl
  rw[he]
  by_cases hef:eff ⟨dst,op,ty,pos,after,none⟩=true
  ·rw[Tn hef]at h1⊢
   rw[Tn (hy a ha)]
   exact h1
  ·rw[Tj hef]at h1⊢
   obtain⟨v,hyi,h2⟩:=h1
   refine⟨v,?_,h2⟩
   rcases hyi with⟨_,h3⟩|⟨h3,_⟩
   ·exact .inl ⟨hy a ha,h3⟩
   ·cases h3
def notB(v:Value)(b:Bool):Bool:=
 match v with
 |.bool c=>c !=b
 |_=>true
theorem Yg7{b:Bool}(hj:ops[j]? =some oj)(hs:oj.dst=some s)
 (hv:get env s=some v) (hne:notB v b=true) (hn:Nat.ble (d+1) n.k=true)
 (h:VL P m n B w0 ops Q rest ((d,undef)::env) H):VL P m n B w0 ops Q (⟨some d,op,ty,pos,after,some (j,b)⟩::rest) env H:=by
 have hy:∀a:Act,Fits n a env->Region.wanted ⟨some d,op,ty,pos,after,some (j,b)⟩ (yielded ops a.tmps)=false:=by
  intro a ha
  have hsl:=ha.slot s _ hv
  grind [Go.Region.wanted,yielded,notB]
 match m with
 |none=>exact⟨λa ha w hw=>wpList_skip (hy a ha) (h.run _ (ha.put (TR hn) _) w hw)⟩
 |some none=>
  refine⟨λa ha=>?_⟩
  have h1:=h.run _ (ha.put (TR hn) undef)
  simp_all [YoP,wpQuiet]
 |some (some F)=>
  refine⟨λa ha w hw=>?_⟩
  have h1:=h.run _ (ha.put (TR hn) undef) w hw
  by_cases hef:eff ⟨some d,op,ty,pos,after,some (j,b)⟩=true
  ·simp_all [Yv]
  ·exact YbL (by simp_all) (.inr ⟨hy a ha,rfl⟩) h1
theorem Yos(hq:(l.all λo=>!eff o)=true)(hm:P.follows .mixedOrders=true)(hB:Region.lexB .any l.toArray=true)(h:VL P (some none) n B w0 l.toArray Q l env H):VC P n B w0 (.region id l.toArray true) Q env H:=
 by grind [Ylk]
def Args(env:Env):List Operand->List Value->Prop
 |[],[]=>True
 |x::l,v::vs=>evo env x=some v/\Args env l vs
 |_,_=>False
theorem Yo0{env:Env}:Args env [] []:=trivial
variable {vs:List Value}
theorem Ym2{env:Env}{x:Operand}{l:List Operand}(h:evo env x=some v)(hl:Args env l vs):Args env (x::l) (v::vs):=⟨h,hl⟩
theorem Uq{n:Shp}{a:Act}{env:Env}(ha:Fits n a env):∀(l:List Operand) (us:List Value),Args env l us->l.map a.eval=us
 |[],[],_=>rfl
 |[],_::_,h=>h.elim
 |_::_,[],h=>h.elim
 |x::l,u::us,h=>by rw[Rx,ha.eval h.1,Uq ha l us h.2]
variable {args:List Operand}{tys:Array TypeId}
theorem Yi1(ha:Fits n a env)
 (hc:∀xs w,(callFunc f xs).run P w=.ok (.enter f xs) w) (hargs:Args env args vs) (w:World):
 (execOp a.eval ⟨some d,.call ⟨.value (.func f),args.toArray,tys⟩,ty,pos,after,none⟩).run P w=.ok (.enter f vs.toArray) w:=by
 have hmap:args.toArray.map a.eval=vs.toArray:=by grind [Uq]
 simp_all [execOp,resolve,Go.Act.eval,Go.Deferred.ofValue,invoke]
theorem Yg(Φ:Value->List HP->Prop)
 (hc:∀xs w,(callFunc f xs).run P w=.ok (.enter f xs) w) (hargs:Args env args vs) (hn:Nat.ble (d+1) n.k=true)
 (hcall:∀w,St B w0 H w->Calls P f vs.toArray w (Post B w0 Φ))
 (h:∀v H',Φ v H'->VL P none n B w0 ops Q rest ((d,v)::env) H'):
 VL P none n B w0 ops Q (⟨some d,.call ⟨.value (.func f),args.toArray,tys⟩,ty,pos,after,none⟩::rest) env H:=by
 refine⟨λa ha w hw=>wpList_plain rfl λK hK=>?_⟩
 unfold Oper.wp
 rw[Yi1 ha hc hargs,Oper.upon_enter]
 exact zc51
theorem Yb
 (hc:∀xs w,(callFunc f xs).run P w=.ok (.enter f xs) w) (hargs:Args env args vs) (hn:Nat.ble (d+1) n.k=true)
 (hcall:∀w,St B w0 H w->Calls P f vs.toArray w (Post B w0 λu K=>u=v/\K=H))
 (h:VL P none n B w0 ops Q rest ((d,v)::env) H):
 VL P none n B w0 ops Q (⟨some d,.call ⟨.value (.func f),args.toArray,tys⟩,ty,pos,after,none⟩::rest) env H:=
 Yg _ hc hargs hn hcall zc63
theorem Yn
 (hc:∀xs w,(callFunc f xs).run P w=.ok (.enter f xs) w) (hargs:Args env args vs) (hn:Nat.ble (d+1) n.k=true)
 (hcall:∀w,St B w0 H w->Calls P f vs.toArray w (Post B w0 λu K=>u=v/\K=H))
 (h:VL P (some none) n B w0 ops Q rest ((d,v)::env) H):
 VL P (some none) n B w0 ops Q (⟨some d,.call ⟨.value (.func f),args.toArray,tys⟩,ty,pos,after,none⟩::rest) env H:=by
 refine⟨λa ha=>wpQuiet_step λK hK=>?_⟩
 refine⟨v,λw hw=>?_,hK _ ?_⟩
 ·unfold Oper.quietAt
  rw[Yi1 ha hc hargs]
  exact Yuc
 ·exact YqU
def ancB(ops:Array Oper):Nat->Nat->Nat->Bool
 |0,_,_=>false
 |f+1,j,i=>match ops[j]? with
  |some oj=>oj.after.any λe=>Region.binds .any e&&(e.on==i||ancB ops f e.on i)
  |none=>false
def Closed(ops:Array Oper)(listed:Array Bool):Prop:=
 ∀j oj,ops[j]? =some oj->listed.getD j false=true->∀e∈oj.after,Region.binds .any e=true->listed.getD e.on false=true
theorem Closed.set{ops:Array Oper}{listed:Array Bool}(h:Closed ops listed)(hj:j∈Region.ready .any ops listed):Closed ops (listed.setIfInBounds j true):=by
 obtain⟨_,oj,hoj,hall⟩:=mem_ready.1 hj
 intro k ok hk hl e he hb
 by_cases hkj:j=k
 ·grind [getD_set_true]
 ·rw[getD_set_ne false hkj]at hl
  exact getD_set_true (h k ok hk hl e he hb)
theorem Wa{ops:Array Oper}{listed:Array Bool}(h:Closed ops listed):∀(f j i:Nat),(∀oj,ops[j]? =some oj->∀e∈oj.after,Region.binds .any e=true->listed.getD e.on false=true)->ancB ops f j i=true->listed.getD i false=true
 |0,_,_,_,ha=>by cases ha
 |f+1,j,i,hp,ha=>by
  unfold ancB at ha
  cases ho:ops[j]? with
  |none=>simp_all
  |some oj=>
   rw[ho]at ha
   obtain⟨e,he,hb⟩:=Array.any_eq_true'.1 ha
   simp only[Tq,RH,NB]at hb
   have h1:=hp oj ho e he hb.1
   rcases hb.2 with h2|h2
   ·simp_all
   ·exact Wa h f e.on i (λok hk=>h e.on ok hk h1) h2
def Zl(P:Program)(ops:Array Oper)(Q:Exit->Act->World->Prop)(S:World->Prop)(last:List Nat):Nat->Array Bool->Act->World->Prop
 |0,listed,a,w=>Region.ready .any ops listed=[]/\Q .normal a w
 |fuel+1,listed,a,w=>
  (Region.ready .any ops listed=[]->Q .normal a w)/\
  ∀i∈Region.ready .any ops listed,wpOp P ops Q i (λa' w'=>(last.contains i=false->S w')/\Zl P ops Q S last fuel (listed.setIfInBounds i true) a' w') a w
theorem Qy{S:World->Prop}{last:List Nat}:∀(fuel:Nat) (listed:Array Bool) (a:Act) (w:World),Zl P ops Q S last fuel listed a w->wpAny P .any ops Q fuel listed a w
 |0,_,_,_,h=>h
 |fuel+1,_,_,_,h=>⟨h.1,λi hi=>wpOp_mono (λa' w' h'=>Qy fuel _ a' w' h'.2) (h.2 i hi)⟩
variable {last:List Nat}
theorem JN{S:World->Prop}{oi:Oper}(hi:ops[i]? =some oi)(hsel:∀(j:Nat) (o:Oper) cs b,ops[j]? =some o->o.op≠.select cs b)
 (hQ:∀c (a:Act) (w:World),¬Q (.panic c) a w) (hlast:∀j,last.contains j=true->∃f,ancB ops f j i=true) (hil:last.contains i=false):
 ∀(fuel:Nat) (listed:Array Bool) (a:Act) (w:World),Closed ops listed->
  (∀j oj,ops[j]? =some oj->j≠i->listed.getD j true=false->(∀e∈oj.after,Region.binds .any e=true->e.on≠i)->oi.apart ops oj=true)->
  i∈Region.ready .any ops listed->YieldsIf P ops S oi v a->S w->
  Zl P ops Q S last fuel (listed.setIfInBounds i true) (a.put oi.dst v) w->Zl P ops Q S last (fuel+1) listed a w:=by
 intro fuel
 induction fuel with
 |zero=>
  intro listed a w _ _ hr hy hS H
  refine⟨λh=>(by simp_all),λj hj=>?_⟩
  by_cases hji:j=i
  ·exact Ymp
  exact zc77
 |succ fuel ih=>
  intro listed a w hcl hfree hr hy hS H
  refine⟨λh=>(by rw[h]at hr;cases hr),λj hj=>?_⟩
  by_cases hji:j=i
  ·exact Ymp
  ·have h1:=H.2 j (ready_mono hj hji)
   obtain⟨hjun,oj,hoj,hall⟩:=mem_ready.1 hj
   have hun:=(mem_ready.1 hr).1
   have hun':listed.getD i false=false:=zc40
   have hnl:last.contains j=false:=by
    cases hc:last.contains j with
    |false=>rfl
    |true=>
     obtain⟨f,hf⟩:=hlast j hc
     have:=Wa hcl f j i (λok hk e he hb=>by
      obtain rfl:ok=oj:=TJ (hk.symm.trans hoj)
      exact hall e he hb) hf
     rw[hun']at this
     cases this
   have hnot:∀e∈oj.after,Region.binds .any e=true->e.on≠i:=by grind
   have h2:=wpOp_putIf hoj (hfree j oj hoj hji hjun hnot) (λcs b=>hsel i oi cs b hi) (λcs b=>hsel j oj cs b hoj) (λc a w h=>(hQ c _ w h).elim) hy h1
   have hfree':∀k ok,ops[k]? =some ok->k≠i->(listed.setIfInBounds j true).getD k true=false->
    (∀e∈ok.after,Region.binds .any e=true->e.on≠i)->oi.apart ops ok=true:=λk ok hk hki hu hno=>by
    exact zc26
   refine wpOp_mono (λa' w' h3=>⟨λ_=>h3.2.1 hnl,ih (listed.setIfInBounds j true) a' w' (hcl.set hj) hfree' (ready_mono hr (NF hji)) h3.1 (h3.2.1 hnl) ?_⟩) h2
   exact zc67
def Wn(ops:Array Oper):List Nat->Array Bool->Bool
 |[],listed=>(Region.ready .any ops listed).isEmpty
 |i::rest,listed=>
  (match ops[i]? with
   |some o=>if eff o then decide (Region.ready .any ops listed=[i])else(Region.ready .any ops listed).contains i&&Region.free .any ops listed i
   |none=>false)&&Wn ops rest (listed.setIfInBounds i true)
def Yfr(ops:Array Oper)(last:List Nat):Bool:=
 last.all λj=>(match ops[j]? with|some o=>eff o|none=>false)&&(List.range ops.size).all λi=>(match ops[i]? with|some o=>eff o|none=>false)||ancB ops ops.size j i
def nthO:List Oper->Nat->Oper
 |[],_=>default
 |o::_,0=>o
 |_::l,i+1=>nthO l i
theorem Yad:∀(l:List Oper) (i:Nat),nthO l i=l.getD i default
 |[],i=>by simp[nthO]
 |o::l,0=>by simp[nthO]
 |o::l,i+1=>by simp[nthO,Yad l i]
def Yc(l:List Oper):List Nat->List Oper
 |[]=>[]
 |i::r=>nthO l i::Yc l r
def Jp(P:Program)(ops:Array Oper)(Q:Exit->Act->World->Prop)(l:List Oper):Exit->Act->World->Prop
 |.normal,a,w=>wpList P ops Q l a w
 |e,a,w=>Q e a w
theorem Oper.wp_mono_noQ'(_h1:∀c (a:Act) (w:World),False->¬Q (.panic c) a w)(h:o.wp P a w K (Jp P ops Q l)):o.wp P a w K Q:=by
 unfold Oper.wp at h⊢
 generalize(execOp a.eval o).run P w=r at*
 cases r with
 |ok nx w'=>
  exact zc42
 |halt x w'=>
  exact h
theorem Wk(h:Yfr ops last=true):(∀j,last.contains j=true->∃o,ops[j]? =some o/\eff o=true)/\∀i oi,ops[i]? =some oi->eff oi=false->∀j,last.contains j=true->∃f,ancB ops f j i=true:=by
 refine⟨λj hj=>?_,λi oi hi he j hj=>?_⟩
 ·exact Ymo
 ·exact Ymo
theorem Wx{S:World->Prop}{last:List Nat}(l:List Oper)(hl:ops=l.toArray)(hef:∀j,last.contains j=true->∃o,ops[j]? =some o/\eff o=true)(hlo:¬LetsOut Q):
 ∀(o2:List Nat) (listed:Array Bool) (a:Act) (w:World),(∀j∈o2,last.contains j=true)->Wn ops o2 listed=true->wpList P ops Q (Yc l o2) a w->Zl P ops Q S last o2.length listed a w
 |[],listed,a,w,_,hB,h=>⟨by grind [Wn],h⟩
 |i::rest,listed,a,w,hin,hB,h=>by
  simp only[Wn,Tq]at hB
  obtain⟨h1,h2⟩:=hB
  obtain⟨o,ho,he⟩:=hef i (hin i (by simp))
  rw[ho]at h1
  simp only[he,Ni,Tm]at h1
  have hget:nthO l i=o:=by
   grind [Yad]
  simp only[Yc,hget]at h
  unfold wpList at h
  refine⟨λh0=>(by simp_all),λk hk=>?_⟩
  rw[h1]at hk
  obtain rfl:k=i:=by simp_all
  unfold wpOp
  simp only[ho]
  have hc:last.contains k=true:=hin k (by simp)
  by_cases hw:Region.wanted o (yielded ops a.tmps)=true
  ·rw[Tn hw]at h⊢
   rcases h with h|⟨_,h⟩
   ·exact .inl (Oper.wp_mono (λa' w' h'=>⟨λhf=>(by simp_all),Wx l hl hef hlo rest _ a' w' (λj hj=>hin j (by simp[hj])) h2 h'⟩) h)
   simp_all
  ·rw[Tj hw]at h⊢
   exact⟨λhf=>(by simp_all),Wx l hl hef hlo rest _ _ w (λj hj=>hin j (by simp[hj])) h2 h⟩
theorem V2{S:World->Prop}{last:List Nat}(hs:Region.noSelect ops=true)(hQ:∀c (a:Act) (w:World),¬Q (.panic c) a w)(hlo:¬LetsOut Q)(l:List Oper)(hl:ops=l.toArray)(hlast:Yfr ops last=true):
 ∀(o1:List Nat) (listed:Array Bool) (a:Act) (w:World),Closed ops listed->(∀j∈o1,last.contains j=false)->Wn ops (o1++last) listed=true->S w->Yv P ops (Jp P ops Q (Yc l last)) S (Yc l o1) a w->
  Zl P ops Q S last (o1++last).length listed a w
 |[],listed,a,w,_,_,hB,_,h=>Wx l hl (Wk hlast).1 hlo last listed a w (λj hj=>by simp_all) hB h
 |i::rest,listed,a,w,hcl,hno,hB,hS,h=>by
  simp only[TA,Wn,Tq]at hB
  obtain⟨h1,h2⟩:=hB
  have hno':∀j∈rest,last.contains j=false:=by simp_all
  cases ho:ops[i]? with
  |none=>simp_all
  |some o=>
   rw[ho]at h1
   have hget:nthO l i=o:=by
    grind [Yad]
   simp only[Yc,hget]at h
   by_cases he:eff o=true
   ·simp only[he,Ni,Tm]at h1
    unfold Yv at h
    rw[Tn he]at h
    refine⟨λh0=>(by rw[h1]at h0;cases h0),λk hk=>?_⟩
    have hk':=hk
    rw[h1]at hk
    obtain rfl:k=i:=by simpa using hk
    unfold wpOp
    simp only[ho]
    by_cases hw:Region.wanted o (yielded ops a.tmps)=true
    ·rw[Tn hw]at h⊢
     refine .inl (Oper.wp_mono_noQ' (λc a w h=>by cases h) (Oper.wp_mono (λa' w' h'=>⟨λ_=>h'.1,V2 hs hQ hlo l hl hlast rest _ a' w' (hcl.set hk') hno' h2 h'.1 h'.2⟩) h))
    ·rw[Tj hw]at h⊢
     exact⟨λ_=>hS,V2 hs hQ hlo l hl hlast rest _ _ w (hcl.set hk') hno' h2 hS h⟩
   ·simp only[he]at h1
    simp only[RO,NC,Tq]at h1
    unfold Yv at h
    rw[Tj he]at h
    obtain⟨v,hy,h3⟩:=h
    have hr:i∈Region.ready .any ops listed:=by simpa using h1.1
    exact JN ho (Region.noSelect_spec hs) hQ ((Wk hlast).2 i o ho (by simpa using he)) (hno i (by simp)) _ listed a w hcl (Region.free_spec ho h1.2) hr hy hS (V2 hs hQ hlo l hl hlast rest _ _ w (hcl.set hr) hno' h2 hS h3)
def Split:List Bool->List HP->List HP->List HP->Prop
 |[],L,Hc,F=>Hc=[]/\F=L
 |true::bs,A::L,C::Hc,F=>C=A/\Split bs L Hc F
 |false::bs,A::L,Hc,C::F=>C=A/\Split bs L Hc F
 |_,_,_,_=>False
theorem Yn6:Split [] L [] L:=⟨rfl,rfl⟩
variable {bs:List Bool}
theorem Ysh(h:Split bs L Hc F):Split (true::bs) (A::L) (A::Hc) F:=⟨rfl,h⟩
theorem Ysg(h:Split bs L Hc F):Split (false::bs) (A::L) Hc (A::F):=by
 cases Hc<;>exact⟨rfl,h⟩
theorem YiG(A:HP):∀(L M:List HP),Perm (A::(L++M)) (L++A::M)
 |[],_=>Perm.refl _
 |B::L,M=>(Perm.swap A B (L++M)).trans ((YiG A L M).cons B)
theorem XU:∀{bs:List Bool}{L Hc F:List HP},Split bs L Hc F->Perm L (Hc++F)
 |[],L,Hc,F,h=>by obtain⟨rfl,rfl⟩:=h;exact Perm.refl _
 |true::bs,A::L,C::Hc,F,h=>by obtain⟨rfl,h⟩:=h;exact(XU h).cons C
 |false::bs,A::L,[],C::F,h=>by
  obtain⟨rfl,h⟩:C=A/\Split bs L [] F:=h
  exact(XU h).cons C
 |false::bs,A::L,D::Hc,C::F,h=>by
  obtain⟨rfl,h⟩:C=A/\Split bs L (D::Hc) F:=h
  exact((XU h).cons C).trans (YiG C (D::Hc) F)
 |true::_,[],_,_,h=>h.elim
 |true::_,_::_,[],_,h=>h.elim
 |false::_,[],_,_,h=>by cases h
 |false::_,_::_,[],[],h=>by cases h
 |false::_,_::_,_::_,[],h=>by cases h
theorem St.prefix_{B:Nat}{w0:World}:∀{L F:List HP},St B w0 (L++F) w->St B w0 L w:=by
 intro L F h
 refine⟨h.below,h.le,?_⟩
 have key:∀(L:List HP) (S:Nat->Prop),sepL (L++F) S w->sepL L S w:=by
  intro L
  induction L with
  |nil=>intros;trivial
  |cons A L ih=>
   intro S hh
   obtain⟨S1,S2,h1,h2,h3,h4,h5⟩:=hh
   exact⟨S1,S2,h1,h2,h3,h4,ih S2 h5⟩
 exact key L _ h.sep
def Only(Q:Exit->Act->World->Prop):Exit->Act->World->Prop
 |.normal,a,w=>Q .normal a w
 |_,_,_=>False
theorem X5(ops:Array Oper)(k:Nat):Closed ops (Array.replicate k false):=by
 intro j oj _ hl
 rcases Nh j k with h|h
 all_goals simp_all
theorem YA(o1 last:List Nat)(mask:List Bool)(hm:P.follows .mixedOrders=true)
 (hB:(Region.noSelect l.toArray&&decide ((o1++last).length=l.toArray.size)&&Yfr l.toArray last&&(o1.all λj=>!last.contains j)&&Wn l.toArray (o1++last) (Array.replicate l.toArray.size false))=true)
 (hsp:Split mask H Hc F) {l1 l2:List Oper}(hl1:Yc l o1=l1) (hl2:Yc l last=l2) (h:VL P (some (some F)) n B w0 l.toArray (Jp P l.toArray (Only Q) l2) l1 env Hc):VC P n B w0 (.region id l.toArray true) Q env H:=by
 simp only[Tq,Tm]at hB
 obtain⟨⟨⟨⟨h1,h2⟩,h3⟩,h4⟩,h5⟩:=hB
 refine⟨λa w ha hw=>ZX (Q:=Only Q) ?_ λe a w h=>by exact zc72⟩
 have hst:St B w0 (Hc++F) w.drew:=(hw.perm (XU hsp)).drew
 have hr:Yv P l.toArray (Jp P l.toArray (Only Q) l2) (St B w0 Hc) l1 a w.drew:=h.run a ha w.drew hst
 rw[<-hl1,<-hl2]at hr
 have:=V2 (S:=St B w0 Hc) h1 (λc a w h=>h) zc54 l rfl h3 o1 _ a w.drew (X5 _ _) (λj hj=>by simp_all) h5 hst.prefix_ hr
 exact Ymv
def Yg0(P:Program)(B:Nat)(w0:World)(ops:Array Oper)(Q:Exit->Act->World->Prop)(Hc:List HP)(rest:List Oper):Exit->Act->World->Prop
 |.normal,a,w=>St B w0 Hc w/\Yv P ops Q (St B w0 Hc) rest a w
 |_,_,_=>False
theorem Oper.wp_mono_noQ{Q1 Q2:Exit->Act->World->Prop}(h1:∀c a w,¬Q1 (.panic c) a w)(h2:¬LetsOut Q1)(h:o.wp P a w K Q1):o.wp P a w K Q2:=by
 unfold Oper.wp at h⊢
 generalize(execOp a.eval o).run P w=r at*
 cases r with
 |ok nx w'=>
  cases nx<;>simp only[Oper.upon]at h⊢<;>first
   |exact h
   |(refine Calls.mono h λe w'' he=>?_
     cases e with
     |returned u=>exact he
     |panicked c=>exact(h1 _ _ _ he).elim
     |outgrown=>exact(h2 he).elim)
 |halt x w'=>
  cases x<;>simp only[Oper.upon]at h⊢
  simp_all
def App:List HP->List HP->List HP->Prop
 |[],F,HF=>HF=F
 |A::L,F,B::HF=>B=A/\App L F HF
 |_,_,_=>False
theorem Yrt:App [] F F:=rfl
theorem YoW(h:App L F HF):App (A::L) F (A::HF):=⟨rfl,h⟩
theorem YaA:∀{L F HF:List HP},App L F HF->HF=L++F
 |[],_,_,h=>h
 |A::L,F,B::HF,h=>by obtain⟨rfl,h⟩:=h;rw[YaA h];rfl
 |_::_,_,[],h=>h.elim
theorem Yrc(he:eff o=true)(hg:o.guard=none)(happ:App H F HF)(h:VL P none n B w0 ops (Yg0 P B w0 ops Q H rest) [o] env HF):VL P (some (some F)) n B w0 ops Q (o::rest) env H:=by
 refine⟨λa ha w hw=>?_⟩
 rw[<-YaA happ]at hw
 have h1:wpList P ops (Yg0 P B w0 ops Q H rest) [o] a w:=h.run a ha w hw
 unfold Yv
 rw[Tn he,Tn (by simp[Region.wanted,hg])]
 unfold wpList at h1
 rw[Tn (by simp[Region.wanted,hg])]at h1
 have hlo:¬LetsOut (Yg0 P B w0 ops Q H rest):=zc54
 rcases h1 with h1|⟨_,h2⟩
 ·refine Oper.wp_mono_noQ (λc a w h=>h) hlo (Oper.wp_mono (λa' w' h'=>?_) h1)
  exact h'
 simp_all
def Rem(A:HP)(L M:List HP):Prop:=Perm L (A::M)
theorem Yo:Rem A (A::L) L:=Perm.refl _
theorem Yw{X:HP}(h:Rem A L M):Rem A (X::L) (X::M):=(Perm.cons X h).trans (Perm.swap X A M)
def Pull(Hc L F:List HP):Prop:=Perm L (Hc++F)
theorem YY:Pull [] L L:=Perm.refl _
theorem YN(h:Rem A L M)(h2:Pull Hc M F):Pull (A::Hc) L F:=Perm.trans h (Perm.cons A h2)
theorem Yh(hp:Pull Hc H' F)(h:VL P (some (some F)) n B w0 ops Q rest env Hc):VQ n B w0 (Yg0 P B w0 ops Q Hc rest) .normal env H':=
 ⟨λa w ha hw=>⟨(hw.perm hp).prefix_,h.run a ha w (hw.perm hp)⟩⟩
theorem XH(happ:App H F HF)(h:VQ n B w0 Q .normal env HF):VL P (some (some F)) n B w0 ops Q [] env H:=
 ⟨λa ha w hw=>by exact Ymq⟩
theorem YoR(h:VL P none n B w0 ops Q l env H):VQ n B w0 (Jp P ops Q l) .normal env H:=⟨λa w ha hw=>h.run a ha w hw⟩
theorem Yrp(h:VQ n B w0 Q .normal env H):VQ n B w0 (Only Q) .normal env H:=⟨λa w ha hw=>h.run a w ha hw⟩
end
def OQ(P:Program)(t:TypeId):Bool:=
 match P.underlying t with
 |some (.struct _)|some (.array _ _)|none=>false
 |some _=>true
def aggT(P:Program)(t:TypeId):Option Nat:=
 match P.underlying t with
 |some (.struct _)|some (.array _ _)=>(P.info? t).map (·.size)
 |_=>none
def W9(P:Program)(s f:Nat):Option Nat:=
 match P.underlying s with
 |some (.struct fs)=>(fs[f]?).bind λfld=>(P.info? fld.type).bind λi=>if i.size=0 then none else some fld.offset
 |_=>none
def Yd4(P:Program)(t:TypeId):Option (Nat×Nat×Nat):=
 match P.underlying t with
 |some (.slice e)=>(P.info? e).bind λi=>i.zero.bind λz=>if z.cells.size=i.size/\0<i.size/\0<i.bytes then some (e,i.size,i.bytes)else none
 |_=>none
def YcD(P:Program)(t:TypeId):Option (Nat×Nat×Nat):=
 match P.underlying t with
 |some (.array n e)=>(P.info? e).map λi=>(n,e,i.size)
 |_=>none
def intT(P:Program)(t:TypeId):Option IntKind:=
 match P.underlying t with
 |some (.int k)=>some k
 |_=>none
def YgV(P:Program)(t:TypeId):Bool:=
 match P.underlying t with
 |some .string=>true
 |_=>false
def oneT(P:Program)(t:TypeId):Bool:=OQ P t&&((P.info? t).map (·.size))==some 1
def look{β:Type}:List (Nat×β)->Nat->Option β
 |[],_=>none
 |(s,v)::l,t=>if s=t then some v else look l t
theorem Vj{β:Type}:∀{l:List (Nat×β)}{t:Nat}{v:β},look l t=some v->(t,v)∈l
 |(s,u)::l,t,v,h=>by
  by_cases e:s=t
  ·simp_all [look]
  ·rw[look,Tj e]at h;exact TO _ (Vj h)
def Of:List (Nat×Nat×Nat)->Nat->Nat->Option Nat
 |[],_,_=>none
 |(s,f,v)::l,t,g=>if s=t then(if f=g then some v else Of l t g)else Of l t g
theorem YaU:∀{l:List (Nat×Nat×Nat)}{t g v:Nat},Of l t g=some v->(t,g,v)∈l
 |(s,f,u)::l,t,g,v,h=>by
  by_cases e:s=t
  ·subst e
   rw[Of,Tn rfl]at h
   by_cases e':f=g
   ·simp_all
   ·rw[Tj e']at h;exact TO _ (YaU h)
  ·rw[Of,Tj e]at h;exact TO _ (YaU h)
structure Tab(P:Program) where
 sc:List (Nat×Unit)
 ag:List (Nat×Nat)
 fo:List (Nat×Nat×Nat)
 sl:List (Nat×(Nat×Nat×Nat))
 ar:List (Nat×(Nat×Nat×Nat))
 ik:List (Nat×IntKind)
 st:List (Nat×Unit)
 sc_ok:(sc.all λx=>oneT P x.1)=true
 ag_ok:(ag.all λx=>aggT P x.1==some x.2)=true
 fo_ok:(fo.all λx=>W9 P x.1 x.2.1==some x.2.2)=true
 sl_ok:(sl.all λx=>Yd4 P x.1==some x.2)=true
 ar_ok:(ar.all λx=>YcD P x.1==some x.2)=true
 ik_ok:(ik.all λx=>decide (intT P x.1=some x.2))=true
 st_ok:(st.all λx=>YgV P x.1)=true
section
variable {P:Program}(T:Tab P)
variable {t k s f e:Nat}
theorem Tab.scal(h:look T.sc t=some ()):OQ P t=true/\(P.info? t).map (·.size)=some 1:=by
 have:=TL.1 T.sc_ok _ (Vj h)
 grind [oneT]
theorem Tab.aggs(h:look T.ag t=some k):aggT P t=some k:=by simpa using TL.1 T.ag_ok _ (Vj h)
theorem Tab.offs(h:Of T.fo s f=some k):W9 P s f=some k:=by simpa using TL.1 T.fo_ok _ (YaU h)
theorem Tab.slic{b:Nat}(h:look T.sl t=some (e,k,b)):Yd4 P t=some (e,k,b):=by simpa using TL.1 T.sl_ok _ (Vj h)
theorem Tab.arra{m:Nat}(h:look T.ar t=some (m,e,k)):YcD P t=some (m,e,k):=by simpa using TL.1 T.ar_ok _ (Vj h)
theorem Tab.strs(h:look T.st t=some ()):P.underlying t=some .string:=by
 have:=TL.1 T.st_ok _ (Vj h)
 grind [YgV]
theorem Tab.ints{k:IntKind}(h:look T.ik t=some k):intT P t=some k:=by simpa using TL.1 T.ik_ok _ (Vj h)
end
variable {P:Program}
theorem YaQ{t:TypeId}{k:IntKind}(h:intT P t=some k):P.underlying t=some (.int k):=by
 grind [intT]
theorem Xj{t:TypeId}(h:OQ P t=true)(w:World):(isAgg t).run P w=.ok false w:=by
 unfold OQ at h
 cases hu:P.underlying t with
 |none=>simp_all
 |some d=>exact Yuf
variable {k:Nat}
theorem JJ{t:TypeId}(h:aggT P t=some k)(w:World):(isAgg t).run P w=.ok true w:=by
 unfold aggT at h
 cases hu:P.underlying t with
 |none=>simp_all
 |some d=>exact Yuf
theorem Jl{t:TypeId}(h:(P.info? t).map (·.size)=some k)(w:World):(sizeOf t).run P w=.ok k w:=by
 cases hi:P.info? t with
 |none=>simp_all
 |some i=>simp_all [sizeOf,typeInfo]
theorem UF{t:TypeId}(h:aggT P t=some k):(P.info? t).map (·.size)=some k:=by
 grind [aggT]
def nth:List Value->Nat->Option Value
 |[],_=>none
 |v::_,0=>some v
 |_::l,i+1=>nth l i
theorem YkA:∀(l:List Value) (i:Nat),nth l i=l[i]?
 |[],i=>by simp[nth]
 |v::l,0=>by simp[nth]
 |v::l,i+1=>by simp[nth,YkA l i]
theorem Ygv(cs:Array Value)(i:Nat):nth cs.toList i=cs[i]? :=by simp[YkA]
section
variable {P:Program}{m:Mode}{n:Shp}{B:Nat}{w0:World}{Q:Exit->Act->World->Prop}{env:Env}{H:List HP}{ops:Array Oper}{rest:List Oper}
variable {d:Nat}{ty:TypeId}{pos:String}{after:Array Edge}
variable {x c y:Operand}{v z:Value}
theorem Yrh(hx:evo env x=some v)(hn:Nat.ble (d+1) n.k=true)(h:VL P m n B w0 ops Q rest ((d,v)::env) H):
 VL P m n B w0 ops Q (⟨some d,.move x,ty,pos,after,none⟩::rest) env H:=
 Yt rfl rfl hn rfl (λa w ha _=>by exact Ymw) h
theorem YmI(hx:evo env x=some v)(hn:Nat.ble (d+1) n.k=true)(h:VL P m n B w0 ops Q rest ((d,v)::env) H):
 VL P m n B w0 ops Q (⟨some d,.assign x,ty,pos,after,none⟩::rest) env H:=
 Yt rfl rfl hn rfl (λa w ha _=>by exact Ymw) h
theorem Yf1(hc:evo env c=some (.bool true))(hx:evo env x=some v)(hn:Nat.ble (d+1) n.k=true)(h:VL P m n B w0 ops Q rest ((d,v)::env) H):
 VL P m n B w0 ops Q (⟨some d,.pick c x y,ty,pos,after,none⟩::rest) env H:=
 Yt rfl rfl hn rfl (λa w ha _=>by simp[execOp,ha.eval hx,ha.eval hc,asBool]) h
theorem Yer(hc:evo env c=some (.bool false))(hx:evo env y=some v)(hn:Nat.ble (d+1) n.k=true)(h:VL P m n B w0 ops Q rest ((d,v)::env) H):
 VL P m n B w0 ops Q (⟨some d,.pick c x y,ty,pos,after,none⟩::rest) env H:=
 Yt rfl rfl hn rfl (λa w ha _=>by simp[execOp,ha.eval hx,ha.eval hc,asBool]) h
theorem Yhe{p:Addr}(hx:evo env x=some (.pointer (some p)))(hn:Nat.ble (d+1) n.k=true)(h:VL P m n B w0 ops Q rest ((d,.pointer (some p))::env) H):
 VL P m n B w0 ops Q (⟨some d,.nilCheck x,ty,pos,after,none⟩::rest) env H:=
 Yt rfl rfl hn rfl (λa w ha _=>by exact Ymw) h
variable {i s f k g t:Nat}
theorem YjF{vs:Array Value}(hx:evo env x=some (.tuple vs))(hv:nth vs.toList i=some v)(hn:Nat.ble (d+1) n.k=true)(h:VL P m n B w0 ops Q rest ((d,v)::env) H):
 VL P m n B w0 ops Q (⟨some d,.extract x i,ty,pos,after,none⟩::rest) env H:=
 Yt rfl rfl hn rfl (λa w ha _=>by rw[Ygv]at hv;simp[execOp,ha.eval hx,Instr.extract,hv]) h
variable {xt tt:TypeId}
theorem YoF{b:Bool}(hx:evo env x=some (.bool b))(hn:Nat.ble (d+1) n.k=true)(h:VL P m n B w0 ops Q rest ((d,.bool (!b))::env) H):
 VL P m n B w0 ops Q (⟨some d,.unOp .not xt x,ty,pos,after,none⟩::rest) env H:=
 Yt rfl rfl hn rfl (λa w ha _=>by simp[execOp,ha.eval hx,Op.unary]) h
theorem Yhf(hx:evo env x=some (.bool true))(hn:Nat.ble (d+1) n.k=true)(h:VL P m n B w0 ops Q rest ((d,.bool false)::env) H):
 VL P m n B w0 ops Q (⟨some d,.unOp .not xt x,ty,pos,after,none⟩::rest) env H:=YoF hx hn h
theorem YfZ(hx:evo env x=some (.bool false))(hn:Nat.ble (d+1) n.k=true)(h:VL P m n B w0 ops Q rest ((d,.bool true)::env) H):
 VL P m n B w0 ops Q (⟨some d,.unOp .not xt x,ty,pos,after,none⟩::rest) env H:=YoF hx hn h
theorem Y3{op:BinOp}{yt:TypeId}{u:Value}(hx:evo env x=some u)(hy:evo env y=some v)(hn:Nat.ble (d+1) n.k=true)
 (hg:∀w,(eqGuard op xt x y u v).run P w=.ok () w) (hb:∀w,(binOp op xt u v).run P w=.ok z w)
 (h:VL P m n B w0 ops Q rest ((d,z)::env) H):VL P m n B w0 ops Q (⟨some d,.binOp op xt x y yt,ty,pos,after,none⟩::rest) env H:=
 Yt rfl rfl hn rfl (λa w ha _=>by simp[execOp,ha.eval hx,ha.eval hy,hg w,hb w]) h
section
variable {xt yt:TypeId}{x y:Operand}{k:IntKind}{a b:Int}
theorem ZN(hx:evo env x=some (.int k a))(hy:evo env y=some (.int k b))(hn:Nat.ble (d+1) n.k=true)(h:VL P m n B w0 ops Q rest ((d,.int k (k.wrap (a+b)))::env) H):
 VL P m n B w0 ops Q (⟨some d,.binOp .add xt x y yt,ty,pos,after,none⟩::rest) env H:=Y3 hx hy hn (λ_=>rfl) (λ_=>by rw[binOp_add];rfl) h
theorem Ycs(hx:evo env x=some (.int k a))(hy:evo env y=some (.int k b))(hn:Nat.ble (d+1) n.k=true)(h:VL P m n B w0 ops Q rest ((d,.int k (k.wrap (a-b)))::env) H):
 VL P m n B w0 ops Q (⟨some d,.binOp .sub xt x y yt,ty,pos,after,none⟩::rest) env H:=Y3 hx hy hn (λ_=>rfl) (λ_=>by rw[binOp_sub];rfl) h
theorem Yhd(hx:evo env x=some (.int k a))(hy:evo env y=some (.int k b))(hn:Nat.ble (d+1) n.k=true)(h:VL P m n B w0 ops Q rest ((d,.int k (k.wrap (a*b)))::env) H):
 VL P m n B w0 ops Q (⟨some d,.binOp .mul xt x y yt,ty,pos,after,none⟩::rest) env H:=Y3 hx hy hn (λ_=>rfl) (λ_=>by rw[binOp_mul];rfl) h
theorem YuN(hx:evo env x=some (.int .i64 a))(hy:evo env y=some (.int .i64 b))(hn:Nat.ble (d+1) n.k=true)(hb: -9223372036854775808<=a+b/\a+b<=9223372036854775807)(h:VL P m n B w0 ops Q rest ((d,.int .i64 (a+b))::env) H):
 VL P m n B w0 ops Q (⟨some d,.binOp .add xt x y yt,ty,pos,after,none⟩::rest) env H:=by grind [ZN,Go.IntWalk.i64_in]
theorem Yu0(hx:evo env x=some (.int .i64 a))(hy:evo env y=some (.int .i64 b))(hn:Nat.ble (d+1) n.k=true)(hb: -9223372036854775808<=a-b/\a-b<=9223372036854775807)(h:VL P m n B w0 ops Q rest ((d,.int .i64 (a-b))::env) H):
 VL P m n B w0 ops Q (⟨some d,.binOp .sub xt x y yt,ty,pos,after,none⟩::rest) env H:=by grind [Ycs,Go.IntWalk.i64_in]
theorem YuU(hx:evo env x=some (.int .i64 a))(hy:evo env y=some (.int .i64 b))(hn:Nat.ble (d+1) n.k=true)(hb: -9223372036854775808<=a*b/\a*b<=9223372036854775807)(h:VL P m n B w0 ops Q rest ((d,.int .i64 (a*b))::env) H):
 VL P m n B w0 ops Q (⟨some d,.binOp .mul xt x y yt,ty,pos,after,none⟩::rest) env H:=by grind [Yhd,Go.IntWalk.i64_in]
theorem Yhj(hx:evo env x=some (.int k a))(hy:evo env y=some (.int k b))(hn:Nat.ble (d+1) n.k=true)(hb:b≠0)(h:VL P m n B w0 ops Q rest ((d,.int k (k.wrap (a.tdiv b)))::env) H):
 VL P m n B w0 ops Q (⟨some d,.binOp .quo xt x y yt,ty,pos,after,none⟩::rest) env H:=Y3 hx hy hn (λ_=>rfl) (λ_=>by simp_all [binOp_quo,Go.Op.intDiv]) h
theorem YoJ(hx:evo env x=some (.int k a))(hy:evo env y=some (.int k b))(hn:Nat.ble (d+1) n.k=true)(hb:b≠0)(h:VL P m n B w0 ops Q rest ((d,.int k (a.tmod b))::env) H):
 VL P m n B w0 ops Q (⟨some d,.binOp .rem xt x y yt,ty,pos,after,none⟩::rest) env H:=Y3 hx hy hn (λ_=>rfl) (λ_=>by simp_all [binOp_rem,Go.Op.intDiv]) h
theorem YuY(hx:evo env x=some (.int .i64 a))(hy:evo env y=some (.int .i64 b))(hn:Nat.ble (d+1) n.k=true)(hb:0<=a/\a<=9223372036854775807/\1<=b)(h:VL P m n B w0 ops Q rest ((d,.int .i64 (a/b))::env) H):
 VL P m n B w0 ops Q (⟨some d,.binOp .quo xt x y yt,ty,pos,after,none⟩::rest) env H:=by
 refine Yhj hx hy hn (by omega) ?_
 have h1:a/b<=a:=Int.ediv_le_self _ hb.1
 have h2:0<=a/b:=Int.ediv_nonneg hb.1 (by omega)
 grind [Go.IntWalk.i64_in]
theorem YuZ(hx:evo env x=some (.int k a))(hy:evo env y=some (.int k b))(hn:Nat.ble (d+1) n.k=true)(hb:0<=a/\1<=b)(h:VL P m n B w0 ops Q rest ((d,.int k (a%b))::env) H):
 VL P m n B w0 ops Q (⟨some d,.binOp .rem xt x y yt,ty,pos,after,none⟩::rest) env H:=by
 refine YoJ hx hy hn (by omega) ?_
 rw[Rh hb.1]
 exact h
theorem YuT(hx:evo env x=some (.int k a))(hy:evo env y=some (.int k b))(hn:Nat.ble (d+1) n.k=true)(h1:a<b->VL P m n B w0 ops Q rest ((d,.bool true)::env) H)(h2:b<=a->VL P m n B w0 ops Q rest ((d,.bool false)::env) H):
 VL P m n B w0 ops Q (⟨some d,.binOp .lss xt x y yt,ty,pos,after,none⟩::rest) env H:=by
 by_cases hc:a<b
 ·exact Y3 hx hy hn (λ_=>rfl) (λ_=>by simp_all [binOp_lss]) (h1 hc)
 ·exact Y3 hx hy hn (λ_=>rfl) (λ_=>by simp_all [binOp_lss]) (h2 (by omega))
theorem YuS(hx:evo env x=some (.int k a))(hy:evo env y=some (.int k b))(hn:Nat.ble (d+1) n.k=true)(h1:a<=b->VL P m n B w0 ops Q rest ((d,.bool true)::env) H)(h2:b<a->VL P m n B w0 ops Q rest ((d,.bool false)::env) H):
 VL P m n B w0 ops Q (⟨some d,.binOp .leq xt x y yt,ty,pos,after,none⟩::rest) env H:=by
 by_cases hc:a<=b
 ·exact Y3 hx hy hn (λ_=>rfl) (λ_=>by simp_all [binOp_leq]) (h1 hc)
 ·exact Y3 hx hy hn (λ_=>rfl) (λ_=>by simp_all [binOp_leq]) (h2 (by omega))
theorem YuQ(hx:evo env x=some (.int k a))(hy:evo env y=some (.int k b))(hn:Nat.ble (d+1) n.k=true)(h1:b<a->VL P m n B w0 ops Q rest ((d,.bool true)::env) H)(h2:a<=b->VL P m n B w0 ops Q rest ((d,.bool false)::env) H):
 VL P m n B w0 ops Q (⟨some d,.binOp .gtr xt x y yt,ty,pos,after,none⟩::rest) env H:=by
 by_cases hc:a>b
 ·exact Y3 hx hy hn (λ_=>rfl) (λ_=>by simp_all [binOp_gtr]) (h1 hc)
 ·exact Y3 hx hy hn (λ_=>rfl) (λ_=>by simp_all [binOp_gtr]) (h2 (by omega))
theorem YuP(hx:evo env x=some (.int k a))(hy:evo env y=some (.int k b))(hn:Nat.ble (d+1) n.k=true)(h1:b<=a->VL P m n B w0 ops Q rest ((d,.bool true)::env) H)(h2:a<b->VL P m n B w0 ops Q rest ((d,.bool false)::env) H):
 VL P m n B w0 ops Q (⟨some d,.binOp .geq xt x y yt,ty,pos,after,none⟩::rest) env H:=by
 by_cases hc:a≥b
 ·exact Y3 hx hy hn (λ_=>rfl) (λ_=>by simp_all [binOp_geq]) (h1 hc)
 ·exact Y3 hx hy hn (λ_=>rfl) (λ_=>by simp_all [binOp_geq]) (h2 (by omega))
theorem YoC(hx:evo env x=some (.int k a))(hy:evo env y=some (.int k b))(hn:Nat.ble (d+1) n.k=true)(h1:a=b->VL P m n B w0 ops Q rest ((d,.bool true)::env) H)(h2:a≠b->VL P m n B w0 ops Q rest ((d,.bool false)::env) H):
 VL P m n B w0 ops Q (⟨some d,.binOp .eql xt x y yt,ty,pos,after,none⟩::rest) env H:=by
 by_cases hc:a=b
 ·exact Y3 hx hy hn (λ_=>rfl) (λ_=>by simp_all [binOp_eql]) (h1 hc)
 ·exact Y3 hx hy hn (λ_=>rfl) (λ_=>by simp_all [binOp_eql]) (h2 hc)
theorem YuW(hx:evo env x=some (.int k a))(hy:evo env y=some (.int k b))(hn:Nat.ble (d+1) n.k=true)(h1:a≠b->VL P m n B w0 ops Q rest ((d,.bool true)::env) H)(h2:a=b->VL P m n B w0 ops Q rest ((d,.bool false)::env) H):
 VL P m n B w0 ops Q (⟨some d,.binOp .neq xt x y yt,ty,pos,after,none⟩::rest) env H:=by
 by_cases hc:a=b
 ·exact Y3 hx hy hn (λ_=>rfl) (λ_=>by simp_all [binOp_neq]) (h2 hc)
 ·exact Y3 hx hy hn (λ_=>rfl) (λ_=>by simp_all [binOp_neq]) (h1 hc)
variable {yk j:IntKind}
theorem Yaz(hx:evo env x=some (.int k a))(hy:evo env y=some (.int yk b))(hn:Nat.ble (d+1) n.k=true)(hb:0<=b/\b<=k.bits)(h:VL P m n B w0 ops Q rest ((d,.int k (a/2^b.toNat))::env) H):
 VL P m n B w0 ops Q (⟨some d,.binOp .shr xt x y yt,ty,pos,after,none⟩::rest) env H:=
 Y3 hx hy hn (λ_=>rfl) (λ_=>by simp_all [binOp_shr,shift_shr]) h
theorem Ycr(hx:evo env x=some (.int k a))(hy:evo env y=some (.int yk b))(hn:Nat.ble (d+1) n.k=true)(hb:0<=b/\b<=k.bits)(h:VL P m n B w0 ops Q rest ((d,.int k (k.wrap (a*2^b.toNat)))::env) H):
 VL P m n B w0 ops Q (⟨some d,.binOp .shl xt x y yt,ty,pos,after,none⟩::rest) env H:=
 Y3 hx hy hn (λ_=>rfl) (λ_=>by simp_all [binOp_shl,shift_shl]) h
theorem YoK{D:Int}(hx:evo env x=some (.int k a))(hn:Nat.ble (d+1) n.k=true)(hb:0<=b/\b<=k.bits)(hD:(2:Int)^b.toNat=D)(h:VL P m n B w0 ops Q rest ((d,.int k (a/D))::env) H):
 VL P m n B w0 ops Q (⟨some d,.binOp .shr xt x (.const (.int yk b)) yt,ty,pos,after,none⟩::rest) env H:=
 Yaz hx (y:=.const (.int yk b)) rfl hn hb (by rw[hD];exact h)
theorem YuO(hx:evo env x=some (.int k a))(hy:evo env y=some (.int k b))(hn:Nat.ble (d+1) n.k=true)(h:VL P m n B w0 ops Q rest ((d,.int k (bits .and k a b))::env) H):
 VL P m n B w0 ops Q (⟨some d,.binOp .and xt x y yt,ty,pos,after,none⟩::rest) env H:=Y3 hx hy hn (λ_=>rfl) (λ_=>by rw[binOp_and];rfl) h
theorem YoH(hx:evo env x=some (.int k a))(hy:evo env y=some (.int k b))(hn:Nat.ble (d+1) n.k=true)(h:VL P m n B w0 ops Q rest ((d,.int k (bits .or k a b))::env) H):
 VL P m n B w0 ops Q (⟨some d,.binOp .or xt x y yt,ty,pos,after,none⟩::rest) env H:=Y3 hx hy hn (λ_=>rfl) (λ_=>by rw[binOp_or];rfl) h
theorem JR(hx:evo env x=some (.int k a))(hy:evo env y=some (.int k b))(hn:Nat.ble (d+1) n.k=true)(h:VL P m n B w0 ops Q rest ((d,.int k (bits .xor k a b))::env) H):
 VL P m n B w0 ops Q (⟨some d,.binOp .xor xt x y yt,ty,pos,after,none⟩::rest) env H:=Y3 hx hy hn (λ_=>rfl) (λ_=>by rw[binOp_xor];rfl) h
variable {src dst:TypeId}
theorem Jc(T:Tab P)(hx:evo env x=some (.int k a))(hs:look T.ik src=some j){kd:IntKind}(ht:look T.ik dst=some kd)(hn:Nat.ble (d+1) n.k=true)(h:VL P m n B w0 ops Q rest ((d,.int kd (kd.wrap a))::env) H):
 VL P m n B w0 ops Q (⟨some d,.convert src dst x,ty,pos,after,none⟩::rest) env H:=by
 refine Yt rfl rfl hn rfl (λf w ha _=>?_) h
 simp[execOp,ha.eval hx,convert,run_underlying (YaQ (T.ints hs)),run_underlying (YaQ (T.ints ht)),Conv.intToInt]
theorem Ycn(T:Tab P)(hx:evo env x=some (.int k a))(hs:look T.ik src=some j)(ht:look T.ik dst=some .i64)(hn:Nat.ble (d+1) n.k=true)(hb: -9223372036854775808<=a/\a<=9223372036854775807)
 (h:VL P m n B w0 ops Q rest ((d,.int .i64 a)::env) H):VL P m n B w0 ops Q (⟨some d,.convert src dst x,ty,pos,after,none⟩::rest) env H:=
 by grind [Jc,Go.IntWalk.i64_in]
end
theorem QO(s t:ByteArray):(s.toList==t.toList)=true↔s=t:=by
 constructor
 ·intro h
  rw[ByteArray.toList_eq,ByteArray.toList_eq]at h
  cases s;simp_all
 simp_all
section
variable {xt yt:TypeId}{x y:Operand}{s t:ByteArray}
theorem Ylp(hx:evo env x=some (.string s))(hy:evo env y=some (.string t))(hn:Nat.ble (d+1) n.k=true)(h1:s=t->VL P m n B w0 ops Q rest ((d,.bool true)::env) H)(h2:s≠t->VL P m n B w0 ops Q rest ((d,.bool false)::env) H):
 VL P m n B w0 ops Q (⟨some d,.binOp .eql xt x y yt,ty,pos,after,none⟩::rest) env H:=by
 by_cases hc:s=t
 ·exact Y3 hx hy hn (λ_=>rfl) (λ_=>by simp[binOp,Op.stringOp,hc]) (h1 hc)
 ·refine Y3 hx hy hn (λ_=>rfl) (λ_=>?_) (h2 hc)
  exact Yt8
theorem Yrn(hx:evo env x=some (.string s))(hy:evo env y=some (.string t))(hn:Nat.ble (d+1) n.k=true)(h1:s≠t->VL P m n B w0 ops Q rest ((d,.bool true)::env) H)(h2:s=t->VL P m n B w0 ops Q rest ((d,.bool false)::env) H):
 VL P m n B w0 ops Q (⟨some d,.binOp .neq xt x y yt,ty,pos,after,none⟩::rest) env H:=by
 by_cases hc:s=t
 ·exact Y3 hx hy hn (λ_=>rfl) (λ_=>by simp[binOp,Op.stringOp,hc]) (h2 hc)
 ·refine Y3 hx hy hn (λ_=>rfl) (λ_=>?_) (h1 hc)
  exact Yt8
theorem Yrk(hx:evo env x=some (.string s))(hy:evo env y=some (.string t))(hn:Nat.ble (d+1) n.k=true)(hb:s.size+t.size<=9223372036854775807)(h:VL P m n B w0 ops Q rest ((d,.string (s++t))::env) H):
 VL P m n B w0 ops Q (⟨some d,.binOp .add xt x y yt,ty,pos,after,none⟩::rest) env H:=by
 refine Y3 hx hy hn (λ_=>rfl) (λ_=>?_) h
 have:¬((s.size+t.size:Nat):Int)>IntKind.i64.max:=by rw[IntKind.max_i64];omega
 simp_all [binOp,Go.Op.stringOp]
theorem Yrm(T:Tab P)(hx:evo env x=some (.string s)){tx:TypeId}(ht:look T.st tx=some ())(hn:Nat.ble (d+1) n.k=true)(h:VL P m n B w0 ops Q rest ((d,.int .i64 s.size)::env) H):
 VL P m n B w0 ops Q (⟨some d,.call ⟨.builtin .len,#[x],#[tx]⟩,ty,pos,after,none⟩::rest) env H:=
 Yt rfl rfl hn rfl (λf w ha _=>by simp[execOp,resolve,invoke,builtin,ha.eval hx,Builtin.len_,run_underlying (T.strs ht),goInt]) h
end
theorem YfW(T:Tab P)(hx:evo env x=some (.pointer (some ⟨g,i,none⟩)))(hf:Of T.fo s f=some k)(hn:Nat.ble (d+1) n.k=true)
 (h:VL P m n B w0 ops Q rest ((d,.pointer (some ⟨g,i+k,none⟩))::env) H):VL P m n B w0 ops Q (⟨some d,.fieldAddr s x f,ty,pos,after,none⟩::rest) env H:=by
 refine Yt rfl rfl hn rfl (λa w ha _=>?_) h
 have h1:=T.offs hf
 unfold W9 at h1
 split at h1
 ·rename_i fs hu
  cases hfl:fs[f]? with
  |none=>simp_all
  |some fld=>
   rw[hfl]at h1
   simp only[Nv]at h1
   cases hi:P.info? fld.type with
   |none=>simp_all
   |some inf=>
    rw[hi]at h1
    simp only[Nv]at h1
    by_cases hz:inf.size=0
    ·simp_all
    ·rw[Tj hz]at h1
     have h2:fld.offset=k:=by simp_all
     subst h2
     simp[execOp,ha.eval hx,Instr.fieldAt,run_underlying hu,hfl,Instr.sureAddr,fieldPlace,sizeOf,typeInfo,hi,hz,Addr.add_lit]
 simp_all
variable {cs:Array Value}{fr:Nat×Nat}
theorem Y7{w:World}{t:TypeId}(h:w.heap[g]? =some (.cells cs t fr)):w.cell? ⟨g,i,none⟩=cs[i]? :=by simp[World.cell?,h]
theorem Yre(T:Tab P)(hx:evo env x=some (.pointer (some ⟨g,i,none⟩)))(hm:blk g (.cells cs tt fr)∈H)(hv:nth cs.toList i=some v)
 (ht:look T.sc t=some ()) (hn:Nat.ble (d+1) n.k=true) (h:VL P m n B w0 ops Q rest ((d,v)::env) H):VL P m n B w0 ops Q (⟨some d,.load t x,ty,pos,after,none⟩::rest) env H:=by
 refine Yt rfl rfl hn rfl (λa w ha hw=>?_) h
 rw[Ygv]at hv
 exact zc94
theorem JQ(T:Tab P)(hx:evo env x=some (.pointer (some ⟨g,i,none⟩)))(hm:blk g (.cells cs tt fr)∈H)(hv:cs[i]? =some v)
 (ht:look T.sc t=some ()) (hn:Nat.ble (d+1) n.k=true) (h:VL P m n B w0 ops Q rest ((d,v)::env) H):VL P m n B w0 ops Q (⟨some d,.load t x,ty,pos,after,none⟩::rest) env H:=by
 refine Yt rfl rfl hn rfl (λa w ha hw=>?_) h
 exact zc94
theorem XL(T:Tab P)(hx:evo env x=some (.pointer (some ⟨g,0,none⟩)))(hm:blk g (.cells cs tt fr)∈H)
 (ht:look T.ag t=some k) (hk:cs.size=k) (hn:Nat.ble (d+1) n.k=true) (h:VL P m n B w0 ops Q rest ((d,.agg cs)::env) H):
 VL P m n B w0 ops Q (⟨some d,.load t x,ty,pos,after,none⟩::rest) env H:=by
 refine Yt rfl rfl hn rfl (λa w ha hw=>?_) h
 have hb:=(hw.blk hm).1
 have hl:=run_loadCells_list (P:=P) w ⟨g,0,none⟩ cs.toList (λj v hj=>by exact YuH)
 rw[show cs.toList.length=k by omega]at hl
 exact YtV
theorem WR(T:Tab P){vs:List Value}(hx:evo env x=some (.pointer (some ⟨g,i,none⟩)))(hm:blk g (.cells cs tt fr)∈H)
 (ht:look T.ag t=some k) (hk:vs.length=k) (hv:∀j v,vs[j]? =some v->cs[i+j]? =some v) (hn:Nat.ble (d+1) n.k=true) (h:VL P m n B w0 ops Q rest ((d,.agg vs.toArray)::env) H):
 VL P m n B w0 ops Q (⟨some d,.load t x,ty,pos,after,none⟩::rest) env H:=by
 refine Yt rfl rfl hn rfl (λa w ha hw=>?_) h
 have hb:=(hw.blk hm).1
 have hl:=run_loadCells_list (P:=P) w ⟨g,i,none⟩ vs (λj v hj=>by grind [Go.Addr.add_lit,Y7])
 rw[hk]at hl
 exact YtV
def YeW(l:List Value)(i:Nat)(v:Value)(l':List Value):Prop:=i<l.length/\l'=l.set i v
variable {l:List Value}
theorem Yd1{x:Value}:YeW (x::l) 0 v (v::l):=⟨by simp,rfl⟩
theorem YbF{x:Value}{l':List Value}(h:YeW l i v l'):YeW (x::l) (i+1) v (x::l'):=⟨by have:=h.1;simp_all,by rw[h.2];rfl⟩
theorem YoM(T:Tab P){cs cs':List Value}{K:List HP}(hx:evo env x=some (.pointer (some ⟨g,i,none⟩)))(hy:evo env y=some v)(h1:v.oneCell'=true)
 (hu:Upd (blk g (.cells cs.toArray tt (0,0))) (blk g (.cells cs'.toArray tt (0,0))) H K) (hs:YeW cs i v cs')
 (ht:look T.sc t=some ()) (h:VL P none n B w0 ops Q rest env K):VL P none n B w0 ops Q (⟨none,.store t x y,ty,pos,after,none⟩::rest) env H:=by
 obtain⟨hi,rfl⟩:=hs
 have hu':Upd (blk g (.cells cs.toArray tt (0,0))) (blk g (.cells (cs.toArray.setIfInBounds i v) tt (0,0))) H K:=by rw[List.setIfInBounds_toArray];exact hu
 refine J6 rfl rfl (λa w ha hw=>⟨w.setCell ⟨g,i,none⟩ v,?_,hw.setCell hu'⟩) h
 have hb:w.heap[g]? =some (.cells cs.toArray tt (0,0)):=zc39
 have hc:=Y7 (i:=i) hb
 have hcs:v.cells=#[v]:=YqS
 have hz:w.frozen? ⟨g,i,none⟩=false:=YfP
 have hv:(cs.toArray)[i]? =some cs[i]:=by simp[hi]
 exact zc79
theorem YR{t:TypeId}(hx:evo env x=some (.agg cs))(hn:Nat.ble (d+1) n.k=true)
 (h:∀g,VL P none n B w0 ops Q rest ((d,.pointer (some ⟨g,0,none⟩))::env) (blk g (.cells cs t (0,0))::H)):VL P none n B w0 ops Q (⟨some d,.box t x,ty,pos,after,none⟩::rest) env H:=
 XA (λv K=>∃g,v=.pointer (some ⟨g,0,none⟩)/\K=blk g (.cells cs t (0,0))::H) rfl rfl hn
  (λa w ha hw=>⟨_,_,w.alloc (.cells cs t (0,0)),by simp[execOp,ha.eval hx,Instr.box,newVar,newRow,Value.cells],hw.alloc _,w.heap.size,rfl,rfl⟩)
  zc53
theorem YjD{t:TypeId}(hx:evo env x=some v)(h1:v.cells=#[v])(hn:Nat.ble (d+1) n.k=true)
 (h:∀g,VL P none n B w0 ops Q rest ((d,.pointer (some ⟨g,0,none⟩))::env) (blk g (.cells #[v] t (0,0))::H)):VL P none n B w0 ops Q (⟨some d,.box t x,ty,pos,after,none⟩::rest) env H:=
 XA (λv' K=>∃g,v'=.pointer (some ⟨g,0,none⟩)/\K=blk g (.cells #[v] t (0,0))::H) rfl rfl hn
  (λa w ha hw=>⟨_,_,w.alloc (.cells #[v] t (0,0)),by simp[execOp,ha.eval hx,Instr.box,newVar,newRow,h1],hw.alloc _,w.heap.size,rfl,rfl⟩)
  zc53
theorem Yov{t:TypeId}(hz:∀w,(zeroValue t).run P w=.ok z w)(hc:z.cells=cs)(hn:Nat.ble (d+1) n.k=true)
 (h:∀g,VL P none n B w0 ops Q rest ((d,.pointer (some ⟨g,0,none⟩))::env) (blk g (.cells cs t (0,0))::H)):VL P none n B w0 ops Q (⟨some d,.alloc t,ty,pos,after,none⟩::rest) env H:=
 XA (λv' K=>∃g,v'=.pointer (some ⟨g,0,none⟩)/\K=blk g (.cells cs t (0,0))::H) rfl rfl hn
  (λa w _ hw=>⟨_,_,w.alloc (.cells cs t (0,0)),by simp[execOp,Instr.alloc,hz,newVar,newRow,hc],hw.alloc _,w.heap.size,rfl,rfl⟩)
  zc53
def Ya6(env:Env):List (Nat×Operand)->List (Nat×Value)->Prop
 |[],[]=>True
 |x::l,v::vs=>x.1=v.1/\evo env x.2=some v.2/\Ya6 env l vs
 |_,_=>False
theorem YfB{env:Env}:Ya6 env [] []:=trivial
theorem YkJ{env:Env}{l:List (Nat×Operand)}{vs:List (Nat×Value)}(h:evo env x=some v)(hl:Ya6 env l vs):Ya6 env ((i,x)::l) ((i,v)::vs):=⟨rfl,h,hl⟩
theorem Yfu{n:Shp}{a:Act}{env:Env}(ha:Fits n a env):∀(l:List (Nat×Operand)) (us:List (Nat×Value)),Ya6 env l us->l.map (λp=>(p.1,a.eval p.2))=us
 |[],[],_=>rfl
 |[],_::_,h=>h.elim
 |_::_,[],h=>h.elim
 |x::l,u::us,h=>by rw[Rx,ha.eval h.2.1,Yfu ha l us h.2.2,h.1]
theorem Yox{t:TypeId}{parts:List (Nat×Operand)}{ps:List (Nat×Value)}(hp:Ya6 env parts ps)(hb:∀w,(Instr.build t ps.toArray).run P w=.ok v w)(hn:Nat.ble (d+1) n.k=true)
 (h:VL P m n B w0 ops Q rest ((d,v)::env) H):VL P m n B w0 ops Q (⟨some d,.build t parts.toArray,ty,pos,after,none⟩::rest) env H:=by
 refine Yt rfl rfl hn rfl (λa w ha _=>?_) h
 have hm:(parts.toArray.map λ(i,x)=>(i,a.eval x))=ps.toArray:=Yus
 simp_all [execOp]
end
end Go.Eng
