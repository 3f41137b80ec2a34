/- The law FragmentReceives: walk. -/
import Derived.Test.YtfobgjhjigkigaaFr7
namespace Go.Eng
open Go.RowKit
section
variable {P : Program} {m : Mode} {n B d : Nat} {w0 : World} {ops : Array Oper} {Q : Exit → Act → World → Prop} {rest : List Oper} {env : Env} {H : List HP} {ty : TypeId} {pos : String} {after : Array Edge} {xt yt : TypeId} {x y : Operand}
theorem VL_bneq_same {a : Bool} (hx : evo env x = some (.bool a)) (hy : evo env y = some (.bool a)) (hn : Nat.ble (d + 1) n = true) (ht : isBool P xt = true) (h : VL P m n B w0 ops Q rest ((d, .bool false) :: env) H) :
    VL P m n B w0 ops Q (⟨some d, .binOp .neq xt x y yt, ty, pos, after, none⟩ :: rest) env H :=
  VL_bneq hx hy hn ht (by cases a <;> exact h)
end
end Go.Eng
namespace Go.Proofs.Ytfobgjhjigkigaa
open Go.RowKit Go.Eng Go.Nw

theorem equal_same (l : List Int) (hlen : l.length ≤ 9223372036854775807) {A A2 : Option Addr} {cap cap2 B : Nat} {w0 : World} {H : List HP} {w : World} (hr : Rd B w0 H A (l.flatMap numF)) (hr2 : Rd B w0 H A2 (l.flatMap numF)) (hw : St B w0 H w) :
    Calls Try.prog 20 [.slice A l.length cap, .slice A2 l.length cap2].toArray w (Post B w0 fun u K => u = .bool true ∧ K = H) := by
  have h := equal_ints l l hlen hlen (cap := cap) (cap2 := cap2) hr hr2 hw
  rwa [decide_eq_true rfl] at h

structure Lz where
  i : Nat
  slot : Int
  time : Int
  ds : List Dg
  clock : Nat
  A : Option Addr
  cap : Nat
  xs : List Rx
structure LzOk (z : Lz) : Prop where
  s0 : 0 ≤ z.slot
  s1 : z.slot ≤ z.i * 99999
  hxd : z.xs.map (·.d) = z.ds
  inv : Inv z.time z.ds z.clock

theorem arr_part (z a b c d e : Value) : ∀ j v, ([a, b, c, d, e] : List Value)[j]? = some v → (#[z, a, b, c, d, e] : Array Value)[0 + 1 + j]? = some v := by
  rintro (_ | _ | _ | _ | _ | j) v h
  · exact h
  · exact h
  · exact h
  · exact h
  · exact h
  · simp at h

set_option maxRecDepth 10000 in
set_option maxHeartbeats 4000000 in
theorem law_receives (hold : Int) (l : List Arr) (hlen : l.length ≤ 9223372036854775807) (hs : ∀ a ∈ l, a.data.size ≤ 9223372036854775807) {A0 : Option Addr} {cap0 B : Nat} {w0 : World} {H : List HP} {w : World} (hr : Rd B w0 H A0 (l.flatMap arF)) (hw : St B w0 H w) :
    Calls Try.prog 7 [.int .i64 hold, .slice A0 l.length cap0].toArray w (Post B w0 fun v K => v = .bool true ∧ ∀ w, St B w0 K w → St B w0 H w) := by
  refine Calls_of_VC Try.func7 Try.ntmps7 rfl rfl hw ?_
  repeat' (first | ((first | apply VL_callt en10 | apply VL_callq en10); (repeat (first | exact args_nil | (apply args_cons; exact rfl))); exact rfl; exact fun _ hw => (awake_spec hw)) | apply (zs1 ?_) | apply (zs2 ?_) | (apply zg20; refine zs47 ?_) | apply (zs65 ?_) | apply (zs68 ?_) | apply (zs69 ?_) | apply (zs70 ?_) | (apply zg27; refine zs72 ?_) | apply (zs76 ?_))
  obtain ⟨fw, hfw⟩ : ∃ b, decide (l.length ≤ 60 ∧ ¬ l.any longA = true) = b := ⟨_, rfl⟩
  have hfs := fun (w : World) (hw : St B w0 H w) => few_spec l hlen hs (cap := cap0) hr hw
  rw [hfw] at hfs
  cases fw with
  | false =>
    repeat' (first | ((first | apply VL_callt en28 | apply VL_callq en28); (repeat (first | exact args_nil | (apply args_cons; exact rfl))); exact rfl; exact fun _ hw => (hfs _ hw)) | apply (zs2 ?_) | (apply zg20; refine zs48 ?_) | apply (zs65 ?_) | apply (zs68 ?_) | apply (zs69 ?_) | apply (zs70 ?_) | (apply zg27; refine zs71 ?_) | apply (zs74 ?_) | apply (zs77 ?_))
    apply VQ_ret1; exact rfl; exact rfl
    exact ⟨rfl, fun w hw => hw⟩
  | true =>
    obtain ⟨h60, hany⟩ := of_decide_eq_true hfw
    have hshort : ∀ a ∈ l, a.data.size ≤ 200 := fun a ha => by
      have h1 : ¬ longA a = true := fun h => hany (List.any_eq_true.2 ⟨a, ha, h⟩)
      unfold longA at h1
      simpa using h1
    repeat' (first | ((first | apply VL_callt en28 | apply VL_callq en28); (repeat (first | exact args_nil | (apply args_cons; exact rfl))); exact rfl; exact fun _ hw => (hfs _ hw)) | apply (zs1 ?_) | (apply zg20; refine zs47 ?_) | apply (zs65 ?_) | apply (zs68 ?_) | apply (zs69 ?_) | apply (zs70 ?_) | (apply zg27; refine zs72 ?_) | apply (zs76 ?_))
    by_cases hh : 0 ≤ hold ∧ hold ≤ 4096
    rotate_left
    · skip
      apply VL_callP [] _ en21
      (repeat (first | exact args_nil | (apply args_cons; exact rfl)))
      (repeat (first | with_reducible exact pull_nil | (with_reducible apply pull_cons; (repeat (first | with_reducible exact rem_here | with_reducible apply rem_there)))))
      (repeat (first | with_reducible exact app_nil | with_reducible apply app_cons))
      exact rfl
      exact fun _ hw => ((fun h => newReceiver_err hold h (by omega)) hw)
      rintro _ _ ⟨rfl, rfl⟩
      repeat' (first | apply (zs1 ?_) | apply (zs2 ?_) | apply (zs13 ?_) | apply (zs65 ?_) | apply (zs68 ?_) | apply (zs69 ?_) | apply (zs70 ?_))
      apply VL_callP [] _ en29
      (repeat (first | exact args_nil | (apply args_cons; exact rfl)))
      (repeat (first | with_reducible exact pull_nil | (with_reducible apply pull_cons; (repeat (first | with_reducible exact rem_here | with_reducible apply rem_there)))))
      (repeat (first | with_reducible exact app_nil | with_reducible apply app_cons))
      exact rfl
      exact fun _ hw => ((fun h => xnew_err hold h (by omega)) hw)
      rintro _ _ ⟨rfl, rfl⟩
      repeat' (first | (apply VL_pneq0; exact rfl; exact rfl; kernel_rfl) | (apply VL_peql0; exact rfl; exact rfl; kernel_rfl) | apply (zs1 ?_) | apply (zs2 ?_) | (apply zg1; refine zs4 ?_) | (apply zg6; refine zs12 ?_) | apply (zs13 ?_) | (apply zg7; (refine zs15 ?_ ?_ <;> intro _ <;> try (exfalso; omega))) | (apply zg8; first | (refine zs16 ?_ ?_ <;> intro _ <;> try (exfalso; omega)) | refine zs63 ?_) | apply (zs65 ?_) | apply (zs68 ?_) | apply (zs69 ?_) | apply (zs70 ?_) | (apply zg27; first | refine zs71 ?_ | refine zs72 ?_) | apply (zs74 ?_) | apply (zs76 ?_) | apply (zs77 ?_))
      apply VQ_ret1; exact rfl; exact rfl
      exact ⟨rfl, fun w hw => hw⟩
    · skip
      apply VL_callP [] _ en21
      (repeat (first | exact args_nil | (apply args_cons; exact rfl)))
      (repeat (first | with_reducible exact pull_nil | (with_reducible apply pull_cons; (repeat (first | with_reducible exact rem_here | with_reducible apply rem_there)))))
      (repeat (first | with_reducible exact app_nil | with_reducible apply app_cons))
      exact rfl
      exact fun _ hw => ((fun h => newReceiver_spec hold h hh.1 hh.2) hw)
      rintro _ _ ⟨r, mm, rfl, rfl⟩
      repeat' (first | apply (zs1 ?_) | apply (zs2 ?_) | apply (zs13 ?_) | apply (zs65 ?_) | apply (zs68 ?_) | apply (zs69 ?_) | apply (zs70 ?_))
      apply VL_callP [] _ en29
      (repeat (first | exact args_nil | (apply args_cons; exact rfl)))
      (repeat (first | with_reducible exact pull_nil | (with_reducible apply pull_cons; (repeat (first | with_reducible exact rem_here | with_reducible apply rem_there)))))
      (repeat (first | with_reducible exact app_nil | with_reducible apply app_cons))
      exact rfl
      exact fun _ hw => ((fun h => xnew_spec hold h hh) hw)
      rintro _ _ ⟨rx, rfl, rfl⟩
      repeat' (first | (apply VL_pneq0; exact rfl; exact rfl; kernel_rfl) | (apply VL_peql0; exact rfl; exact rfl; kernel_rfl) | apply (zs1 ?_) | apply (zs2 ?_) | (apply zg1; refine zs4 ?_) | (apply zg4; refine zs9 ?_) | (apply zg6; refine zs12 ?_) | apply (zs13 ?_) | (apply zg7; (refine zs15 ?_ ?_ <;> intro _ <;> try (exfalso; omega))) | (apply zg8; first | (refine zs16 ?_ ?_ <;> intro _ <;> try (exfalso; omega)) | refine zs63 ?_) | apply (zs65 ?_) | apply (zs68 ?_) | apply (zs69 ?_) | apply (zs70 ?_) | (apply zg27; refine zs72 ?_) | apply (zs73 ?_) | apply (zs76 ?_))
      have hok0 : LzOk ⟨0, 0, 0, [], 0, none, 0, []⟩ := ⟨by simp, by simp, rfl, ⟨by simp, ⟨by simp, by simp, fun d hd => (by cases hd)⟩, fun d hd => (by cases hd), by simp⟩⟩
      refine VC_loop1 (fun z : Lz => [(51, .int .i64 z.i), (50, .int .i64 l.length), (49, .slice A0 l.length cap0), (5, .pointer (some ⟨r, 0, none⟩)), (7, .pointer (some ⟨rx, 0, none⟩)), (9, .int .i64 z.slot)])
        (fun z => rpcs r mm hold z.time z.ds z.clock (xpcs rx hold z.time z.A z.cap z.xs H)) (fun z => z.i ≤ l.length ∧ LzOk z) (fun z => l.length - z.i) ⟨0, 0, 0, [], 0, none, 0, []⟩ ⟨Nat.zero_le _, hok0⟩ ?_ (by dsimp only; unfold rpcs xpcs; simp only [List.map_nil, List.flatMap_nil, List.length_nil]; (intro w hw; refine hw.perm ?_; focus repeat (first | with_reducible exact Perm.refl _ | (with_reducible apply perm_take; focus ((repeat (first | with_reducible exact rem_here | with_reducible apply rem_there)); done)) | with_reducible apply Perm.dropK))) ?_
      · (repeat (first | exact sub_nil _ | (apply sub_cons; first | exact rfl | exact congrArg (fun z : Int => some (Value.int .i64 z)) (by omega))))
      clear hok0
      rintro ⟨i, slot, time, ds, clock, A, cap, xs⟩ ⟨hi, ⟨s0, s1, hxd, hinv⟩⟩ K hK
      simp only at hi s0 s1 hxd hinv ⊢
      unfold rpcs xpcs
      by_cases hlt : i < l.length
      · obtain ⟨a, ha⟩ : ∃ a, l[i]? = some a := ⟨_, List.getElem?_eq_getElem hlt⟩
        have hsh := hshort a (List.mem_of_getElem? ha)
        obtain ⟨tm, htm⟩ : ∃ tm, a.later.tmod 100000 = tm := ⟨_, rfl⟩
        have htb : -100000 < tm ∧ tm < 100000 := by
          rw [← htm]
          exact ⟨Int.lt_tmod_of_pos _ (by omega), Int.tmod_lt_of_pos _ (by omega)⟩
        have hi60 : (i : Int) ≤ 60 := by omega
        obtain ⟨slot2, hsl2⟩ : ∃ s2, slot + tm = s2 := ⟨_, rfl⟩
        repeat' (first | (apply VL_rem_w; exact rfl; exact rfl; exact rfl; decide; rw [htm]) | apply (zs1 ?_) | apply (zs2 ?_) | (apply zg2; refine zs6 ?_) | (apply zg3; first | refine zs7 ?_ | refine zs61 ?_) | (apply zg5; refine zs57 ?_) | (apply (zs17 ?_ ?_) <;> intro _ <;> try (exfalso; omega)) | (apply zg13; refine zs30 ?_) | (apply zg22; refine zs51 ?_) | (apply zg24; (refine zs54 ?_; intro _)) | apply (zs65 ?_) | apply (zs68 ?_) | apply (zs69 ?_) | apply (zs70 ?_) | (apply zg27; refine zs71 ?_) | apply (zs73 ?_) | apply (zs76 ?_))
        rw [hsl2]
        repeat' (first | (apply VL_load_agg T (vs := [.int .i64 a.tag, .int .i64 a.idx, .int .i64 a.cnt, .int .i64 a.size, .string a.data]); exact rfl; (focus repeat (first | with_reducible exact List.mem_cons_self | with_reducible apply List.mem_cons_of_mem | assumption)); exact rfl; exact rfl; exact arr_part _ _ _ _ _ _; exact rfl) | fail)
        apply VL_callP [blk r _, blk mm _, many (List.map Dg.hp _)] _ en22
        (repeat (first | exact args_nil | (apply args_cons; exact rfl)))
        (repeat (first | with_reducible exact pull_nil | (with_reducible apply pull_cons; (repeat (first | with_reducible exact rem_here | with_reducible apply rem_there)))))
        (repeat (first | with_reducible exact app_nil | with_reducible apply app_cons))
        exact rfl
        exact fun _ hw => (recv_any hold time mm r ds clock slot2 a.tag a.idx a.cnt a.size a.data (by omega) hh hinv hw)
        rintro _ _ ⟨time2, ds2, clock2, hstep, rfl⟩
        have hinv2 := step_inv hinv (by omega) hstep
        obtain ⟨x, b, e, rfl⟩ := step_form hstep
        unfold rpcs
        repeat' (first | (apply VL_load_agg T (vs := [.int .i64 a.tag, .int .i64 a.idx, .int .i64 a.cnt, .int .i64 a.size, .string a.data]); exact rfl; (focus repeat (first | with_reducible exact List.mem_cons_self | with_reducible apply List.mem_cons_of_mem | assumption)); exact rfl; exact rfl; exact arr_part _ _ _ _ _ _; exact rfl) | apply (zs1 ?_) | apply (zs2 ?_) | (apply zg2; refine zs6 ?_) | apply (zs13 ?_) | apply (zs65 ?_) | apply (zs68 ?_) | apply (zs69 ?_) | apply (zs70 ?_))
        apply VL_callP [blk rx _, sl 105 7 _ _ _ _, many (List.map xrows _)] _ en30
        (repeat (first | exact args_nil | (apply args_cons; exact rfl)))
        (repeat (first | with_reducible exact pull_nil | (with_reducible apply pull_cons; (repeat (first | with_reducible exact rem_here | with_reducible apply rem_there)))))
        (repeat (first | with_reducible exact app_nil | with_reducible apply app_cons))
        exact rfl
        exact fun _ hw => (xrecv_any rx hold time A cap xs ds hxd clock slot2 a.tag a.idx a.cnt a.size a.data (by omega) hh hinv hstep hw)
        rintro _ _ ⟨A2, cap2, xs2, rfl, hxd2, rfl⟩
        unfold xpcs
        repeat' (first | apply (zs1 ?_) | apply (zs2 ?_) | (apply zg2; refine zs6 ?_) | (apply zg3; refine zs7 ?_) | apply (zs13 ?_) | apply (zs65 ?_) | apply (zs68 ?_) | apply (zs69 ?_) | apply (zs70 ?_))
        apply VL_callP [blk r _, blk mm _, many (List.map Dg.hp _)] _ en23
        (repeat (first | exact args_nil | (apply args_cons; exact rfl)))
        (repeat (first | with_reducible exact pull_nil | (with_reducible apply pull_cons; (repeat (first | with_reducible exact rem_here | with_reducible apply rem_there)))))
        (repeat (first | with_reducible exact app_nil | with_reducible apply app_cons))
        exact rfl
        exact fun _ hw => (bitmap_any hold time2 mm r ds2 clock2 a.tag hw)
        rintro _ _ ⟨rfl, rfl⟩
        unfold rpcs
        repeat' (first | apply (zs1 ?_) | apply (zs2 ?_) | (apply zg2; refine zs6 ?_) | (apply zg3; refine zs7 ?_) | apply (zs13 ?_) | apply (zs65 ?_) | apply (zs68 ?_) | apply (zs69 ?_) | apply (zs70 ?_))
        apply VL_callP [blk rx _, sl 105 7 _ _ _ _, many (List.map xrows _)] _ en31
        (repeat (first | exact args_nil | (apply args_cons; exact rfl)))
        (repeat (first | with_reducible exact pull_nil | (with_reducible apply pull_cons; (repeat (first | with_reducible exact rem_here | with_reducible apply rem_there)))))
        (repeat (first | with_reducible exact app_nil | with_reducible apply app_cons))
        exact rfl
        exact fun _ hw => (xbitmap_any rx hold time2 A2 cap2 xs2 ds2 hxd2 clock2 hinv2 a.tag hw)
        rintro _ _ ⟨rfl, rfl⟩
        unfold xpcs
        obtain ⟨b1, hb1⟩ : ∃ b1, (bmV ds2 a.tag).1 = b1 := ⟨_, rfl⟩
        obtain ⟨b2, hb2⟩ : ∃ b2, (bmV ds2 a.tag).2 = b2 := ⟨_, rfl⟩
        rw [hb1, hb2]
        repeat' (first | (apply VL_bneq_same; exact rfl; exact rfl; exact rfl; kernel_rfl) | ((apply VL_sneq; exact rfl; exact rfl; exact rfl) <;> intro hB <;> try (exact absurd rfl hB)) | apply (zs1 ?_) | apply (zs2 ?_) | (apply zg1; refine zs4 ?_) | (apply zg6; refine zs12 ?_) | apply (zs13 ?_) | (apply zg8; (refine zs16 ?_ ?_ <;> intro _ <;> try (exfalso; omega))) | apply (zs65 ?_) | apply (zs68 ?_) | apply (zs69 ?_) | apply (zs70 ?_))
        apply VL_callP [blk r _, blk mm _, many (List.map Dg.hp _)] _ en32
        (repeat (first | exact args_nil | (apply args_cons; exact rfl)))
        (repeat (first | with_reducible exact pull_nil | (with_reducible apply pull_cons; (repeat (first | with_reducible exact rem_here | with_reducible apply rem_there)))))
        (repeat (first | with_reducible exact app_nil | with_reducible apply app_cons))
        exact rfl
        exact fun _ hw => (tags_any hold time2 mm r ds2 clock2 hinv2 hw)
        rintro _ _ ⟨A3, cap3, rfl, rfl⟩
        unfold rpcs
        repeat' (first | apply (zs1 ?_) | (apply zg1; refine zs4 ?_))
        apply VL_callP [blk rx _, sl 105 7 _ _ _ _, many (List.map xrows _)] _ en33
        (repeat (first | exact args_nil | (apply args_cons; exact rfl)))
        (repeat (first | with_reducible exact pull_nil | (with_reducible apply pull_cons; (repeat (first | with_reducible exact rem_here | with_reducible apply rem_there)))))
        (repeat (first | with_reducible exact app_nil | with_reducible apply app_cons))
        exact rfl
        exact fun _ hw => (xtags_any rx hold time2 A2 cap2 xs2 ds2 hxd2 clock2 hinv2 hw)
        rintro _ _ ⟨A4, cap4, rfl, rfl⟩
        unfold xpcs
        repeat' (first | ((first | apply VL_callt en20 | apply VL_callq en20); (repeat (first | exact args_nil | (apply args_cons; exact rfl))); exact rfl; exact fun _ hw => (equal_same (tagsOf ds2) (by rw [tagsOf_len]; have := hinv2.len; omega) (.sl (by (focus repeat (first | with_reducible exact List.mem_cons_self | with_reducible apply List.mem_cons_of_mem | assumption)))) (.sl (by (focus repeat (first | with_reducible exact List.mem_cons_self | with_reducible apply List.mem_cons_of_mem | assumption)))) hw)) | apply (zs1 ?_) | apply (zs2 ?_) | (apply zg1; refine zs4 ?_) | (apply zg6; refine zs12 ?_) | (apply zg13; refine zs30 ?_) | (apply zg20; refine zs47 ?_) | (apply (zs62 ?_ ?_) <;> intro _ <;> try (exfalso; omega)) | apply (zs65 ?_) | apply (zs68 ?_) | apply (zs70 ?_) | (apply zg27; refine zs72 ?_) | apply (zs76 ?_) | apply (zs79 ?_))
        all_goals (
          first
          | apply hK ⟨i + 1, slot2, time2, ds2, clock2, A2, cap2, xs2⟩ ⟨by simp only; omega, ⟨by simp only; omega, by simp only; omega, hxd2, hinv2⟩⟩
            · simp only; omega
            · (repeat (first | exact sub_nil _ | (apply sub_cons; first | exact rfl | exact congrArg (fun z : Int => some (Value.int .i64 z)) (by omega))))
            · dsimp only; unfold rpcs xpcs; (intro w hw; refine hw.perm ?_; focus repeat (first | with_reducible exact Perm.refl _ | (with_reducible apply perm_take; focus ((repeat (first | with_reducible exact rem_here | with_reducible apply rem_there)); done)) | with_reducible apply Perm.dropK))
          | apply hK ⟨i + 1, 0, time2, ds2, clock2, A2, cap2, xs2⟩ ⟨by simp only; omega, ⟨by simp only; omega, by simp only; omega, hxd2, hinv2⟩⟩
            · simp only; omega
            · (repeat (first | exact sub_nil _ | (apply sub_cons; first | exact rfl | exact congrArg (fun z : Int => some (Value.int .i64 z)) (by omega))))
            · dsimp only; unfold rpcs xpcs; (intro w hw; refine hw.perm ?_; focus repeat (first | with_reducible exact Perm.refl _ | (with_reducible apply perm_take; focus ((repeat (first | with_reducible exact rem_here | with_reducible apply rem_there)); done)) | with_reducible apply Perm.dropK)))
      · clear hK
        repeat' (first | apply (zs1 ?_) | (apply (zs17 ?_ ?_) <;> intro _ <;> try (exfalso; omega)) | apply (zs65 ?_) | apply (zs68 ?_) | apply (zs69 ?_) | apply (zs70 ?_) | (apply zg27; refine zs72 ?_) | apply (zs75 ?_) | apply (zs80 ?_) | apply (zs81 ?_))
        apply VL_callP [blk r _, blk mm _, many (List.map Dg.hp _)] _ en32
        (repeat (first | exact args_nil | (apply args_cons; exact rfl)))
        (repeat (first | with_reducible exact pull_nil | (with_reducible apply pull_cons; (repeat (first | with_reducible exact rem_here | with_reducible apply rem_there)))))
        (repeat (first | with_reducible exact app_nil | with_reducible apply app_cons))
        exact rfl
        exact fun _ hw => (tags_any hold time mm r ds clock hinv hw)
        rintro _ _ ⟨A3, cap3, rfl, rfl⟩
        unfold rpcs
        repeat' (first | apply (zs1 ?_))
        apply VL_callP [blk rx _, sl 105 7 _ _ _ _, many (List.map xrows _)] _ en33
        (repeat (first | exact args_nil | (apply args_cons; exact rfl)))
        (repeat (first | with_reducible exact pull_nil | (with_reducible apply pull_cons; (repeat (first | with_reducible exact rem_here | with_reducible apply rem_there)))))
        (repeat (first | with_reducible exact app_nil | with_reducible apply app_cons))
        exact rfl
        exact fun _ hw => (xtags_any rx hold time A cap xs ds hxd clock hinv hw)
        rintro _ _ ⟨A4, cap4, rfl, rfl⟩
        unfold xpcs
        repeat' (first | ((first | apply VL_callt en20 | apply VL_callq en20); (repeat (first | exact args_nil | (apply args_cons; exact rfl))); exact rfl; exact fun _ hw => (equal_same (tagsOf ds) (by rw [tagsOf_len]; have := hinv.len; omega) (.sl (by (focus repeat (first | with_reducible exact List.mem_cons_self | with_reducible apply List.mem_cons_of_mem | assumption)))) (.sl (by (focus repeat (first | with_reducible exact List.mem_cons_self | with_reducible apply List.mem_cons_of_mem | assumption)))) hw)) | apply (zs2 ?_) | apply (zs65 ?_) | apply (zs68 ?_) | apply (zs74 ?_))
        apply VQ_ret1; exact rfl; exact rfl
        exact ⟨rfl, (by (intro w hw; refine hw.perm ?_; focus repeat (first | with_reducible exact Perm.refl _ | (with_reducible apply perm_take; focus ((repeat (first | with_reducible exact rem_here | with_reducible apply rem_there)); done)) | with_reducible apply Perm.dropK)))⟩
end Go.Proofs.Ytfobgjhjigkigaa
