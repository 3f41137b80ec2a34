/- The law FragmentTags: walk. -/
import Derived.Test.YtfobgjhjigkigaaFw25
namespace Go.Eng
open Go.RowKit
/-- A rune as a string. -/
theorem VL_rune {P : Program} {m : Mode} {n B d : Nat} {w0 : World} {ops : Array Oper} {Q : Exit → Act → World → Prop} {rest : List Oper} {env : Env} {H : List HP} {ty : TypeId} {pos : String} {after : Array Edge} (T : Tab P) {src dst : Nat} {x : Operand} {k : IntKind} {j : IntKind} {a : Int}
    (hx : evo env x = some (.int k a)) (hs : look T.ik src = some j) (ht : look T.st dst = some ()) (hn : Nat.ble (d + 1) n = true) (h : VL P m n B w0 ops Q rest ((d, .string (Utf8.encode a)) :: env) H) :
    VL P m n B w0 ops Q (⟨some d, .convert src dst x, ty, pos, after, none⟩ :: rest) env H := by
  refine VL_pure rfl rfl hn rfl (fun f w ha _ => ?_) h
  simp [execOp, ha.eval hx, convert, run_underlying (intT_spec (T.ints hs)), run_underlying (T.strs ht), Conv.intToString]
end Go.Eng
namespace Go.Proofs.Ytfobgjhjigkigaa
open Go.RowKit Go.Eng

def gent (d : Dg) : Int × Value × Nat := (d.tag, .int .i64 d.bm, d.born)
theorem mget_gents (ds : List Dg) (tag : Int) : mget (ds.map gent) tag = (findD ds tag).map fun d => .int .i64 d.bm := by
  induction ds with
  | nil => rfl
  | cons d ds ih =>
    simp only [mget, findD, List.map_cons, List.find?_cons] at *
    rw [show (gent d).1 = d.tag from rfl]
    cases h : d.tag == tag
    · exact ih
    · rfl
theorem wrap_tag {t : Int} (h : 0 ≤ t ∧ t ≤ 9) : IntKind.i32.wrap (97 + t) = 97 + t := by
  rcases ten h with rfl | rfl | rfl | rfl | rfl | rfl | rfl | rfl | rfl | rfl <;> decide
theorem shl_bit {k : Nat} (h : k < 2) : IntKind.i64.wrap (1 * 2 ^ (k : Int).toNat) = ((2 ^ k : Nat) : Int) := by
  obtain rfl | rfl : k = 0 ∨ k = 1 := by omega
  all_goals decide
theorem not_tag {ds : List Dg} {tag : Int} (h : findD ds tag = none) : tag ∉ tagsOf ds := fun hm => by
  obtain ⟨d, hd, e⟩ := List.mem_map.1 (mem_tagsOf.1 hm)
  have := List.find?_eq_none.1 h d hd
  simp [e] at this
theorem is_tag {ds : List Dg} {tag : Int} {d : Dg} (h : findD ds tag = some d) : tag ∈ tagsOf ds := by
  have h1 := List.mem_of_find?_eq_some h
  have h2 := List.find?_some h
  exact mem_tagsOf.2 (List.mem_map.2 ⟨d, h1, by simpa using h2⟩)

theorem tagsOf_nil : tagsOf [] = [] := by simp [tagsOf]
theorem or_none {k : Nat} (h : k < 2) : bits .or .i64 0 ((2 ^ k : Nat) : Int) = ((2 ^ k : Nat) : Int) := by
  obtain rfl | rfl : k = 0 ∨ k = 1 := by omega
  all_goals decide
theorem pow_small {k : Nat} (h : k < 2) : 2 ^ k < 9223372036854775808 := by
  obtain rfl | rfl : k = 0 ∨ k = 1 := by omega
  all_goals decide
structure Ts where
  i : Nat
  time : Int
  ds : List Dg
  clock : Nat
  A : Option Addr
  cap : Nat
structure TsOk (x : Ts) : Prop where
  time : 0 ≤ x.time ∧ x.time ≤ x.i
  maps : Maps x.ds x.clock
  td : ∀ d ∈ x.ds, TD d
  len : x.ds.length ≤ 8

set_option maxRecDepth 10000 in
set_option maxHeartbeats 2000000 in
theorem law_tags (ord : List Nat) (hord : ∀ b ∈ ord, b < 256) (hol : ord.length ≤ 9223372036854775807) {A0 : Option Addr} {cap0 : Nat} {B : Nat} {w0 : World} {H : List HP} {w : World}
    (hr : Rd B w0 H A0 (ord.flatMap fun b : Nat => [Value.int .u8 (b : Int)])) (hw : St B w0 H w) :
    Calls Try.prog 9 [.slice A0 ord.length cap0].toArray w (Post B w0 fun v K => v = .bool true ∧ ∀ w, St B w0 K w → St B w0 H w) := by
  refine Calls_of_VC Try.func9 Try.ntmps9 rfl rfl hw ?_
  repeat' (first | apply (zs2 ?_) | apply (zs65 ?_) | apply (zs68 ?_) | apply (zs69 ?_) | apply (zs70 ?_))
  first | apply VL_callt en10 | apply VL_callq en10
  (repeat (first | exact args_nil | (apply args_cons; exact rfl)))
  exact rfl
  exact fun _ hw => (awake_spec hw)
  repeat' (first | apply (zs1 ?_) | apply (zs2 ?_) | (apply zg4; refine zs9 ?_) | (apply (zs19 ?_ ?_) <;> intro _ <;> try (exfalso; omega)) | (apply zg20; refine zs47 ?_) | apply (zs65 ?_) | apply (zs68 ?_) | apply (zs69 ?_) | apply (zs70 ?_) | (apply zg27; first | refine zs71 ?_ | refine zs72 ?_) | apply (zs74 ?_) | apply (zs76 ?_) | apply (zs77 ?_))
  · apply VQ_ret1; exact rfl; exact rfl
    exact ⟨rfl, fun w hw => hw⟩
  apply VL_callP [] _ en21
  (repeat (first | exact args_nil | (apply args_cons; exact rfl)))
  (repeat (first | with_reducible exact pull_nil | (with_reducible apply pull_cons; (repeat (first | with_reducible exact rem_here | with_reducible apply rem_there)))))
  (repeat (first | with_reducible exact app_nil | with_reducible apply app_cons))
  exact rfl
  exact fun _ hw => ((fun h => newReceiver_spec 100 h (by omega) (by omega)) hw)
  rintro _ _ ⟨r, mm, rfl, rfl⟩
  repeat' (first | (apply VL_peql0; exact rfl; exact rfl; kernel_rfl) | (apply VL_makeMap; exact rfl; intro _) | apply (zs1 ?_) | apply (zs2 ?_) | (apply zg1; refine zs4 ?_) | (apply zg4; refine zs9 ?_) | (apply zg6; refine zs12 ?_) | apply (zs13 ?_) | (apply zg8; (refine zs16 ?_ ?_ <;> intro _ <;> try (exfalso; omega))) | apply (zs65 ?_) | apply (zs68 ?_) | apply (zs69 ?_) | apply (zs70 ?_) | (apply zg27; refine zs72 ?_) | apply (zs73 ?_) | apply (zs76 ?_))
  rename_i gm
  refine VC_loop1 (fun (x : Ts) => [(37, .int .i64 x.i), (36, .int .i64 ord.length), (35, .slice A0 ord.length cap0), (6, .map (some gm)), (5, .slice x.A (tagsOf x.ds).length x.cap), (3, .pointer (some ⟨r, 0, none⟩))])
    (fun x => blk gm (mobj (x.ds.map gent) x.clock) :: ints x.A x.cap (tagsOf x.ds) :: rpcs r mm 100 x.time x.ds x.clock H)
    (fun x => x.i ≤ ord.length ∧ TsOk x) (fun x => ord.length - x.i) ⟨0, 0, [], 0, none, 0⟩ ⟨Nat.zero_le _, ⟨⟨by simp, by simp⟩, ⟨by simp, by simp, (fun d hd => (by cases hd))⟩, (fun d hd => (by cases hd)), by simp⟩⟩ ?_ ?_ ?_
  · simp only [tagsOf_nil]
    (repeat (first | exact sub_nil _ | (apply sub_cons; first | exact rfl | exact congrArg (fun z : Int => some (Value.int .i64 z)) (by omega))))
  · simp only [tagsOf_nil]
    intro w hw
    have h1 := hw.nilSlice 3 1
    exact h1.perm (.swap _ _ _)
  rintro ⟨i, time, ds, clock, A, cap⟩ ⟨hi, ⟨htime, hmaps, htd, hlen⟩⟩ K hK
  simp only at hi htime hmaps htd hlen ⊢
  unfold rpcs
  by_cases hlt : i < ord.length
  rotate_left
  · repeat' (first | apply (zs2 ?_) | (apply (zs17 ?_ ?_) <;> intro _ <;> try (exfalso; omega)) | apply (zs65 ?_) | apply (zs68 ?_) | apply (zs69 ?_) | apply (zs70 ?_) | (apply zg27; refine zs72 ?_) | apply (zs74 ?_) | apply (zs75 ?_) | apply (zs80 ?_) | apply (zs81 ?_))
    apply VQ_ret1; exact rfl; exact rfl
    exact ⟨rfl, (by (intro w hw; refine hw.perm ?_; focus repeat (first | with_reducible exact Perm.refl _ | (with_reducible apply perm_take; focus ((repeat (first | with_reducible exact rem_here | with_reducible apply rem_there)); done)) | with_reducible apply Perm.dropK)))⟩
  obtain ⟨b, hb⟩ : ∃ b, ord[i]? = some b := ⟨_, List.getElem?_eq_getElem hlt⟩
  have hb256 := hord b (List.mem_of_getElem? hb)
  have hi60 : i ≤ 60 := by omega
  obtain ⟨tag, htg⟩ : ∃ t : Int, (b : Int) % 10 = t := ⟨_, rfl⟩
  obtain ⟨k, hkk⟩ : ∃ k : Nat, (b : Int) / 10 % 2 = k := ⟨((b : Int) / 10 % 2).toNat, by omega⟩
  have htag : 0 ≤ tag ∧ tag ≤ 9 := by omega
  have hk : k < 2 := by omega
  have hsz := tdat_size htag
  repeat' (first | (apply VL_index_rd T (f := fun b : Nat => [Value.int .u8 (b : Int)]); exact rfl; exact rfl; (focus repeat (first | assumption | apply Rd.cons)); exact rfl; exact fun _ => rfl; exact rfl; exact rfl; omega) | (apply VL_load_rd0 T (f := fun b : Nat => [Value.int .u8 (b : Int)]) (b := b); exact rfl; (focus repeat (first | assumption | apply Rd.cons)); exact hb; exact fun _ => rfl; exact rfl; exact rfl; exact rfl; exact rfl) | apply (zs1 ?_) | apply (zs2 ?_) | (apply (zs17 ?_ ?_) <;> intro _ <;> try (exfalso; omega)) | (apply zg13; refine zs30 ?_) | (apply zg16; refine zs36 ?_) | (apply zg17; refine zs37 ?_) | (apply zg19; first | refine zs44 ?_ | refine zs46 ?_) | apply (zs65 ?_) | apply (zs68 ?_) | apply (zs69 ?_) | apply (zs70 ?_) | (apply zg27; refine zs71 ?_) | apply (zs73 ?_) | apply (zs76 ?_))
  rw [htg, hkk, wrap_tag htag]
  have hen : ((sab2 : ByteArray).size + (Utf8.encode (97 + tag)).size : Nat) ≤ 9223372036854775807 := by
    have h1 : (tdat tag).size = sab2.size + (Utf8.encode (97 + tag)).size := by simp [tdat, ByteArray.size_append]
    omega
  repeat' (first | (apply VL_rune T; exact rfl; exact rfl; exact rfl; exact rfl) | (apply VL_scat (s := sab2); exact rfl; exact rfl; exact rfl; exact hen) | fail)
  rw [show sab2 ++ Utf8.encode (97 + tag) = tdat tag from rfl]
  apply VL_callP [] _ en11
  (repeat (first | exact args_nil | (apply args_cons; exact rfl)))
  (repeat (first | with_reducible exact pull_nil | (with_reducible apply pull_cons; (repeat (first | with_reducible exact rem_here | with_reducible apply rem_there)))))
  (repeat (first | with_reducible exact app_nil | with_reducible apply app_cons))
  exact rfl
  exact fun _ hw => (split_spec tag 2 (tdat tag) (by omega) hw)
  rintro _ _ ⟨A2, cap2, rfl, rfl⟩
  rw [tdat_err htag, tdat_cnt htag, pieces_frs, show Int.toNat 2 = 2 from rfl]
  have hcel : ∀ i v, ([.int .i64 tag, .int .i64 k, .int .i64 2, .int .i64 3, .string (piece (tdat tag) 2 k)] : List Value)[i]? = some v → (frs ((List.range 2).map (frOf tag (tdat tag) 2 2)))[(k : Int).toNat * 5 + i]? = some v := by
    intro i v hv
    have hi : i < 5 := by have := (List.getElem?_eq_some_iff.1 hv).1; simpa using this
    rw [show (k : Int).toNat = k by omega, frs_get _ k i hi, List.getElem?_map, List.getElem?_range hk]
    rw [← hv]
    show (frc (tag, (k : Int), 2, ((tdat tag).size : Int), piece (tdat tag) 2 k))[i]? = _
    rw [hsz]
    rfl
  repeat' (first | (apply VL_load_agg_sl T (vs := [.int .i64 tag, .int .i64 k, .int .i64 2, .int .i64 3, .string (piece (tdat tag) 2 k)]); exact rfl; (focus repeat (first | with_reducible exact List.mem_cons_self | with_reducible apply List.mem_cons_of_mem | assumption)); exact rfl; exact rfl; exact rfl; decide; exact hcel) | apply (zs1 ?_) | apply (zs2 ?_) | (apply zg1; refine zs4 ?_) | (apply zg4; refine zs9 ?_) | (apply zg5; refine zs10 ?_) | (apply zg6; refine zs12 ?_) | apply (zs13 ?_) | (apply zg8; (refine zs16 ?_ ?_ <;> intro _ <;> try (exfalso; omega))) | apply (zs65 ?_) | apply (zs68 ?_) | apply (zs69 ?_) | apply (zs70 ?_) | (apply zg27; refine zs72 ?_) | apply (zs76 ?_))
  have htl := tagsOf_len ds
  cases hfd : findD ds tag with
  | none =>
    by_cases hl8 : ds.length < 8
    rotate_left
    · have hl8' : ds.length = 8 := by omega
      apply VL_callP [blk r _, blk mm _, many _] _ en22
      (repeat (first | exact args_nil | (apply args_cons; exact rfl)))
      (repeat (first | with_reducible exact pull_nil | (with_reducible apply pull_cons; (repeat (first | with_reducible exact rem_here | with_reducible apply rem_there)))))
      (repeat (first | with_reducible exact app_nil | with_reducible apply app_cons))
      exact rfl
      exact fun _ hw => (recv_t_full mm r ds clock i time tag k hi60 htime htag hk hmaps htd hfd (by omega) hw)
      rintro _ _ ⟨rfl, rfl⟩
      unfold rpcs
      repeat' (first | apply (zs1 ?_) | apply (zs2 ?_) | apply (zs13 ?_) | apply (zs65 ?_) | apply (zs68 ?_) | apply (zs69 ?_) | apply (zs70 ?_))
      first | apply VL_callt en34 | apply VL_callq en34
      (repeat (first | exact args_nil | (apply args_cons; exact rfl)))
      exact rfl
      exact fun _ hw => (calls_val (congrArg Value.bool (decide_eq_false (not_tag hfd))) (fun _ hw => contains_ints (tagsOf ds) tag (by omega) (Rd.sl (by (focus repeat (first | with_reducible exact List.mem_cons_self | with_reducible apply List.mem_cons_of_mem | assumption)))) hw) hw)
      repeat' (first | (apply VL_sneq0; exact rfl; exact rfl; (intro h _; exact absurd rfl h); intro _ _) | apply (zs1 ?_) | (apply zg1; refine zs4 ?_) | (apply zg4; refine zs9 ?_) | (apply zg6; refine zs12 ?_) | (apply zg7; (refine zs15 ?_ ?_ <;> intro _ <;> try (exfalso; omega))) | (apply zg8; (refine zs16 ?_ ?_ <;> intro _ <;> try (exfalso; omega))) | (apply zg13; refine zs30 ?_) | (apply zg20; refine zs48 ?_) | apply (zs65 ?_) | apply (zs68 ?_) | apply (zs69 ?_) | apply (zs70 ?_) | (apply zg27; first | refine zs71 ?_ | refine zs72 ?_) | apply (zs75 ?_) | apply (zs76 ?_) | apply (zs80 ?_) | apply (zs81 ?_))
      apply hK ⟨i + 1, i, ds, clock, A, cap⟩
      · exact ⟨by simp only; omega, ⟨⟨by simp only; omega, by simp only; omega⟩, hmaps, htd, hlen⟩⟩
      · simp only; omega
      · (repeat (first | exact sub_nil _ | (apply sub_cons; first | exact rfl | exact congrArg (fun z : Int => some (Value.int .i64 z)) (by omega))))
      · unfold rpcs
        (intro w hw; refine hw.perm ?_; focus repeat (first | with_reducible exact Perm.refl _ | (with_reducible apply perm_take; focus ((repeat (first | with_reducible exact rem_here | with_reducible apply rem_there)); done)) | with_reducible apply Perm.dropK))
    have hge : mget (ds.map gent) tag = none := by rw [mget_gents, hfd]; rfl
    apply VL_callP [blk r _, blk mm _, many _] _ en22
    (repeat (first | exact args_nil | (apply args_cons; exact rfl)))
    (repeat (first | with_reducible exact pull_nil | (with_reducible apply pull_cons; (repeat (first | with_reducible exact rem_here | with_reducible apply rem_there)))))
    (repeat (first | with_reducible exact app_nil | with_reducible apply app_cons))
    exact rfl
    exact fun _ hw => (recv_t_new mm r ds clock i time tag k hi60 htime htag hk hmaps htd hfd hl8 hw)
    rintro _ _ ⟨d', rfl, rfl, hd1, hd2, hd3, hd4⟩
    have htl2 := tagsOf_len (ds ++ [d'])
    rw [List.length_append, List.length_singleton] at htl2
    have hsort : (tagsOf ds ++ [tag]).mergeSort (fun x y => decide (x ≤ y)) = tagsOf (ds ++ [d']) := by
      refine mergeSort_of_perm_i ?_
      rw [List.map_append, List.map_singleton, hd2]
      exact (List.mergeSort_perm _ _).append_right _
    have hok0 : tOk 0 d'.bm = false := by
      rw [hd3]
      obtain rfl | rfl : k = 0 ∨ k = 1 := by omega
      all_goals rfl
    unfold tOut rpcs
    rw [hok0, if_neg (by decide)]
    repeat' (first | apply (zs1 ?_) | apply (zs2 ?_) | apply (zs13 ?_) | apply (zs65 ?_) | apply (zs68 ?_) | apply (zs69 ?_) | apply (zs70 ?_))
    first | apply VL_callt en34 | apply VL_callq en34
    (repeat (first | exact args_nil | (apply args_cons; exact rfl)))
    exact rfl
    exact fun _ hw => (calls_val (congrArg Value.bool (decide_eq_false (not_tag hfd))) (fun _ hw => contains_ints (tagsOf ds) tag (by omega) (Rd.sl (by (focus repeat (first | with_reducible exact List.mem_cons_self | with_reducible apply List.mem_cons_of_mem | assumption)))) hw) hw)
    repeat' (first | apply (zs1 ?_) | apply (zs2 ?_) | (apply zg4; refine zs9 ?_) | (apply zg7; (refine zs15 ?_ ?_ <;> intro _ <;> try (exfalso; omega))) | (apply zg20; refine zs48 ?_) | (apply zg21; (refine zs49 ?_; intro _ _)) | (apply zg26; (refine zs56 ?_; intro _)) | apply (zs65 ?_) | apply (zs68 ?_) | apply (zs69 ?_) | apply (zs70 ?_) | (apply zg27; first | refine zs71 ?_ | refine zs72 ?_) | apply (zs76 ?_))
    rename_i A3 cap3
    rw [ints_snoc, show (tagsOf ds).length + 1 = (tagsOf ds ++ [tag]).length by simp]
    apply VL_callP [ints A3 cap3 (tagsOf ds ++ [tag])] _ en35
    (repeat (first | exact args_nil | (apply args_cons; exact rfl)))
    (repeat (first | with_reducible exact pull_nil | (with_reducible apply pull_cons; (repeat (first | with_reducible exact rem_here | with_reducible apply rem_there)))))
    (repeat (first | with_reducible exact app_nil | with_reducible apply app_cons))
    exact rfl
    exact fun _ hw => (sort_spec (tagsOf ds ++ [tag]) (by simp; omega) hw)
    rintro _ _ ⟨rfl, rfl⟩
    rw [hsort, show (tagsOf ds ++ [tag]).length = (tagsOf (ds ++ [d'])).length by simp; omega]
    repeat' (first | (apply VL_lookup0 (kt := 3) (et := 3); exact rfl; exact rfl; (focus repeat (first | with_reducible exact List.mem_cons_self | with_reducible apply List.mem_cons_of_mem | assumption)); kernel_rfl; exact rfl; exact hge; exact z3) | apply (zs1 ?_) | apply (zs2 ?_) | apply (zs65 ?_) | apply (zs68 ?_) | apply (zs69 ?_) | apply (zs70 ?_))
    have hb12 : d'.bm = 1 ∨ d'.bm = 2 := by
      rw [hd3]
      obtain rfl | rfl : k = 0 ∨ k = 1 := by omega
      · exact .inl rfl
      · exact .inr rfl
    have hmaps2 : Maps (ds ++ [d']) (clock + 1) := by
      refine ⟨?_, ?_, fun x hx => ?_⟩
      · rw [List.map_append, List.map_singleton, hd2]
        refine List.nodup_append.2 ⟨hmaps.tags, by simp, fun x hx y hy e => ?_⟩
        obtain rfl : y = tag := by simpa using hy
        subst e
        exact not_tag hfd (mem_tagsOf.2 hx)
      · rw [List.map_append, List.map_singleton, hd4]
        refine List.nodup_append.2 ⟨hmaps.borns, by simp, fun x hx y hy e => ?_⟩
        obtain rfl : y = clock := by simpa using hy
        obtain ⟨z, hz, hze⟩ := List.mem_map.1 hx
        have := hmaps.lt z hz
        omega
      · rcases List.mem_append.1 hx with h | h
        · have := hmaps.lt x h; omega
        · obtain rfl : x = d' := by simpa using h
          omega
    have htd2 : ∀ x ∈ ds ++ [d'], TD x := fun x hx => by
      rcases List.mem_append.1 hx with h | h
      · exact htd x h
      · obtain rfl : x = d' := by simpa using h
        exact hd1
    have hf2 : findD (ds ++ d' :: []) tag = some d' := by
      unfold findD at hfd ⊢
      rw [List.find?_append, hfd]
      simp [hd2]
    have hge2 : mget ((ds ++ [d']).map gent) tag = some (.int .i64 d'.bm) := by rw [mget_gents, hf2]; rfl
    have hes : ds.map gent ++ [(tag, .int .i64 ((2 ^ k : Nat) : Int), clock)] = (ds ++ [d']).map gent := by
      rw [List.map_append, List.map_singleton, ← hd3, ← hd2, ← hd4]; rfl
    apply VC_heldH [0, 1, 2, 3, 4] [5, 6] [false, false, false, false, false, false, true]
    kernel_rfl
    kernel_rfl
    (repeat (first | with_reducible exact split_nil | with_reducible apply split_t | with_reducible apply split_f))
    (simp only [pickOps, nthO]; rfl)
    (simp only [pickOps, nthO]; rfl)
    repeat' (first | (apply VL_lookup0 (kt := 3) (et := 3); exact rfl; exact rfl; (focus repeat (first | with_reducible exact List.mem_cons_self | with_reducible apply List.mem_cons_of_mem | assumption)); kernel_rfl; exact rfl; exact hge; exact z3) | apply (zs1 ?_) | apply (zs40 ?_) | apply (zs42 ?_) | (apply VL_nilh; (repeat (first | with_reducible exact app_nil | with_reducible apply app_cons))) | apply (zs93 ?_))
    rw [shl_bit hk, or_none hk]
    repeat' (first | (apply VL_mapNew (kt := 3) (et := 3); exact rfl; exact rfl; exact rfl; kernel_rfl; (repeat (first | with_reducible exact Upd.here _ | with_reducible apply Upd.there)); exact hge) | apply (zs1 ?_) | apply (zs65 ?_) | apply (zs68 ?_) | apply (zs69 ?_) | apply (zs70 ?_) | apply (zs94 ?_))
    rw [hes]
    apply VL_callP [blk r _, blk mm _, many _] _ en23
    (repeat (first | exact args_nil | (apply args_cons; exact rfl)))
    (repeat (first | with_reducible exact pull_nil | (with_reducible apply pull_cons; (repeat (first | with_reducible exact rem_here | with_reducible apply rem_there)))))
    (repeat (first | with_reducible exact app_nil | with_reducible apply app_cons))
    exact rfl
    exact fun _ hw => (bitmap_spec 100 i mm r ds d' [] (clock + 1) tag hf2 hw)
    rintro _ _ ⟨rfl, rfl⟩
    unfold rpcs
    repeat' (first | (apply VL_lookup1 (kt := 3) (et := 3); exact rfl; exact rfl; (focus repeat (first | with_reducible exact List.mem_cons_self | with_reducible apply List.mem_cons_of_mem | assumption)); kernel_rfl; exact rfl; exact hge2) | (apply VL_bneq; exact rfl; exact rfl; exact rfl; kernel_rfl) | apply (zs1 ?_) | apply (zs2 ?_) | (apply zg1; first | refine zs3 ?_ | refine zs4 ?_) | (apply zg6; first | refine zs11 ?_ | refine zs12 ?_) | apply (zs13 ?_) | (apply zg7; (refine zs15 ?_ ?_ <;> intro _ <;> try (exfalso; omega))) | (apply zg8; (refine zs16 ?_ ?_ <;> intro _ <;> try (exfalso; omega))) | apply (zs65 ?_) | apply (zs68 ?_) | apply (zs69 ?_) | apply (zs70 ?_))
    apply VL_callP [blk r _, blk mm _, many _] _ en32
    (repeat (first | exact args_nil | (apply args_cons; exact rfl)))
    (repeat (first | with_reducible exact pull_nil | (with_reducible apply pull_cons; (repeat (first | with_reducible exact rem_here | with_reducible apply rem_there)))))
    (repeat (first | with_reducible exact app_nil | with_reducible apply app_cons))
    exact rfl
    exact fun _ hw => (tags_spec 100 i mm r (ds ++ [d']) (clock + 1) hmaps2 (by rw [List.length_append, List.length_singleton]; omega) (fun x hx => by have := (htd2 x hx).tag; omega) hw)
    rintro _ _ ⟨A4, cap4, rfl, rfl⟩
    unfold rpcs
    repeat' (first | apply (zs1 ?_) | (apply zg1; refine zs4 ?_))
    first | apply VL_callt en20 | apply VL_callq en20
    (repeat (first | exact args_nil | (apply args_cons; exact rfl)))
    exact rfl
    exact fun _ hw => (calls_val (congrArg Value.bool (decide_eq_true rfl)) (fun _ hw => equal_ints (tagsOf (ds ++ [d'])) (tagsOf (ds ++ [d'])) (by omega) (by omega) (by rw [flat_num]; exact Rd.sl (by (focus repeat (first | with_reducible exact List.mem_cons_self | with_reducible apply List.mem_cons_of_mem | assumption)))) (Rd.sl (by (focus repeat (first | with_reducible exact List.mem_cons_self | with_reducible apply List.mem_cons_of_mem | assumption)))) hw) hw)
    repeat' (first | apply (zs1 ?_) | (apply zg1; refine zs4 ?_) | (apply zg6; refine zs12 ?_) | (apply zg13; refine zs30 ?_) | (apply zg20; refine zs47 ?_) | apply (zs65 ?_) | apply (zs68 ?_) | apply (zs70 ?_) | (apply zg27; refine zs72 ?_) | apply (zs76 ?_) | apply (zs79 ?_))
    apply hK ⟨i + 1, i, ds ++ [d'], clock + 1, A3, cap3⟩
    · exact ⟨by simp only; omega, ⟨⟨by simp only; omega, by simp only; omega⟩, hmaps2, htd2, by rw [List.length_append, List.length_singleton]; omega⟩⟩
    · simp only; omega
    · (repeat (first | exact sub_nil _ | (apply sub_cons; first | exact rfl | exact congrArg (fun z : Int => some (Value.int .i64 z)) (by omega))))
    · unfold rpcs
      (intro w hw; refine hw.perm ?_; focus repeat (first | with_reducible exact Perm.refl _ | (with_reducible apply perm_take; focus ((repeat (first | with_reducible exact rem_here | with_reducible apply rem_there)); done)) | with_reducible apply Perm.dropK))
  | some d =>
    have hge : mget (ds.map gent) tag = some (.int .i64 d.bm) := by rw [mget_gents, hfd]; rfl
    have hdt : d.tag = tag := by simpa using List.find?_some hfd
    have hdT := htd d (List.mem_of_find?_eq_some hfd)
    apply VL_callP [blk r _, blk mm _, many _] _ en22
    (repeat (first | exact args_nil | (apply args_cons; exact rfl)))
    (repeat (first | with_reducible exact pull_nil | (with_reducible apply pull_cons; (repeat (first | with_reducible exact rem_here | with_reducible apply rem_there)))))
    (repeat (first | with_reducible exact app_nil | with_reducible apply app_cons))
    exact rfl
    exact fun _ hw => (recv_t_old mm r ds clock i time tag k d hi60 htime htag hk hmaps htd hfd hw)
    rintro _ _ ⟨l1, l2, d', hds, rfl, rfl, hd1, hd2, hd3, hd4⟩
    have htg2 : (l1 ++ d' :: l2).map (·.tag) = ds.map (·.tag) := by rw [hds]; simp [hd2, hdt]
    have hbn2 : (l1 ++ d' :: l2).map (·.born) = ds.map (·.born) := by rw [hds]; simp [hd4]
    have hto : tagsOf (l1 ++ d' :: l2) = tagsOf ds := by unfold tagsOf; rw [htg2]
    have hle2 : (l1 ++ d' :: l2).length = ds.length := by rw [hds]; simp
    have hmaps2 : Maps (l1 ++ d' :: l2) clock := by
      refine ⟨by rw [htg2]; exact hmaps.tags, by rw [hbn2]; exact hmaps.borns, fun x hx => ?_⟩
      have h1 : x.born ∈ ds.map (·.born) := hbn2 ▸ List.mem_map_of_mem hx
      obtain ⟨z, hz, hze⟩ := List.mem_map.1 h1
      have := hmaps.lt z hz
      omega
    have htd2 : ∀ x ∈ l1 ++ d' :: l2, TD x := fun x hx => by
      rcases List.mem_append.1 hx with h | h
      · exact htd x (by rw [hds]; exact List.mem_append_left _ h)
      · rcases List.mem_cons.1 h with rfl | h
        · exact hd1
        · exact htd x (by rw [hds]; exact List.mem_append_right _ (List.mem_cons_of_mem _ h))
    have hl1 : ∀ x ∈ l1, x.tag ≠ tag := fun x hx e => by
      have h1 := hmaps.tags
      rw [hds, List.map_append, List.map_cons] at h1
      exact (List.nodup_append.1 h1).2.2 x.tag (List.mem_map_of_mem hx) d.tag (by simp) (by rw [e, hdt])
    have hf2 : findD (l1 ++ d' :: l2) tag = some d' := by
      unfold findD
      rw [List.find?_append, List.find?_eq_none.2 (fun x hx => by simpa using hl1 x hx)]
      simp [hd2]
    have hge2 : mget ((l1 ++ d' :: l2).map gent) tag = some (.int .i64 d'.bm) := by rw [mget_gents, hf2]; rfl
    have hes1 : ds.map gent = l1.map gent ++ (tag, .int .i64 d.bm, d.born) :: l2.map gent := by rw [hds, List.map_append, List.map_cons, ← hdt]; rfl
    have hes2 : l1.map gent ++ (tag, .int .i64 ((d.bm ||| 2 ^ k : Nat) : Int), d.born) :: l2.map gent = (l1 ++ d' :: l2).map gent := by rw [List.map_append, List.map_cons, ← hd3, ← hd2, ← hd4]; rfl
    have hb3 := hd1.bm
    have hb4 := hdT.bm
    have hor := i64_or_nat d.bm (2 ^ k) (by omega) (pow_small hk)
    have hl1' : ∀ e ∈ l1.map gent, e.1 ≠ tag := fun e he => by
      obtain ⟨x, hx, rfl⟩ := List.mem_map.1 he
      exact hl1 x hx
    unfold tOut rpcs
    have h3 : (d.bm ≠ 3 ∧ d'.bm = 3) ∨ d.bm = 3 ∨ (d.bm ≠ 3 ∧ d'.bm ≠ 3) := by omega
    rcases h3 with hf | hf | hf
    · have hok : tOk d.bm d'.bm = true := by unfold tOk; first | exact decide_eq_true (by omega) | exact decide_eq_false (by omega)
      rw [hok, if_pos rfl]
      repeat' (first | apply (zs1 ?_) | apply (zs2 ?_) | apply (zs13 ?_) | apply (zs65 ?_) | apply (zs68 ?_) | apply (zs69 ?_) | apply (zs70 ?_))
      first | apply VL_callt en34 | apply VL_callq en34
      (repeat (first | exact args_nil | (apply args_cons; exact rfl)))
      exact rfl
      exact fun _ hw => (calls_val (congrArg Value.bool (decide_eq_true (is_tag hfd))) (fun _ hw => contains_ints (tagsOf ds) tag (by omega) (Rd.sl (by (focus repeat (first | with_reducible exact List.mem_cons_self | with_reducible apply List.mem_cons_of_mem | assumption)))) hw) hw)
      repeat' (first | (apply VL_lookup1 (kt := 3) (et := 3); exact rfl; exact rfl; (focus repeat (first | with_reducible exact List.mem_cons_self | with_reducible apply List.mem_cons_of_mem | assumption)); kernel_rfl; exact rfl; exact hge) | apply (zs1 ?_) | apply (zs2 ?_) | (apply zg20; refine zs47 ?_) | apply (zs65 ?_) | apply (zs68 ?_) | apply (zs69 ?_) | apply (zs70 ?_) | (apply zg27; refine zs72 ?_) | apply (zs76 ?_))
      apply VC_heldH [0, 1, 2, 3, 4] [5, 6] [false, false, false, false, true]
      kernel_rfl
      kernel_rfl
      (repeat (first | with_reducible exact split_nil | with_reducible apply split_t | with_reducible apply split_f))
      (simp only [pickOps, nthO]; rfl)
      (simp only [pickOps, nthO]; rfl)
      repeat' (first | (apply VL_lookup1 (kt := 3) (et := 3); exact rfl; exact rfl; (focus repeat (first | with_reducible exact List.mem_cons_self | with_reducible apply List.mem_cons_of_mem | assumption)); kernel_rfl; exact rfl; exact hge) | apply (zs1 ?_) | apply (zs40 ?_) | apply (zs42 ?_) | (apply VL_nilh; (repeat (first | with_reducible exact app_nil | with_reducible apply app_cons))) | apply (zs93 ?_))
      rw [shl_bit hk, hor, hes1]
      repeat' (first | (apply VL_mapOld (kt := 3) (et := 3); exact rfl; exact rfl; exact rfl; kernel_rfl; (repeat (first | with_reducible exact Upd.here _ | with_reducible apply Upd.there)); exact hl1') | apply (zs1 ?_) | apply (zs65 ?_) | apply (zs68 ?_) | apply (zs69 ?_) | apply (zs70 ?_) | apply (zs94 ?_))
      rw [hes2]
      apply VL_callP [blk r _, blk mm _, many _] _ en23
      (repeat (first | exact args_nil | (apply args_cons; exact rfl)))
      (repeat (first | with_reducible exact pull_nil | (with_reducible apply pull_cons; (repeat (first | with_reducible exact rem_here | with_reducible apply rem_there)))))
      (repeat (first | with_reducible exact app_nil | with_reducible apply app_cons))
      exact rfl
      exact fun _ hw => (bitmap_spec 100 i mm r l1 d' l2 clock tag hf2 hw)
      rintro _ _ ⟨rfl, rfl⟩
      unfold rpcs
      repeat' (first | (apply VL_lookup1 (kt := 3) (et := 3); exact rfl; exact rfl; (focus repeat (first | with_reducible exact List.mem_cons_self | with_reducible apply List.mem_cons_of_mem | assumption)); kernel_rfl; exact rfl; exact hge2) | (apply VL_bneq; exact rfl; exact rfl; exact rfl; kernel_rfl) | (apply VL_conv T (kd := .i32); exact rfl; exact rfl; exact rfl; exact rfl; rw [wrap_tag htag]) | (apply VL_rune T; exact rfl; exact rfl; exact rfl; exact rfl) | (apply VL_scat (s := sab2); exact rfl; exact rfl; exact rfl; exact hen; rw [show sab2 ++ Utf8.encode (97 + tag) = tdat tag from rfl]) | (apply VL_sneq; exact rfl; exact rfl; exact rfl; (intro h; exact absurd rfl h); intro _) | apply (zs1 ?_) | apply (zs2 ?_) | (apply zg1; refine zs4 ?_) | (apply zg6; first | refine zs11 ?_ | refine zs12 ?_) | apply (zs13 ?_) | (apply zg7; (refine zs15 ?_ ?_ <;> intro _ <;> try (exfalso; omega))) | (apply zg8; (refine zs16 ?_ ?_ <;> intro _ <;> try (exfalso; omega))) | (apply zg13; refine zs30 ?_) | apply (zs65 ?_) | apply (zs68 ?_) | apply (zs69 ?_) | apply (zs70 ?_))
      apply VL_callP [blk r _, blk mm _, many _] _ en32
      (repeat (first | exact args_nil | (apply args_cons; exact rfl)))
      (repeat (first | with_reducible exact pull_nil | (with_reducible apply pull_cons; (repeat (first | with_reducible exact rem_here | with_reducible apply rem_there)))))
      (repeat (first | with_reducible exact app_nil | with_reducible apply app_cons))
      exact rfl
      exact fun _ hw => (tags_spec 100 i mm r (l1 ++ d' :: l2) clock hmaps2 (by omega) (fun x hx => by have := (htd2 x hx).tag; omega) hw)
      rintro _ _ ⟨A4, cap4, rfl, rfl⟩
      rw [hto]
      unfold rpcs
      repeat' (first | apply (zs1 ?_) | (apply zg1; refine zs4 ?_))
      first | apply VL_callt en20 | apply VL_callq en20
      (repeat (first | exact args_nil | (apply args_cons; exact rfl)))
      exact rfl
      exact fun _ hw => (calls_val (congrArg Value.bool (decide_eq_true rfl)) (fun _ hw => equal_ints (tagsOf ds) (tagsOf ds) (by omega) (by omega) (by rw [flat_num]; exact Rd.sl (by (focus repeat (first | with_reducible exact List.mem_cons_self | with_reducible apply List.mem_cons_of_mem | assumption)))) (Rd.sl (by (focus repeat (first | with_reducible exact List.mem_cons_self | with_reducible apply List.mem_cons_of_mem | assumption)))) hw) hw)
      repeat' (first | apply (zs1 ?_) | (apply zg1; refine zs4 ?_) | (apply zg6; refine zs12 ?_) | (apply zg13; refine zs30 ?_) | (apply zg20; refine zs47 ?_) | apply (zs65 ?_) | apply (zs68 ?_) | apply (zs70 ?_) | (apply zg27; refine zs72 ?_) | apply (zs76 ?_) | apply (zs79 ?_))
      apply hK ⟨i + 1, i, l1 ++ d' :: l2, clock, A, cap⟩
      · exact ⟨by simp only; omega, ⟨⟨by simp only; omega, by simp only; omega⟩, hmaps2, htd2, by simp only; omega⟩⟩
      · simp only; omega
      · simp only [hto]
        (repeat (first | exact sub_nil _ | (apply sub_cons; first | exact rfl | exact congrArg (fun z : Int => some (Value.int .i64 z)) (by omega))))
      · simp only [hto]
        unfold rpcs
        (intro w hw; refine hw.perm ?_; focus repeat (first | with_reducible exact Perm.refl _ | (with_reducible apply perm_take; focus ((repeat (first | with_reducible exact rem_here | with_reducible apply rem_there)); done)) | with_reducible apply Perm.dropK))
    · have hok : tOk d.bm d'.bm = false := by unfold tOk; first | exact decide_eq_true (by omega) | exact decide_eq_false (by omega)
      rw [hok, if_neg (by decide)]
      repeat' (first | apply (zs1 ?_) | apply (zs2 ?_) | apply (zs13 ?_) | apply (zs65 ?_) | apply (zs68 ?_) | apply (zs69 ?_) | apply (zs70 ?_))
      first | apply VL_callt en34 | apply VL_callq en34
      (repeat (first | exact args_nil | (apply args_cons; exact rfl)))
      exact rfl
      exact fun _ hw => (calls_val (congrArg Value.bool (decide_eq_true (is_tag hfd))) (fun _ hw => contains_ints (tagsOf ds) tag (by omega) (Rd.sl (by (focus repeat (first | with_reducible exact List.mem_cons_self | with_reducible apply List.mem_cons_of_mem | assumption)))) hw) hw)
      repeat' (first | (apply VL_lookup1 (kt := 3) (et := 3); exact rfl; exact rfl; (focus repeat (first | with_reducible exact List.mem_cons_self | with_reducible apply List.mem_cons_of_mem | assumption)); kernel_rfl; exact rfl; exact hge) | apply (zs1 ?_) | apply (zs2 ?_) | (apply zg20; refine zs47 ?_) | apply (zs65 ?_) | apply (zs68 ?_) | apply (zs69 ?_) | apply (zs70 ?_) | (apply zg27; refine zs72 ?_) | apply (zs76 ?_))
      apply VC_heldH [0, 1, 2, 3, 4] [5, 6] [false, false, false, false, true]
      kernel_rfl
      kernel_rfl
      (repeat (first | with_reducible exact split_nil | with_reducible apply split_t | with_reducible apply split_f))
      (simp only [pickOps, nthO]; rfl)
      (simp only [pickOps, nthO]; rfl)
      repeat' (first | (apply VL_lookup1 (kt := 3) (et := 3); exact rfl; exact rfl; (focus repeat (first | with_reducible exact List.mem_cons_self | with_reducible apply List.mem_cons_of_mem | assumption)); kernel_rfl; exact rfl; exact hge) | apply (zs1 ?_) | apply (zs40 ?_) | apply (zs42 ?_) | (apply VL_nilh; (repeat (first | with_reducible exact app_nil | with_reducible apply app_cons))) | apply (zs93 ?_))
      rw [shl_bit hk, hor, hes1]
      repeat' (first | (apply VL_mapOld (kt := 3) (et := 3); exact rfl; exact rfl; exact rfl; kernel_rfl; (repeat (first | with_reducible exact Upd.here _ | with_reducible apply Upd.there)); exact hl1') | apply (zs1 ?_) | apply (zs65 ?_) | apply (zs68 ?_) | apply (zs69 ?_) | apply (zs70 ?_) | apply (zs94 ?_))
      rw [hes2]
      apply VL_callP [blk r _, blk mm _, many _] _ en23
      (repeat (first | exact args_nil | (apply args_cons; exact rfl)))
      (repeat (first | with_reducible exact pull_nil | (with_reducible apply pull_cons; (repeat (first | with_reducible exact rem_here | with_reducible apply rem_there)))))
      (repeat (first | with_reducible exact app_nil | with_reducible apply app_cons))
      exact rfl
      exact fun _ hw => (bitmap_spec 100 i mm r l1 d' l2 clock tag hf2 hw)
      rintro _ _ ⟨rfl, rfl⟩
      unfold rpcs
      repeat' (first | (apply VL_lookup1 (kt := 3) (et := 3); exact rfl; exact rfl; (focus repeat (first | with_reducible exact List.mem_cons_self | with_reducible apply List.mem_cons_of_mem | assumption)); kernel_rfl; exact rfl; exact hge2) | (apply VL_bneq; exact rfl; exact rfl; exact rfl; kernel_rfl) | (apply VL_conv T (kd := .i32); exact rfl; exact rfl; exact rfl; exact rfl; rw [wrap_tag htag]) | (apply VL_rune T; exact rfl; exact rfl; exact rfl; exact rfl) | (apply VL_scat (s := sab2); exact rfl; exact rfl; exact rfl; exact hen; rw [show sab2 ++ Utf8.encode (97 + tag) = tdat tag from rfl]) | (apply VL_sneq; exact rfl; exact rfl; exact rfl; (intro h; exact absurd rfl h); intro _) | apply (zs1 ?_) | apply (zs2 ?_) | (apply zg1; first | refine zs3 ?_ | refine zs4 ?_) | (apply zg6; refine zs12 ?_) | apply (zs13 ?_) | (apply zg8; (refine zs16 ?_ ?_ <;> intro _ <;> try (exfalso; omega))) | apply (zs65 ?_) | apply (zs68 ?_) | apply (zs69 ?_) | apply (zs70 ?_))
      apply VL_callP [blk r _, blk mm _, many _] _ en32
      (repeat (first | exact args_nil | (apply args_cons; exact rfl)))
      (repeat (first | with_reducible exact pull_nil | (with_reducible apply pull_cons; (repeat (first | with_reducible exact rem_here | with_reducible apply rem_there)))))
      (repeat (first | with_reducible exact app_nil | with_reducible apply app_cons))
      exact rfl
      exact fun _ hw => (tags_spec 100 i mm r (l1 ++ d' :: l2) clock hmaps2 (by omega) (fun x hx => by have := (htd2 x hx).tag; omega) hw)
      rintro _ _ ⟨A4, cap4, rfl, rfl⟩
      rw [hto]
      unfold rpcs
      repeat' (first | apply (zs1 ?_) | (apply zg1; refine zs4 ?_))
      first | apply VL_callt en20 | apply VL_callq en20
      (repeat (first | exact args_nil | (apply args_cons; exact rfl)))
      exact rfl
      exact fun _ hw => (calls_val (congrArg Value.bool (decide_eq_true rfl)) (fun _ hw => equal_ints (tagsOf ds) (tagsOf ds) (by omega) (by omega) (by rw [flat_num]; exact Rd.sl (by (focus repeat (first | with_reducible exact List.mem_cons_self | with_reducible apply List.mem_cons_of_mem | assumption)))) (Rd.sl (by (focus repeat (first | with_reducible exact List.mem_cons_self | with_reducible apply List.mem_cons_of_mem | assumption)))) hw) hw)
      repeat' (first | apply (zs1 ?_) | (apply zg1; refine zs4 ?_) | (apply zg6; refine zs12 ?_) | (apply zg13; refine zs30 ?_) | (apply zg20; refine zs47 ?_) | apply (zs65 ?_) | apply (zs68 ?_) | apply (zs70 ?_) | (apply zg27; refine zs72 ?_) | apply (zs76 ?_) | apply (zs79 ?_))
      apply hK ⟨i + 1, i, l1 ++ d' :: l2, clock, A, cap⟩
      · exact ⟨by simp only; omega, ⟨⟨by simp only; omega, by simp only; omega⟩, hmaps2, htd2, by simp only; omega⟩⟩
      · simp only; omega
      · simp only [hto]
        (repeat (first | exact sub_nil _ | (apply sub_cons; first | exact rfl | exact congrArg (fun z : Int => some (Value.int .i64 z)) (by omega))))
      · simp only [hto]
        unfold rpcs
        (intro w hw; refine hw.perm ?_; focus repeat (first | with_reducible exact Perm.refl _ | (with_reducible apply perm_take; focus ((repeat (first | with_reducible exact rem_here | with_reducible apply rem_there)); done)) | with_reducible apply Perm.dropK))
    · have hok : tOk d.bm d'.bm = false := by unfold tOk; first | exact decide_eq_true (by omega) | exact decide_eq_false (by omega)
      rw [hok, if_neg (by decide)]
      repeat' (first | apply (zs1 ?_) | apply (zs2 ?_) | apply (zs13 ?_) | apply (zs65 ?_) | apply (zs68 ?_) | apply (zs69 ?_) | apply (zs70 ?_))
      first | apply VL_callt en34 | apply VL_callq en34
      (repeat (first | exact args_nil | (apply args_cons; exact rfl)))
      exact rfl
      exact fun _ hw => (calls_val (congrArg Value.bool (decide_eq_true (is_tag hfd))) (fun _ hw => contains_ints (tagsOf ds) tag (by omega) (Rd.sl (by (focus repeat (first | with_reducible exact List.mem_cons_self | with_reducible apply List.mem_cons_of_mem | assumption)))) hw) hw)
      repeat' (first | (apply VL_lookup1 (kt := 3) (et := 3); exact rfl; exact rfl; (focus repeat (first | with_reducible exact List.mem_cons_self | with_reducible apply List.mem_cons_of_mem | assumption)); kernel_rfl; exact rfl; exact hge) | apply (zs1 ?_) | apply (zs2 ?_) | (apply zg20; refine zs47 ?_) | apply (zs65 ?_) | apply (zs68 ?_) | apply (zs69 ?_) | apply (zs70 ?_) | (apply zg27; refine zs72 ?_) | apply (zs76 ?_))
      apply VC_heldH [0, 1, 2, 3, 4] [5, 6] [false, false, false, false, true]
      kernel_rfl
      kernel_rfl
      (repeat (first | with_reducible exact split_nil | with_reducible apply split_t | with_reducible apply split_f))
      (simp only [pickOps, nthO]; rfl)
      (simp only [pickOps, nthO]; rfl)
      repeat' (first | (apply VL_lookup1 (kt := 3) (et := 3); exact rfl; exact rfl; (focus repeat (first | with_reducible exact List.mem_cons_self | with_reducible apply List.mem_cons_of_mem | assumption)); kernel_rfl; exact rfl; exact hge) | apply (zs1 ?_) | apply (zs40 ?_) | apply (zs42 ?_) | (apply VL_nilh; (repeat (first | with_reducible exact app_nil | with_reducible apply app_cons))) | apply (zs93 ?_))
      rw [shl_bit hk, hor, hes1]
      repeat' (first | (apply VL_mapOld (kt := 3) (et := 3); exact rfl; exact rfl; exact rfl; kernel_rfl; (repeat (first | with_reducible exact Upd.here _ | with_reducible apply Upd.there)); exact hl1') | apply (zs1 ?_) | apply (zs65 ?_) | apply (zs68 ?_) | apply (zs69 ?_) | apply (zs70 ?_) | apply (zs94 ?_))
      rw [hes2]
      apply VL_callP [blk r _, blk mm _, many _] _ en23
      (repeat (first | exact args_nil | (apply args_cons; exact rfl)))
      (repeat (first | with_reducible exact pull_nil | (with_reducible apply pull_cons; (repeat (first | with_reducible exact rem_here | with_reducible apply rem_there)))))
      (repeat (first | with_reducible exact app_nil | with_reducible apply app_cons))
      exact rfl
      exact fun _ hw => (bitmap_spec 100 i mm r l1 d' l2 clock tag hf2 hw)
      rintro _ _ ⟨rfl, rfl⟩
      unfold rpcs
      repeat' (first | (apply VL_lookup1 (kt := 3) (et := 3); exact rfl; exact rfl; (focus repeat (first | with_reducible exact List.mem_cons_self | with_reducible apply List.mem_cons_of_mem | assumption)); kernel_rfl; exact rfl; exact hge2) | (apply VL_bneq; exact rfl; exact rfl; exact rfl; kernel_rfl) | (apply VL_conv T (kd := .i32); exact rfl; exact rfl; exact rfl; exact rfl; rw [wrap_tag htag]) | (apply VL_rune T; exact rfl; exact rfl; exact rfl; exact rfl) | (apply VL_scat (s := sab2); exact rfl; exact rfl; exact rfl; exact hen; rw [show sab2 ++ Utf8.encode (97 + tag) = tdat tag from rfl]) | (apply VL_sneq; exact rfl; exact rfl; exact rfl; (intro h; exact absurd rfl h); intro _) | apply (zs1 ?_) | apply (zs2 ?_) | (apply zg1; first | refine zs3 ?_ | refine zs4 ?_) | (apply zg6; first | refine zs11 ?_ | refine zs12 ?_) | apply (zs13 ?_) | (apply zg7; (refine zs15 ?_ ?_ <;> intro _ <;> try (exfalso; omega))) | (apply zg8; (refine zs16 ?_ ?_ <;> intro _ <;> try (exfalso; omega))) | apply (zs65 ?_) | apply (zs68 ?_) | apply (zs69 ?_) | apply (zs70 ?_))
      apply VL_callP [blk r _, blk mm _, many _] _ en32
      (repeat (first | exact args_nil | (apply args_cons; exact rfl)))
      (repeat (first | with_reducible exact pull_nil | (with_reducible apply pull_cons; (repeat (first | with_reducible exact rem_here | with_reducible apply rem_there)))))
      (repeat (first | with_reducible exact app_nil | with_reducible apply app_cons))
      exact rfl
      exact fun _ hw => (tags_spec 100 i mm r (l1 ++ d' :: l2) clock hmaps2 (by omega) (fun x hx => by have := (htd2 x hx).tag; omega) hw)
      rintro _ _ ⟨A4, cap4, rfl, rfl⟩
      rw [hto]
      unfold rpcs
      repeat' (first | apply (zs1 ?_) | (apply zg1; refine zs4 ?_))
      first | apply VL_callt en20 | apply VL_callq en20
      (repeat (first | exact args_nil | (apply args_cons; exact rfl)))
      exact rfl
      exact fun _ hw => (calls_val (congrArg Value.bool (decide_eq_true rfl)) (fun _ hw => equal_ints (tagsOf ds) (tagsOf ds) (by omega) (by omega) (by rw [flat_num]; exact Rd.sl (by (focus repeat (first | with_reducible exact List.mem_cons_self | with_reducible apply List.mem_cons_of_mem | assumption)))) (Rd.sl (by (focus repeat (first | with_reducible exact List.mem_cons_self | with_reducible apply List.mem_cons_of_mem | assumption)))) hw) hw)
      repeat' (first | apply (zs1 ?_) | (apply zg1; refine zs4 ?_) | (apply zg6; refine zs12 ?_) | (apply zg13; refine zs30 ?_) | (apply zg20; refine zs47 ?_) | apply (zs65 ?_) | apply (zs68 ?_) | apply (zs70 ?_) | (apply zg27; refine zs72 ?_) | apply (zs76 ?_) | apply (zs79 ?_))
      apply hK ⟨i + 1, i, l1 ++ d' :: l2, clock, A, cap⟩
      · exact ⟨by simp only; omega, ⟨⟨by simp only; omega, by simp only; omega⟩, hmaps2, htd2, by simp only; omega⟩⟩
      · simp only; omega
      · simp only [hto]
        (repeat (first | exact sub_nil _ | (apply sub_cons; first | exact rfl | exact congrArg (fun z : Int => some (Value.int .i64 z)) (by omega))))
      · simp only [hto]
        unfold rpcs
        (intro w hw; refine hw.perm ?_; focus repeat (first | with_reducible exact Perm.refl _ | (with_reducible apply perm_take; focus ((repeat (first | with_reducible exact rem_here | with_reducible apply rem_there)); done)) | with_reducible apply Perm.dropK))
end Go.Proofs.Ytfobgjhjigkigaa
