/- Walks: the reference's Bitmap and Tags. -/
import Derived.Test.YtfobgjhjigkigaaFr4
namespace Go.Eng
open Go.RowKit
theorem Perm.openH (H : List HP) : Perm [many H] H := by
  have := Perm.open_ H []
  rwa [List.append_nil] at this
theorem Perm.closeH (H : List HP) : Perm H [many H] := by
  have := Perm.close H []
  rwa [List.append_nil] at this
theorem St.manyH {B : Nat} {w0 w : World} {H K : List HP} (hw : St B w0 K w) (hm : Eng.many H ∈ K) : St B w0 H w := by
  obtain ⟨S, h1, h2⟩ := hw.at_ hm
  exact ⟨hw.below, hw.le, sepL_mono h2 h1⟩
end Go.Eng
namespace Go.Proofs.Ytfobgjhjigkigaa
open Go.RowKit Go.Eng Go.Nw

theorem Rd.many2 {B : Nat} {w0 : World} {H L L2 : List HP} {A : Option Addr} {xs : List Value} {e size k cap : Nat} (hX : many L ∈ H) (hm2 : many L2 ∈ L) (hm : sl e size A k cap xs ∈ L2) : Rd B w0 H A xs := fun w hw j v hv => by
  have h := (hw.manyH hX).manyH hm2
  exact Rd.sl (B := B) (w0 := w0) hm w h j v hv
theorem rd_has {xs : List Rx} {k : Nat} {x : Rx} (hx : xs[k]? = some x) {B : Nat} {w0 : World} {H : List HP} (hX : many (xs.map xrows) ∈ H) : Rd B w0 H x.hA ((hL x).flatMap boolF) :=
  Rd.many2 hX (List.mem_map_of_mem (f := xrows) (List.mem_of_getElem? hx)) (.tail _ (.head _))

theorem wrap_shl {k : Nat} (h : k < 32) : IntKind.i64.wrap (1 * 2 ^ k) = ((2 ^ k : Nat) : Int) := by
  have : 2 ^ k < 2 ^ 32 := Nat.pow_lt_pow_right (by omega) h
  have e : (1 * 2 ^ k : Int) = ((2 ^ k : Nat) : Int) := by rw [Int.one_mul]; norm_cast
  rw [e, IntKind.wrap_i64]
  obtain ⟨p, hp⟩ : ∃ p, 2 ^ k = p := ⟨_, rfl⟩
  rw [hp] at this ⊢
  omega

theorem xbitmap_none (rx : Nat) (hold time : Int) (A : Option Addr) (cap : Nat) (xs : List Rx) (tag : Int) (hl : xs.length ≤ 1000) (hf : idxFrom (fun x : Rx => x.d.tag == tag) xs 0 = -1) {B : Nat} {w0 : World} {H : List HP} {w : World} (hw : St B w0 (xpcs rx hold time A cap xs H) w) :
    Calls Try.prog 31 [.pointer (some ⟨rx, 0, none⟩), .int .i64 tag].toArray w (Post B w0 fun v K => v = .tuple #[.int .i64 0, .int .i64 7] ∧ K = xpcs rx hold time A cap xs H) := by
  refine Calls_of_VC Try.func31 Try.ntmps31 rfl rfl hw ?_
  have hfd := fun w hw => @xfind_spec rx hold time A cap xs tag hl B w0 H w hw
  rw [hf] at hfd
  repeat' (first | ((first | apply VL_callt en59 | apply VL_callq en59); (repeat (first | exact args_nil | (apply args_cons; exact rfl))); exact rfl; exact fun _ hw => (hfd _ hw)) | apply (zs1 ?_) | apply (zs2 ?_) | (apply (zs17 ?_ ?_) <;> intro _ <;> try (exfalso; omega)) | apply (zs65 ?_) | apply (zs68 ?_) | apply (zs69 ?_) | apply (zs70 ?_) | (apply zg27; refine zs71 ?_) | apply (zs74 ?_) | apply (zs77 ?_))
  apply VQ_ret2; exact rfl; exact rfl; exact rfl
  exact ⟨rfl, rfl⟩

theorem xbitmap_spec (rx : Nat) (hold time : Int) (A : Option Addr) (cap : Nat) (xs : List Rx) (tag : Int) (i : Nat) (x : Rx) (hl : xs.length ≤ 1000) (hf : idxFrom (fun x : Rx => x.d.tag == tag) xs 0 = i) (hx : xs[i]? = some x) (hok : OkX x) {B : Nat} {w0 : World} {H : List HP} {w : World} (hw : St B w0 (xpcs rx hold time A cap xs H) w) :
    Calls Try.prog 31 [.pointer (some ⟨rx, 0, none⟩), .int .i64 tag].toArray w (Post B w0 fun v K => v = .tuple #[.int .i64 x.d.bm, .int .i64 0] ∧ K = xpcs rx hold time A cap xs H) := by
  refine Calls_of_VC Try.func31 Try.ntmps31 rfl rfl hw ?_
  have hfd := fun w hw => @xfind_spec rx hold time A cap xs tag hl B w0 H w hw
  rw [hf] at hfd
  have hcn := hok.d.cnt
  have hlen : (hL x).length = x.d.cnt.toNat := bitsL_len _ _
  repeat' (first | ((first | apply VL_callt en59 | apply VL_callq en59); (repeat (first | exact args_nil | (apply args_cons; exact rfl))); exact rfl; exact fun _ hw => (hfd _ hw)) | apply (zs1 ?_) | apply (zs2 ?_) | (apply (zs17 ?_ ?_) <;> intro _ <;> try (exfalso; omega)) | apply (zs65 ?_) | apply (zs68 ?_) | apply (zs69 ?_) | apply (zs70 ?_) | (apply zg27; refine zs72 ?_) | apply (zs73 ?_) | apply (zs76 ?_))
  unfold xpcs
  have hil := (List.getElem?_eq_some_iff.1 hx).1
  refine VC_loop1 (fun (k : Nat) => [(8, .int .i64 k), (7, .int .i64 ((x.d.bm % 2 ^ k : Nat) : Int)), (6, .int .i64 i), (0, .pointer (some ⟨rx, 0, none⟩))]) (fun _ => blk rx (xcells hold time A xs.length cap) :: sl 105 7 A xs.length cap (xs.flatMap rdF) :: many (xs.map xrows) :: H) (fun k => k ≤ (hL x).length) (fun k => (hL x).length - k) 0 (Nat.zero_le _) ?_ (fun w hw => hw) ?_
  · rw [Nat.pow_zero, Nat.mod_one]; (repeat (first | exact sub_nil _ | (apply sub_cons; first | exact rfl | exact congrArg (fun z : Int => some (Value.int .i64 z)) (by omega))))
  intro k hk K hK
  have hrd : Rd B w0 (blk rx (xcells hold time A xs.length cap) :: sl 105 7 A xs.length cap (xs.flatMap rdF) :: many (xs.map xrows) :: H) x.hA ((hL x).flatMap boolF) := rd_has hx (.tail _ (.tail _ (.head _)))
  by_cases hlt : k < (hL x).length
  · have hb : (hL x)[k]? = some (decide (x.d.bm / 2 ^ k % 2 = 1)) := bitsL_get (by omega)
    have hst := bit_step x.d.bm k
    have hwr := wrap_shl (k := k) (by omega)
    have h2k : 2 ^ k < 2 ^ 32 := Nat.pow_lt_pow_right (by omega) (by omega)
    have hmk : x.d.bm % 2 ^ k < 2 ^ k := Nat.mod_lt _ (Nat.two_pow_pos _)
    by_cases hbit : x.d.bm / 2 ^ k % 2 = 1
    · rw [decide_eq_true hbit] at hb
      rw [if_pos hbit] at hst
      obtain ⟨pw, hpw⟩ : ∃ pw, 2 ^ k = pw := ⟨_, rfl⟩
      rw [hpw] at hst h2k hmk hwr
      repeat' (first | (apply VL_shl; exact rfl; exact rfl; exact rfl; (simp only [IntKind.bits]; omega); rw [show ((k : Int).toNat) = k from rfl, hwr]; focus rw [hpw]) | apply (zs1 ?_) | apply (zs2 ?_) | apply (zs5 ?_) | (apply zg2; first | refine zs6 ?_ | refine zs58 ?_) | (apply zg3; first | refine zs7 ?_ | refine zs59 ?_ | refine zs60 ?_) | (apply zg4; refine zs9 ?_) | (apply zg5; first | refine zs10 ?_ | refine zs57 ?_) | (apply (zs17 ?_ ?_) <;> intro _ <;> try (exfalso; omega)) | (apply zg13; refine zs30 ?_) | apply (zs65 ?_) | apply (zs68 ?_) | apply (zs69 ?_) | apply (zs70 ?_) | (apply zg27; refine zs71 ?_) | apply (zs73 ?_) | apply (zs76 ?_) | apply (zs79 ?_))
      apply hK (k + 1)
      · omega
      · omega
      · rw [hst]; (repeat (first | exact sub_nil _ | (apply sub_cons; first | exact rfl | exact congrArg (fun z : Int => some (Value.int .i64 z)) (by omega))))
      · exact fun w hw => hw
    · rw [decide_eq_false hbit] at hb
      rw [if_neg hbit, Nat.add_zero] at hst
      repeat' (first | apply (zs1 ?_) | apply (zs2 ?_) | apply (zs5 ?_) | (apply zg2; first | refine zs6 ?_ | refine zs58 ?_) | (apply zg3; first | refine zs7 ?_ | refine zs59 ?_ | refine zs60 ?_) | (apply zg4; refine zs9 ?_) | (apply zg5; first | refine zs10 ?_ | refine zs57 ?_) | (apply (zs17 ?_ ?_) <;> intro _ <;> try (exfalso; omega)) | (apply zg13; refine zs30 ?_) | apply (zs65 ?_) | apply (zs68 ?_) | apply (zs69 ?_) | apply (zs70 ?_) | (apply zg27; first | refine zs71 ?_ | refine zs72 ?_) | apply (zs73 ?_) | apply (zs76 ?_) | apply (zs79 ?_))
      apply hK (k + 1)
      · omega
      · omega
      · rw [hst]; (repeat (first | exact sub_nil _ | (apply sub_cons; first | exact rfl | exact congrArg (fun z : Int => some (Value.int .i64 z)) (by omega))))
      · exact fun w hw => hw
  · repeat' (first | apply (zs1 ?_) | apply (zs2 ?_) | apply (zs5 ?_) | (apply zg2; first | refine zs6 ?_ | refine zs58 ?_) | (apply zg3; first | refine zs7 ?_ | refine zs59 ?_) | (apply zg4; refine zs9 ?_) | (apply zg5; refine zs10 ?_) | (apply (zs17 ?_ ?_) <;> intro _ <;> try (exfalso; omega)) | apply (zs65 ?_) | apply (zs68 ?_) | apply (zs69 ?_) | apply (zs70 ?_) | (apply zg27; refine zs72 ?_) | apply (zs74 ?_) | apply (zs75 ?_) | apply (zs80 ?_) | apply (zs81 ?_))
    apply VQ_ret2; exact rfl; exact rfl; exact rfl
    have hkc : k = x.d.cnt.toNat := by omega
    rw [hkc, Nat.mod_eq_of_lt hok.bm]
    exact ⟨rfl, rfl⟩

/-- The tags below t that are there. -/
def tagsX (xs : List Rx) (t : Nat) : List Int := ((List.range t).map Int.ofNat).filter fun t => xs.any fun x => x.d.tag == t
theorem tagsX_step (xs : List Rx) (t : Nat) : tagsX xs (t + 1) = tagsX xs t ++ if (xs.any fun x => x.d.tag == (t : Int)) = true then [(t : Int)] else [] := by
  unfold tagsX
  rw [List.range_succ, List.map_append, List.filter_append]
  congr 1
  by_cases h : (xs.any fun x => x.d.tag == (t : Int)) = true
  · rw [if_pos h]; simp only [List.map_cons, List.map_nil, Int.ofNat_eq_natCast, List.filter_cons, h, if_true, List.filter_nil]
  · rw [if_neg h]; simp only [List.map_cons, List.map_nil, Int.ofNat_eq_natCast, List.filter_cons, h, List.filter_nil]; rfl
theorem tagsX_le (xs : List Rx) (t : Nat) : (tagsX xs t).length ≤ t := by
  unfold tagsX
  refine Nat.le_trans (List.length_filter_le _ _) ?_
  simp
theorem tagsX_eq {xs : List Rx} (hn : ((xs.map (·.d)).map (·.tag)).Nodup) (hr : ∀ x ∈ xs, 0 ≤ x.d.tag ∧ x.d.tag ≤ 255) : tagsX xs 256 = tagsOf (xs.map (·.d)) := by
  refine ord_uniq ?_ (sorted_lt hn) fun b => ?_
  · unfold tagsX
    refine List.Pairwise.filter _ (List.pairwise_map.2 ?_)
    exact (List.pairwise_lt_range).imp fun h => by simpa using h
  · rw [mem_tagsOf]
    unfold tagsX
    rw [List.mem_filter, List.any_eq_true]
    constructor
    · rintro ⟨_, x, hx, he⟩
      rw [List.map_map]
      exact List.mem_map.2 ⟨x, hx, by simpa using he⟩
    · intro h
      rw [List.map_map] at h
      obtain ⟨x, hx, rfl⟩ := List.mem_map.1 h
      have := hr x hx
      refine ⟨List.mem_map.2 ⟨x.d.tag.toNat, List.mem_range.2 (by omega), ?_⟩, x, hx, by simp⟩
      show (x.d.tag.toNat : Int) = x.d.tag
      omega

theorem xtags_spec (rx : Nat) (hold time : Int) (A : Option Addr) (cap : Nat) (xs : List Rx) (hl : xs.length ≤ 1000) {B : Nat} {w0 : World} {H : List HP} {w : World} (hw : St B w0 (xpcs rx hold time A cap xs H) w) :
    Calls Try.prog 33 [.pointer (some ⟨rx, 0, none⟩)].toArray w (Post B w0 fun v K => ∃ A2 cap2, v = .slice A2 (tagsX xs 256).length cap2 ∧ K = ints A2 cap2 (tagsX xs 256) :: xpcs rx hold time A cap xs H) := by
  refine Calls_of_VC Try.func33 Try.ntmps33 rfl rfl hw ?_
  repeat' (first | (apply VL_buildSlice0 T; exact rfl; exact rfl; intro g2) | apply (zs2 ?_) | apply (zs65 ?_) | apply (zs68 ?_) | apply (zs69 ?_) | apply (zs70 ?_) | apply (zs73 ?_))
  refine VC_loop3 (fun (k : Nat) (A2 : Option Addr) (cap2 : Nat) => [(4, .int .i64 k), (3, .slice A2 (tagsX xs k).length cap2), (0, .pointer (some ⟨rx, 0, none⟩))])
    (fun k A2 cap2 => ints A2 cap2 (tagsX xs k) :: xpcs rx hold time A cap xs H)
    (fun k _ _ => k ≤ 256) (fun k _ _ => 256 - k) 0 (some ⟨g2, 0, none⟩) 0 (Nat.zero_le _) ?_ (fun w hw => hw) ?_
  · (repeat (first | exact sub_nil _ | (apply sub_cons; first | exact rfl | exact congrArg (fun z : Int => some (Value.int .i64 z)) (by omega))))
  rintro k A2 cap2 hk K hK
  have htl := tagsX_le xs k
  have hst := tagsX_step xs k
  by_cases hlt : k < 256
  · have hia := idx_any (fun x : Rx => x.d.tag == (k : Int)) xs 0 (by omega)
    have hfd := fun w hw => @xfind_spec rx hold time A cap xs (k : Int) hl B w0 (ints A2 cap2 (tagsX xs k) :: H) w hw
    repeat' (first | apply (zs1 ?_) | (apply (zs17 ?_ ?_) <;> intro _ <;> try (exfalso; omega)) | apply (zs65 ?_) | apply (zs68 ?_) | apply (zs69 ?_) | apply (zs70 ?_) | (apply zg27; refine zs71 ?_) | apply (zs73 ?_) | apply (zs76 ?_))
    apply VL_st (xpcs rx hold time A cap xs (ints A2 cap2 (tagsX xs k) :: H))
    · unfold xpcs
      (intro w hw; refine hw.perm ?_; focus repeat (first | with_reducible exact Perm.refl _ | (with_reducible apply perm_take; focus ((repeat (first | with_reducible exact rem_here | with_reducible apply rem_there)); done)) | with_reducible apply Perm.dropK))
    by_cases hany : (xs.any fun x => x.d.tag == (k : Int)) = true
    · have hge := hia.2 hany
      rw [if_pos hany] at hst
      first | apply VL_callt en59 | apply VL_callq en59
      (repeat (first | exact args_nil | (apply args_cons; exact rfl)))
      exact rfl
      exact fun _ hw => (hfd _ hw)
      unfold xpcs
      repeat' (first | apply (zs1 ?_) | apply (zs2 ?_) | (apply (zs20 ?_ ?_) <;> intro _ <;> try (exfalso; omega)) | (apply zg13; refine zs30 ?_) | (apply zg21; (refine zs49 ?_; intro _ _)) | (apply zg26; (refine zs56 ?_; intro _)) | apply (zs65 ?_) | apply (zs68 ?_) | apply (zs70 ?_) | (apply zg27; refine zs71 ?_) | apply (zs79 ?_))
      rename_i A3 cap3
      apply hK (k + 1) A3 cap3
      · omega
      · omega
      · rw [hst, List.length_append, List.length_singleton]; (repeat (first | exact sub_nil _ | (apply sub_cons; first | exact rfl | exact congrArg (fun z : Int => some (Value.int .i64 z)) (by omega))))
      · intro w hw
        rw [hst, ← ints_snoc]
        revert w
        unfold xpcs
        (intro w hw; refine hw.perm ?_; focus repeat (first | with_reducible exact Perm.refl _ | (with_reducible apply perm_take; focus ((repeat (first | with_reducible exact rem_here | with_reducible apply rem_there)); done)) | with_reducible apply Perm.dropK))
    · have hge : idxFrom (fun x : Rx => x.d.tag == (k : Int)) xs 0 < 0 := by
        rcases Int.lt_or_le (idxFrom (fun x : Rx => x.d.tag == (k : Int)) xs 0) 0 with h | h
        · exact h
        · exact absurd (hia.1 h) hany
      rw [if_neg hany, List.append_nil] at hst
      repeat' (first | ((first | apply VL_callt en59 | apply VL_callq en59); (repeat (first | exact args_nil | (apply args_cons; exact rfl))); exact rfl; exact fun _ hw => (hfd _ hw)) | apply (zs1 ?_) | apply (zs2 ?_) | (apply (zs20 ?_ ?_) <;> intro _ <;> try (exfalso; omega)) | (apply zg13; refine zs30 ?_) | apply (zs65 ?_) | apply (zs68 ?_) | apply (zs70 ?_) | (apply zg27; refine zs72 ?_) | apply (zs76 ?_) | apply (zs79 ?_))
      apply hK (k + 1) A2 cap2
      · omega
      · omega
      · rw [hst]; (repeat (first | exact sub_nil _ | (apply sub_cons; first | exact rfl | exact congrArg (fun z : Int => some (Value.int .i64 z)) (by omega))))
      · rw [hst]
        unfold xpcs
        (intro w hw; refine hw.perm ?_; focus repeat (first | with_reducible exact Perm.refl _ | (with_reducible apply perm_take; focus ((repeat (first | with_reducible exact rem_here | with_reducible apply rem_there)); done)) | with_reducible apply Perm.dropK))
  · obtain rfl : k = 256 := by omega
    clear hK
    repeat' (first | apply (zs1 ?_) | apply (zs2 ?_) | (apply (zs17 ?_ ?_) <;> intro _ <;> try (exfalso; omega)) | apply (zs65 ?_) | apply (zs68 ?_) | apply (zs69 ?_) | apply (zs70 ?_) | (apply zg27; refine zs72 ?_) | apply (zs74 ?_) | apply (zs75 ?_) | apply (zs80 ?_) | apply (zs81 ?_))
    apply VQ_ret1; exact rfl; exact rfl
    exact ⟨A2, cap2, rfl, rfl⟩
end Go.Proofs.Ytfobgjhjigkigaa
