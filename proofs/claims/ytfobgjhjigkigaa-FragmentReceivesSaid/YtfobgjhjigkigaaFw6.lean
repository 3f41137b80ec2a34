/- Walks: Encode and Missing of both texts. -/
import Derived.Test.YtfobgjhjigkigaaFw2
import Derived.Test.YtfobgjhjigkigaaFw4
import Derived.Test.YtfobgjhjigkigaaFw5
namespace Go.Proofs.Ytfobgjhjigkigaa
open Go.RowKit Go.Eng

/-- The bits of a fragment's head. -/
def headBits (tag idx cnt size : Int) : List Nat := ((([] ++ Bm.bitsOf 8 tag.toNat) ++ Bm.bitsOf 5 idx.toNat) ++ Bm.bitsOf 5 (cnt - 1).toNat) ++ Bm.bitsOf 12 size.toNat
/-- The bytes of a fragment, none if it is not valid. -/
def encOf (tag idx cnt size : Int) (s : ByteArray) : ByteArray := if Fm.part tag idx cnt size s.size = 0 then ⟨#[]⟩ else strOf (Bm.pack (headBits tag idx cnt size)) ++ s

theorem noBits : Bm.Bits [] := fun _ h => by cases h
theorem hdBits {bs : List Nat} (n m : Nat) (h : Bm.Bits bs) : Bm.Bits (bs ++ Bm.bitsOf n m) := Bm.bits_append h (Bm.bits_bitsOf _ _)

set_option maxRecDepth 10000 in
theorem encode_spec (tag idx cnt size : Int) (s : ByteArray) (hs : s.size ≤ 9000000000000000000) {B : Nat} {w0 : World} {H : List HP} {w : World} (hw : St B w0 H w) :
    Calls Try.prog 13 [.agg #[.int .i64 tag, .int .i64 idx, .int .i64 cnt, .int .i64 size, .string s]].toArray w (Post B w0 fun v K => v = .tuple #[.string (encOf tag idx cnt size s), .int .i64 (if Fm.part tag idx cnt size s.size = 0 then 1 else 0)] ∧ K = H) := by
  refine Calls_of_VC Try.func13 Try.ntmps13 rfl rfl hw ?_
  by_cases hp : Fm.part tag idx cnt size s.size = 0
  · have hv : encOf tag idx cnt size s = ⟨#[]⟩ := by unfold encOf; rw [if_pos hp]
    rw [hv, if_pos hp]
    repeat' (first | (apply VL_assign; exact rfl; exact rfl) | (apply VL_load_whole T; exact rfl; (focus repeat (first | with_reducible exact List.mem_cons_self | with_reducible apply List.mem_cons_of_mem | assumption)); exact rfl; exact rfl; exact rfl) | (apply VL_box_agg; exact rfl; exact rfl; intro _) | apply VL_nil | apply VQ_then | apply VC_seq | apply VC_region)
    first | apply VL_callt en17 | apply VL_callq en17
    (repeat (first | exact args_nil | (apply args_cons; exact rfl)))
    exact rfl
    exact fun _ hw => (check_spec tag idx cnt size s (by omega) hw)
    rw [if_pos hp]
    repeat' (first | (apply VL_move; exact rfl; exact rfl) | (apply VL_assign; exact rfl; exact rfl) | (apply VL_neq; exact rfl; exact rfl; exact rfl; all_goals (intro _; try (exfalso; omega))) | apply VL_nil | apply VQ_then | apply VC_seq | apply VC_region | (apply VC_cond_true; exact rfl) | apply VC_ret | apply VQ_then_ret)
    apply VQ_tail; apply VQ_ret2; exact rfl; exact rfl; exact rfl
    exact ⟨rfl, rfl⟩
  · have hv : encOf tag idx cnt size s = strOf (Bm.pack (headBits tag idx cnt size)) ++ s := by unfold encOf; rw [if_neg hp]
    rw [hv, if_neg hp]
    obtain ⟨⟨a1, a2⟩, ⟨a3, a4⟩, ⟨a5, a6⟩, ⟨a7, a8⟩, _⟩ := Fm.part_ok hp
    repeat' (first | (apply VL_assign; exact rfl; exact rfl) | (apply VL_load_whole T; exact rfl; (focus repeat (first | with_reducible exact List.mem_cons_self | with_reducible apply List.mem_cons_of_mem | assumption)); exact rfl; exact rfl; exact rfl) | (apply VL_box_agg; exact rfl; exact rfl; intro _) | apply VL_nil | apply VQ_then | apply VC_seq | apply VC_region)
    first | apply VL_callt en17 | apply VL_callq en17
    (repeat (first | exact args_nil | (apply args_cons; exact rfl)))
    exact rfl
    exact fun _ hw => (check_spec tag idx cnt size s (by omega) hw)
    rw [if_neg hp]
    clear hv hp
    repeat' (first | (apply VL_move; exact rfl; exact rfl) | (apply VL_assign; exact rfl; exact rfl) | (apply VL_neq; exact rfl; exact rfl; exact rfl; all_goals (intro _; try (exfalso; omega))) | apply VL_nil | apply VQ_then | apply VC_seq | apply VC_region | (apply VC_cond_false; exact rfl) | apply VC_skip)
    apply VL_call _ en36
    (repeat (first | exact args_nil | (apply args_cons; exact rfl)))
    exact rfl
    exact fun _ hw => (newWriter_spec (hw))
    rintro _ _ ⟨g, rfl, rfl⟩
    repeat' (first | (apply VL_move; exact rfl; exact rfl) | (apply VL_assign; exact rfl; exact rfl) | (apply VL_fieldAddr T; exact rfl; exact rfl; exact rfl) | (apply VL_load T; exact rfl; (focus repeat (first | with_reducible exact List.mem_cons_self | with_reducible apply List.mem_cons_of_mem | assumption)); exact rfl; exact rfl; exact rfl) | apply VL_nil | apply VQ_then | apply VC_seq | apply VC_region)
    apply VL_call _ en37
    (repeat (first | exact args_nil | (apply args_cons; exact rfl)))
    exact rfl
    exact fun _ hw => (unsigned_spec g 8 tag.toNat (by omega) (by omega) (by omega) (by omega) (by omega) (bs := []) noBits (by simp) (hw))
    rintro _ _ ⟨rfl, A1, c1, rfl⟩
    repeat' (first | (apply VL_move; exact rfl; exact rfl) | (apply VL_fieldAddr T; exact rfl; exact rfl; exact rfl) | (apply VL_load T; exact rfl; (focus repeat (first | with_reducible exact List.mem_cons_self | with_reducible apply List.mem_cons_of_mem | assumption)); exact rfl; exact rfl; exact rfl) | apply VL_nil | apply VQ_then | apply VC_seq | apply VC_region)
    apply VL_call _ en37
    (repeat (first | exact args_nil | (apply args_cons; exact rfl)))
    exact rfl
    exact fun _ hw => (unsigned_spec g 5 idx.toNat (by omega) (by omega) (by omega) (by omega) (by omega) (hdBits _ _ noBits) (by simp [Bm.length_bitsOf]) (hw))
    rintro _ _ ⟨rfl, A2, c2, rfl⟩
    repeat' (first | (apply VL_move; exact rfl; exact rfl) | (apply VL_fieldAddr T; exact rfl; exact rfl; exact rfl) | (apply VL_load T; exact rfl; (focus repeat (first | with_reducible exact List.mem_cons_self | with_reducible apply List.mem_cons_of_mem | assumption)); exact rfl; exact rfl; exact rfl) | (apply VL_sub; exact rfl; exact rfl; exact rfl; omega) | apply VL_nil | apply VQ_then | apply VC_seq | apply VC_region)
    apply VL_call _ en37
    (repeat (first | exact args_nil | (apply args_cons; exact rfl)))
    exact rfl
    exact fun _ hw => (unsigned_spec g 5 (cnt - 1).toNat (by omega) (by omega) (by omega) (by omega) (by omega) (hdBits _ _ (hdBits _ _ noBits)) (by simp [Bm.length_bitsOf]) (hw))
    rintro _ _ ⟨rfl, A3, c3, rfl⟩
    repeat' (first | (apply VL_move; exact rfl; exact rfl) | (apply VL_fieldAddr T; exact rfl; exact rfl; exact rfl) | (apply VL_load T; exact rfl; (focus repeat (first | with_reducible exact List.mem_cons_self | with_reducible apply List.mem_cons_of_mem | assumption)); exact rfl; exact rfl; exact rfl) | apply VL_nil | apply VQ_then | apply VC_seq | apply VC_region)
    apply VL_call _ en37
    (repeat (first | exact args_nil | (apply args_cons; exact rfl)))
    exact rfl
    exact fun _ hw => (unsigned_spec g 12 size.toNat (by omega) (by omega) (by omega) (by omega) (by omega) (hdBits _ _ (hdBits _ _ (hdBits _ _ noBits))) (by simp [Bm.length_bitsOf]) (hw))
    rintro _ _ ⟨rfl, A4, c4, rfl⟩
    repeat' (first | (apply VL_move; exact rfl; exact rfl) | apply VL_nil | apply VQ_then | apply VC_seq | apply VC_region)
    apply VL_call _ en38
    (repeat (first | exact args_nil | (apply args_cons; exact rfl)))
    exact rfl
    exact fun _ hw => (bytes_spec g (hw))
    rintro _ _ ⟨rfl, rfl⟩
    have hz : (strOf (Bm.pack (headBits tag idx cnt size))).size + s.size ≤ 9223372036854775807 := by
      rw [size_strOf, Bm.length_pack]; unfold headBits; simp only [List.length_append, Bm.length_bitsOf, List.length_nil]; omega
    repeat' (first | (apply VL_scat; exact rfl; exact rfl; exact rfl; exact hz) | (apply VL_move; exact rfl; exact rfl) | (apply VL_assign; exact rfl; exact rfl) | (apply VL_fieldAddr T; exact rfl; exact rfl; exact rfl) | (apply VL_load T; exact rfl; (focus repeat (first | with_reducible exact List.mem_cons_self | with_reducible apply List.mem_cons_of_mem | assumption)); exact rfl; exact rfl; exact rfl) | (apply VL_extract; exact rfl; exact rfl; exact rfl) | apply VL_nil | apply VQ_then | apply VC_seq | apply VC_region | apply VC_ret)
    apply VQ_tail; apply VQ_ret2; exact rfl; exact rfl; exact rfl
    exact ⟨rfl, rfl⟩

set_option maxRecDepth 10000 in
theorem rencode_spec (tag idx cnt size : Int) (s : ByteArray) (hs : s.size ≤ 9000000000000000000) {B : Nat} {w0 : World} {H : List HP} {w : World} (hw : St B w0 H w) :
    Calls Try.prog 14 [.agg #[.int .i64 tag, .int .i64 idx, .int .i64 cnt, .int .i64 size, .string s]].toArray w (Post B w0 fun v K => v = .tuple #[.string (encOf tag idx cnt size s), .int .i64 (if Fm.part tag idx cnt size s.size = 0 then 1 else 0)] ∧ K = H) := by
  refine Calls_of_VC Try.func14 Try.ntmps14 rfl rfl hw ?_
  by_cases hp : Fm.part tag idx cnt size s.size = 0
  · have hv : encOf tag idx cnt size s = ⟨#[]⟩ := by unfold encOf; rw [if_pos hp]
    rw [hv, if_pos hp]
    repeat' (first | (apply VL_assign; exact rfl; exact rfl) | (apply VL_load_whole T; exact rfl; (focus repeat (first | with_reducible exact List.mem_cons_self | with_reducible apply List.mem_cons_of_mem | assumption)); exact rfl; exact rfl; exact rfl) | (apply VL_box_agg; exact rfl; exact rfl; intro _) | apply VL_nil | apply VQ_then | apply VC_seq | apply VC_region)
    first | apply VL_callt en18 | apply VL_callq en18
    (repeat (first | exact args_nil | (apply args_cons; exact rfl)))
    exact rfl
    exact fun _ hw => (rcheck_spec tag idx cnt size s (by omega) hw)
    rw [← Fm.part_length _ _ _ _ _ (by omega), if_pos hp]
    repeat' (first | (apply VL_assign; exact rfl; exact rfl) | (apply VL_neq; exact rfl; exact rfl; exact rfl; all_goals (intro _; try (exfalso; omega))) | apply VL_nil | apply VQ_then | apply VC_seq | apply VC_region | (apply VC_cond_true; exact rfl) | apply VC_ret | apply VQ_then_ret)
    apply VQ_tail; apply VQ_ret2; exact rfl; exact rfl; exact rfl
    exact ⟨rfl, rfl⟩
  · have hv : encOf tag idx cnt size s = strOf (Bm.pack (headBits tag idx cnt size)) ++ s := by unfold encOf; rw [if_neg hp]
    rw [hv, if_neg hp]
    obtain ⟨⟨a1, a2⟩, ⟨a3, a4⟩, ⟨a5, a6⟩, ⟨a7, a8⟩, _⟩ := Fm.part_ok hp
    repeat' (first | (apply VL_assign; exact rfl; exact rfl) | (apply VL_load_whole T; exact rfl; (focus repeat (first | with_reducible exact List.mem_cons_self | with_reducible apply List.mem_cons_of_mem | assumption)); exact rfl; exact rfl; exact rfl) | (apply VL_box_agg; exact rfl; exact rfl; intro _) | apply VL_nil | apply VQ_then | apply VC_seq | apply VC_region)
    first | apply VL_callt en18 | apply VL_callq en18
    (repeat (first | exact args_nil | (apply args_cons; exact rfl)))
    exact rfl
    exact fun _ hw => (rcheck_spec tag idx cnt size s (by omega) hw)
    rw [← Fm.part_length _ _ _ _ _ (by omega), if_neg hp]
    clear hv hp
    repeat' (first | (apply VL_neq; exact rfl; exact rfl; exact rfl; all_goals (intro _; try (exfalso; omega))) | apply VL_nil | apply VQ_then | apply VC_seq | apply VC_region | (apply VC_cond_false; exact rfl) | apply VC_skip)
    apply VL_call _ en39
    (repeat (first | exact args_nil | (apply args_cons; exact rfl)))
    exact rfl
    exact fun _ hw => (rnewWriter_spec (hw))
    rintro _ _ ⟨g, rfl, rfl⟩
    repeat' (first | (apply VL_move; exact rfl; exact rfl) | (apply VL_assign; exact rfl; exact rfl) | (apply VL_fieldAddr T; exact rfl; exact rfl; exact rfl) | (apply VL_load T; exact rfl; (focus repeat (first | with_reducible exact List.mem_cons_self | with_reducible apply List.mem_cons_of_mem | assumption)); exact rfl; exact rfl; exact rfl) | apply VL_nil | apply VQ_then | apply VC_seq | apply VC_region)
    apply VL_call _ en40
    (repeat (first | exact args_nil | (apply args_cons; exact rfl)))
    exact rfl
    exact fun _ hw => (runsigned_spec g 8 tag.toNat (by omega) (by omega) (by omega) (by omega) (by omega) (bs := []) (by simp) (hw))
    rintro _ _ ⟨rfl, A1, c1, rfl⟩
    repeat' (first | (apply VL_move; exact rfl; exact rfl) | (apply VL_fieldAddr T; exact rfl; exact rfl; exact rfl) | (apply VL_load T; exact rfl; (focus repeat (first | with_reducible exact List.mem_cons_self | with_reducible apply List.mem_cons_of_mem | assumption)); exact rfl; exact rfl; exact rfl) | apply VL_nil | apply VQ_then | apply VC_seq | apply VC_region)
    apply VL_call _ en40
    (repeat (first | exact args_nil | (apply args_cons; exact rfl)))
    exact rfl
    exact fun _ hw => (runsigned_spec g 5 idx.toNat (by omega) (by omega) (by omega) (by omega) (by omega) (by simp [Bm.length_bitsOf]) (hw))
    rintro _ _ ⟨rfl, A2, c2, rfl⟩
    repeat' (first | (apply VL_move; exact rfl; exact rfl) | (apply VL_fieldAddr T; exact rfl; exact rfl; exact rfl) | (apply VL_load T; exact rfl; (focus repeat (first | with_reducible exact List.mem_cons_self | with_reducible apply List.mem_cons_of_mem | assumption)); exact rfl; exact rfl; exact rfl) | (apply VL_sub; exact rfl; exact rfl; exact rfl; omega) | apply VL_nil | apply VQ_then | apply VC_seq | apply VC_region)
    apply VL_call _ en40
    (repeat (first | exact args_nil | (apply args_cons; exact rfl)))
    exact rfl
    exact fun _ hw => (runsigned_spec g 5 (cnt - 1).toNat (by omega) (by omega) (by omega) (by omega) (by omega) (by simp [Bm.length_bitsOf]) (hw))
    rintro _ _ ⟨rfl, A3, c3, rfl⟩
    repeat' (first | (apply VL_move; exact rfl; exact rfl) | (apply VL_fieldAddr T; exact rfl; exact rfl; exact rfl) | (apply VL_load T; exact rfl; (focus repeat (first | with_reducible exact List.mem_cons_self | with_reducible apply List.mem_cons_of_mem | assumption)); exact rfl; exact rfl; exact rfl) | apply VL_nil | apply VQ_then | apply VC_seq | apply VC_region)
    apply VL_call _ en40
    (repeat (first | exact args_nil | (apply args_cons; exact rfl)))
    exact rfl
    exact fun _ hw => (runsigned_spec g 12 size.toNat (by omega) (by omega) (by omega) (by omega) (by omega) (by simp [Bm.length_bitsOf]) (hw))
    rintro _ _ ⟨rfl, A4, c4, rfl⟩
    repeat' (first | (apply VL_move; exact rfl; exact rfl) | apply VL_nil | apply VQ_then | apply VC_seq | apply VC_region)
    apply VL_call _ en41
    (repeat (first | exact args_nil | (apply args_cons; exact rfl)))
    exact rfl
    exact fun _ hw => (rbytes_spec g (hdBits _ _ (hdBits _ _ (hdBits _ _ (hdBits _ _ noBits)))) (by simp [Bm.length_bitsOf]) (hw))
    rintro _ _ ⟨rfl, rfl⟩
    have hz : (strOf (Bm.pack (headBits tag idx cnt size))).size + s.size ≤ 9223372036854775807 := by
      rw [size_strOf, Bm.length_pack]; unfold headBits; simp only [List.length_append, Bm.length_bitsOf, List.length_nil]; omega
    repeat' (first | (apply VL_scat; exact rfl; exact rfl; exact rfl; exact hz) | (apply VL_move; exact rfl; exact rfl) | (apply VL_assign; exact rfl; exact rfl) | (apply VL_fieldAddr T; exact rfl; exact rfl; exact rfl) | (apply VL_load T; exact rfl; (focus repeat (first | with_reducible exact List.mem_cons_self | with_reducible apply List.mem_cons_of_mem | assumption)); exact rfl; exact rfl; exact rfl) | (apply VL_extract; exact rfl; exact rfl; exact rfl) | apply VL_nil | apply VQ_then | apply VC_seq | apply VC_region | apply VC_ret)
    apply VQ_tail; apply VQ_ret2; exact rfl; exact rfl; exact rfl
    exact ⟨rfl, rfl⟩


/-- The indices below k whose bit is not set. -/
def missL (bm : Nat) : Nat → List Nat
  | 0 => []
  | k + 1 => if bm / 2 ^ k % 2 = 0 then missL bm k ++ [k] else missL bm k
def intsOf (l : List Nat) : List Value := l.map fun b : Nat => Value.int .i64 (b : Int)
theorem intsOf_app (l : List Nat) (b : Nat) : intsOf (l ++ [b]) = intsOf l ++ [.int .i64 b] := by simp [intsOf]
theorem missL_len (bm k : Nat) : (missL bm k).length ≤ k := by
  induction k with
  | zero => simp [missL]
  | succ k ih =>
    unfold missL
    split
    · simp; omega
    · omega
def missErr (cnt bm : Int) : Int := if cnt < 1 then 2 else if 32 < cnt then 2 else if bm < 0 then 2 else if bm / 2 ^ cnt.toNat = 0 then 0 else 2
def missOf (cnt bm : Int) : List Nat := if missErr cnt bm = 0 then missL bm.toNat cnt.toNat else []
theorem miss_err_leaf {cnt bm e : Int} {H : List HP} (he : e = missErr cnt bm) (h0 : e ≠ 0) :
    ∃ A cap, Value.tuple #[.slice none 0 0, .int .i64 e] = .tuple #[.slice A (missOf cnt bm).length cap, .int .i64 (missErr cnt bm)] ∧
      sl 3 1 none 0 0 [] :: H = sl 3 1 A (missOf cnt bm).length cap (intsOf (missOf cnt bm)) :: H := by
  have hc : missOf cnt bm = [] := by unfold missOf; rw [if_neg (by rw [← he]; exact h0)]
  rw [← he, hc]
  exact ⟨none, 0, rfl, rfl⟩
theorem bls_int (a : Int) (w : World) : (Instr.buildSlice 32 1 [(0, .int .i64 a)].toArray).run Try.prog w = .ok (.slice (some ⟨w.heap.size, 0, none⟩) 1 1) (w.alloc (.cells #[.int .i64 a] 3 (0, 0))) := by kernel_rfl
theorem bls_int0 (w : World) : (Instr.buildSlice 32 0 [].toArray).run Try.prog w = .ok (.slice (some ⟨w.heap.size, 0, none⟩) 0 0) (w.alloc (.cells #[] 3 (0, 0))) := by kernel_rfl
theorem bit_of (bm k : Nat) (h : bm < 9223372036854775808) (i : Int) (hi : i = k) : bits .and .i64 ((bm : Int) / 2 ^ i.toNat) 1 = ((bm / 2 ^ k % 2 : Nat) : Int) := by
  subst hi
  rw [show ((bm : Int) / 2 ^ (k : Int).toNat) = ((bm / 2 ^ k : Nat) : Int) by simp]
  exact Bm.i64_bit _ (Nat.lt_of_le_of_lt (Nat.div_le_self _ _) h)

set_option maxRecDepth 10000 in
theorem missing_spec (cnt bm : Int) (hm : bm ≤ 9223372036854775807) {B : Nat} {w0 : World} {H : List HP} {w : World} (hw : St B w0 H w) :
    Calls Try.prog 15 [.int .i64 cnt, .int .i64 bm].toArray w (Post B w0 fun v K => ∃ A cap, v = .tuple #[.slice A (missOf cnt bm).length cap, .int .i64 (missErr cnt bm)] ∧ K = sl 3 1 A (missOf cnt bm).length cap (intsOf (missOf cnt bm)) :: H) := by
  refine Calls_of_VC Try.func15 Try.ntmps15 rfl rfl hw ?_
  repeat' (first | (apply VL_move; exact rfl; exact rfl) | (apply VL_assign; exact rfl; exact rfl) | (apply VL_guard_no; exact rfl; exact rfl; exact rfl; exact rfl; exact rfl) | (apply VL_guard_yes; exact rfl; exact rfl; exact rfl) | (apply VL_pick_true; exact rfl; exact rfl; exact rfl) | (apply VL_pick_false; exact rfl; exact rfl; exact rfl) | (apply VL_neq; exact rfl; exact rfl; exact rfl; all_goals (intro _; try (exfalso; omega))) | (apply VL_lss; exact rfl; exact rfl; exact rfl; all_goals (intro _; try (exfalso; omega))) | (apply VL_gtr; exact rfl; exact rfl; exact rfl; all_goals (intro _; try (exfalso; omega))) | (apply VL_shr; exact rfl; exact rfl; exact rfl; (simp only [IntKind.bits]; omega)) | apply VL_nil | apply VQ_then | apply VC_seq | apply VC_region | (apply VC_cond_true; exact rfl) | (apply VC_cond_false; exact rfl) | apply VC_block | apply VC_ret | apply VC_skip | apply VQ_then_ret)
  all_goals (try (
    apply VQ_nilSlice 3 1
    apply VQ_ret2; exact rfl; exact rfl; exact rfl
    refine miss_err_leaf ?_ (by decide)
    unfold missErr; (repeat (first | refine eq_ite_neg (by omega) ?_ | refine eq_ite_pos (by omega) ?_)); rfl))
  obtain ⟨c, rfl⟩ : ∃ c : Nat, cnt = c := ⟨cnt.toNat, by omega⟩
  obtain ⟨b, rfl⟩ : ∃ b : Nat, bm = b := ⟨bm.toNat, by omega⟩
  have he : missErr c b = 0 := by symm; unfold missErr; (repeat (first | refine eq_ite_neg (by omega) ?_ | refine eq_ite_pos (by omega) ?_)); rfl
  have hc : missOf c b = missL b c := by unfold missOf; rw [if_pos he]; rfl
  rw [he, hc]
  clear he hc
  refine VC_loop3 (fun (k : Nat) (A : Option Addr) (cap : Nat) => [(25, .int .i64 k), (6, .slice A (missL b k).length cap), (24, .int .i64 c), (1, .int .i64 b)]) (fun k A cap => sl 3 1 A (missL b k).length cap (intsOf (missL b k)) :: H)
    (fun k _ _ => k ≤ c) (fun k _ _ => c - k) 0 none 0 (Nat.zero_le _) ?_ (fun w hw => hw.nilSlice _ _) ?_
  · (repeat (first | exact sub_nil _ | (apply sub_cons; first | exact rfl | exact congrArg (fun z : Int => some (Value.int .i64 z)) (by omega))))
  intro k A cap hk K hK
  by_cases hlt : k < c
  · have hlen := missL_len b k
    have hbit := bit_of b k (by omega) k rfl
    repeat' (first | (apply VL_buildSlice; (repeat (first | exact parts_nil | (apply parts_cons; exact rfl))); exact bls_int _; exact rfl; intro _) | (apply VL_move; exact rfl; exact rfl) | (apply VL_assign; exact rfl; exact rfl) | (apply VL_eql; exact rfl; exact rfl; exact rfl; all_goals (intro _; try (exfalso; omega))) | (apply VL_lss; exact rfl; exact rfl; exact rfl; all_goals (intro _; try (exfalso; omega))) | (apply VL_add; exact rfl; exact rfl; exact rfl; omega) | (apply VL_shr; exact rfl; exact rfl; exact rfl; (simp only [IntKind.bits]; omega)) | (apply VL_and; exact rfl; exact rfl; exact rfl) | (apply VL_append T; exact rfl; exact rfl; exact rfl; (focus repeat (first | with_reducible exact List.mem_cons_self | with_reducible apply List.mem_cons_of_mem | assumption)); exact rfl; exact rfl; exact rfl; (intro _ _; (repeat (first | with_reducible exact Upd.here _ | with_reducible apply Upd.there))); omega; intro _ _) | apply VL_nil | apply VQ_then | apply VC_seq | apply VC_region | (apply VC_cond_true; exact rfl) | (apply VC_cond_false; exact rfl) | apply VC_block | apply VC_skip | apply VQ_block_normal)
    · rename_i h0 _ _ _
      rw [hbit] at h0
      have hs : missL b (k + 1) = missL b k ++ [k] := by rw [missL, if_pos (by omega)]
      apply hK (k + 1)
      · omega
      · omega
      · rw [hs, List.length_append]
        (repeat (first | exact sub_nil _ | (apply sub_cons; first | exact rfl | exact congrArg (fun z : Int => some (Value.int .i64 z)) (by omega))))
      · intro w hw
        rw [hs, intsOf_app, List.length_append]
        exact hw.tail
    · rename_i h0
      rw [hbit] at h0
      have hs : missL b (k + 1) = missL b k := by rw [missL, if_neg (by omega)]
      apply hK (k + 1)
      · omega
      · omega
      · rw [hs]
        (repeat (first | exact sub_nil _ | (apply sub_cons; first | exact rfl | exact congrArg (fun z : Int => some (Value.int .i64 z)) (by omega))))
      · intro w hw
        rw [hs]
        exact hw
  · repeat' (first | (apply VL_move; exact rfl; exact rfl) | (apply VL_assign; exact rfl; exact rfl) | (apply VL_lss; exact rfl; exact rfl; exact rfl; all_goals (intro _; try (exfalso; omega))) | apply VL_nil | apply VQ_then | apply VC_seq | apply VC_region | (apply VC_cond_false; exact rfl) | apply VC_ret | apply VC_exit | apply VQ_then_exit | apply VQ_block_exit)
    apply VQ_ret2; exact rfl; exact rfl; exact rfl
    obtain rfl : k = c := by omega
    exact ⟨A, cap, rfl, rfl⟩

set_option maxRecDepth 10000 in
theorem rmissing_spec (cnt bm : Int) (hm : bm ≤ 9223372036854775807) {B : Nat} {w0 : World} {H : List HP} {w : World} (hw : St B w0 H w) :
    Calls Try.prog 16 [.int .i64 cnt, .int .i64 bm].toArray w (Post B w0 fun v K => ∃ A cap, v = .tuple #[.slice A (missOf cnt bm).length cap, .int .i64 (missErr cnt bm)] ∧ K = sl 3 1 A (missOf cnt bm).length cap (intsOf (missOf cnt bm)) :: H) := by
  refine Calls_of_VC Try.func16 Try.ntmps16 rfl rfl hw ?_
  have hpow : 1 ≤ cnt → cnt ≤ 32 → 0 ≤ bm → (IntKind.i64.wrap (1 * 2 ^ cnt.toNat) ≤ bm ↔ bm / 2 ^ cnt.toNat ≠ 0) := by
    intro h1 h2 h3
    obtain ⟨c, rfl⟩ : ∃ c : Nat, cnt = c := ⟨cnt.toNat, by omega⟩
    obtain ⟨b, rfl⟩ : ∃ b : Nat, bm = b := ⟨bm.toNat, by omega⟩
    have h4 : 2 ^ c ≤ 2 ^ 32 := Nat.pow_le_pow_right (by omega) (by omega)
    have h0 : 0 < 2 ^ c := Nat.pow_pos (by omega)
    rw [show (1 : Int) * 2 ^ (c : Int).toNat = ((2 ^ c : Nat) : Int) by simp, IntKind.wrap_i64, show ((b : Int) / 2 ^ (c : Int).toNat) = ((b / 2 ^ c : Nat) : Int) by simp]
    have h5 := @Nat.div_eq_zero_iff_lt (2 ^ c) b h0
    omega
  repeat' (first | (apply VL_buildSlice_sl T; (repeat (first | exact parts_nil | (apply parts_cons; exact rfl))); exact bls_int0; exact rfl; exact rfl; exact rfl; exact rfl; intro _) | (apply VL_move; exact rfl; exact rfl) | (apply VL_assign; exact rfl; exact rfl) | (apply VL_guard_no; exact rfl; exact rfl; exact rfl; exact rfl; exact rfl) | (apply VL_guard_yes; exact rfl; exact rfl; exact rfl) | (apply VL_pick_true; exact rfl; exact rfl; exact rfl) | (apply VL_pick_false; exact rfl; exact rfl; exact rfl) | (apply VL_lss; exact rfl; exact rfl; exact rfl; all_goals (intro _; try (exfalso; omega))) | (apply VL_gtr; exact rfl; exact rfl; exact rfl; all_goals (intro _; try (exfalso; omega))) | (apply VL_geq; exact rfl; exact rfl; exact rfl; all_goals (intro _; try (exfalso; omega))) | (apply VL_shl; exact rfl; exact rfl; exact rfl; (simp only [IntKind.bits]; omega)) | apply VL_nil | apply VQ_then | apply VC_seq | apply VC_region | (apply VC_cond_true; exact rfl) | (apply VC_cond_false; exact rfl) | apply VC_block | apply VC_ret | apply VC_skip | apply VQ_then_ret)
  all_goals (try (
    apply VQ_nilSlice 3 1
    apply VQ_ret2; exact rfl; exact rfl; exact rfl
    refine miss_err_leaf ?_ (by decide)
    unfold missErr; (repeat (first | refine eq_ite_neg (by omega) ?_ | refine eq_ite_pos (by omega) ?_)); rfl))
  rename_i g
  obtain ⟨c, rfl⟩ : ∃ c : Nat, cnt = c := ⟨cnt.toNat, by omega⟩
  obtain ⟨b, rfl⟩ : ∃ b : Nat, bm = b := ⟨bm.toNat, by omega⟩
  have he : missErr c b = 0 := by symm; unfold missErr; (repeat (first | refine eq_ite_neg (by omega) ?_ | refine eq_ite_pos (by omega) ?_)); rfl
  have hc : missOf c b = missL b c := by unfold missOf; rw [if_pos he]; rfl
  rw [he, hc]
  clear he hc hpow
  refine VC_loop3 (fun (k : Nat) (A : Option Addr) (cap : Nat) => [(7, .int .i64 k), (6, .slice A (missL b k).length cap), (0, .int .i64 c), (1, .int .i64 b)]) (fun k A cap => sl 3 1 A (missL b k).length cap (intsOf (missL b k)) :: H)
    (fun k _ _ => k ≤ c) (fun k _ _ => c - k) 0 (some ⟨g, 0, none⟩) 0 (Nat.zero_le _) ?_ (fun w hw => hw) ?_
  · (repeat (first | exact sub_nil _ | (apply sub_cons; first | exact rfl | exact congrArg (fun z : Int => some (Value.int .i64 z)) (by omega))))
  intro k A cap hk K hK
  by_cases hlt : k < c
  · have hlen := missL_len b k
    have hbit := bit_of b k (by omega) k rfl
    repeat' (first | (apply VL_buildSlice; (repeat (first | exact parts_nil | (apply parts_cons; exact rfl))); exact bls_int _; exact rfl; intro _) | (apply VL_move; exact rfl; exact rfl) | (apply VL_assign; exact rfl; exact rfl) | (apply VL_eql; exact rfl; exact rfl; exact rfl; all_goals (intro _; try (exfalso; omega))) | (apply VL_lss; exact rfl; exact rfl; exact rfl; all_goals (intro _; try (exfalso; omega))) | (apply VL_add; exact rfl; exact rfl; exact rfl; omega) | (apply VL_shr; exact rfl; exact rfl; exact rfl; (simp only [IntKind.bits]; omega)) | (apply VL_and; exact rfl; exact rfl; exact rfl) | (apply VL_append T; exact rfl; exact rfl; exact rfl; (focus repeat (first | with_reducible exact List.mem_cons_self | with_reducible apply List.mem_cons_of_mem | assumption)); exact rfl; exact rfl; exact rfl; (intro _ _; (repeat (first | with_reducible exact Upd.here _ | with_reducible apply Upd.there))); omega; intro _ _) | apply VL_nil | apply VQ_then | apply VC_seq | apply VC_region | (apply VC_cond_true; exact rfl) | (apply VC_cond_false; exact rfl) | apply VC_block | apply VC_skip | apply VQ_block_normal)
    · rename_i h0 _ _ _
      rw [hbit] at h0
      have hs : missL b (k + 1) = missL b k ++ [k] := by rw [missL, if_pos (by omega)]
      apply hK (k + 1)
      · omega
      · omega
      · rw [hs, List.length_append]
        (repeat (first | exact sub_nil _ | (apply sub_cons; first | exact rfl | exact congrArg (fun z : Int => some (Value.int .i64 z)) (by omega))))
      · intro w hw
        rw [hs, intsOf_app, List.length_append]
        exact hw.tail
    · rename_i h0
      rw [hbit] at h0
      have hs : missL b (k + 1) = missL b k := by rw [missL, if_neg (by omega)]
      apply hK (k + 1)
      · omega
      · omega
      · rw [hs]
        (repeat (first | exact sub_nil _ | (apply sub_cons; first | exact rfl | exact congrArg (fun z : Int => some (Value.int .i64 z)) (by omega))))
      · intro w hw
        rw [hs]
        exact hw
  · repeat' (first | (apply VL_move; exact rfl; exact rfl) | (apply VL_assign; exact rfl; exact rfl) | (apply VL_lss; exact rfl; exact rfl; exact rfl; all_goals (intro _; try (exfalso; omega))) | apply VL_nil | apply VQ_then | apply VC_seq | apply VC_region | (apply VC_cond_false; exact rfl) | apply VC_ret | apply VC_exit | apply VQ_then_exit | apply VQ_block_exit)
    apply VQ_ret2; exact rfl; exact rfl; exact rfl
    obtain rfl : k = c := by omega
    exact ⟨A, cap, rfl, rfl⟩
end Go.Proofs.Ytfobgjhjigkigaa
