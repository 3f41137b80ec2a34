/- Walks: the reference's reader of bits. -/
import Derived.Test.YtfobgjhjigkigaaSt
import Derived.Test.YtfobgjhjigkigaaBr
namespace Go.Proofs.Ytfobgjhjigkigaa
open Go.RowKit Go.Eng

theorem rleft_spec (g : Nat) (s : ByteArray) (i : Nat) (hi : i ≤ 8 * s.size) (hs : s.size ≤ 65536) {B : Nat} {w0 : World} {H : List HP} {w : World} (hw : St B w0 (blk g (.cells #[.string s, .int .i64 i, .int .i64 0] 137 (0, 0)) :: H) w) :
    Calls Try.prog 78 [.pointer (some ⟨g, 0, none⟩)].toArray w (Post B w0 fun v K => v = .int .i64 (8 * s.size - i) ∧ K = blk g (.cells #[.string s, .int .i64 i, .int .i64 0] 137 (0, 0)) :: H) := by
  refine Calls_of_VC Try.func78 Try.ntmps78 rfl rfl hw ?_
  repeat' (first | apply (zs1 ?_) | apply (zs2 ?_) | apply (zs5 ?_) | (apply zg2; refine zs6 ?_) | (apply zg3; refine zs7 ?_) | (apply zg4; refine zs14 ?_) | (apply zg14; refine zs31 ?_) | (apply zg15; refine zs32 ?_) | apply (zs65 ?_) | apply (zs66 ?_) | apply (zs68 ?_) | apply (zs69 ?_) | apply (zs70 ?_) | apply (zs74 ?_) | (apply zg28; refine zs83 ?_))
  apply VQ_ret1; exact rfl; exact rfl
  exact ⟨rfl, rfl⟩

theorem rget_spec (g : Nat) (s : ByteArray) (i width : Nat) (hi : i + width ≤ 8 * s.size) (hwd : width ≤ 62) (hs : s.size ≤ 65536) {B : Nat} {w0 : World} {H : List HP} {w : World} (hw : St B w0 (blk g (.cells #[.string s, .int .i64 i, .int .i64 0] 137 (0, 0)) :: H) w) :
    Calls Try.prog 77 [.pointer (some ⟨g, 0, none⟩), .int .i64 width].toArray w (Post B w0 fun v K => v = .int .i64 (Bm.rdN s i width) ∧ K = blk g (.cells #[.string s, .int .i64 (i + width : Nat), .int .i64 0] 137 (0, 0)) :: H) := by
  refine Calls_of_VC Try.func77 Try.ntmps77 rfl rfl hw ?_
  repeat' (first | apply (zs1 ?_) | apply (zs2 ?_) | apply (zs5 ?_) | (apply zg2; refine zs6 ?_) | (apply zg3; refine zs7 ?_) | (apply zg8; (refine zs16 ?_ ?_ <;> intro _ <;> try (exfalso; omega))) | apply (zs65 ?_) | apply (zs68 ?_) | apply (zs69 ?_) | apply (zs70 ?_) | (apply zg27; refine zs72 ?_) | apply (zs76 ?_))
  first | apply VL_callt en78 | apply VL_callq en78
  (repeat (first | exact args_nil | (apply args_cons; exact rfl)))
  exact rfl
  exact fun _ hw => (rleft_spec g s i (by omega) hs hw)
  repeat' (first | apply (zs1 ?_) | apply (zs2 ?_) | (apply (zs17 ?_ ?_) <;> intro _ <;> try (exfalso; omega)) | apply (zs65 ?_) | apply (zs68 ?_) | apply (zs69 ?_) | apply (zs70 ?_) | (apply zg27; refine zs72 ?_) | apply (zs73 ?_) | apply (zs76 ?_))
  refine VC_loop1 (fun k : Nat => [(6, .int .i64 k), (1, .int .i64 width), (5, .int .i64 (Bm.rdN s i k)), (0, .pointer (some ⟨g, 0, none⟩))]) (fun k => blk g (.cells #[.string s, .int .i64 (i + k : Nat), .int .i64 0] 137 (0, 0)) :: H)
    (fun k => k ≤ width) (fun k => width - k) 0 (Nat.zero_le _) ?_ (fun w hw => hw) ?_
  · (repeat (first | exact sub_nil _ | (apply sub_cons; first | exact rfl | exact congrArg (fun z : Int => some (Value.int .i64 z)) (by omega))))
  intro k hk K hK
  by_cases hlt : k < width
  · repeat' (first | apply (zs1 ?_) | apply (zs2 ?_) | apply (zs5 ?_) | (apply zg2; refine zs6 ?_) | (apply zg3; refine zs7 ?_) | (apply (zs17 ?_ ?_) <;> intro _ <;> try (exfalso; omega)) | (apply zg12; (refine zs29 ?_; intro _ _)) | (apply zg13; refine zs30 ?_) | (apply zg14; refine zs31 ?_) | (apply zg16; refine zs36 ?_) | (apply zg17; refine zs37 ?_) | (apply zg18; refine zs39 ?_) | apply (zs40 ?_) | apply (zs41 ?_) | apply (zs42 ?_) | (apply zg19; refine zs46 ?_) | (apply zg22; refine zs50 ?_) | apply (zs65 ?_) | apply (zs66 ?_) | apply (zs68 ?_) | apply (zs69 ?_) | apply (zs70 ?_) | (apply zg27; refine zs71 ?_) | apply (zs73 ?_) | apply (zs76 ?_) | apply (zs79 ?_) | (apply zg28; refine zs83 ?_))
    rename_i b hb
    rw [Bm.rd_i64 _ _ (Nat.lt_of_lt_of_le (Bm.rdN_lt s i k) (Bm.pow_le k 62 (by omega))) hb]
    repeat' (first | fail)
    apply hK (k + 1)
    · omega
    · omega
    · (repeat (first | exact sub_nil _ | (apply sub_cons; first | exact rfl | exact congrArg (fun z : Int => some (Value.int .i64 z)) (by omega))))
    · intro w hw
      rw [show ((i + (k + 1) : Nat) : Int) = ((i + k : Nat) : Int) + 1 by omega]
      exact hw
  · repeat' (first | apply (zs1 ?_) | apply (zs2 ?_) | (apply (zs17 ?_ ?_) <;> intro _ <;> try (exfalso; omega)) | apply (zs65 ?_) | apply (zs68 ?_) | apply (zs69 ?_) | apply (zs70 ?_) | (apply zg27; refine zs72 ?_) | apply (zs74 ?_) | apply (zs75 ?_) | apply (zs80 ?_) | apply (zs81 ?_))
    obtain rfl : k = width := by omega
    apply VQ_ret1; exact rfl; exact rfl
    exact ⟨rfl, rfl⟩

theorem runsignedR_spec (g : Nat) (s : ByteArray) (i width : Nat) (hi : i + width ≤ 8 * s.size) (h1 : 1 ≤ width) (hwd : width ≤ 62) (hs : s.size ≤ 65536) {B : Nat} {w0 : World} {H : List HP} {w : World} (hw : St B w0 (blk g (.cells #[.string s, .int .i64 i, .int .i64 0] 137 (0, 0)) :: H) w) :
    Calls Try.prog 54 [.pointer (some ⟨g, 0, none⟩), .int .i64 width].toArray w (Post B w0 fun v K => v = .int .i64 (Bm.rdN s i width) ∧ K = blk g (.cells #[.string s, .int .i64 (i + width : Nat), .int .i64 0] 137 (0, 0)) :: H) := by
  refine Calls_of_VC Try.func54 Try.ntmps54 rfl rfl hw ?_
  repeat' (first | apply (zs1 ?_) | apply (zs2 ?_) | (apply zg1; refine zs4 ?_) | apply (zs5 ?_) | (apply zg2; refine zs6 ?_) | (apply zg3; refine zs7 ?_) | (apply zg6; first | refine zs11 ?_ | refine zs12 ?_) | (apply zg7; (refine zs15 ?_ ?_ <;> intro _ <;> try (exfalso; omega))) | (apply (zs17 ?_ ?_) <;> intro _ <;> try (exfalso; omega)) | (apply (zs19 ?_ ?_) <;> intro _ <;> try (exfalso; omega)) | apply (zs65 ?_) | apply (zs68 ?_) | apply (zs69 ?_) | apply (zs70 ?_) | (apply zg27; refine zs72 ?_) | apply (zs76 ?_))
  apply VL_call _ en77
  (repeat (first | exact args_nil | (apply args_cons; exact rfl)))
  exact rfl
  exact fun _ hw => (rget_spec g s i width hi hwd hs (hw))
  rintro _ _ ⟨rfl, rfl⟩
  repeat' (first | apply (zs2 ?_) | apply (zs65 ?_) | apply (zs68 ?_) | apply (zs74 ?_))
  apply VQ_ret1; exact rfl; exact rfl
  exact ⟨rfl, rfl⟩

theorem bld_rreader (s : ByteArray) (w : World) : (Instr.build 137 [(0, .string s)].toArray).run Try.prog w = .ok (.agg #[.string s, .int .i64 0, .int .i64 0]) w := by kernel_rfl

theorem rnewReader_spec (s : ByteArray) (hs : s.size ≤ 65536) {B : Nat} {w0 : World} {H : List HP} {w : World} (hw : St B w0 H w) :
    Calls Try.prog 53 [.string s].toArray w (Post B w0 fun v K => ∃ g, v = .pointer (some ⟨g, 0, none⟩) ∧ K = blk g (.cells #[.string s, .int .i64 0, .int .i64 0] 137 (0, 0)) :: H) := by
  refine Calls_of_VC Try.func53 Try.ntmps53 rfl rfl hw ?_
  repeat' (first | (apply VL_build; (repeat (first | exact parts_nil | (apply parts_cons; exact rfl))); exact bld_rreader _; exact rfl) | apply (zs1 ?_) | apply (zs2 ?_) | (apply zg4; refine zs14 ?_) | (apply (zs19 ?_ ?_) <;> intro _ <;> try (exfalso; omega)) | (apply zg23; (refine zs52 ?_; intro _)) | apply (zs65 ?_) | apply (zs68 ?_) | apply (zs69 ?_) | apply (zs70 ?_) | (apply zg27; refine zs72 ?_) | apply (zs74 ?_) | apply (zs76 ?_))
  apply VQ_ret1; exact rfl; exact rfl
  exact ⟨_, rfl, rfl⟩

theorem rdN_zero (s : ByteArray) (i : Nat) : ∀ n, Bm.rdN s i n = 0 ↔ ∀ k, k < n → Bm.bitAt s (i + k) = 0
  | 0 => by simp [Bm.rdN]
  | n + 1 => by
    rw [Bm.rdN]
    have ih := rdN_zero s i n
    constructor
    · intro h k hk
      rcases Nat.lt_or_ge k n with h1 | h1
      · exact ih.1 (by omega) k h1
      · obtain rfl : k = n := by omega
        omega
    · intro h
      have h1 := ih.2 fun k hk => h k (by omega)
      have h2 := h n (by omega)
      omega

theorem rclose_spec (g : Nat) (s : ByteArray) (i : Nat) (hi : i ≤ 8 * s.size) (hl : 8 * s.size ≤ i + 7) (hs : s.size ≤ 65536) {B : Nat} {w0 : World} {H : List HP} {w : World} (hw : St B w0 (blk g (.cells #[.string s, .int .i64 i, .int .i64 0] 137 (0, 0)) :: H) w) :
    Calls Try.prog 55 [.pointer (some ⟨g, 0, none⟩)].toArray w (Post B w0 fun v K => v = .int .i64 (if Bm.rdN s i (8 * s.size - i) = 0 then 0 else 10) ∧ K = blk g (.cells #[.string s, .int .i64 i, .int .i64 0] 137 (0, 0)) :: H) := by
  refine Calls_of_VC Try.func55 Try.ntmps55 rfl rfl hw ?_
  repeat' (first | apply (zs1 ?_) | apply (zs2 ?_) | apply (zs5 ?_) | (apply zg2; refine zs6 ?_) | (apply zg3; refine zs7 ?_) | (apply zg8; (refine zs16 ?_ ?_ <;> intro _ <;> try (exfalso; omega))) | apply (zs65 ?_) | apply (zs68 ?_) | apply (zs69 ?_) | apply (zs70 ?_) | (apply zg27; refine zs72 ?_) | apply (zs76 ?_))
  first | apply VL_callt en78 | apply VL_callq en78
  (repeat (first | exact args_nil | (apply args_cons; exact rfl)))
  exact rfl
  exact fun _ hw => (rleft_spec g s i (by omega) hs hw)
  repeat' (first | apply (zs1 ?_) | apply (zs2 ?_) | apply (zs5 ?_) | (apply zg2; refine zs6 ?_) | (apply zg3; refine zs7 ?_) | (apply (zs20 ?_ ?_) <;> intro _ <;> try (exfalso; omega)) | apply (zs65 ?_) | apply (zs68 ?_) | apply (zs69 ?_) | apply (zs70 ?_) | (apply zg27; refine zs72 ?_) | apply (zs73 ?_) | apply (zs76 ?_))
  refine VC_loop1 (fun k : Nat => [(3, .int .i64 (i + k : Nat)), (0, .pointer (some ⟨g, 0, none⟩))]) (fun _ => blk g (.cells #[.string s, .int .i64 i, .int .i64 0] 137 (0, 0)) :: H)
    (fun k => i + k ≤ 8 * s.size ∧ ∀ j, j < k → Bm.bitAt s (i + j) = 0) (fun k => 8 * s.size - i - k) 0 ⟨by omega, fun j hj => by omega⟩ ?_ (fun w hw => hw) ?_
  · (repeat (first | exact sub_nil _ | (apply sub_cons; first | exact rfl | exact congrArg (fun z : Int => some (Value.int .i64 z)) (by omega))))
  rintro k ⟨hk, h0⟩ K hK
  by_cases hlt : i + k < 8 * s.size
  · repeat' (first | apply (zs1 ?_) | apply (zs2 ?_) | apply (zs5 ?_) | (apply zg2; refine zs6 ?_) | (apply zg3; refine zs7 ?_) | (apply zg4; refine zs14 ?_) | (apply zg7; (refine zs15 ?_ ?_ <;> intro _ <;> try (exfalso; omega))) | (apply (zs17 ?_ ?_) <;> intro _ <;> try (exfalso; omega)) | (apply zg12; (refine zs29 ?_; intro _ _)) | (apply zg13; refine zs30 ?_) | (apply zg14; refine zs31 ?_) | (apply zg15; refine zs32 ?_) | (apply zg16; refine zs36 ?_) | (apply zg17; refine zs37 ?_) | (apply zg18; refine zs39 ?_) | apply (zs41 ?_) | (apply zg19; refine zs46 ?_) | apply (zs65 ?_) | apply (zs68 ?_) | apply (zs69 ?_) | apply (zs70 ?_) | (apply zg27; first | refine zs71 ?_ | refine zs72 ?_) | apply (zs73 ?_) | apply (zs74 ?_) | apply (zs76 ?_) | apply (zs77 ?_) | apply (zs78 ?_) | apply (zs79 ?_))
    · rename_i b hb h1
      rw [Bm.bit_i _ hb] at h1
      apply VQ_ret1; exact rfl; exact rfl
      rw [if_neg (fun h => by have := (rdN_zero s i _).1 h k (by omega); omega)]
      exact ⟨rfl, rfl⟩
    · rename_i b hb h1
      rw [Bm.bit_i _ hb] at h1
      have hle := Bm.bitAt_le s (i + k)
      apply hK (k + 1)
      · refine ⟨by omega, fun j hj => ?_⟩
        rcases Nat.lt_or_ge j k with h2 | h2
        · exact h0 j h2
        · obtain rfl : j = k := by omega
          omega
      · omega
      · rw [show ((i + (k + 1) : Nat) : Int) = ((i + k : Nat) : Int) + 1 by omega]
        (repeat (first | exact sub_nil _ | (apply sub_cons; first | exact rfl | exact congrArg (fun z : Int => some (Value.int .i64 z)) (by omega))))
      · intro w hw
        exact hw
  · repeat' (first | apply (zs1 ?_) | apply (zs2 ?_) | apply (zs5 ?_) | (apply zg2; refine zs6 ?_) | (apply zg3; refine zs7 ?_) | (apply zg4; refine zs14 ?_) | (apply (zs17 ?_ ?_) <;> intro _ <;> try (exfalso; omega)) | (apply zg15; refine zs32 ?_) | apply (zs65 ?_) | apply (zs68 ?_) | apply (zs69 ?_) | apply (zs70 ?_) | (apply zg27; refine zs72 ?_) | apply (zs74 ?_) | apply (zs75 ?_) | apply (zs80 ?_) | apply (zs81 ?_))
    apply VQ_ret1; exact rfl; exact rfl
    rw [if_pos ((rdN_zero s i _).2 fun j hj => h0 j (by omega))]
    exact ⟨rfl, rfl⟩
end Go.Proofs.Ytfobgjhjigkigaa
