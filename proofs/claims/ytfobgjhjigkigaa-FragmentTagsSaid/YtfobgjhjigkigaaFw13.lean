/- Walks: the program's reader of bits. -/
import Derived.Test.YtfobgjhjigkigaaSt
import Derived.Test.YtfobgjhjigkigaaBr
namespace Go.Proofs.Ytfobgjhjigkigaa
open Go.RowKit Go.Eng

theorem rdLeft_spec (g : Nat) (s : ByteArray) (i : Nat) (hi : i ≤ 8 * s.size) (hs : s.size ≤ 65536) {B : Nat} {w0 : World} {H : List HP} {w : World} (hw : St B w0 (blk g (.cells #[.string s, .int .i64 i, .int .i64 0] 131 (0, 0)) :: H) w) :
    Calls Try.prog 75 [.pointer (some ⟨g, 0, none⟩)].toArray w (Post B w0 fun v K => v = .int .i64 (8 * s.size - i) ∧ K = blk g (.cells #[.string s, .int .i64 i, .int .i64 0] 131 (0, 0)) :: H) := by
  refine Calls_of_VC Try.func75 Try.ntmps75 rfl rfl hw ?_
  repeat' (first | apply (zs1 ?_) | apply (zs2 ?_) | apply (zs5 ?_) | (apply zg2; refine zs6 ?_) | (apply zg3; refine zs7 ?_) | (apply zg4; refine zs14 ?_) | (apply zg8; (refine zs16 ?_ ?_ <;> intro _ <;> try (exfalso; omega))) | (apply zg14; refine zs31 ?_) | (apply zg15; refine zs32 ?_) | apply (zs65 ?_) | apply (zs66 ?_) | apply (zs68 ?_) | apply (zs69 ?_) | apply (zs70 ?_) | (apply zg27; refine zs72 ?_) | apply (zs74 ?_) | apply (zs76 ?_) | (apply zg28; refine zs83 ?_))
  apply VQ_ret1; exact rfl; exact rfl
  exact ⟨rfl, rfl⟩

theorem rdGet_spec (g : Nat) (s : ByteArray) (i width : Nat) (hi : i + width ≤ 8 * s.size) (hwd : width ≤ 63) (hs : s.size ≤ 65536) {B : Nat} {w0 : World} {H : List HP} {w : World} (hw : St B w0 (blk g (.cells #[.string s, .int .i64 i, .int .i64 0] 131 (0, 0)) :: H) w) :
    Calls Try.prog 74 [.pointer (some ⟨g, 0, none⟩), .int .i64 width].toArray w (Post B w0 fun v K => v = .int .u64 (Bm.rdN s i width) ∧ K = blk g (.cells #[.string s, .int .i64 (i + width : Nat), .int .i64 0] 131 (0, 0)) :: H) := by
  refine Calls_of_VC Try.func74 Try.ntmps74 rfl rfl hw ?_
  repeat' (first | apply (zs1 ?_) | apply (zs2 ?_) | apply (zs65 ?_) | apply (zs68 ?_) | apply (zs69 ?_) | apply (zs70 ?_) | apply (zs73 ?_))
  refine VC_loop1 (fun k : Nat => [(7, .int .i64 k), (6, .int .i64 width), (5, .int .u64 (Bm.rdN s i k)), (0, .pointer (some ⟨g, 0, none⟩))]) (fun k => blk g (.cells #[.string s, .int .i64 (i + k : Nat), .int .i64 0] 131 (0, 0)) :: H)
    (fun k => k ≤ width) (fun k => width - k) 0 (Nat.zero_le _) ?_ (fun w hw => hw) ?_
  · (repeat (first | exact sub_nil _ | (apply sub_cons; first | exact rfl | exact congrArg (fun z : Int => some (Value.int .i64 z)) (by omega))))
  intro k hk K hK
  by_cases hlt : k < width
  · repeat' (first | apply (zs1 ?_) | apply (zs2 ?_) | apply (zs5 ?_) | (apply zg2; refine zs6 ?_) | (apply zg3; refine zs7 ?_) | (apply (zs17 ?_ ?_) <;> intro _ <;> try (exfalso; omega)) | (apply zg12; (refine zs29 ?_; intro _ _)) | (apply zg13; refine zs30 ?_) | (apply zg14; refine zs31 ?_) | (apply zg16; refine zs36 ?_) | (apply zg17; refine zs37 ?_) | (apply zg18; refine zs39 ?_) | apply (zs40 ?_) | apply (zs41 ?_) | apply (zs42 ?_) | (apply zg19; refine zs46 ?_) | (apply zg22; refine zs50 ?_) | apply (zs65 ?_) | apply (zs66 ?_) | apply (zs68 ?_) | apply (zs69 ?_) | apply (zs70 ?_) | (apply zg27; refine zs71 ?_) | apply (zs73 ?_) | apply (zs76 ?_) | apply (zs79 ?_) | (apply zg28; refine zs83 ?_))
    rename_i b hb
    rw [Bm.rd_u64 _ _ (Nat.lt_of_lt_of_le (Bm.rdN_lt s i k) (Bm.pow_le k 63 (by omega))) hb]
    repeat' (first | fail)
    apply hK (k + 1)
    · omega
    · omega
    · (repeat (first | exact sub_nil _ | (apply sub_cons; first | exact rfl | exact congrArg (fun z : Int => some (Value.int .i64 z)) (by omega))))
    · intro w hw
      rw [show ((i + (k + 1) : Nat) : Int) = ((i + k : Nat) : Int) + 1 by omega]
      exact hw
  · repeat' (first | apply (zs1 ?_) | apply (zs2 ?_) | (apply (zs17 ?_ ?_) <;> intro _ <;> try (exfalso; omega)) | apply (zs65 ?_) | apply (zs68 ?_) | apply (zs69 ?_) | apply (zs70 ?_) | (apply zg27; refine zs72 ?_) | apply (zs74 ?_) | apply (zs75 ?_) | apply (zs80 ?_) | apply (zs81 ?_))
    obtain rfl : k = width := by omega
    apply VQ_ret1; exact rfl; exact rfl
    exact ⟨rfl, rfl⟩

theorem rdField_spec (g : Nat) (s : ByteArray) (i width : Nat) (hi : i + width ≤ 8 * s.size) (hwd : width ≤ 62) (hs : s.size ≤ 65536) {B : Nat} {w0 : World} {H : List HP} {w : World} (hw : St B w0 (blk g (.cells #[.string s, .int .i64 i, .int .i64 0] 131 (0, 0)) :: H) w) :
    Calls Try.prog 72 [.pointer (some ⟨g, 0, none⟩), .bool true, .int .i64 width].toArray w (Post B w0 fun v K => v = .int .u64 (Bm.rdN s i width) ∧ K = blk g (.cells #[.string s, .int .i64 (i + width : Nat), .int .i64 0] 131 (0, 0)) :: H) := by
  refine Calls_of_VC Try.func72 Try.ntmps72 rfl rfl hw ?_
  repeat' (first | apply (zs1 ?_) | apply (zs2 ?_) | apply (zs5 ?_) | (apply zg2; refine zs6 ?_) | (apply zg3; refine zs7 ?_) | (apply zg8; (refine zs16 ?_ ?_ <;> intro _ <;> try (exfalso; omega))) | (apply zg20; refine zs47 ?_) | apply (zs65 ?_) | apply (zs68 ?_) | apply (zs69 ?_) | apply (zs70 ?_) | (apply zg27; refine zs72 ?_) | apply (zs73 ?_))
  first | apply VL_callt en75 | apply VL_callq en75
  (repeat (first | exact args_nil | (apply args_cons; exact rfl)))
  exact rfl
  exact fun _ hw => (rdLeft_spec g s i (by omega) hs hw)
  repeat' (first | apply (zs1 ?_) | apply (zs2 ?_) | (apply (zs19 ?_ ?_) <;> intro _ <;> try (exfalso; omega)) | apply (zs65 ?_) | apply (zs68 ?_) | apply (zs69 ?_) | apply (zs70 ?_) | (apply zg27; refine zs72 ?_))
  apply VL_call _ en74
  (repeat (first | exact args_nil | (apply args_cons; exact rfl)))
  exact rfl
  exact fun _ hw => (rdGet_spec g s i width hi (by omega) hs (hw))
  rintro _ _ ⟨rfl, rfl⟩
  repeat' (first | apply (zs2 ?_) | apply (zs65 ?_) | apply (zs68 ?_) | apply (zs74 ?_) | apply (zs77 ?_) | apply (zs78 ?_))
  apply VQ_ret1; exact rfl; exact rfl
  exact ⟨rfl, rfl⟩

theorem rdUns_spec (g : Nat) (s : ByteArray) (i width : Nat) (hi : i + width ≤ 8 * s.size) (h1 : 1 ≤ width) (hwd : width ≤ 62) (hs : s.size ≤ 65536) {B : Nat} {w0 : World} {H : List HP} {w : World} (hw : St B w0 (blk g (.cells #[.string s, .int .i64 i, .int .i64 0] 131 (0, 0)) :: H) w) :
    Calls Try.prog 51 [.pointer (some ⟨g, 0, none⟩), .int .i64 width].toArray w (Post B w0 fun v K => v = .int .i64 (Bm.rdN s i width) ∧ K = blk g (.cells #[.string s, .int .i64 (i + width : Nat), .int .i64 0] 131 (0, 0)) :: H) := by
  refine Calls_of_VC Try.func51 Try.ntmps51 rfl rfl hw ?_
  have hb := Nat.lt_of_lt_of_le (Bm.rdN_lt s i width) (Bm.pow_le width 62 hwd)
  repeat' (first | apply (zs1 ?_) | apply (zs2 ?_) | (apply zg1; refine zs4 ?_) | (apply zg6; refine zs11 ?_) | (apply (zs18 ?_ ?_) <;> intro _ <;> try (exfalso; omega)) | (apply (zs20 ?_ ?_) <;> intro _ <;> try (exfalso; omega)) | apply (zs65 ?_) | apply (zs68 ?_) | apply (zs69 ?_) | apply (zs70 ?_))
  apply VL_call _ en72
  (repeat (first | exact args_nil | (apply args_cons; exact rfl)))
  exact rfl
  exact fun _ hw => (rdField_spec g s i width hi hwd hs (hw))
  rintro _ _ ⟨rfl, rfl⟩
  repeat' (first | apply (zs2 ?_) | (apply zg19; refine zs44 ?_) | apply (zs65 ?_) | apply (zs68 ?_) | apply (zs74 ?_))
  apply VQ_ret1; exact rfl; exact rfl
  exact ⟨rfl, rfl⟩

theorem bld_reader (s : ByteArray) (w : World) : (Instr.build 131 [(0, .string s)].toArray).run Try.prog w = .ok (.agg #[.string s, .int .i64 0, .int .i64 0]) w := by kernel_rfl

theorem rdNew_spec (s : ByteArray) (hs : s.size ≤ 65536) {B : Nat} {w0 : World} {H : List HP} {w : World} (hw : St B w0 H w) :
    Calls Try.prog 50 [.string s].toArray w (Post B w0 fun v K => ∃ g, v = .pointer (some ⟨g, 0, none⟩) ∧ K = blk g (.cells #[.string s, .int .i64 0, .int .i64 0] 131 (0, 0)) :: H) := by
  refine Calls_of_VC Try.func50 Try.ntmps50 rfl rfl hw ?_
  repeat' (first | (apply VL_build; (repeat (first | exact parts_nil | (apply parts_cons; exact rfl))); exact bld_reader _; exact rfl) | apply (zs1 ?_) | apply (zs2 ?_) | (apply zg4; refine zs14 ?_) | (apply (zs19 ?_ ?_) <;> intro _ <;> try (exfalso; omega)) | (apply zg23; (refine zs52 ?_; intro _)) | apply (zs65 ?_) | apply (zs68 ?_) | apply (zs69 ?_) | apply (zs70 ?_) | (apply zg27; refine zs72 ?_) | apply (zs74 ?_) | apply (zs76 ?_))
  apply VQ_ret1; exact rfl; exact rfl
  exact ⟨_, rfl, rfl⟩

theorem rdOnes_spec (g bx : Nat) (s : ByteArray) (i : Nat) (hi : i ≤ 8 * s.size) (hl : 8 * s.size ≤ i + 7) (hs : s.size ≤ 65536) {B : Nat} {w0 : World} {H : List HP} {w : World} (hw : St B w0 (blk g (.cells #[.string s, .int .i64 i, .int .i64 0] 131 (0, 0)) :: blk bx (.cells #[.pointer (some ⟨g, 0, none⟩)] 92 (0, 0)) :: H) w) :
    Calls Try.prog 73 [.pointer (some ⟨bx, 0, none⟩)].toArray w (Post B w0 fun v K => v = .bool (!decide (Bm.rdN s i (8 * s.size - i) = 0)) ∧ K = blk g (.cells #[.string s, .int .i64 i, .int .i64 0] 131 (0, 0)) :: blk bx (.cells #[.pointer (some ⟨g, 0, none⟩)] 92 (0, 0)) :: H) := by
  refine Calls_of_VC Try.func73 Try.ntmps73 rfl rfl hw ?_
  repeat' (first | (apply VL_alloc; exact z131; exact rfl; exact rfl; intro _) | apply (zs2 ?_) | apply (zs5 ?_) | (apply zg3; first | refine zs7 ?_ | refine zs8 ?_) | (apply zg22; refine zs51 ?_) | apply (zs65 ?_) | apply (zs68 ?_) | apply (zs69 ?_) | apply (zs70 ?_))
  rename_i g2
  apply VL_call _ en75
  (repeat (first | exact args_nil | (apply args_cons; exact rfl)))
  exact rfl
  exact fun _ hw => (rdLeft_spec g s i hi hs (hw.front 1))
  rintro _ _ ⟨rfl, rfl⟩
  repeat' (first | fail)
  rw [show (8 * (s.size : Int) - i) = ((8 * s.size - i : Nat) : Int) by omega]
  apply VL_call _ en74
  (repeat (first | exact args_nil | (apply args_cons; exact rfl)))
  exact rfl
  exact fun _ hw => (rdGet_spec g2 s i (8 * s.size - i) (by omega) (by omega) hs (hw.front 1))
  rintro _ _ ⟨rfl, rfl⟩
  repeat' (first | apply (zs2 ?_) | (apply zg8; (refine zs16 ?_ ?_ <;> intro _ <;> try (exfalso; omega))) | apply (zs65 ?_) | apply (zs68 ?_) | apply (zs74 ?_))
  all_goals (apply VQ_tail; apply VQ_ret1; exact rfl; exact rfl; refine ⟨?_, rfl⟩)
  · rename_i h; rw [decide_eq_false (by omega)]; rfl
  · rename_i h; rw [decide_eq_true (by omega)]; rfl

theorem rdClose_spec (g : Nat) (s : ByteArray) (i : Nat) (hi : i ≤ 8 * s.size) (hl : 8 * s.size ≤ i + 7) (hs : s.size ≤ 65536) {B : Nat} {w0 : World} {H : List HP} {w : World} (hw : St B w0 (blk g (.cells #[.string s, .int .i64 i, .int .i64 0] 131 (0, 0)) :: H) w) :
    Calls Try.prog 52 [.pointer (some ⟨g, 0, none⟩)].toArray w (Post B w0 fun v K => v = .int .i64 (if Bm.rdN s i (8 * s.size - i) = 0 then 0 else 10) ∧ K = blk g (.cells #[.string s, .int .i64 i, .int .i64 0] 131 (0, 0)) :: H) := by
  refine Calls_of_VC Try.func52 Try.ntmps52 rfl rfl hw ?_
  repeat' (first | (apply VL_makeFunc; (repeat (first | exact args_nil | (apply args_cons; exact rfl))); exact rfl) | apply (zs2 ?_) | apply (zs5 ?_) | (apply zg2; refine zs6 ?_) | (apply zg3; refine zs7 ?_) | (apply zg8; (refine zs16 ?_ ?_ <;> intro _ <;> try (exfalso; omega))) | (apply zg23; (refine zs53 ?_; intro _)) | apply (zs65 ?_) | apply (zs68 ?_) | apply (zs69 ?_) | apply (zs70 ?_) | (apply zg27; refine zs72 ?_) | apply (zs76 ?_))
  rename_i bx _
  apply VL_call _ en75
  (repeat (first | exact args_nil | (apply args_cons; exact rfl)))
  exact rfl
  exact fun _ hw => (rdLeft_spec g s i hi hs (hw.front 1))
  rintro _ _ ⟨rfl, rfl⟩
  repeat' (first | apply (zs1 ?_) | (apply zg1; refine zs4 ?_) | (apply (zs20 ?_ ?_) <;> intro _ <;> try (exfalso; omega)))
  apply VL_callv (fun v K => v = .bool (!decide (Bm.rdN s i (8 * s.size - i) = 0)) ∧ K = blk g (.cells #[.string s, .int .i64 i, .int .i64 0] 131 (0, 0)) :: blk bx (.cells #[.pointer (some ⟨g, 0, none⟩)] 92 (0, 0)) :: H) (cs := [.pointer (some ⟨bx, 0, none⟩)])
  · exact rfl
  · exact en73
  · (repeat (first | exact args_nil | (apply args_cons; exact rfl)))
  · exact rfl
  · exact fun _ hw => rdOnes_spec g bx s i hi hl hs hw
  rintro _ _ ⟨rfl, rfl⟩
  by_cases h0 : Bm.rdN s i (8 * s.size - i) = 0
  · rw [if_pos h0, decide_eq_true h0]
    repeat' (first | apply (zs2 ?_) | (apply zg6; refine zs12 ?_) | apply (zs65 ?_) | apply (zs68 ?_) | apply (zs69 ?_) | apply (zs70 ?_) | (apply zg27; refine zs72 ?_) | apply (zs74 ?_) | apply (zs76 ?_))
    apply VQ_st _ (fun w hw => (hw.front 1).tail)
    apply VQ_ret1; exact rfl; exact rfl
    exact ⟨rfl, rfl⟩
  · rw [if_neg h0, decide_eq_false h0]
    repeat' (first | apply (zs2 ?_) | (apply zg6; refine zs12 ?_) | apply (zs65 ?_) | apply (zs68 ?_) | apply (zs69 ?_) | apply (zs70 ?_) | (apply zg27; refine zs71 ?_) | apply (zs74 ?_) | apply (zs77 ?_))
    apply VQ_st _ (fun w hw => (hw.front 1).tail)
    apply VQ_ret1; exact rfl; exact rfl
    exact ⟨rfl, rfl⟩
end Go.Proofs.Ytfobgjhjigkigaa
