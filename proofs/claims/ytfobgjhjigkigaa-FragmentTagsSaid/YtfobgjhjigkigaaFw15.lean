/- Walks: Decode, of the program and of the reference. -/
import Derived.Test.YtfobgjhjigkigaaFw7
import Derived.Test.YtfobgjhjigkigaaFw13
import Derived.Test.YtfobgjhjigkigaaFw14
namespace Go.Proofs.Ytfobgjhjigkigaa
open Go.RowKit Go.Eng

theorem bld_frag0 (w : World) : (Instr.build 23 [].toArray).run Try.prog w = .ok (.agg #[.int .i64 0, .int .i64 0, .int .i64 0, .int .i64 0, .string ⟨#[]⟩]) w := by kernel_rfl
theorem bld_frag1 (a : Int) (w : World) : (Instr.build 23 [(0, .int .i64 a)].toArray).run Try.prog w = .ok (.agg #[.int .i64 a, .int .i64 0, .int .i64 0, .int .i64 0, .string ⟨#[]⟩]) w := by kernel_rfl

def hd4 (data : ByteArray) : ByteArray := data.extract 0 4
def tl4 (data : ByteArray) : ByteArray := data.extract 4 data.size
def dTag (data : ByteArray) : Nat := Bm.rdN (hd4 data) 0 8
def dIdx (data : ByteArray) : Nat := Bm.rdN (hd4 data) (0 + 8) 5
def dCnt (data : ByteArray) : Nat := Bm.rdN (hd4 data) (0 + 8 + 5) 5
def dSize (data : ByteArray) : Nat := Bm.rdN (hd4 data) (0 + 8 + 5 + 5) 12
def dPad (data : ByteArray) : Nat := Bm.rdN (hd4 data) (0 + 8 + 5 + 5 + 12) (8 * (hd4 data).size - (0 + 8 + 5 + 5 + 12))
def dPart (data : ByteArray) : Int := Fm.part (dTag data) (dIdx data) ((dCnt data : Int) + 1) (dSize data) (tl4 data).size
def decErr (data : ByteArray) : Int := if data.size < 4 then 9 else if dPad data = 0 then (if dPart data = 0 then 10 else 0) else 10
def decFr (data : ByteArray) : Fr := if decErr data = 0 then (dTag data, dIdx data, (dCnt data : Int) + 1, dSize data, tl4 data) else (0, 0, 0, 0, ⟨#[]⟩)

theorem size_hd4 {data : ByteArray} (h : 4 ≤ data.size) : (hd4 data).size = 4 := by simp [hd4]; omega

theorem dec_short {data : ByteArray} (h : data.size < 4) : decErr data = 9 ∧ decFr data = (0, 0, 0, 0, ⟨#[]⟩) := by
  have e : decErr data = 9 := by unfold decErr; rw [if_pos h]
  exact ⟨e, by unfold decFr; rw [e]; rfl⟩
theorem dec_pad {data : ByteArray} (h : ¬ data.size < 4) (hp : dPad data ≠ 0) : decErr data = 10 ∧ decFr data = (0, 0, 0, 0, ⟨#[]⟩) := by
  have e : decErr data = 10 := by unfold decErr; rw [if_neg h, if_neg hp]
  exact ⟨e, by unfold decFr; rw [e]; rfl⟩
theorem dec_bad {data : ByteArray} (h : ¬ data.size < 4) (hp : dPad data = 0) (hq : dPart data = 0) : decErr data = 10 ∧ decFr data = (0, 0, 0, 0, ⟨#[]⟩) := by
  have e : decErr data = 10 := by unfold decErr; rw [if_neg h, if_pos hp, if_pos hq]
  exact ⟨e, by unfold decFr; rw [e]; rfl⟩
theorem dec_ok {data : ByteArray} (h : ¬ data.size < 4) (hp : dPad data = 0) (hq : dPart data ≠ 0) : decErr data = 0 ∧ decFr data = (((dTag data : Nat) : Int), ((dIdx data : Nat) : Int), (dCnt data : Int) + 1, ((dSize data : Nat) : Int), tl4 data) := by
  have e : decErr data = 0 := by unfold decErr; rw [if_neg h, if_pos hp, if_neg hq]
  exact ⟨e, by unfold decFr; rw [if_pos e]⟩

set_option maxRecDepth 10000 in
theorem decode_spec (data : ByteArray) (hs : data.size ≤ 9000000000000000000) {B : Nat} {w0 : World} {H : List HP} {w : World} (hw : St B w0 H w) :
    Calls Try.prog 26 [.string data].toArray w (Post B w0 fun v K => v = .tuple #[.agg (frc (decFr data)).toArray, .int .i64 (decErr data)] ∧ K = H) := by
  refine Calls_of_VC Try.func26 Try.ntmps26 rfl rfl hw ?_
  repeat' (first | (apply VL_alloc; exact z23; exact rfl; exact rfl; intro _) | (apply VL_build; (repeat (first | exact parts_nil | (apply parts_cons; exact rfl))); exact bld_frag0; exact rfl) | apply (zs1 ?_) | apply (zs2 ?_) | (apply zg4; refine zs14 ?_) | (apply (zs17 ?_ ?_) <;> intro _ <;> try (exfalso; omega)) | (apply zg11; refine zs28 ?_) | (apply zg22; refine zs51 ?_) | apply (zs65 ?_) | apply (zs68 ?_) | apply (zs69 ?_) | apply (zs70 ?_) | (apply zg27; first | refine zs71 ?_ | refine zs72 ?_) | apply (zs74 ?_) | apply (zs76 ?_) | apply (zs77 ?_))
  · rename_i g0 h4
    obtain ⟨e1, e2⟩ := dec_short (data := data) (by omega)
    rw [e1, e2]
    apply VQ_retc2 T; exact rfl; exact rfl; exact rfl; exact .head _; exact rfl; exact rfl; exact fun w hw => hw.tail
    exact ⟨rfl, rfl⟩
  rename_i g0 h4
  have h5 : ¬ data.size < 4 := by omega
  have hz := size_hd4 (data := data) (by omega)
  have hb1 : dTag data < 2 ^ 8 := Bm.rdN_lt _ _ _
  have hb2 : dIdx data < 2 ^ 5 := Bm.rdN_lt _ _ _
  have hb3 : dCnt data < 2 ^ 5 := Bm.rdN_lt _ _ _
  have hb4 : dSize data < 2 ^ 12 := Bm.rdN_lt _ _ _
  apply VL_call _ en50
  (repeat (first | exact args_nil | (apply args_cons; exact rfl)))
  exact rfl
  exact fun _ hw => (rdNew_spec (hd4 data) (by omega) (hw))
  rintro _ _ ⟨g, rfl, rfl⟩
  repeat' (first | apply (zs1 ?_) | apply (zs2 ?_) | apply (zs65 ?_) | apply (zs68 ?_) | apply (zs69 ?_) | apply (zs70 ?_))
  apply VL_call _ en51
  (repeat (first | exact args_nil | (apply args_cons; exact rfl)))
  exact rfl
  exact fun _ hw => (rdUns_spec g (hd4 data) 0 8 (by omega) (by omega) (by omega) (by omega) (hw))
  rintro _ _ ⟨rfl, rfl⟩
  repeat' (first | (apply VL_alloc; exact z23; exact rfl; exact rfl; intro _) | (apply VL_build; (repeat (first | exact parts_nil | (apply parts_cons; exact rfl))); exact bld_frag1 _; exact rfl) | apply (zs1 ?_) | (apply zg22; refine zs51 ?_) | apply (zs65 ?_) | apply (zs68 ?_) | apply (zs69 ?_) | apply (zs70 ?_))
  rename_i g1
  apply VL_call _ en51
  (repeat (first | exact args_nil | (apply args_cons; exact rfl)))
  exact rfl
  exact fun _ hw => (rdUns_spec g (hd4 data) (0 + 8) 5 (by omega) (by omega) (by omega) (by omega) (hw.front 1))
  rintro _ _ ⟨rfl, rfl⟩
  repeat' (first | apply (zs1 ?_) | (apply zg2; refine zs6 ?_) | (apply zg22; refine zs50 ?_) | apply (zs65 ?_) | apply (zs68 ?_) | apply (zs69 ?_) | apply (zs70 ?_))
  apply VL_call _ en51
  (repeat (first | exact args_nil | (apply args_cons; exact rfl)))
  exact rfl
  exact fun _ hw => (rdUns_spec g (hd4 data) (0 + 8 + 5) 5 (by omega) (by omega) (by omega) (by omega) (hw))
  rintro _ _ ⟨rfl, rfl⟩
  rw [show Bm.rdN (hd4 data) (0 + 8 + 5) 5 = dCnt data from rfl]
  repeat' (first | apply (zs1 ?_) | (apply zg2; refine zs6 ?_) | (apply zg13; refine zs30 ?_) | (apply zg22; refine zs50 ?_) | apply (zs65 ?_) | apply (zs68 ?_) | apply (zs69 ?_) | apply (zs70 ?_))
  apply VL_call _ en51
  (repeat (first | exact args_nil | (apply args_cons; exact rfl)))
  exact rfl
  exact fun _ hw => (rdUns_spec g (hd4 data) (0 + 8 + 5 + 5) 12 (by omega) (by omega) (by omega) (by omega) (hw))
  rintro _ _ ⟨rfl, rfl⟩
  repeat' (first | apply (zs1 ?_) | (apply zg2; refine zs6 ?_) | (apply zg10; refine zs27 ?_) | (apply zg22; refine zs50 ?_) | apply (zs65 ?_) | apply (zs68 ?_) | apply (zs69 ?_) | apply (zs70 ?_))
  apply VL_call _ en52
  (repeat (first | exact args_nil | (apply args_cons; exact rfl)))
  exact rfl
  exact fun _ hw => (rdClose_spec g (hd4 data) (0 + 8 + 5 + 5 + 12) (by omega) (by omega) (by omega) (hw))
  rintro _ _ ⟨rfl, rfl⟩
  have fp : (dPad data = 0) = (Bm.rdN (hd4 data) (0 + 8 + 5 + 5 + 12) (8 * (hd4 data).size - (0 + 8 + 5 + 5 + 12)) = 0) := rfl
  have fq : (dPart data = 0) = (Fm.part (dTag data) (dIdx data) ((dCnt data : Int) + 1) (dSize data) (tl4 data).size = 0) := rfl
  by_cases hp : dPad data = 0
  · rw [if_pos (fp ▸ hp)]
    repeat' (first | apply (zs1 ?_) | (apply zg1; refine zs4 ?_) | (apply zg3; refine zs8 ?_) | (apply zg8; (refine zs16 ?_ ?_ <;> intro _ <;> try (exfalso; omega))))
    apply VL_call _ en17
    (repeat (first | exact args_nil | (apply args_cons; exact rfl)))
    exact rfl
    exact fun _ hw => (check_spec (dTag data) (dIdx data) ((dCnt data : Int) + 1) (dSize data) (tl4 data) (by simp [tl4]; omega) (hw))
    rintro _ _ ⟨rfl, rfl⟩
    by_cases hq : dPart data = 0
    · obtain ⟨e1, e2⟩ := dec_bad h5 hp hq
      rw [e1, e2, if_pos (fq ▸ hq)]
      repeat' (first | (apply VL_build; (repeat (first | exact parts_nil | (apply parts_cons; exact rfl))); exact bld_frag0; exact rfl) | apply (zs2 ?_) | (apply zg1; refine zs4 ?_) | (apply zg6; refine zs12 ?_) | (apply zg8; (refine zs16 ?_ ?_ <;> intro _ <;> try (exfalso; omega))) | (apply zg22; refine zs51 ?_) | apply (zs65 ?_) | apply (zs68 ?_) | apply (zs69 ?_) | apply (zs70 ?_) | (apply zg27; refine zs71 ?_) | apply (zs74 ?_) | apply (zs77 ?_))
      apply VQ_retc2 T; exact rfl; exact rfl; exact rfl; (focus repeat (first | with_reducible exact List.mem_cons_self | with_reducible apply List.mem_cons_of_mem | assumption)); exact rfl; exact rfl; exact fun w hw => hw.tail.tail.tail
      exact ⟨rfl, rfl⟩
    · obtain ⟨e1, e2⟩ := dec_ok h5 hp hq
      rw [e1, e2, if_neg (fq ▸ hq)]
      repeat' (first | apply (zs2 ?_) | (apply zg1; refine zs4 ?_) | (apply zg3; refine zs8 ?_) | (apply zg6; refine zs12 ?_) | (apply zg8; (refine zs16 ?_ ?_ <;> intro _ <;> try (exfalso; omega))) | (apply zg22; refine zs51 ?_) | apply (zs65 ?_) | apply (zs68 ?_) | apply (zs69 ?_) | apply (zs70 ?_) | (apply zg27; refine zs72 ?_) | apply (zs74 ?_) | apply (zs76 ?_))
      apply VQ_retc2 T; exact rfl; exact rfl; exact rfl; (focus repeat (first | with_reducible exact List.mem_cons_self | with_reducible apply List.mem_cons_of_mem | assumption)); exact rfl; exact rfl; exact fun w hw => hw.tail.tail.tail
      exact ⟨rfl, rfl⟩
  · obtain ⟨e1, e2⟩ := dec_pad h5 hp
    rw [if_neg (fp ▸ hp), e1, e2]
    repeat' (first | (apply VL_build; (repeat (first | exact parts_nil | (apply parts_cons; exact rfl))); exact bld_frag0; exact rfl) | apply (zs1 ?_) | apply (zs2 ?_) | (apply zg1; refine zs3 ?_) | (apply zg6; refine zs11 ?_) | (apply zg8; (refine zs16 ?_ ?_ <;> intro _ <;> try (exfalso; omega))) | (apply zg22; refine zs51 ?_) | apply (zs65 ?_) | apply (zs68 ?_) | apply (zs69 ?_) | apply (zs70 ?_) | (apply zg27; refine zs71 ?_) | apply (zs74 ?_) | apply (zs77 ?_))
    apply VQ_retc2 T; exact rfl; exact rfl; exact rfl; (focus repeat (first | with_reducible exact List.mem_cons_self | with_reducible apply List.mem_cons_of_mem | assumption)); exact rfl; exact rfl; exact fun w hw => hw.tail.tail.tail
    exact ⟨rfl, rfl⟩
end Go.Proofs.Ytfobgjhjigkigaa
