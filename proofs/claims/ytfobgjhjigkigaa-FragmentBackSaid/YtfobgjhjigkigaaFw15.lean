/- Walks: Decode, of the program and of the reference. -/
import Derived.Test.YtfobgjhjigkigaaFw7
import Derived.Test.YtfobgjhjigkigaaFw13
import Derived.Test.YtfobgjhjigkigaaFw14
namespace Go.Proofs.Ytfobgjhjigkigaa
open Go.RowKit Go.Eng

theorem bld_frag0 (w : World) : (Instr.build 23 [].toArray).run Try.prog w = .ok (.agg #[.int .i64 0, .int .i64 0, .int .i64 0, .int .i64 0, .string ⟨#[]⟩]) w := by kernel_rfl
theorem bld_frag1 (a : Int) (w : World) : (Instr.build 23 [(0, .int .i64 a)].toArray).run Try.prog w = .ok (.agg #[.int .i64 a, .int .i64 0, .int .i64 0, .int .i64 0, .string ⟨#[]⟩]) w := by kernel_rfl

def hd4 (data : ByteArray) : ByteArray := data.extract 0 4
def tl4 (data : ByteArray) : ByteArray := data.extract 4 data.size
def dTag (data : ByteArray) : Nat := Bm.rdN (hd4 data) 0 8
def dIdx (data : ByteArray) : Nat := Bm.rdN (hd4 data) (0 + 8) 5
def dCnt (data : ByteArray) : Nat := Bm.rdN (hd4 data) (0 + 8 + 5) 5
def dSize (data : ByteArray) : Nat := Bm.rdN (hd4 data) (0 + 8 + 5 + 5) 12
def dPad (data : ByteArray) : Nat := Bm.rdN (hd4 data) (0 + 8 + 5 + 5 + 12) (8 * (hd4 data).size - (0 + 8 + 5 + 5 + 12))
def dPart (data : ByteArray) : Int := Fm.part (dTag data) (dIdx data) ((dCnt data : Int) + 1) (dSize data) (tl4 data).size
def decErr (data : ByteArray) : Int := if data.size < 4 then 9 else if dPad data = 0 then (if dPart data = 0 then 10 else 0) else 10
def decFr (data : ByteArray) : Fr := if decErr data = 0 then (dTag data, dIdx data, (dCnt data : Int) + 1, dSize data, tl4 data) else (0, 0, 0, 0, ⟨#[]⟩)

theorem size_hd4 {data : ByteArray} (h : 4 ≤ data.size) : (hd4 data).size = 4 := by simp [hd4]; omega

theorem dec_short {data : ByteArray} (h : data.size < 4) : decErr data = 9 ∧ decFr data = (0, 0, 0, 0, ⟨#[]⟩) := by
  have e : decErr data = 9 := by unfold decErr; rw [if_pos h]
  exact ⟨e, by unfold decFr; rw [e]; rfl⟩
theorem dec_pad {data : ByteArray} (h : ¬ data.size < 4) (hp : dPad data ≠ 0) : decErr data = 10 ∧ decFr data = (0, 0, 0, 0, ⟨#[]⟩) := by
  have e : decErr data = 10 := by unfold decErr; rw [if_neg h, if_neg hp]
  exact ⟨e, by unfold decFr; rw [e]; rfl⟩
theorem dec_bad {data : ByteArray} (h : ¬ data.size < 4) (hp : dPad data = 0) (hq : dPart data = 0) : decErr data = 10 ∧ decFr data = (0, 0, 0, 0, ⟨#[]⟩) := by
  have e : decErr data = 10 := by unfold decErr; rw [if_neg h, if_pos hp, if_pos hq]
  exact ⟨e, by unfold decFr; rw [e]; rfl⟩
theorem dec_ok {data : ByteArray} (h : ¬ data.size < 4) (hp : dPad data = 0) (hq : dPart data ≠ 0) : decErr data = 0 ∧ decFr data = (((dTag data : Nat) : Int), ((dIdx data : Nat) : Int), (dCnt data : Int) + 1, ((dSize data : Nat) : Int), tl4 data) := by
  have e : decErr data = 0 := by unfold decErr; rw [if_neg h, if_pos hp, if_neg hq]
  exact ⟨e, by unfold decFr; rw [if_pos e]⟩

set_option maxRecDepth 10000 in
theorem decode_spec (data : ByteArray) (hs : data.size ≤ 9000000000000000000) {B : Nat} {w0 : World} {H : List HP} {w : World} (hw : St B w0 H w) :
    Calls Try.prog 26 [.string data].toArray w (Post B w0 fun v K => v = .tuple #[.agg (frc (decFr data)).toArray, .int .i64 (decErr data)] ∧ K = H) := by
  refine Calls_of_VC Try.func26 Try.ntmps26 rfl rfl hw ?_
  repeat' (first | (apply VL_alloc; exact z23; exact rfl; exact rfl; intro _) | (apply VL_build; (repeat (first | exact parts_nil | (apply parts_cons; exact rfl))); exact bld_frag0; exact rfl) | refine s1 ?_ | refine s2 ?_ | refine s3 ?_ | refine s4 ?_ | refine s5 ?_ | refine s6 ?_ | refine s7 ?_ | refine s8 ?_ | refine s9 ?_ | refine s10 ?_ | refine s11 ?_ | refine s12 ?_ | refine s13 ?_ | refine s14 ?_ | refine s26 ?_ | refine s27 ?_ | refine s28 ?_ | (refine s29 ?_; intro _ _) | refine s30 ?_ | refine s31 ?_ | refine s32 ?_ | (refine s33 ?_; intro _ _) | (refine s34 ?_; intro _ _) | (refine s35 ?_; intro _ _) | refine s36 ?_ | refine s37 ?_ | refine s38 ?_ | refine s39 ?_ | refine s40 ?_ | refine s41 ?_ | refine s42 ?_ | refine s43 ?_ | refine s44 ?_ | refine s45 ?_ | refine s46 ?_ | refine s47 ?_ | (refine s48 ?_; intro _ _) | refine s49 ?_ | refine s50 ?_ | (refine s51 ?_; intro _) | (refine s52 ?_; intro _) | refine s53 ?_ | refine s54 ?_ | refine s55 ?_ | refine s56 ?_ | refine s57 ?_ | refine s58 ?_ | refine s59 ?_ | refine s60 ?_ | refine s61 ?_ | refine s62 ?_ | refine s63 ?_ | refine s64 ?_ | refine s65 ?_ | refine s66 ?_ | refine s67 ?_ | refine s68 ?_ | refine s69 ?_ | refine s70 ?_ | refine s71 ?_ | refine s72 ?_ | refine s73 ?_ | refine s74 ?_ | refine s75 ?_ | refine s76 ?_ ?_ | refine s77 ?_ | refine s78 ?_ | refine s79 ?_ | ((first | refine s15 ?_ ?_ | refine s16 ?_ ?_ | refine s17 ?_ ?_ | refine s18 ?_ ?_ | refine s19 ?_ ?_ | refine s20 ?_ ?_ | refine s25 ?_ ?_) <;> intro _ <;> try (exfalso; omega)) | ((first | refine s21 ?_ ?_ | refine s22 ?_ ?_) <;> intro _ _ <;> try (exfalso; omega)) | ((first | refine s23 ?_ ?_ | refine s24 ?_ ?_) <;> intro _))
  · rename_i g0 h4
    obtain ⟨e1, e2⟩ := dec_short (data := data) (by omega)
    rw [e1, e2]
    apply VQ_retc2 T; exact rfl; exact rfl; exact rfl; exact .head _; exact rfl; exact rfl; exact fun w hw => hw.tail
    exact ⟨rfl, rfl⟩
  rename_i g0 h4
  have h5 : ¬ data.size < 4 := by omega
  have hz := size_hd4 (data := data) (by omega)
  have hb1 : dTag data < 2 ^ 8 := Bm.rdN_lt _ _ _
  have hb2 : dIdx data < 2 ^ 5 := Bm.rdN_lt _ _ _
  have hb3 : dCnt data < 2 ^ 5 := Bm.rdN_lt _ _ _
  have hb4 : dSize data < 2 ^ 12 := Bm.rdN_lt _ _ _
  apply VL_call _ en50
  (repeat (first | exact args_nil | (apply args_cons; exact rfl)))
  exact rfl
  exact fun _ hw => (rdNew_spec (hd4 data) (by omega) (hw))
  rintro _ _ ⟨g, rfl, rfl⟩
  repeat' (first | refine s1 ?_ | refine s2 ?_ | refine s3 ?_ | refine s4 ?_ | refine s5 ?_ | refine s6 ?_ | refine s7 ?_ | refine s8 ?_ | refine s9 ?_ | refine s10 ?_ | refine s11 ?_ | refine s12 ?_ | refine s13 ?_ | refine s14 ?_ | refine s26 ?_ | refine s27 ?_ | refine s28 ?_ | (refine s29 ?_; intro _ _) | refine s30 ?_ | refine s31 ?_ | refine s32 ?_ | (refine s33 ?_; intro _ _) | (refine s34 ?_; intro _ _) | (refine s35 ?_; intro _ _) | refine s36 ?_ | refine s37 ?_ | refine s38 ?_ | refine s39 ?_ | refine s40 ?_ | refine s41 ?_ | refine s42 ?_ | refine s43 ?_ | refine s44 ?_ | refine s45 ?_ | refine s46 ?_ | refine s47 ?_ | (refine s48 ?_; intro _ _) | refine s49 ?_ | refine s50 ?_ | (refine s51 ?_; intro _) | (refine s52 ?_; intro _) | refine s53 ?_ | refine s54 ?_ | refine s55 ?_ | refine s56 ?_ | refine s57 ?_ | refine s58 ?_ | refine s59 ?_ | refine s60 ?_ | refine s61 ?_ | refine s62 ?_ | refine s63 ?_ | refine s64 ?_ | refine s65 ?_ | refine s66 ?_ | refine s67 ?_ | refine s68 ?_ | refine s69 ?_ | refine s70 ?_ | refine s71 ?_ | refine s72 ?_ | refine s73 ?_ | refine s74 ?_ | refine s75 ?_ | refine s76 ?_ ?_ | refine s77 ?_ | refine s78 ?_ | refine s79 ?_ | ((first | refine s15 ?_ ?_ | refine s16 ?_ ?_ | refine s17 ?_ ?_ | refine s18 ?_ ?_ | refine s19 ?_ ?_ | refine s20 ?_ ?_ | refine s25 ?_ ?_) <;> intro _ <;> try (exfalso; omega)) | ((first | refine s21 ?_ ?_ | refine s22 ?_ ?_) <;> intro _ _ <;> try (exfalso; omega)) | ((first | refine s23 ?_ ?_ | refine s24 ?_ ?_) <;> intro _))
  apply VL_call _ en51
  (repeat (first | exact args_nil | (apply args_cons; exact rfl)))
  exact rfl
  exact fun _ hw => (rdUns_spec g (hd4 data) 0 8 (by omega) (by omega) (by omega) (by omega) (hw))
  rintro _ _ ⟨rfl, rfl⟩
  repeat' (first | (apply VL_alloc; exact z23; exact rfl; exact rfl; intro _) | (apply VL_build; (repeat (first | exact parts_nil | (apply parts_cons; exact rfl))); exact bld_frag1 _; exact rfl) | refine s1 ?_ | refine s2 ?_ | refine s3 ?_ | refine s4 ?_ | refine s5 ?_ | refine s6 ?_ | refine s7 ?_ | refine s8 ?_ | refine s9 ?_ | refine s10 ?_ | refine s11 ?_ | refine s12 ?_ | refine s13 ?_ | refine s14 ?_ | refine s26 ?_ | refine s27 ?_ | refine s28 ?_ | (refine s29 ?_; intro _ _) | refine s30 ?_ | refine s31 ?_ | refine s32 ?_ | (refine s33 ?_; intro _ _) | (refine s34 ?_; intro _ _) | (refine s35 ?_; intro _ _) | refine s36 ?_ | refine s37 ?_ | refine s38 ?_ | refine s39 ?_ | refine s40 ?_ | refine s41 ?_ | refine s42 ?_ | refine s43 ?_ | refine s44 ?_ | refine s45 ?_ | refine s46 ?_ | refine s47 ?_ | (refine s48 ?_; intro _ _) | refine s49 ?_ | refine s50 ?_ | (refine s51 ?_; intro _) | (refine s52 ?_; intro _) | refine s53 ?_ | refine s54 ?_ | refine s55 ?_ | refine s56 ?_ | refine s57 ?_ | refine s58 ?_ | refine s59 ?_ | refine s60 ?_ | refine s61 ?_ | refine s62 ?_ | refine s63 ?_ | refine s64 ?_ | refine s65 ?_ | refine s66 ?_ | refine s67 ?_ | refine s68 ?_ | refine s69 ?_ | refine s70 ?_ | refine s71 ?_ | refine s72 ?_ | refine s73 ?_ | refine s74 ?_ | refine s75 ?_ | refine s76 ?_ ?_ | refine s77 ?_ | refine s78 ?_ | refine s79 ?_ | ((first | refine s15 ?_ ?_ | refine s16 ?_ ?_ | refine s17 ?_ ?_ | refine s18 ?_ ?_ | refine s19 ?_ ?_ | refine s20 ?_ ?_ | refine s25 ?_ ?_) <;> intro _ <;> try (exfalso; omega)) | ((first | refine s21 ?_ ?_ | refine s22 ?_ ?_) <;> intro _ _ <;> try (exfalso; omega)) | ((first | refine s23 ?_ ?_ | refine s24 ?_ ?_) <;> intro _))
  rename_i g1
  apply VL_call _ en51
  (repeat (first | exact args_nil | (apply args_cons; exact rfl)))
  exact rfl
  exact fun _ hw => (rdUns_spec g (hd4 data) (0 + 8) 5 (by omega) (by omega) (by omega) (by omega) (hw.front 1))
  rintro _ _ ⟨rfl, rfl⟩
  repeat' (first | refine s1 ?_ | refine s2 ?_ | refine s3 ?_ | refine s4 ?_ | refine s5 ?_ | refine s6 ?_ | refine s7 ?_ | refine s8 ?_ | refine s9 ?_ | refine s10 ?_ | refine s11 ?_ | refine s12 ?_ | refine s13 ?_ | refine s14 ?_ | refine s26 ?_ | refine s27 ?_ | refine s28 ?_ | (refine s29 ?_; intro _ _) | refine s30 ?_ | refine s31 ?_ | refine s32 ?_ | (refine s33 ?_; intro _ _) | (refine s34 ?_; intro _ _) | (refine s35 ?_; intro _ _) | refine s36 ?_ | refine s37 ?_ | refine s38 ?_ | refine s39 ?_ | refine s40 ?_ | refine s41 ?_ | refine s42 ?_ | refine s43 ?_ | refine s44 ?_ | refine s45 ?_ | refine s46 ?_ | refine s47 ?_ | (refine s48 ?_; intro _ _) | refine s49 ?_ | refine s50 ?_ | (refine s51 ?_; intro _) | (refine s52 ?_; intro _) | refine s53 ?_ | refine s54 ?_ | refine s55 ?_ | refine s56 ?_ | refine s57 ?_ | refine s58 ?_ | refine s59 ?_ | refine s60 ?_ | refine s61 ?_ | refine s62 ?_ | refine s63 ?_ | refine s64 ?_ | refine s65 ?_ | refine s66 ?_ | refine s67 ?_ | refine s68 ?_ | refine s69 ?_ | refine s70 ?_ | refine s71 ?_ | refine s72 ?_ | refine s73 ?_ | refine s74 ?_ | refine s75 ?_ | refine s76 ?_ ?_ | refine s77 ?_ | refine s78 ?_ | refine s79 ?_ | ((first | refine s15 ?_ ?_ | refine s16 ?_ ?_ | refine s17 ?_ ?_ | refine s18 ?_ ?_ | refine s19 ?_ ?_ | refine s20 ?_ ?_ | refine s25 ?_ ?_) <;> intro _ <;> try (exfalso; omega)) | ((first | refine s21 ?_ ?_ | refine s22 ?_ ?_) <;> intro _ _ <;> try (exfalso; omega)) | ((first | refine s23 ?_ ?_ | refine s24 ?_ ?_) <;> intro _))
  apply VL_call _ en51
  (repeat (first | exact args_nil | (apply args_cons; exact rfl)))
  exact rfl
  exact fun _ hw => (rdUns_spec g (hd4 data) (0 + 8 + 5) 5 (by omega) (by omega) (by omega) (by omega) (hw))
  rintro _ _ ⟨rfl, rfl⟩
  rw [show Bm.rdN (hd4 data) (0 + 8 + 5) 5 = dCnt data from rfl]
  repeat' (first | refine s1 ?_ | refine s2 ?_ | refine s3 ?_ | refine s4 ?_ | refine s5 ?_ | refine s6 ?_ | refine s7 ?_ | refine s8 ?_ | refine s9 ?_ | refine s10 ?_ | refine s11 ?_ | refine s12 ?_ | refine s13 ?_ | refine s14 ?_ | refine s26 ?_ | refine s27 ?_ | refine s28 ?_ | (refine s29 ?_; intro _ _) | refine s30 ?_ | refine s31 ?_ | refine s32 ?_ | (refine s33 ?_; intro _ _) | (refine s34 ?_; intro _ _) | (refine s35 ?_; intro _ _) | refine s36 ?_ | refine s37 ?_ | refine s38 ?_ | refine s39 ?_ | refine s40 ?_ | refine s41 ?_ | refine s42 ?_ | refine s43 ?_ | refine s44 ?_ | refine s45 ?_ | refine s46 ?_ | refine s47 ?_ | (refine s48 ?_; intro _ _) | refine s49 ?_ | refine s50 ?_ | (refine s51 ?_; intro _) | (refine s52 ?_; intro _) | refine s53 ?_ | refine s54 ?_ | refine s55 ?_ | refine s56 ?_ | refine s57 ?_ | refine s58 ?_ | refine s59 ?_ | refine s60 ?_ | refine s61 ?_ | refine s62 ?_ | refine s63 ?_ | refine s64 ?_ | refine s65 ?_ | refine s66 ?_ | refine s67 ?_ | refine s68 ?_ | refine s69 ?_ | refine s70 ?_ | refine s71 ?_ | refine s72 ?_ | refine s73 ?_ | refine s74 ?_ | refine s75 ?_ | refine s76 ?_ ?_ | refine s77 ?_ | refine s78 ?_ | refine s79 ?_ | ((first | refine s15 ?_ ?_ | refine s16 ?_ ?_ | refine s17 ?_ ?_ | refine s18 ?_ ?_ | refine s19 ?_ ?_ | refine s20 ?_ ?_ | refine s25 ?_ ?_) <;> intro _ <;> try (exfalso; omega)) | ((first | refine s21 ?_ ?_ | refine s22 ?_ ?_) <;> intro _ _ <;> try (exfalso; omega)) | ((first | refine s23 ?_ ?_ | refine s24 ?_ ?_) <;> intro _))
  apply VL_call _ en51
  (repeat (first | exact args_nil | (apply args_cons; exact rfl)))
  exact rfl
  exact fun _ hw => (rdUns_spec g (hd4 data) (0 + 8 + 5 + 5) 12 (by omega) (by omega) (by omega) (by omega) (hw))
  rintro _ _ ⟨rfl, rfl⟩
  repeat' (first | refine s1 ?_ | refine s2 ?_ | refine s3 ?_ | refine s4 ?_ | refine s5 ?_ | refine s6 ?_ | refine s7 ?_ | refine s8 ?_ | refine s9 ?_ | refine s10 ?_ | refine s11 ?_ | refine s12 ?_ | refine s13 ?_ | refine s14 ?_ | refine s26 ?_ | refine s27 ?_ | refine s28 ?_ | (refine s29 ?_; intro _ _) | refine s30 ?_ | refine s31 ?_ | refine s32 ?_ | (refine s33 ?_; intro _ _) | (refine s34 ?_; intro _ _) | (refine s35 ?_; intro _ _) | refine s36 ?_ | refine s37 ?_ | refine s38 ?_ | refine s39 ?_ | refine s40 ?_ | refine s41 ?_ | refine s42 ?_ | refine s43 ?_ | refine s44 ?_ | refine s45 ?_ | refine s46 ?_ | refine s47 ?_ | (refine s48 ?_; intro _ _) | refine s49 ?_ | refine s50 ?_ | (refine s51 ?_; intro _) | (refine s52 ?_; intro _) | refine s53 ?_ | refine s54 ?_ | refine s55 ?_ | refine s56 ?_ | refine s57 ?_ | refine s58 ?_ | refine s59 ?_ | refine s60 ?_ | refine s61 ?_ | refine s62 ?_ | refine s63 ?_ | refine s64 ?_ | refine s65 ?_ | refine s66 ?_ | refine s67 ?_ | refine s68 ?_ | refine s69 ?_ | refine s70 ?_ | refine s71 ?_ | refine s72 ?_ | refine s73 ?_ | refine s74 ?_ | refine s75 ?_ | refine s76 ?_ ?_ | refine s77 ?_ | refine s78 ?_ | refine s79 ?_ | ((first | refine s15 ?_ ?_ | refine s16 ?_ ?_ | refine s17 ?_ ?_ | refine s18 ?_ ?_ | refine s19 ?_ ?_ | refine s20 ?_ ?_ | refine s25 ?_ ?_) <;> intro _ <;> try (exfalso; omega)) | ((first | refine s21 ?_ ?_ | refine s22 ?_ ?_) <;> intro _ _ <;> try (exfalso; omega)) | ((first | refine s23 ?_ ?_ | refine s24 ?_ ?_) <;> intro _))
  apply VL_call _ en52
  (repeat (first | exact args_nil | (apply args_cons; exact rfl)))
  exact rfl
  exact fun _ hw => (rdClose_spec g (hd4 data) (0 + 8 + 5 + 5 + 12) (by omega) (by omega) (by omega) (hw))
  rintro _ _ ⟨rfl, rfl⟩
  have fp : (dPad data = 0) = (Bm.rdN (hd4 data) (0 + 8 + 5 + 5 + 12) (8 * (hd4 data).size - (0 + 8 + 5 + 5 + 12)) = 0) := rfl
  have fq : (dPart data = 0) = (Fm.part (dTag data) (dIdx data) ((dCnt data : Int) + 1) (dSize data) (tl4 data).size = 0) := rfl
  by_cases hp : dPad data = 0
  · rw [if_pos (fp ▸ hp)]
    repeat' (first | refine s1 ?_ | refine s2 ?_ | refine s3 ?_ | refine s4 ?_ | refine s5 ?_ | refine s6 ?_ | refine s7 ?_ | refine s8 ?_ | refine s9 ?_ | refine s10 ?_ | refine s11 ?_ | refine s12 ?_ | refine s13 ?_ | refine s14 ?_ | refine s26 ?_ | refine s27 ?_ | refine s28 ?_ | (refine s29 ?_; intro _ _) | refine s30 ?_ | refine s31 ?_ | refine s32 ?_ | (refine s33 ?_; intro _ _) | (refine s34 ?_; intro _ _) | (refine s35 ?_; intro _ _) | refine s36 ?_ | refine s37 ?_ | refine s38 ?_ | refine s39 ?_ | refine s40 ?_ | refine s41 ?_ | refine s42 ?_ | refine s43 ?_ | refine s44 ?_ | refine s45 ?_ | refine s46 ?_ | refine s47 ?_ | (refine s48 ?_; intro _ _) | refine s49 ?_ | refine s50 ?_ | (refine s51 ?_; intro _) | (refine s52 ?_; intro _) | refine s53 ?_ | refine s54 ?_ | refine s55 ?_ | refine s56 ?_ | refine s57 ?_ | refine s58 ?_ | refine s59 ?_ | refine s60 ?_ | refine s61 ?_ | refine s62 ?_ | refine s63 ?_ | refine s64 ?_ | refine s65 ?_ | refine s66 ?_ | refine s67 ?_ | refine s68 ?_ | refine s69 ?_ | refine s70 ?_ | refine s71 ?_ | refine s72 ?_ | refine s73 ?_ | refine s74 ?_ | refine s75 ?_ | refine s76 ?_ ?_ | refine s77 ?_ | refine s78 ?_ | refine s79 ?_ | ((first | refine s15 ?_ ?_ | refine s16 ?_ ?_ | refine s17 ?_ ?_ | refine s18 ?_ ?_ | refine s19 ?_ ?_ | refine s20 ?_ ?_ | refine s25 ?_ ?_) <;> intro _ <;> try (exfalso; omega)) | ((first | refine s21 ?_ ?_ | refine s22 ?_ ?_) <;> intro _ _ <;> try (exfalso; omega)) | ((first | refine s23 ?_ ?_ | refine s24 ?_ ?_) <;> intro _))
    apply VL_call _ en17
    (repeat (first | exact args_nil | (apply args_cons; exact rfl)))
    exact rfl
    exact fun _ hw => (check_spec (dTag data) (dIdx data) ((dCnt data : Int) + 1) (dSize data) (tl4 data) (by simp [tl4]; omega) (hw))
    rintro _ _ ⟨rfl, rfl⟩
    by_cases hq : dPart data = 0
    · obtain ⟨e1, e2⟩ := dec_bad h5 hp hq
      rw [e1, e2, if_pos (fq ▸ hq)]
      repeat' (first | (apply VL_build; (repeat (first | exact parts_nil | (apply parts_cons; exact rfl))); exact bld_frag0; exact rfl) | refine s1 ?_ | refine s2 ?_ | refine s3 ?_ | refine s4 ?_ | refine s5 ?_ | refine s6 ?_ | refine s7 ?_ | refine s8 ?_ | refine s9 ?_ | refine s10 ?_ | refine s11 ?_ | refine s12 ?_ | refine s13 ?_ | refine s14 ?_ | refine s26 ?_ | refine s27 ?_ | refine s28 ?_ | (refine s29 ?_; intro _ _) | refine s30 ?_ | refine s31 ?_ | refine s32 ?_ | (refine s33 ?_; intro _ _) | (refine s34 ?_; intro _ _) | (refine s35 ?_; intro _ _) | refine s36 ?_ | refine s37 ?_ | refine s38 ?_ | refine s39 ?_ | refine s40 ?_ | refine s41 ?_ | refine s42 ?_ | refine s43 ?_ | refine s44 ?_ | refine s45 ?_ | refine s46 ?_ | refine s47 ?_ | (refine s48 ?_; intro _ _) | refine s49 ?_ | refine s50 ?_ | (refine s51 ?_; intro _) | (refine s52 ?_; intro _) | refine s53 ?_ | refine s54 ?_ | refine s55 ?_ | refine s56 ?_ | refine s57 ?_ | refine s58 ?_ | refine s59 ?_ | refine s60 ?_ | refine s61 ?_ | refine s62 ?_ | refine s63 ?_ | refine s64 ?_ | refine s65 ?_ | refine s66 ?_ | refine s67 ?_ | refine s68 ?_ | refine s69 ?_ | refine s70 ?_ | refine s71 ?_ | refine s72 ?_ | refine s73 ?_ | refine s74 ?_ | refine s75 ?_ | refine s76 ?_ ?_ | refine s77 ?_ | refine s78 ?_ | refine s79 ?_ | ((first | refine s15 ?_ ?_ | refine s16 ?_ ?_ | refine s17 ?_ ?_ | refine s18 ?_ ?_ | refine s19 ?_ ?_ | refine s20 ?_ ?_ | refine s25 ?_ ?_) <;> intro _ <;> try (exfalso; omega)) | ((first | refine s21 ?_ ?_ | refine s22 ?_ ?_) <;> intro _ _ <;> try (exfalso; omega)) | ((first | refine s23 ?_ ?_ | refine s24 ?_ ?_) <;> intro _))
      apply VQ_retc2 T; exact rfl; exact rfl; exact rfl; (repeat (first | with_reducible exact List.mem_cons_self | with_reducible apply List.mem_cons_of_mem)); exact rfl; exact rfl; exact fun w hw => hw.tail.tail.tail
      exact ⟨rfl, rfl⟩
    · obtain ⟨e1, e2⟩ := dec_ok h5 hp hq
      rw [e1, e2, if_neg (fq ▸ hq)]
      repeat' (first | refine s1 ?_ | refine s2 ?_ | refine s3 ?_ | refine s4 ?_ | refine s5 ?_ | refine s6 ?_ | refine s7 ?_ | refine s8 ?_ | refine s9 ?_ | refine s10 ?_ | refine s11 ?_ | refine s12 ?_ | refine s13 ?_ | refine s14 ?_ | refine s26 ?_ | refine s27 ?_ | refine s28 ?_ | (refine s29 ?_; intro _ _) | refine s30 ?_ | refine s31 ?_ | refine s32 ?_ | (refine s33 ?_; intro _ _) | (refine s34 ?_; intro _ _) | (refine s35 ?_; intro _ _) | refine s36 ?_ | refine s37 ?_ | refine s38 ?_ | refine s39 ?_ | refine s40 ?_ | refine s41 ?_ | refine s42 ?_ | refine s43 ?_ | refine s44 ?_ | refine s45 ?_ | refine s46 ?_ | refine s47 ?_ | (refine s48 ?_; intro _ _) | refine s49 ?_ | refine s50 ?_ | (refine s51 ?_; intro _) | (refine s52 ?_; intro _) | refine s53 ?_ | refine s54 ?_ | refine s55 ?_ | refine s56 ?_ | refine s57 ?_ | refine s58 ?_ | refine s59 ?_ | refine s60 ?_ | refine s61 ?_ | refine s62 ?_ | refine s63 ?_ | refine s64 ?_ | refine s65 ?_ | refine s66 ?_ | refine s67 ?_ | refine s68 ?_ | refine s69 ?_ | refine s70 ?_ | refine s71 ?_ | refine s72 ?_ | refine s73 ?_ | refine s74 ?_ | refine s75 ?_ | refine s76 ?_ ?_ | refine s77 ?_ | refine s78 ?_ | refine s79 ?_ | ((first | refine s15 ?_ ?_ | refine s16 ?_ ?_ | refine s17 ?_ ?_ | refine s18 ?_ ?_ | refine s19 ?_ ?_ | refine s20 ?_ ?_ | refine s25 ?_ ?_) <;> intro _ <;> try (exfalso; omega)) | ((first | refine s21 ?_ ?_ | refine s22 ?_ ?_) <;> intro _ _ <;> try (exfalso; omega)) | ((first | refine s23 ?_ ?_ | refine s24 ?_ ?_) <;> intro _))
      apply VQ_retc2 T; exact rfl; exact rfl; exact rfl; (repeat (first | with_reducible exact List.mem_cons_self | with_reducible apply List.mem_cons_of_mem)); exact rfl; exact rfl; exact fun w hw => hw.tail.tail.tail
      exact ⟨rfl, rfl⟩
  · obtain ⟨e1, e2⟩ := dec_pad h5 hp
    rw [if_neg (fp ▸ hp), e1, e2]
    repeat' (first | (apply VL_build; (repeat (first | exact parts_nil | (apply parts_cons; exact rfl))); exact bld_frag0; exact rfl) | refine s1 ?_ | refine s2 ?_ | refine s3 ?_ | refine s4 ?_ | refine s5 ?_ | refine s6 ?_ | refine s7 ?_ | refine s8 ?_ | refine s9 ?_ | refine s10 ?_ | refine s11 ?_ | refine s12 ?_ | refine s13 ?_ | refine s14 ?_ | refine s26 ?_ | refine s27 ?_ | refine s28 ?_ | (refine s29 ?_; intro _ _) | refine s30 ?_ | refine s31 ?_ | refine s32 ?_ | (refine s33 ?_; intro _ _) | (refine s34 ?_; intro _ _) | (refine s35 ?_; intro _ _) | refine s36 ?_ | refine s37 ?_ | refine s38 ?_ | refine s39 ?_ | refine s40 ?_ | refine s41 ?_ | refine s42 ?_ | refine s43 ?_ | refine s44 ?_ | refine s45 ?_ | refine s46 ?_ | refine s47 ?_ | (refine s48 ?_; intro _ _) | refine s49 ?_ | refine s50 ?_ | (refine s51 ?_; intro _) | (refine s52 ?_; intro _) | refine s53 ?_ | refine s54 ?_ | refine s55 ?_ | refine s56 ?_ | refine s57 ?_ | refine s58 ?_ | refine s59 ?_ | refine s60 ?_ | refine s61 ?_ | refine s62 ?_ | refine s63 ?_ | refine s64 ?_ | refine s65 ?_ | refine s66 ?_ | refine s67 ?_ | refine s68 ?_ | refine s69 ?_ | refine s70 ?_ | refine s71 ?_ | refine s72 ?_ | refine s73 ?_ | refine s74 ?_ | refine s75 ?_ | refine s76 ?_ ?_ | refine s77 ?_ | refine s78 ?_ | refine s79 ?_ | ((first | refine s15 ?_ ?_ | refine s16 ?_ ?_ | refine s17 ?_ ?_ | refine s18 ?_ ?_ | refine s19 ?_ ?_ | refine s20 ?_ ?_ | refine s25 ?_ ?_) <;> intro _ <;> try (exfalso; omega)) | ((first | refine s21 ?_ ?_ | refine s22 ?_ ?_) <;> intro _ _ <;> try (exfalso; omega)) | ((first | refine s23 ?_ ?_ | refine s24 ?_ ?_) <;> intro _))
    apply VQ_retc2 T; exact rfl; exact rfl; exact rfl; (repeat (first | with_reducible exact List.mem_cons_self | with_reducible apply List.mem_cons_of_mem)); exact rfl; exact rfl; exact fun w hw => hw.tail.tail.tail
    exact ⟨rfl, rfl⟩
end Go.Proofs.Ytfobgjhjigkigaa
