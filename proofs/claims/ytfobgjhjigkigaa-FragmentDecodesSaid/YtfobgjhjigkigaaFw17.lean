/- Walk: the statement FragmentDecodes. -/
import Derived.Test.YtfobgjhjigkigaaFw11
import Derived.Test.YtfobgjhjigkigaaFw16
import Derived.Test.YtfobgjhjigkigaaDm
namespace Go.Proofs.Ytfobgjhjigkigaa
open Go.RowKit Go.Eng

theorem fr_size (data : ByteArray) : (decFr data).2.2.2.2.size ≤ data.size := by
  unfold decFr
  by_cases h : decErr data = 0
  · rw [if_pos h]; simp [tl4]
  · rw [if_neg h]; exact Nat.zero_le _
theorem fr_enc {data : ByteArray} (h : decErr data = 0) : Fm.part (decFr data).1 (decFr data).2.1 (decFr data).2.2.1 (decFr data).2.2.2.1 (decFr data).2.2.2.2.size ≠ 0 ∧ encOf (decFr data).1 (decFr data).2.1 (decFr data).2.2.1 (decFr data).2.2.2.1 (decFr data).2.2.2.2 = data := by
  have he := enc_dec h
  have hp : dPart data ≠ 0 := by
    intro h0
    unfold decErr at h
    rw [if_pos h0] at h
    split at h
    · cases h
    · split at h <;> cases h
  unfold decFr
  rw [if_pos h]
  exact ⟨hp, he⟩

set_option maxRecDepth 10000 in
theorem decodes_spec (data : ByteArray) (hd : data.size ≤ 9223372036854775807) {B : Nat} {w0 : World} {H : List HP} {w : World} (hw : St B w0 H w) :
    Calls Try.prog 5 [.string data].toArray w (Post B w0 fun v K => v = .bool true ∧ K = H) := by
  refine Calls_of_VC Try.func5 Try.ntmps5 rfl rfl hw ?_
  repeat' (first | refine s1 ?_ | refine s2 ?_ | refine s3 ?_ | refine s4 ?_ | refine s5 ?_ | refine s6 ?_ | refine s7 ?_ | refine s8 ?_ | refine s9 ?_ | refine s10 ?_ | refine s11 ?_ | refine s12 ?_ | refine s13 ?_ | refine s14 ?_ | refine s26 ?_ | refine s27 ?_ | refine s28 ?_ | (refine s29 ?_; intro _ _) | refine s30 ?_ | refine s31 ?_ | refine s32 ?_ | (refine s33 ?_; intro _ _) | (refine s34 ?_; intro _ _) | (refine s35 ?_; intro _ _) | refine s36 ?_ | refine s37 ?_ | refine s38 ?_ | refine s39 ?_ | refine s40 ?_ | refine s41 ?_ | refine s42 ?_ | refine s43 ?_ | refine s44 ?_ | refine s45 ?_ | refine s46 ?_ | refine s47 ?_ | (refine s48 ?_; intro _ _) | refine s49 ?_ | refine s50 ?_ | (refine s51 ?_; intro _) | (refine s52 ?_; intro _) | refine s53 ?_ | refine s54 ?_ | refine s55 ?_ | refine s56 ?_ | refine s57 ?_ | refine s58 ?_ | refine s59 ?_ | refine s60 ?_ | refine s61 ?_ | refine s62 ?_ | refine s63 ?_ | refine s64 ?_ | refine s65 ?_ | refine s66 ?_ | refine s67 ?_ | refine s68 ?_ | refine s69 ?_ | refine s70 ?_ | refine s71 ?_ | refine s72 ?_ | refine s73 ?_ | refine s74 ?_ | refine s75 ?_ | refine s76 ?_ ?_ | refine s77 ?_ | refine s78 ?_ | refine s79 ?_ | ((first | refine s15 ?_ ?_ | refine s16 ?_ ?_ | refine s17 ?_ ?_ | refine s18 ?_ ?_ | refine s19 ?_ ?_ | refine s20 ?_ ?_ | refine s25 ?_ ?_) <;> intro _ <;> try (exfalso; omega)) | ((first | refine s21 ?_ ?_ | refine s22 ?_ ?_) <;> intro _ _ <;> try (exfalso; omega)) | ((first | refine s23 ?_ ?_ | refine s24 ?_ ?_) <;> intro _))
  first | apply VL_callt en10 | apply VL_callq en10
  (repeat (first | exact args_nil | (apply args_cons; exact rfl)))
  exact rfl
  exact fun _ hw => (awake_spec hw)
  repeat' (first | refine s1 ?_ | refine s2 ?_ | refine s3 ?_ | refine s4 ?_ | refine s5 ?_ | refine s6 ?_ | refine s7 ?_ | refine s8 ?_ | refine s9 ?_ | refine s10 ?_ | refine s11 ?_ | refine s12 ?_ | refine s13 ?_ | refine s14 ?_ | refine s26 ?_ | refine s27 ?_ | refine s28 ?_ | (refine s29 ?_; intro _ _) | refine s30 ?_ | refine s31 ?_ | refine s32 ?_ | (refine s33 ?_; intro _ _) | (refine s34 ?_; intro _ _) | (refine s35 ?_; intro _ _) | refine s36 ?_ | refine s37 ?_ | refine s38 ?_ | refine s39 ?_ | refine s40 ?_ | refine s41 ?_ | refine s42 ?_ | refine s43 ?_ | refine s44 ?_ | refine s45 ?_ | refine s46 ?_ | refine s47 ?_ | (refine s48 ?_; intro _ _) | refine s49 ?_ | refine s50 ?_ | (refine s51 ?_; intro _) | (refine s52 ?_; intro _) | refine s53 ?_ | refine s54 ?_ | refine s55 ?_ | refine s56 ?_ | refine s57 ?_ | refine s58 ?_ | refine s59 ?_ | refine s60 ?_ | refine s61 ?_ | refine s62 ?_ | refine s63 ?_ | refine s64 ?_ | refine s65 ?_ | refine s66 ?_ | refine s67 ?_ | refine s68 ?_ | refine s69 ?_ | refine s70 ?_ | refine s71 ?_ | refine s72 ?_ | refine s73 ?_ | refine s74 ?_ | refine s75 ?_ | refine s76 ?_ ?_ | refine s77 ?_ | refine s78 ?_ | refine s79 ?_ | ((first | refine s15 ?_ ?_ | refine s16 ?_ ?_ | refine s17 ?_ ?_ | refine s18 ?_ ?_ | refine s19 ?_ ?_ | refine s20 ?_ ?_ | refine s25 ?_ ?_) <;> intro _ <;> try (exfalso; omega)) | ((first | refine s21 ?_ ?_ | refine s22 ?_ ?_) <;> intro _ _ <;> try (exfalso; omega)) | ((first | refine s23 ?_ ?_ | refine s24 ?_ ?_) <;> intro _))
  · apply VQ_ret1; exact rfl; exact rfl
    exact ⟨rfl, rfl⟩
  first | apply VL_callt en26 | apply VL_callq en26
  (repeat (first | exact args_nil | (apply args_cons; exact rfl)))
  exact rfl
  exact fun _ hw => (decode_spec data (by omega) hw)
  have hsz := fr_size data
  have hen := fr_enc (data := data)
  obtain ⟨⟨a, b, c, e, s⟩, hfr⟩ : ∃ x, decFr data = x := ⟨_, rfl⟩
  obtain ⟨er, her⟩ : ∃ x, decErr data = x := ⟨_, rfl⟩
  rw [hfr, her]
  rw [hfr] at hsz
  rw [hfr, her] at hen
  simp only at hsz hen
  repeat' (first | (apply VL_alloc; exact z23; exact rfl; exact rfl; intro _) | refine s1 ?_ | refine s2 ?_ | refine s3 ?_ | refine s4 ?_ | refine s5 ?_ | refine s6 ?_ | refine s7 ?_ | refine s8 ?_ | refine s9 ?_ | refine s10 ?_ | refine s11 ?_ | refine s12 ?_ | refine s13 ?_ | refine s14 ?_ | refine s26 ?_ | refine s27 ?_ | refine s28 ?_ | (refine s29 ?_; intro _ _) | refine s30 ?_ | refine s31 ?_ | refine s32 ?_ | (refine s33 ?_; intro _ _) | (refine s34 ?_; intro _ _) | (refine s35 ?_; intro _ _) | refine s36 ?_ | refine s37 ?_ | refine s38 ?_ | refine s39 ?_ | refine s40 ?_ | refine s41 ?_ | refine s42 ?_ | refine s43 ?_ | refine s44 ?_ | refine s45 ?_ | refine s46 ?_ | refine s47 ?_ | (refine s48 ?_; intro _ _) | refine s49 ?_ | refine s50 ?_ | (refine s51 ?_; intro _) | (refine s52 ?_; intro _) | refine s53 ?_ | refine s54 ?_ | refine s55 ?_ | refine s56 ?_ | refine s57 ?_ | refine s58 ?_ | refine s59 ?_ | refine s60 ?_ | refine s61 ?_ | refine s62 ?_ | refine s63 ?_ | refine s64 ?_ | refine s65 ?_ | refine s66 ?_ | refine s67 ?_ | refine s68 ?_ | refine s69 ?_ | refine s70 ?_ | refine s71 ?_ | refine s72 ?_ | refine s73 ?_ | refine s74 ?_ | refine s75 ?_ | refine s76 ?_ ?_ | refine s77 ?_ | refine s78 ?_ | refine s79 ?_ | ((first | refine s15 ?_ ?_ | refine s16 ?_ ?_ | refine s17 ?_ ?_ | refine s18 ?_ ?_ | refine s19 ?_ ?_ | refine s20 ?_ ?_ | refine s25 ?_ ?_) <;> intro _ <;> try (exfalso; omega)) | ((first | refine s21 ?_ ?_ | refine s22 ?_ ?_) <;> intro _ _ <;> try (exfalso; omega)) | ((first | refine s23 ?_ ?_ | refine s24 ?_ ?_) <;> intro _))
  rename_i g1
  first | apply VL_callt en27 | apply VL_callq en27
  (repeat (first | exact args_nil | (apply args_cons; exact rfl)))
  exact rfl
  exact fun _ hw => (rdecode_spec data (by omega) hw)
  rw [hfr, her]
  repeat' (first | (apply VL_alloc; exact z23; exact rfl; exact rfl; intro _) | (apply VL_aneq; exact rfl; exact rfl; exact rfl; kernel_rfl; exact rfl; (exact fun h => absurd rfl h); intro _) | (apply VL_neq; exact rfl; exact rfl; exact rfl; (exact fun h => absurd rfl h); intro _) | refine s1 ?_ | refine s2 ?_ | refine s3 ?_ | refine s4 ?_ | refine s5 ?_ | refine s6 ?_ | refine s7 ?_ | refine s8 ?_ | refine s9 ?_ | refine s10 ?_ | refine s11 ?_ | refine s12 ?_ | refine s13 ?_ | refine s14 ?_ | refine s26 ?_ | refine s27 ?_ | refine s28 ?_ | (refine s29 ?_; intro _ _) | refine s30 ?_ | refine s31 ?_ | refine s32 ?_ | (refine s33 ?_; intro _ _) | (refine s34 ?_; intro _ _) | (refine s35 ?_; intro _ _) | refine s36 ?_ | refine s37 ?_ | refine s38 ?_ | refine s39 ?_ | refine s40 ?_ | refine s41 ?_ | refine s42 ?_ | refine s43 ?_ | refine s44 ?_ | refine s45 ?_ | refine s46 ?_ | refine s47 ?_ | (refine s48 ?_; intro _ _) | refine s49 ?_ | refine s50 ?_ | (refine s51 ?_; intro _) | (refine s52 ?_; intro _) | refine s53 ?_ | refine s54 ?_ | refine s55 ?_ | refine s56 ?_ | refine s57 ?_ | refine s58 ?_ | refine s59 ?_ | refine s60 ?_ | refine s61 ?_ | refine s62 ?_ | refine s63 ?_ | refine s64 ?_ | refine s65 ?_ | refine s66 ?_ | refine s67 ?_ | refine s68 ?_ | refine s69 ?_ | refine s70 ?_ | refine s71 ?_ | refine s72 ?_ | refine s73 ?_ | refine s74 ?_ | refine s75 ?_ | refine s76 ?_ ?_ | refine s77 ?_ | refine s78 ?_ | refine s79 ?_ | ((first | refine s15 ?_ ?_ | refine s16 ?_ ?_ | refine s17 ?_ ?_ | refine s18 ?_ ?_ | refine s19 ?_ ?_ | refine s20 ?_ ?_ | refine s25 ?_ ?_) <;> intro _ <;> try (exfalso; omega)) | ((first | refine s21 ?_ ?_ | refine s22 ?_ ?_) <;> intro _ _ <;> try (exfalso; omega)) | ((first | refine s23 ?_ ?_ | refine s24 ?_ ?_) <;> intro _))
  first | apply VL_callt en13 | apply VL_callq en13
  (repeat (first | exact args_nil | (apply args_cons; exact rfl)))
  exact rfl
  exact fun _ hw => (encode_spec a b c e s (by omega) hw)
  by_cases h0 : er = 0
  · obtain ⟨h1, h2⟩ := hen h0
    rw [if_neg h1, h2, h0]
    repeat' (first | (apply VL_seql; exact rfl; exact rfl; exact rfl; rotate_left; exact fun h => absurd rfl h; intro _) | refine s1 ?_ | refine s2 ?_ | refine s3 ?_ | refine s4 ?_ | refine s5 ?_ | refine s6 ?_ | refine s7 ?_ | refine s8 ?_ | refine s9 ?_ | refine s10 ?_ | refine s11 ?_ | refine s12 ?_ | refine s13 ?_ | refine s14 ?_ | refine s26 ?_ | refine s27 ?_ | refine s28 ?_ | (refine s29 ?_; intro _ _) | refine s30 ?_ | refine s31 ?_ | refine s32 ?_ | (refine s33 ?_; intro _ _) | (refine s34 ?_; intro _ _) | (refine s35 ?_; intro _ _) | refine s36 ?_ | refine s37 ?_ | refine s38 ?_ | refine s39 ?_ | refine s40 ?_ | refine s41 ?_ | refine s42 ?_ | refine s43 ?_ | refine s44 ?_ | refine s45 ?_ | refine s46 ?_ | refine s47 ?_ | (refine s48 ?_; intro _ _) | refine s49 ?_ | refine s50 ?_ | (refine s51 ?_; intro _) | (refine s52 ?_; intro _) | refine s53 ?_ | refine s54 ?_ | refine s55 ?_ | refine s56 ?_ | refine s57 ?_ | refine s58 ?_ | refine s59 ?_ | refine s60 ?_ | refine s61 ?_ | refine s62 ?_ | refine s63 ?_ | refine s64 ?_ | refine s65 ?_ | refine s66 ?_ | refine s67 ?_ | refine s68 ?_ | refine s69 ?_ | refine s70 ?_ | refine s71 ?_ | refine s72 ?_ | refine s73 ?_ | refine s74 ?_ | refine s75 ?_ | refine s76 ?_ ?_ | refine s77 ?_ | refine s78 ?_ | refine s79 ?_ | ((first | refine s15 ?_ ?_ | refine s16 ?_ ?_ | refine s17 ?_ ?_ | refine s18 ?_ ?_ | refine s19 ?_ ?_ | refine s20 ?_ ?_ | refine s25 ?_ ?_) <;> intro _ <;> try (exfalso; omega)) | ((first | refine s21 ?_ ?_ | refine s22 ?_ ?_) <;> intro _ _ <;> try (exfalso; omega)) | ((first | refine s23 ?_ ?_ | refine s24 ?_ ?_) <;> intro _))
    apply VQ_tail; apply VQ_tail; apply VQ_ret1; exact rfl; exact rfl
    exact ⟨rfl, rfl⟩
  · repeat' (first | refine s1 ?_ | refine s2 ?_ | refine s3 ?_ | refine s4 ?_ | refine s5 ?_ | refine s6 ?_ | refine s7 ?_ | refine s8 ?_ | refine s9 ?_ | refine s10 ?_ | refine s11 ?_ | refine s12 ?_ | refine s13 ?_ | refine s14 ?_ | refine s26 ?_ | refine s27 ?_ | refine s28 ?_ | (refine s29 ?_; intro _ _) | refine s30 ?_ | refine s31 ?_ | refine s32 ?_ | (refine s33 ?_; intro _ _) | (refine s34 ?_; intro _ _) | (refine s35 ?_; intro _ _) | refine s36 ?_ | refine s37 ?_ | refine s38 ?_ | refine s39 ?_ | refine s40 ?_ | refine s41 ?_ | refine s42 ?_ | refine s43 ?_ | refine s44 ?_ | refine s45 ?_ | refine s46 ?_ | refine s47 ?_ | (refine s48 ?_; intro _ _) | refine s49 ?_ | refine s50 ?_ | (refine s51 ?_; intro _) | (refine s52 ?_; intro _) | refine s53 ?_ | refine s54 ?_ | refine s55 ?_ | refine s56 ?_ | refine s57 ?_ | refine s58 ?_ | refine s59 ?_ | refine s60 ?_ | refine s61 ?_ | refine s62 ?_ | refine s63 ?_ | refine s64 ?_ | refine s65 ?_ | refine s66 ?_ | refine s67 ?_ | refine s68 ?_ | refine s69 ?_ | refine s70 ?_ | refine s71 ?_ | refine s72 ?_ | refine s73 ?_ | refine s74 ?_ | refine s75 ?_ | refine s76 ?_ ?_ | refine s77 ?_ | refine s78 ?_ | refine s79 ?_ | ((first | refine s15 ?_ ?_ | refine s16 ?_ ?_ | refine s17 ?_ ?_ | refine s18 ?_ ?_ | refine s19 ?_ ?_ | refine s20 ?_ ?_ | refine s25 ?_ ?_) <;> intro _ <;> try (exfalso; omega)) | ((first | refine s21 ?_ ?_ | refine s22 ?_ ?_) <;> intro _ _ <;> try (exfalso; omega)) | ((first | refine s23 ?_ ?_ | refine s24 ?_ ?_) <;> intro _))
    all_goals (apply VQ_tail; apply VQ_tail; apply VQ_ret1; exact rfl; exact rfl; exact ⟨rfl, rfl⟩)
end Go.Proofs.Ytfobgjhjigkigaa
