/- Walk: the statement FragmentBack. -/
import Derived.Test.YtfobgjhjigkigaaFw11
import Derived.Test.YtfobgjhjigkigaaFw15
import Derived.Test.YtfobgjhjigkigaaDn
namespace Go.Proofs.Ytfobgjhjigkigaa
open Go.RowKit Go.Eng

theorem cnt_zero {tag most : Int} {size : Nat} (h : splitErr tag size most ≠ 0) : splitCnt tag size most = 0 := by unfold splitCnt; rw [if_neg h]

set_option maxRecDepth 10000 in
set_option maxHeartbeats 1000000 in
theorem back_spec (tag most : Int) (data : ByteArray) (hd : data.size ≤ 9223372036854775807) {B : Nat} {w0 : World} {H : List HP} {w : World} (hw : St B w0 H w) :
    Calls Try.prog 6 [.int .i64 tag, .string data, .int .i64 most].toArray w (Post B w0 fun v K => v = .bool true ∧ K = H) := by
  refine Calls_of_VC Try.func6 Try.ntmps6 rfl rfl hw ?_
  repeat' (first | refine s1 ?_ | refine s2 ?_ | refine s3 ?_ | refine s4 ?_ | refine s5 ?_ | refine s6 ?_ | refine s7 ?_ | refine s8 ?_ | refine s9 ?_ | refine s10 ?_ | refine s11 ?_ | refine s12 ?_ | refine s13 ?_ | refine s14 ?_ | refine s26 ?_ | refine s27 ?_ | refine s28 ?_ | (refine s29 ?_; intro _ _) | refine s30 ?_ | refine s31 ?_ | refine s32 ?_ | (refine s33 ?_; intro _ _) | (refine s34 ?_; intro _ _) | (refine s35 ?_; intro _ _) | refine s36 ?_ | refine s37 ?_ | refine s38 ?_ | refine s39 ?_ | refine s40 ?_ | refine s41 ?_ | refine s42 ?_ | refine s43 ?_ | refine s44 ?_ | refine s45 ?_ | refine s46 ?_ | refine s47 ?_ | (refine s48 ?_; intro _ _) | refine s49 ?_ | refine s50 ?_ | (refine s51 ?_; intro _) | (refine s52 ?_; intro _) | refine s53 ?_ | refine s54 ?_ | refine s55 ?_ | refine s56 ?_ | refine s57 ?_ | refine s58 ?_ | refine s59 ?_ | refine s60 ?_ | refine s61 ?_ | refine s62 ?_ | refine s63 ?_ | refine s64 ?_ | refine s65 ?_ | refine s66 ?_ | refine s67 ?_ | refine s68 ?_ | refine s69 ?_ | refine s70 ?_ | refine s71 ?_ | refine s72 ?_ | refine s73 ?_ | refine s74 ?_ | refine s75 ?_ | refine s76 ?_ ?_ | refine s77 ?_ | refine s78 ?_ | refine s79 ?_ | ((first | refine s15 ?_ ?_ | refine s16 ?_ ?_ | refine s17 ?_ ?_ | refine s18 ?_ ?_ | refine s19 ?_ ?_ | refine s20 ?_ ?_ | refine s25 ?_ ?_) <;> intro _ <;> try (exfalso; omega)) | ((first | refine s21 ?_ ?_ | refine s22 ?_ ?_) <;> intro _ _ <;> try (exfalso; omega)) | ((first | refine s23 ?_ ?_ | refine s24 ?_ ?_) <;> intro _))
  first | apply VL_callt en10 | apply VL_callq en10
  (repeat (first | exact args_nil | (apply args_cons; exact rfl)))
  exact rfl
  exact fun _ hw => (awake_spec hw)
  repeat' (first | refine s1 ?_ | refine s2 ?_ | refine s3 ?_ | refine s4 ?_ | refine s5 ?_ | refine s6 ?_ | refine s7 ?_ | refine s8 ?_ | refine s9 ?_ | refine s10 ?_ | refine s11 ?_ | refine s12 ?_ | refine s13 ?_ | refine s14 ?_ | refine s26 ?_ | refine s27 ?_ | refine s28 ?_ | (refine s29 ?_; intro _ _) | refine s30 ?_ | refine s31 ?_ | refine s32 ?_ | (refine s33 ?_; intro _ _) | (refine s34 ?_; intro _ _) | (refine s35 ?_; intro _ _) | refine s36 ?_ | refine s37 ?_ | refine s38 ?_ | refine s39 ?_ | refine s40 ?_ | refine s41 ?_ | refine s42 ?_ | refine s43 ?_ | refine s44 ?_ | refine s45 ?_ | refine s46 ?_ | refine s47 ?_ | (refine s48 ?_; intro _ _) | refine s49 ?_ | refine s50 ?_ | (refine s51 ?_; intro _) | (refine s52 ?_; intro _) | refine s53 ?_ | refine s54 ?_ | refine s55 ?_ | refine s56 ?_ | refine s57 ?_ | refine s58 ?_ | refine s59 ?_ | refine s60 ?_ | refine s61 ?_ | refine s62 ?_ | refine s63 ?_ | refine s64 ?_ | refine s65 ?_ | refine s66 ?_ | refine s67 ?_ | refine s68 ?_ | refine s69 ?_ | refine s70 ?_ | refine s71 ?_ | refine s72 ?_ | refine s73 ?_ | refine s74 ?_ | refine s75 ?_ | refine s76 ?_ ?_ | refine s77 ?_ | refine s78 ?_ | refine s79 ?_ | ((first | refine s15 ?_ ?_ | refine s16 ?_ ?_ | refine s17 ?_ ?_ | refine s18 ?_ ?_ | refine s19 ?_ ?_ | refine s20 ?_ ?_ | refine s25 ?_ ?_) <;> intro _ <;> try (exfalso; omega)) | ((first | refine s21 ?_ ?_ | refine s22 ?_ ?_) <;> intro _ _ <;> try (exfalso; omega)) | ((first | refine s23 ?_ ?_ | refine s24 ?_ ?_) <;> intro _))
  · apply VQ_ret1; exact rfl; exact rfl
    exact ⟨rfl, rfl⟩
  apply VL_callP [] _ en11
  (repeat (first | exact args_nil | (apply args_cons; exact rfl)))
  (repeat (first | with_reducible exact pull_nil | (with_reducible apply pull_cons; (repeat (first | with_reducible exact rem_here | with_reducible apply rem_there)))))
  (repeat (first | with_reducible exact app_nil | with_reducible apply app_cons))
  exact rfl
  exact fun _ hw => (split_spec tag most data (by omega) hw)
  rintro _ _ ⟨A, cap, rfl, rfl⟩
  have hcz := cnt_zero (tag := tag) (most := most) (size := data.size)
  have hok := @frag_ok tag most data
  have hla := @last_all tag most data
  have h32 := splitCnt_le tag data.size most
  rw [pieces_frs]
  obtain ⟨c, hc⟩ : ∃ c, splitCnt tag data.size most = c := ⟨_, rfl⟩
  obtain ⟨er, her⟩ : ∃ c, splitErr tag data.size most = c := ⟨_, rfl⟩
  obtain ⟨m, hm⟩ : ∃ m, most.toNat = m := ⟨_, rfl⟩
  rw [hc, her] at hcz hok
  rw [hc, her] at hla
  rw [hm] at hok hla ⊢
  rw [hc] at h32
  rw [hc, her]
  clear hc her
  by_cases h0 : er = 0
  rotate_left
  · rw [hcz h0]
    repeat' (first | refine s1 ?_ | refine s2 ?_ | refine s3 ?_ | refine s4 ?_ | refine s5 ?_ | refine s6 ?_ | refine s7 ?_ | refine s8 ?_ | refine s9 ?_ | refine s10 ?_ | refine s11 ?_ | refine s12 ?_ | refine s13 ?_ | refine s14 ?_ | refine s26 ?_ | refine s27 ?_ | refine s28 ?_ | (refine s29 ?_; intro _ _) | refine s30 ?_ | refine s31 ?_ | refine s32 ?_ | (refine s33 ?_; intro _ _) | (refine s34 ?_; intro _ _) | (refine s35 ?_; intro _ _) | refine s36 ?_ | refine s37 ?_ | refine s38 ?_ | refine s39 ?_ | refine s40 ?_ | refine s41 ?_ | refine s42 ?_ | refine s43 ?_ | refine s44 ?_ | refine s45 ?_ | refine s46 ?_ | refine s47 ?_ | (refine s48 ?_; intro _ _) | refine s49 ?_ | refine s50 ?_ | (refine s51 ?_; intro _) | (refine s52 ?_; intro _) | refine s53 ?_ | refine s54 ?_ | refine s55 ?_ | refine s56 ?_ | refine s57 ?_ | refine s58 ?_ | refine s59 ?_ | refine s60 ?_ | refine s61 ?_ | refine s62 ?_ | refine s63 ?_ | refine s64 ?_ | refine s65 ?_ | refine s66 ?_ | refine s67 ?_ | refine s68 ?_ | refine s69 ?_ | refine s70 ?_ | refine s71 ?_ | refine s72 ?_ | refine s73 ?_ | refine s74 ?_ | refine s75 ?_ | refine s76 ?_ ?_ | refine s77 ?_ | refine s78 ?_ | refine s79 ?_ | ((first | refine s15 ?_ ?_ | refine s16 ?_ ?_ | refine s17 ?_ ?_ | refine s18 ?_ ?_ | refine s19 ?_ ?_ | refine s20 ?_ ?_ | refine s25 ?_ ?_) <;> intro _ <;> try (exfalso; omega)) | ((first | refine s21 ?_ ?_ | refine s22 ?_ ?_) <;> intro _ _ <;> try (exfalso; omega)) | ((first | refine s23 ?_ ?_ | refine s24 ?_ ?_) <;> intro _))
    apply VQ_tail; apply VQ_ret1; exact rfl; exact rfl
    exact ⟨rfl, rfl⟩
  subst h0
  repeat' (first | refine s1 ?_ | refine s2 ?_ | refine s3 ?_ | refine s4 ?_ | refine s5 ?_ | refine s6 ?_ | refine s7 ?_ | refine s8 ?_ | refine s9 ?_ | refine s10 ?_ | refine s11 ?_ | refine s12 ?_ | refine s13 ?_ | refine s14 ?_ | refine s26 ?_ | refine s27 ?_ | refine s28 ?_ | (refine s29 ?_; intro _ _) | refine s30 ?_ | refine s31 ?_ | refine s32 ?_ | (refine s33 ?_; intro _ _) | (refine s34 ?_; intro _ _) | (refine s35 ?_; intro _ _) | refine s36 ?_ | refine s37 ?_ | refine s38 ?_ | refine s39 ?_ | refine s40 ?_ | refine s41 ?_ | refine s42 ?_ | refine s43 ?_ | refine s44 ?_ | refine s45 ?_ | refine s46 ?_ | refine s47 ?_ | (refine s48 ?_; intro _ _) | refine s49 ?_ | refine s50 ?_ | (refine s51 ?_; intro _) | (refine s52 ?_; intro _) | refine s53 ?_ | refine s54 ?_ | refine s55 ?_ | refine s56 ?_ | refine s57 ?_ | refine s58 ?_ | refine s59 ?_ | refine s60 ?_ | refine s61 ?_ | refine s62 ?_ | refine s63 ?_ | refine s64 ?_ | refine s65 ?_ | refine s66 ?_ | refine s67 ?_ | refine s68 ?_ | refine s69 ?_ | refine s70 ?_ | refine s71 ?_ | refine s72 ?_ | refine s73 ?_ | refine s74 ?_ | refine s75 ?_ | refine s76 ?_ ?_ | refine s77 ?_ | refine s78 ?_ | refine s79 ?_ | ((first | refine s15 ?_ ?_ | refine s16 ?_ ?_ | refine s17 ?_ ?_ | refine s18 ?_ ?_ | refine s19 ?_ ?_ | refine s20 ?_ ?_ | refine s25 ?_ ?_) <;> intro _ <;> try (exfalso; omega)) | ((first | refine s21 ?_ ?_ | refine s22 ?_ ?_) <;> intro _ _ <;> try (exfalso; omega)) | ((first | refine s23 ?_ ?_ | refine s24 ?_ ?_) <;> intro _))
  refine VC_loop1 (fun (k : Nat) => [(35, .int .i64 k), (34, .int .i64 c), (33, .slice A c cap), (9, .string (data.extract 0 (min (k * m) data.size))), (7, .slice A c cap), (0, .int .i64 tag), (1, .string data), (2, .int .i64 most)])
    (fun _ => sl 23 5 A c cap (frs ((List.range c).map (frOf tag data m c))) :: H) (fun k => k ≤ c) (fun k => c - k) 0 (Nat.zero_le _) ?_ (fun w hw => hw) ?_
  · rw [show min (0 * m) data.size = 0 by omega, show data.extract 0 0 = ⟨#[]⟩ by simp; rfl]
    (repeat (first | exact sub_nil _ | (apply sub_cons; first | exact rfl | exact congrArg (fun z : Int => some (Value.int .i64 z)) (by omega))))
  intro k hk K hK
  by_cases hlt : k < c
  · obtain ⟨p1, p2, p3⟩ := hok rfl hlt
    obtain ⟨q1, q2, q3⟩ := dec_enc p1
    have hsz : (piece data m k).size ≤ 5000 := by rw [size_piece]; omega
    have hap := take_piece data m k p3
    rw [Nat.min_eq_left p3]
    obtain ⟨s, hs⟩ : ∃ s, piece data m k = s := ⟨_, rfl⟩
    obtain ⟨en, hen⟩ : ∃ s, encOf tag k c data.size (piece data m k) = s := ⟨_, rfl⟩
    rw [hen] at q1 q2 q3
    rw [hs] at p1 p2 q2 q3 hsz hen hap
    have hf : ((List.range c).map (frOf tag data m c))[k]? = some (tag, (k : Int), (c : Int), (data.size : Int), s) := by
      rw [List.getElem?_map, List.getElem?_range hlt, ← hs]; rfl
    have hcel : ∀ i v, ([.int .i64 tag, .int .i64 k, .int .i64 c, .int .i64 data.size, .string s] : List Value)[i]? = some v → (frs ((List.range c).map (frOf tag data m c)))[(k : Int).toNat * 5 + i]? = some v := by
      intro i v hv
      have hi : i < 5 := by have := (List.getElem?_eq_some_iff.1 hv).1; simpa using this
      rw [show (k : Int).toNat = k by omega, frs_get _ k i hi, hf]
      exact hv
    have q4 : frc (decFr en) = [.int .i64 tag, .int .i64 k, .int .i64 c, .int .i64 data.size, .string s] := by rw [q2]; rfl
    repeat' (first | (apply VL_load_agg_sl T (vs := [.int .i64 tag, .int .i64 k, .int .i64 c, .int .i64 data.size, .string s]); exact rfl; (repeat (first | with_reducible exact List.mem_cons_self | with_reducible apply List.mem_cons_of_mem)); exact rfl; exact rfl; exact rfl; decide; exact hcel) | (apply VL_alloc; exact z23; exact rfl; exact rfl; intro _) | refine s1 ?_ | refine s2 ?_ | refine s3 ?_ | refine s4 ?_ | refine s5 ?_ | refine s6 ?_ | refine s7 ?_ | refine s8 ?_ | refine s9 ?_ | refine s10 ?_ | refine s11 ?_ | refine s12 ?_ | refine s13 ?_ | refine s14 ?_ | refine s26 ?_ | refine s27 ?_ | refine s28 ?_ | (refine s29 ?_; intro _ _) | refine s30 ?_ | refine s31 ?_ | refine s32 ?_ | (refine s33 ?_; intro _ _) | (refine s34 ?_; intro _ _) | (refine s35 ?_; intro _ _) | refine s36 ?_ | refine s37 ?_ | refine s38 ?_ | refine s39 ?_ | refine s40 ?_ | refine s41 ?_ | refine s42 ?_ | refine s43 ?_ | refine s44 ?_ | refine s45 ?_ | refine s46 ?_ | refine s47 ?_ | (refine s48 ?_; intro _ _) | refine s49 ?_ | refine s50 ?_ | (refine s51 ?_; intro _) | (refine s52 ?_; intro _) | refine s53 ?_ | refine s54 ?_ | refine s55 ?_ | refine s56 ?_ | refine s57 ?_ | refine s58 ?_ | refine s59 ?_ | refine s60 ?_ | refine s61 ?_ | refine s62 ?_ | refine s63 ?_ | refine s64 ?_ | refine s65 ?_ | refine s66 ?_ | refine s67 ?_ | refine s68 ?_ | refine s69 ?_ | refine s70 ?_ | refine s71 ?_ | refine s72 ?_ | refine s73 ?_ | refine s74 ?_ | refine s75 ?_ | refine s76 ?_ ?_ | refine s77 ?_ | refine s78 ?_ | refine s79 ?_ | ((first | refine s15 ?_ ?_ | refine s16 ?_ ?_ | refine s17 ?_ ?_ | refine s18 ?_ ?_ | refine s19 ?_ ?_ | refine s20 ?_ ?_ | refine s25 ?_ ?_) <;> intro _ <;> try (exfalso; omega)) | ((first | refine s21 ?_ ?_ | refine s22 ?_ ?_) <;> intro _ _ <;> try (exfalso; omega)) | ((first | refine s23 ?_ ?_ | refine s24 ?_ ?_) <;> intro _))
    apply VL_callP [] _ en13
    (repeat (first | exact args_nil | (apply args_cons; exact rfl)))
    (repeat (first | with_reducible exact pull_nil | (with_reducible apply pull_cons; (repeat (first | with_reducible exact rem_here | with_reducible apply rem_there)))))
    (repeat (first | with_reducible exact app_nil | with_reducible apply app_cons))
    exact rfl
    exact fun _ hw => (encode_spec tag k c data.size s (by omega) hw)
    rintro _ _ ⟨rfl, rfl⟩
    clear hok hla hcz hcel hf
    rw [if_neg p1, hen]
    repeat' (first | refine s1 ?_ | refine s2 ?_ | refine s3 ?_ | refine s4 ?_ | refine s5 ?_ | refine s6 ?_ | refine s7 ?_ | refine s8 ?_ | refine s9 ?_ | refine s10 ?_ | refine s11 ?_ | refine s12 ?_ | refine s13 ?_ | refine s14 ?_ | refine s26 ?_ | refine s27 ?_ | refine s28 ?_ | (refine s29 ?_; intro _ _) | refine s30 ?_ | refine s31 ?_ | refine s32 ?_ | (refine s33 ?_; intro _ _) | (refine s34 ?_; intro _ _) | (refine s35 ?_; intro _ _) | refine s36 ?_ | refine s37 ?_ | refine s38 ?_ | refine s39 ?_ | refine s40 ?_ | refine s41 ?_ | refine s42 ?_ | refine s43 ?_ | refine s44 ?_ | refine s45 ?_ | refine s46 ?_ | refine s47 ?_ | (refine s48 ?_; intro _ _) | refine s49 ?_ | refine s50 ?_ | (refine s51 ?_; intro _) | (refine s52 ?_; intro _) | refine s53 ?_ | refine s54 ?_ | refine s55 ?_ | refine s56 ?_ | refine s57 ?_ | refine s58 ?_ | refine s59 ?_ | refine s60 ?_ | refine s61 ?_ | refine s62 ?_ | refine s63 ?_ | refine s64 ?_ | refine s65 ?_ | refine s66 ?_ | refine s67 ?_ | refine s68 ?_ | refine s69 ?_ | refine s70 ?_ | refine s71 ?_ | refine s72 ?_ | refine s73 ?_ | refine s74 ?_ | refine s75 ?_ | refine s76 ?_ ?_ | refine s77 ?_ | refine s78 ?_ | refine s79 ?_ | ((first | refine s15 ?_ ?_ | refine s16 ?_ ?_ | refine s17 ?_ ?_ | refine s18 ?_ ?_ | refine s19 ?_ ?_ | refine s20 ?_ ?_ | refine s25 ?_ ?_) <;> intro _ <;> try (exfalso; omega)) | ((first | refine s21 ?_ ?_ | refine s22 ?_ ?_) <;> intro _ _ <;> try (exfalso; omega)) | ((first | refine s23 ?_ ?_ | refine s24 ?_ ?_) <;> intro _))
    apply VL_callP [] _ en26
    (repeat (first | exact args_nil | (apply args_cons; exact rfl)))
    (repeat (first | with_reducible exact pull_nil | (with_reducible apply pull_cons; (repeat (first | with_reducible exact rem_here | with_reducible apply rem_there)))))
    (repeat (first | with_reducible exact app_nil | with_reducible apply app_cons))
    exact rfl
    exact fun _ hw => (decode_spec en (by omega) hw)
    rintro _ _ ⟨rfl, rfl⟩
    rw [q1, q4]
    repeat' (first | (apply VL_alloc; exact z23; exact rfl; exact rfl; intro _) | refine s1 ?_ | refine s2 ?_ | refine s3 ?_ | refine s4 ?_ | refine s5 ?_ | refine s6 ?_ | refine s7 ?_ | refine s8 ?_ | refine s9 ?_ | refine s10 ?_ | refine s11 ?_ | refine s12 ?_ | refine s13 ?_ | refine s14 ?_ | refine s26 ?_ | refine s27 ?_ | refine s28 ?_ | (refine s29 ?_; intro _ _) | refine s30 ?_ | refine s31 ?_ | refine s32 ?_ | (refine s33 ?_; intro _ _) | (refine s34 ?_; intro _ _) | (refine s35 ?_; intro _ _) | refine s36 ?_ | refine s37 ?_ | refine s38 ?_ | refine s39 ?_ | refine s40 ?_ | refine s41 ?_ | refine s42 ?_ | refine s43 ?_ | refine s44 ?_ | refine s45 ?_ | refine s46 ?_ | refine s47 ?_ | (refine s48 ?_; intro _ _) | refine s49 ?_ | refine s50 ?_ | (refine s51 ?_; intro _) | (refine s52 ?_; intro _) | refine s53 ?_ | refine s54 ?_ | refine s55 ?_ | refine s56 ?_ | refine s57 ?_ | refine s58 ?_ | refine s59 ?_ | refine s60 ?_ | refine s61 ?_ | refine s62 ?_ | refine s63 ?_ | refine s64 ?_ | refine s65 ?_ | refine s66 ?_ | refine s67 ?_ | refine s68 ?_ | refine s69 ?_ | refine s70 ?_ | refine s71 ?_ | refine s72 ?_ | refine s73 ?_ | refine s74 ?_ | refine s75 ?_ | refine s76 ?_ ?_ | refine s77 ?_ | refine s78 ?_ | refine s79 ?_ | ((first | refine s15 ?_ ?_ | refine s16 ?_ ?_ | refine s17 ?_ ?_ | refine s18 ?_ ?_ | refine s19 ?_ ?_ | refine s20 ?_ ?_ | refine s25 ?_ ?_) <;> intro _ <;> try (exfalso; omega)) | ((first | refine s21 ?_ ?_ | refine s22 ?_ ?_) <;> intro _ _ <;> try (exfalso; omega)) | ((first | refine s23 ?_ ?_ | refine s24 ?_ ?_) <;> intro _))
    apply VL_callP [] _ en17
    (repeat (first | exact args_nil | (apply args_cons; exact rfl)))
    (repeat (first | with_reducible exact pull_nil | (with_reducible apply pull_cons; (repeat (first | with_reducible exact rem_here | with_reducible apply rem_there)))))
    (repeat (first | with_reducible exact app_nil | with_reducible apply app_cons))
    exact rfl
    exact fun _ hw => (check_spec tag k c data.size s (by omega) hw)
    rintro _ _ ⟨rfl, rfl⟩
    rw [if_neg p1]
    repeat' (first | (apply VL_aneq; exact rfl; exact rfl; exact rfl; kernel_rfl; exact rfl; (exact fun h => absurd rfl h); intro _) | (apply VL_neq; exact rfl; exact rfl; exact rfl; (exact fun h => absurd rfl h); intro _) | (apply VL_scat; exact rfl; exact rfl; exact rfl; simp; omega) | refine s1 ?_ | refine s2 ?_ | refine s3 ?_ | refine s4 ?_ | refine s5 ?_ | refine s6 ?_ | refine s7 ?_ | refine s8 ?_ | refine s9 ?_ | refine s10 ?_ | refine s11 ?_ | refine s12 ?_ | refine s13 ?_ | refine s14 ?_ | refine s26 ?_ | refine s27 ?_ | refine s28 ?_ | (refine s29 ?_; intro _ _) | refine s30 ?_ | refine s31 ?_ | refine s32 ?_ | (refine s33 ?_; intro _ _) | (refine s34 ?_; intro _ _) | (refine s35 ?_; intro _ _) | refine s36 ?_ | refine s37 ?_ | refine s38 ?_ | refine s39 ?_ | refine s40 ?_ | refine s41 ?_ | refine s42 ?_ | refine s43 ?_ | refine s44 ?_ | refine s45 ?_ | refine s46 ?_ | refine s47 ?_ | (refine s48 ?_; intro _ _) | refine s49 ?_ | refine s50 ?_ | (refine s51 ?_; intro _) | (refine s52 ?_; intro _) | refine s53 ?_ | refine s54 ?_ | refine s55 ?_ | refine s56 ?_ | refine s57 ?_ | refine s58 ?_ | refine s59 ?_ | refine s60 ?_ | refine s61 ?_ | refine s62 ?_ | refine s63 ?_ | refine s64 ?_ | refine s65 ?_ | refine s66 ?_ | refine s67 ?_ | refine s68 ?_ | refine s69 ?_ | refine s70 ?_ | refine s71 ?_ | refine s72 ?_ | refine s73 ?_ | refine s74 ?_ | refine s75 ?_ | refine s76 ?_ ?_ | refine s77 ?_ | refine s78 ?_ | refine s79 ?_ | ((first | refine s15 ?_ ?_ | refine s16 ?_ ?_ | refine s17 ?_ ?_ | refine s18 ?_ ?_ | refine s19 ?_ ?_ | refine s20 ?_ ?_ | refine s25 ?_ ?_) <;> intro _ <;> try (exfalso; omega)) | ((first | refine s21 ?_ ?_ | refine s22 ?_ ?_) <;> intro _ _ <;> try (exfalso; omega)) | ((first | refine s23 ?_ ?_ | refine s24 ?_ ?_) <;> intro _))
    apply hK (k + 1)
    · omega
    · omega
    · rw [← hap]
      (repeat (first | exact sub_nil _ | (apply sub_cons; first | exact rfl | exact congrArg (fun z : Int => some (Value.int .i64 z)) (by omega))))
    · exact fun w hw => hw.tail.tail
  · obtain rfl : k = c := by omega
    rw [Nat.min_eq_right (hla rfl), show data.extract 0 data.size = data by simp]
    repeat' (first | (apply VL_seql; exact rfl; exact rfl; exact rfl; rotate_left; exact fun h => absurd rfl h; intro _) | refine s1 ?_ | refine s2 ?_ | refine s3 ?_ | refine s4 ?_ | refine s5 ?_ | refine s6 ?_ | refine s7 ?_ | refine s8 ?_ | refine s9 ?_ | refine s10 ?_ | refine s11 ?_ | refine s12 ?_ | refine s13 ?_ | refine s14 ?_ | refine s26 ?_ | refine s27 ?_ | refine s28 ?_ | (refine s29 ?_; intro _ _) | refine s30 ?_ | refine s31 ?_ | refine s32 ?_ | (refine s33 ?_; intro _ _) | (refine s34 ?_; intro _ _) | (refine s35 ?_; intro _ _) | refine s36 ?_ | refine s37 ?_ | refine s38 ?_ | refine s39 ?_ | refine s40 ?_ | refine s41 ?_ | refine s42 ?_ | refine s43 ?_ | refine s44 ?_ | refine s45 ?_ | refine s46 ?_ | refine s47 ?_ | (refine s48 ?_; intro _ _) | refine s49 ?_ | refine s50 ?_ | (refine s51 ?_; intro _) | (refine s52 ?_; intro _) | refine s53 ?_ | refine s54 ?_ | refine s55 ?_ | refine s56 ?_ | refine s57 ?_ | refine s58 ?_ | refine s59 ?_ | refine s60 ?_ | refine s61 ?_ | refine s62 ?_ | refine s63 ?_ | refine s64 ?_ | refine s65 ?_ | refine s66 ?_ | refine s67 ?_ | refine s68 ?_ | refine s69 ?_ | refine s70 ?_ | refine s71 ?_ | refine s72 ?_ | refine s73 ?_ | refine s74 ?_ | refine s75 ?_ | refine s76 ?_ ?_ | refine s77 ?_ | refine s78 ?_ | refine s79 ?_ | ((first | refine s15 ?_ ?_ | refine s16 ?_ ?_ | refine s17 ?_ ?_ | refine s18 ?_ ?_ | refine s19 ?_ ?_ | refine s20 ?_ ?_ | refine s25 ?_ ?_) <;> intro _ <;> try (exfalso; omega)) | ((first | refine s21 ?_ ?_ | refine s22 ?_ ?_) <;> intro _ _ <;> try (exfalso; omega)) | ((first | refine s23 ?_ ?_ | refine s24 ?_ ?_) <;> intro _))
    apply VQ_tail; apply VQ_ret1; exact rfl; exact rfl
    exact ⟨rfl, rfl⟩
end Go.Proofs.Ytfobgjhjigkigaa
