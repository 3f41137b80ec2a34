/- Walks: ContainsFunc with the closure of FragmentWhole. -/
import Derived.Test.YtfobgjhjigkigaaFw11
import Derived.Test.YtfobgjhjigkigaaWm
namespace Go.Proofs.Ytfobgjhjigkigaa
open Go.RowKit Go.Eng

/-- The entries of the map of what was seen: number and stamp. -/
def seenE (ks : List (Nat × Nat)) : Ents := ks.map fun p => ((p.1 : Int), .bool true, p.2)
def keysOf (ks : List (Nat × Nat)) : List Nat := ks.map (·.1)
theorem mget_out {ks : List (Nat × Nat)} {k : Nat} (h : k ∉ keysOf ks) : mget (seenE ks) k = none := by
  induction ks with
  | nil => rfl
  | cons p ks ih =>
    have h1 : p.1 ≠ k := fun e => h (by simp [keysOf, e])
    have h2 := ih fun e => h (by simp only [keysOf, List.map_cons, List.mem_cons]; exact .inr e)
    simp only [mget, seenE, List.map_cons, List.find?_cons] at h2 ⊢
    rw [show ((p.1 : Int) == (k : Int)) = false by simp; omega]
    exact h2
theorem mget_in {ks : List (Nat × Nat)} {k : Nat} (h : k ∈ keysOf ks) : mget (seenE ks) k = some (.bool true) := by
  induction ks with
  | nil => cases h
  | cons p ks ih =>
    by_cases h1 : p.1 = k
    · simp only [mget, seenE, List.map_cons, List.find?_cons]
      rw [show ((p.1 : Int) == (k : Int)) = true by simp [h1]]
      rfl
    · have h2 := ih (by
        simp only [keysOf, List.map_cons, List.mem_cons] at h
        exact h.elim (fun e => absurd e.symm h1) id)
      simp only [mget, seenE, List.map_cons, List.find?_cons] at h2 ⊢
      rw [show ((p.1 : Int) == (k : Int)) = false by simp; omega]
      exact h2

theorem z_bool (w : World) : (zeroValue 4).run Try.prog w = .ok (.bool false) w := by kernel_rfl

theorem seen1_spec (bx m clock : Nat) (ks : List (Nat × Nat)) (k : Nat) (hk : k ∉ keysOf ks) {B : Nat} {w0 : World} {H : List HP} {w : World} (h1 : blk bx (.cells #[.map (some m)] 43 (0, 0)) ∈ H) (h2 : blk m (mobj (seenE ks) clock) ∈ H) (hw : St B w0 H w) :
    Calls Try.prog 25 [.int .i64 k, .pointer (some ⟨bx, 0, none⟩)].toArray w (Post B w0 fun v K => v = .bool false ∧ K = H) := by
  refine Calls_of_VC Try.func25 Try.ntmps25 rfl rfl hw ?_
  have hg : mget (seenE ks) (k : Int) = none := mget_out hk
  repeat' (first | (apply VL_load T; exact rfl; exact h1; exact rfl; exact rfl; exact rfl) | (apply VL_lookup0 (kt := 3) (et := 4); exact rfl; exact rfl; exact h2; kernel_rfl; exact rfl; exact hg; exact z_bool) | apply (s1 ?_) | apply (s2 ?_) | apply (s3 ?_) | apply (s4 ?_) | apply (s5 ?_) | apply (s6 ?_) | apply (s7 ?_) | apply (s8 ?_) | apply (s9 ?_) | apply (s10 ?_) | apply (s11 ?_) | apply (s12 ?_) | apply (s13 ?_) | apply (s14 ?_) | apply (s26 ?_) | apply (s27 ?_) | apply (s28 ?_) | (apply (s29 ?_); intro _ _) | apply (s30 ?_) | apply (s31 ?_) | apply (s32 ?_) | (apply (s33 ?_); intro _ _) | (apply (s34 ?_); intro _ _) | (apply (s35 ?_); intro _ _) | apply (s36 ?_) | apply (s37 ?_) | apply (s38 ?_) | apply (s39 ?_) | apply (s40 ?_) | apply (s41 ?_) | apply (s42 ?_) | apply (s43 ?_) | apply (s44 ?_) | apply (s45 ?_) | apply (s46 ?_) | apply (s47 ?_) | (apply (s48 ?_); intro _ _) | apply (s49 ?_) | apply (s50 ?_) | (apply (s51 ?_); intro _) | (apply (s52 ?_); intro _) | apply (s53 ?_) | apply (s54 ?_) | apply (s55 ?_) | apply (s56 ?_) | apply (s57 ?_) | apply (s58 ?_) | apply (s59 ?_) | apply (s60 ?_) | apply (s61 ?_) | apply (s62 ?_) | apply (s63 ?_) | apply (s64 ?_) | apply (s65 ?_) | apply (s66 ?_) | apply (s67 ?_) | apply (s68 ?_) | apply (s69 ?_) | apply (s70 ?_) | apply (s71 ?_) | apply (s72 ?_) | apply (s73 ?_) | apply (s74 ?_) | apply (s75 ?_) | apply (s76 ?_ ?_) | apply (s77 ?_) | apply (s78 ?_) | apply (s79 ?_) | ((first | apply (s15 ?_ ?_) | apply (s16 ?_ ?_) | apply (s17 ?_ ?_) | apply (s18 ?_ ?_) | apply (s19 ?_ ?_) | apply (s20 ?_ ?_) | apply (s25 ?_ ?_)) <;> intro _ <;> try (exfalso; omega)) | ((first | apply (s21 ?_ ?_) | apply (s22 ?_ ?_)) <;> intro _ _ <;> try (exfalso; omega)) | ((first | apply (s23 ?_ ?_) | apply (s24 ?_ ?_)) <;> intro _))
  apply VQ_ret1; exact rfl; exact rfl
  exact ⟨rfl, rfl⟩

theorem idxSeen_spec (bx m clock : Nat) (ks : List (Nat × Nat)) (l : List Nat) {A : Option Addr} {cap : Nat} (hl : l.length ≤ 1000) (hall : ∀ x ∈ l, x ∉ keysOf ks) {B : Nat} {w0 : World} {H : List HP} {w : World} (h1 : blk bx (.cells #[.map (some m)] 43 (0, 0)) ∈ H) (h2 : blk m (mobj (seenE ks) clock) ∈ H)
    (h3 : sl 3 1 A l.length cap (intsOf l) ∈ H) (hw : St B w0 H w) :
    Calls Try.prog 49 [.slice A l.length cap, .func (.func 25) #[] #[.pointer (some ⟨bx, 0, none⟩)]].toArray w (Post B w0 fun v K => v = .int .i64 (-1) ∧ K = H) := by
  refine Calls_of_VC Try.func49 Try.ntmps49 rfl rfl hw ?_
  repeat' (first | apply (s1 ?_) | apply (s2 ?_) | apply (s3 ?_) | apply (s4 ?_) | apply (s5 ?_) | apply (s6 ?_) | apply (s7 ?_) | apply (s8 ?_) | apply (s9 ?_) | apply (s10 ?_) | apply (s11 ?_) | apply (s12 ?_) | apply (s13 ?_) | apply (s14 ?_) | apply (s26 ?_) | apply (s27 ?_) | apply (s28 ?_) | (apply (s29 ?_); intro _ _) | apply (s30 ?_) | apply (s31 ?_) | apply (s32 ?_) | (apply (s33 ?_); intro _ _) | (apply (s34 ?_); intro _ _) | (apply (s35 ?_); intro _ _) | apply (s36 ?_) | apply (s37 ?_) | apply (s38 ?_) | apply (s39 ?_) | apply (s40 ?_) | apply (s41 ?_) | apply (s42 ?_) | apply (s43 ?_) | apply (s44 ?_) | apply (s45 ?_) | apply (s46 ?_) | apply (s47 ?_) | (apply (s48 ?_); intro _ _) | apply (s49 ?_) | apply (s50 ?_) | (apply (s51 ?_); intro _) | (apply (s52 ?_); intro _) | apply (s53 ?_) | apply (s54 ?_) | apply (s55 ?_) | apply (s56 ?_) | apply (s57 ?_) | apply (s58 ?_) | apply (s59 ?_) | apply (s60 ?_) | apply (s61 ?_) | apply (s62 ?_) | apply (s63 ?_) | apply (s64 ?_) | apply (s65 ?_) | apply (s66 ?_) | apply (s67 ?_) | apply (s68 ?_) | apply (s69 ?_) | apply (s70 ?_) | apply (s71 ?_) | apply (s72 ?_) | apply (s73 ?_) | apply (s74 ?_) | apply (s75 ?_) | apply (s76 ?_ ?_) | apply (s77 ?_) | apply (s78 ?_) | apply (s79 ?_) | ((first | apply (s15 ?_ ?_) | apply (s16 ?_ ?_) | apply (s17 ?_ ?_) | apply (s18 ?_ ?_) | apply (s19 ?_ ?_) | apply (s20 ?_ ?_) | apply (s25 ?_ ?_)) <;> intro _ <;> try (exfalso; omega)) | ((first | apply (s21 ?_ ?_) | apply (s22 ?_ ?_)) <;> intro _ _ <;> try (exfalso; omega)) | ((first | apply (s23 ?_ ?_) | apply (s24 ?_ ?_)) <;> intro _))
  refine VC_loop1 (fun (k : Nat) => [(8, .int .i64 k), (7, .int .i64 l.length), (0, .slice A l.length cap), (1, .func (.func 25) #[] #[.pointer (some ⟨bx, 0, none⟩)])]) (fun _ => H) (fun k => k ≤ l.length) (fun k => l.length - k) 0 (Nat.zero_le _) ?_ (fun w hw => hw) ?_
  · (repeat (first | exact sub_nil _ | (apply sub_cons; first | exact rfl | exact congrArg (fun z : Int => some (Value.int .i64 z)) (by omega))))
  intro k hk K hK
  by_cases hlt : k < l.length
  · have hc : (intsOf l)[(k : Int).toNat * 1]? = some (.int .i64 (l[k] : Nat)) := by
      rw [show (k : Int).toNat * 1 = k by omega]; simp [intsOf, hlt]
    repeat' (first | (apply VL_index_sl T; exact rfl; exact h3; exact rfl; exact rfl; exact rfl; omega) | (apply VL_load_sl T; exact rfl; exact h3; exact rfl; exact rfl; exact hc) | apply (s1 ?_) | apply (s2 ?_) | apply (s3 ?_) | apply (s4 ?_) | apply (s5 ?_) | apply (s6 ?_) | apply (s7 ?_) | apply (s8 ?_) | apply (s9 ?_) | apply (s10 ?_) | apply (s11 ?_) | apply (s12 ?_) | apply (s13 ?_) | apply (s14 ?_) | apply (s26 ?_) | apply (s27 ?_) | apply (s28 ?_) | (apply (s29 ?_); intro _ _) | apply (s30 ?_) | apply (s31 ?_) | apply (s32 ?_) | (apply (s33 ?_); intro _ _) | (apply (s34 ?_); intro _ _) | (apply (s35 ?_); intro _ _) | apply (s36 ?_) | apply (s37 ?_) | apply (s38 ?_) | apply (s39 ?_) | apply (s40 ?_) | apply (s41 ?_) | apply (s42 ?_) | apply (s43 ?_) | apply (s44 ?_) | apply (s45 ?_) | apply (s46 ?_) | apply (s47 ?_) | (apply (s48 ?_); intro _ _) | apply (s49 ?_) | apply (s50 ?_) | (apply (s51 ?_); intro _) | (apply (s52 ?_); intro _) | apply (s53 ?_) | apply (s54 ?_) | apply (s55 ?_) | apply (s56 ?_) | apply (s57 ?_) | apply (s58 ?_) | apply (s59 ?_) | apply (s60 ?_) | apply (s61 ?_) | apply (s62 ?_) | apply (s63 ?_) | apply (s64 ?_) | apply (s65 ?_) | apply (s66 ?_) | apply (s67 ?_) | apply (s68 ?_) | apply (s69 ?_) | apply (s70 ?_) | apply (s71 ?_) | apply (s72 ?_) | apply (s73 ?_) | apply (s74 ?_) | apply (s75 ?_) | apply (s76 ?_ ?_) | apply (s77 ?_) | apply (s78 ?_) | apply (s79 ?_) | ((first | apply (s15 ?_ ?_) | apply (s16 ?_ ?_) | apply (s17 ?_ ?_) | apply (s18 ?_ ?_) | apply (s19 ?_ ?_) | apply (s20 ?_ ?_) | apply (s25 ?_ ?_)) <;> intro _ <;> try (exfalso; omega)) | ((first | apply (s21 ?_ ?_) | apply (s22 ?_ ?_)) <;> intro _ _ <;> try (exfalso; omega)) | ((first | apply (s23 ?_ ?_) | apply (s24 ?_ ?_)) <;> intro _))
    apply VL_callv (fun v K => v = .bool false ∧ K = H) (cs := [.pointer (some ⟨bx, 0, none⟩)])
    · exact rfl
    · exact en25
    · (repeat (first | exact args_nil | (apply args_cons; exact rfl)))
    · exact rfl
    · exact fun _ hw => seen1_spec bx m clock ks l[k] (hall _ (List.getElem_mem hlt)) h1 h2 hw
    rintro _ _ ⟨rfl, rfl⟩
    repeat' (first | apply (s1 ?_) | apply (s2 ?_) | apply (s3 ?_) | apply (s4 ?_) | apply (s5 ?_) | apply (s6 ?_) | apply (s7 ?_) | apply (s8 ?_) | apply (s9 ?_) | apply (s10 ?_) | apply (s11 ?_) | apply (s12 ?_) | apply (s13 ?_) | apply (s14 ?_) | apply (s26 ?_) | apply (s27 ?_) | apply (s28 ?_) | (apply (s29 ?_); intro _ _) | apply (s30 ?_) | apply (s31 ?_) | apply (s32 ?_) | (apply (s33 ?_); intro _ _) | (apply (s34 ?_); intro _ _) | (apply (s35 ?_); intro _ _) | apply (s36 ?_) | apply (s37 ?_) | apply (s38 ?_) | apply (s39 ?_) | apply (s40 ?_) | apply (s41 ?_) | apply (s42 ?_) | apply (s43 ?_) | apply (s44 ?_) | apply (s45 ?_) | apply (s46 ?_) | apply (s47 ?_) | (apply (s48 ?_); intro _ _) | apply (s49 ?_) | apply (s50 ?_) | (apply (s51 ?_); intro _) | (apply (s52 ?_); intro _) | apply (s53 ?_) | apply (s54 ?_) | apply (s55 ?_) | apply (s56 ?_) | apply (s57 ?_) | apply (s58 ?_) | apply (s59 ?_) | apply (s60 ?_) | apply (s61 ?_) | apply (s62 ?_) | apply (s63 ?_) | apply (s64 ?_) | apply (s65 ?_) | apply (s66 ?_) | apply (s67 ?_) | apply (s68 ?_) | apply (s69 ?_) | apply (s70 ?_) | apply (s71 ?_) | apply (s72 ?_) | apply (s73 ?_) | apply (s74 ?_) | apply (s75 ?_) | apply (s76 ?_ ?_) | apply (s77 ?_) | apply (s78 ?_) | apply (s79 ?_) | ((first | apply (s15 ?_ ?_) | apply (s16 ?_ ?_) | apply (s17 ?_ ?_) | apply (s18 ?_ ?_) | apply (s19 ?_ ?_) | apply (s20 ?_ ?_) | apply (s25 ?_ ?_)) <;> intro _ <;> try (exfalso; omega)) | ((first | apply (s21 ?_ ?_) | apply (s22 ?_ ?_)) <;> intro _ _ <;> try (exfalso; omega)) | ((first | apply (s23 ?_ ?_) | apply (s24 ?_ ?_)) <;> intro _))
    apply hK (k + 1)
    · omega
    · omega
    · (repeat (first | exact sub_nil _ | (apply sub_cons; first | exact rfl | exact congrArg (fun z : Int => some (Value.int .i64 z)) (by omega))))
    · exact fun w hw => hw
  · repeat' (first | apply (s1 ?_) | apply (s2 ?_) | apply (s3 ?_) | apply (s4 ?_) | apply (s5 ?_) | apply (s6 ?_) | apply (s7 ?_) | apply (s8 ?_) | apply (s9 ?_) | apply (s10 ?_) | apply (s11 ?_) | apply (s12 ?_) | apply (s13 ?_) | apply (s14 ?_) | apply (s26 ?_) | apply (s27 ?_) | apply (s28 ?_) | (apply (s29 ?_); intro _ _) | apply (s30 ?_) | apply (s31 ?_) | apply (s32 ?_) | (apply (s33 ?_); intro _ _) | (apply (s34 ?_); intro _ _) | (apply (s35 ?_); intro _ _) | apply (s36 ?_) | apply (s37 ?_) | apply (s38 ?_) | apply (s39 ?_) | apply (s40 ?_) | apply (s41 ?_) | apply (s42 ?_) | apply (s43 ?_) | apply (s44 ?_) | apply (s45 ?_) | apply (s46 ?_) | apply (s47 ?_) | (apply (s48 ?_); intro _ _) | apply (s49 ?_) | apply (s50 ?_) | (apply (s51 ?_); intro _) | (apply (s52 ?_); intro _) | apply (s53 ?_) | apply (s54 ?_) | apply (s55 ?_) | apply (s56 ?_) | apply (s57 ?_) | apply (s58 ?_) | apply (s59 ?_) | apply (s60 ?_) | apply (s61 ?_) | apply (s62 ?_) | apply (s63 ?_) | apply (s64 ?_) | apply (s65 ?_) | apply (s66 ?_) | apply (s67 ?_) | apply (s68 ?_) | apply (s69 ?_) | apply (s70 ?_) | apply (s71 ?_) | apply (s72 ?_) | apply (s73 ?_) | apply (s74 ?_) | apply (s75 ?_) | apply (s76 ?_ ?_) | apply (s77 ?_) | apply (s78 ?_) | apply (s79 ?_) | ((first | apply (s15 ?_ ?_) | apply (s16 ?_ ?_) | apply (s17 ?_ ?_) | apply (s18 ?_ ?_) | apply (s19 ?_ ?_) | apply (s20 ?_ ?_) | apply (s25 ?_ ?_)) <;> intro _ <;> try (exfalso; omega)) | ((first | apply (s21 ?_ ?_) | apply (s22 ?_ ?_)) <;> intro _ _ <;> try (exfalso; omega)) | ((first | apply (s23 ?_ ?_) | apply (s24 ?_ ?_)) <;> intro _))
    apply VQ_ret1; exact rfl; exact rfl
    exact ⟨rfl, rfl⟩

theorem contSeen_spec (bx m clock : Nat) (ks : List (Nat × Nat)) (l : List Nat) {A : Option Addr} {cap : Nat} (hl : l.length ≤ 1000) (hall : ∀ x ∈ l, x ∉ keysOf ks) {B : Nat} {w0 : World} {H : List HP} {w : World} (h1 : blk bx (.cells #[.map (some m)] 43 (0, 0)) ∈ H) (h2 : blk m (mobj (seenE ks) clock) ∈ H)
    (h3 : sl 3 1 A l.length cap (intsOf l) ∈ H) (hw : St B w0 H w) :
    Calls Try.prog 24 [.slice A l.length cap, .func (.func 25) #[] #[.pointer (some ⟨bx, 0, none⟩)]].toArray w (Post B w0 fun v K => v = .bool false ∧ K = H) := by
  refine Calls_of_VC Try.func24 Try.ntmps24 rfl rfl hw ?_
  repeat' (first | apply (s1 ?_) | apply (s2 ?_) | apply (s3 ?_) | apply (s4 ?_) | apply (s5 ?_) | apply (s6 ?_) | apply (s7 ?_) | apply (s8 ?_) | apply (s9 ?_) | apply (s10 ?_) | apply (s11 ?_) | apply (s12 ?_) | apply (s13 ?_) | apply (s14 ?_) | apply (s26 ?_) | apply (s27 ?_) | apply (s28 ?_) | (apply (s29 ?_); intro _ _) | apply (s30 ?_) | apply (s31 ?_) | apply (s32 ?_) | (apply (s33 ?_); intro _ _) | (apply (s34 ?_); intro _ _) | (apply (s35 ?_); intro _ _) | apply (s36 ?_) | apply (s37 ?_) | apply (s38 ?_) | apply (s39 ?_) | apply (s40 ?_) | apply (s41 ?_) | apply (s42 ?_) | apply (s43 ?_) | apply (s44 ?_) | apply (s45 ?_) | apply (s46 ?_) | apply (s47 ?_) | (apply (s48 ?_); intro _ _) | apply (s49 ?_) | apply (s50 ?_) | (apply (s51 ?_); intro _) | (apply (s52 ?_); intro _) | apply (s53 ?_) | apply (s54 ?_) | apply (s55 ?_) | apply (s56 ?_) | apply (s57 ?_) | apply (s58 ?_) | apply (s59 ?_) | apply (s60 ?_) | apply (s61 ?_) | apply (s62 ?_) | apply (s63 ?_) | apply (s64 ?_) | apply (s65 ?_) | apply (s66 ?_) | apply (s67 ?_) | apply (s68 ?_) | apply (s69 ?_) | apply (s70 ?_) | apply (s71 ?_) | apply (s72 ?_) | apply (s73 ?_) | apply (s74 ?_) | apply (s75 ?_) | apply (s76 ?_ ?_) | apply (s77 ?_) | apply (s78 ?_) | apply (s79 ?_) | ((first | apply (s15 ?_ ?_) | apply (s16 ?_ ?_) | apply (s17 ?_ ?_) | apply (s18 ?_ ?_) | apply (s19 ?_ ?_) | apply (s20 ?_ ?_) | apply (s25 ?_ ?_)) <;> intro _ <;> try (exfalso; omega)) | ((first | apply (s21 ?_ ?_) | apply (s22 ?_ ?_)) <;> intro _ _ <;> try (exfalso; omega)) | ((first | apply (s23 ?_ ?_) | apply (s24 ?_ ?_)) <;> intro _))
  apply VL_callt en49
  (repeat (first | exact args_nil | (apply args_cons; exact rfl)))
  exact rfl
  exact fun _ hw => idxSeen_spec bx m clock ks l hl hall h1 h2 h3 hw
  repeat' (first | apply (s1 ?_) | apply (s2 ?_) | apply (s3 ?_) | apply (s4 ?_) | apply (s5 ?_) | apply (s6 ?_) | apply (s7 ?_) | apply (s8 ?_) | apply (s9 ?_) | apply (s10 ?_) | apply (s11 ?_) | apply (s12 ?_) | apply (s13 ?_) | apply (s14 ?_) | apply (s26 ?_) | apply (s27 ?_) | apply (s28 ?_) | (apply (s29 ?_); intro _ _) | apply (s30 ?_) | apply (s31 ?_) | apply (s32 ?_) | (apply (s33 ?_); intro _ _) | (apply (s34 ?_); intro _ _) | (apply (s35 ?_); intro _ _) | apply (s36 ?_) | apply (s37 ?_) | apply (s38 ?_) | apply (s39 ?_) | apply (s40 ?_) | apply (s41 ?_) | apply (s42 ?_) | apply (s43 ?_) | apply (s44 ?_) | apply (s45 ?_) | apply (s46 ?_) | apply (s47 ?_) | (apply (s48 ?_); intro _ _) | apply (s49 ?_) | apply (s50 ?_) | (apply (s51 ?_); intro _) | (apply (s52 ?_); intro _) | apply (s53 ?_) | apply (s54 ?_) | apply (s55 ?_) | apply (s56 ?_) | apply (s57 ?_) | apply (s58 ?_) | apply (s59 ?_) | apply (s60 ?_) | apply (s61 ?_) | apply (s62 ?_) | apply (s63 ?_) | apply (s64 ?_) | apply (s65 ?_) | apply (s66 ?_) | apply (s67 ?_) | apply (s68 ?_) | apply (s69 ?_) | apply (s70 ?_) | apply (s71 ?_) | apply (s72 ?_) | apply (s73 ?_) | apply (s74 ?_) | apply (s75 ?_) | apply (s76 ?_ ?_) | apply (s77 ?_) | apply (s78 ?_) | apply (s79 ?_) | ((first | apply (s15 ?_ ?_) | apply (s16 ?_ ?_) | apply (s17 ?_ ?_) | apply (s18 ?_ ?_) | apply (s19 ?_ ?_) | apply (s20 ?_ ?_) | apply (s25 ?_ ?_)) <;> intro _ <;> try (exfalso; omega)) | ((first | apply (s21 ?_ ?_) | apply (s22 ?_ ?_)) <;> intro _ _ <;> try (exfalso; omega)) | ((first | apply (s23 ?_ ?_) | apply (s24 ?_ ?_)) <;> intro _))
  apply VQ_ret1; exact rfl; exact rfl
  exact ⟨rfl, rfl⟩
end Go.Proofs.Ytfobgjhjigkigaa
