/- Walk: the statement FragmentWhole. -/
import Derived.Test.YtfobgjhjigkigaaFw20
namespace Go.Proofs.Ytfobgjhjigkigaa
open Go.RowKit Go.Eng

structure Ws where
  i : Nat
  time : Int
  ds : List Dg
  clock : Nat
  ks : List (Nat × Nat)
  mc : Nat

theorem z_map (w : World) : (zeroValue 43).run Try.prog w = .ok (.map none) w := by kernel_rfl

theorem seen_len (ks : List (Nat × Nat)) : (seenE ks).length = ks.length := by simp [seenE]
theorem seen_new (ks : List (Nat × Nat)) (k mc : Nat) : seenE (ks ++ [(k, mc)]) = seenE ks ++ [((k : Int), .bool true, mc)] := by simp [seenE]
theorem seen_split {ks : List (Nat × Nat)} {k : Nat} (h : k ∈ keysOf ks) : ∃ l1 b l2, seenE ks = l1 ++ ((k : Int), .bool true, b) :: l2 ∧ ∀ e ∈ l1, e.1 ≠ (k : Int) := by
  induction ks with
  | nil => cases h
  | cons p ks ih =>
    by_cases hp : p.1 = k
    · refine ⟨[], p.2, seenE ks, ?_, fun e he => by cases he⟩
      simp [seenE, hp]
    · obtain ⟨l1, b, l2, h1, h2⟩ := ih (by
        simp only [keysOf, List.map_cons, List.mem_cons] at h
        rcases h with h | h
        · exact absurd h.symm hp
        · exact h)
      refine ⟨((p.1 : Int), .bool true, p.2) :: l1, b, l2, ?_, fun e he => ?_⟩
      · simp only [seenE, List.map_cons] at h1 ⊢
        rw [h1]; rfl
      · rcases List.mem_cons.1 he with rfl | he
        · show (p.1 : Int) ≠ k; omega
        · exact h2 e he

set_option maxRecDepth 10000 in
set_option maxHeartbeats 2000000 in
theorem whole_spec (data : ByteArray) (most : Int) (ord : List Nat) (hord : ∀ b ∈ ord, b < 256) (hd : data.size ≤ 9223372036854775807) (hol : ord.length ≤ 9223372036854775807) {A0 : Option Addr} {cap0 : Nat} {B : Nat} {w0 : World} {H : List HP} {w : World}
    (hr : Rd B w0 H A0 (ord.flatMap fun b : Nat => [Value.int .u8 (b : Int)])) (hw : St B w0 H w) :
    Calls Try.prog 4 [.string data, .int .i64 most, .slice A0 ord.length cap0].toArray w (Post B w0 fun v K => v = .bool true ∧ K = H) := by
  refine Calls_of_VC Try.func4 Try.ntmps4 rfl rfl hw ?_
  repeat' (first | apply (s1 ?_) | apply (s2 ?_) | apply (s3 ?_) | apply (s4 ?_) | apply (s5 ?_) | apply (s6 ?_) | apply (s7 ?_) | apply (s8 ?_) | apply (s9 ?_) | apply (s10 ?_) | apply (s11 ?_) | apply (s12 ?_) | apply (s13 ?_) | apply (s14 ?_) | apply (s26 ?_) | apply (s27 ?_) | apply (s28 ?_) | (apply (s29 ?_); intro _ _) | apply (s30 ?_) | apply (s31 ?_) | apply (s32 ?_) | (apply (s33 ?_); intro _ _) | (apply (s34 ?_); intro _ _) | (apply (s35 ?_); intro _ _) | apply (s36 ?_) | apply (s37 ?_) | apply (s38 ?_) | apply (s39 ?_) | apply (s40 ?_) | apply (s41 ?_) | apply (s42 ?_) | apply (s43 ?_) | apply (s44 ?_) | apply (s45 ?_) | apply (s46 ?_) | apply (s47 ?_) | (apply (s48 ?_); intro _ _) | apply (s49 ?_) | apply (s50 ?_) | (apply (s51 ?_); intro _) | (apply (s52 ?_); intro _) | apply (s53 ?_) | apply (s54 ?_) | apply (s55 ?_) | apply (s56 ?_) | apply (s57 ?_) | apply (s58 ?_) | apply (s59 ?_) | apply (s60 ?_) | apply (s61 ?_) | apply (s62 ?_) | apply (s63 ?_) | apply (s64 ?_) | apply (s65 ?_) | apply (s66 ?_) | apply (s67 ?_) | apply (s68 ?_) | apply (s69 ?_) | apply (s70 ?_) | apply (s71 ?_) | apply (s72 ?_) | apply (s73 ?_) | apply (s74 ?_) | apply (s75 ?_) | apply (s76 ?_ ?_) | apply (s77 ?_) | apply (s78 ?_) | apply (s79 ?_) | ((first | apply (s15 ?_ ?_) | apply (s16 ?_ ?_) | apply (s17 ?_ ?_) | apply (s18 ?_ ?_) | apply (s19 ?_ ?_) | apply (s20 ?_ ?_) | apply (s25 ?_ ?_)) <;> intro _ <;> try (exfalso; omega)) | ((first | apply (s21 ?_ ?_) | apply (s22 ?_ ?_)) <;> intro _ _ <;> try (exfalso; omega)) | ((first | apply (s23 ?_ ?_) | apply (s24 ?_ ?_)) <;> intro _))
  first | apply VL_callt en10 | apply VL_callq en10
  (repeat (first | exact args_nil | (apply args_cons; exact rfl)))
  exact rfl
  exact fun _ hw => (awake_spec hw)
  repeat' (first | apply (s1 ?_) | apply (s2 ?_) | apply (s3 ?_) | apply (s4 ?_) | apply (s5 ?_) | apply (s6 ?_) | apply (s7 ?_) | apply (s8 ?_) | apply (s9 ?_) | apply (s10 ?_) | apply (s11 ?_) | apply (s12 ?_) | apply (s13 ?_) | apply (s14 ?_) | apply (s26 ?_) | apply (s27 ?_) | apply (s28 ?_) | (apply (s29 ?_); intro _ _) | apply (s30 ?_) | apply (s31 ?_) | apply (s32 ?_) | (apply (s33 ?_); intro _ _) | (apply (s34 ?_); intro _ _) | (apply (s35 ?_); intro _ _) | apply (s36 ?_) | apply (s37 ?_) | apply (s38 ?_) | apply (s39 ?_) | apply (s40 ?_) | apply (s41 ?_) | apply (s42 ?_) | apply (s43 ?_) | apply (s44 ?_) | apply (s45 ?_) | apply (s46 ?_) | apply (s47 ?_) | (apply (s48 ?_); intro _ _) | apply (s49 ?_) | apply (s50 ?_) | (apply (s51 ?_); intro _) | (apply (s52 ?_); intro _) | apply (s53 ?_) | apply (s54 ?_) | apply (s55 ?_) | apply (s56 ?_) | apply (s57 ?_) | apply (s58 ?_) | apply (s59 ?_) | apply (s60 ?_) | apply (s61 ?_) | apply (s62 ?_) | apply (s63 ?_) | apply (s64 ?_) | apply (s65 ?_) | apply (s66 ?_) | apply (s67 ?_) | apply (s68 ?_) | apply (s69 ?_) | apply (s70 ?_) | apply (s71 ?_) | apply (s72 ?_) | apply (s73 ?_) | apply (s74 ?_) | apply (s75 ?_) | apply (s76 ?_ ?_) | apply (s77 ?_) | apply (s78 ?_) | apply (s79 ?_) | ((first | apply (s15 ?_ ?_) | apply (s16 ?_ ?_) | apply (s17 ?_ ?_) | apply (s18 ?_ ?_) | apply (s19 ?_ ?_) | apply (s20 ?_ ?_) | apply (s25 ?_ ?_)) <;> intro _ <;> try (exfalso; omega)) | ((first | apply (s21 ?_ ?_) | apply (s22 ?_ ?_)) <;> intro _ _ <;> try (exfalso; omega)) | ((first | apply (s23 ?_ ?_) | apply (s24 ?_ ?_)) <;> intro _))
  · apply VQ_ret1; exact rfl; exact rfl
    exact ⟨rfl, rfl⟩
  · apply VQ_ret1; exact rfl; exact rfl
    exact ⟨rfl, rfl⟩
  apply VL_callP [] _ en11
  (repeat (first | exact args_nil | (apply args_cons; exact rfl)))
  (repeat (first | with_reducible exact pull_nil | (with_reducible apply pull_cons; (repeat (first | with_reducible exact rem_here | with_reducible apply rem_there)))))
  (repeat (first | with_reducible exact app_nil | with_reducible apply app_cons))
  exact rfl
  exact fun _ hw => (split_spec 3 most data (by omega) hw)
  rintro _ _ ⟨A, cap, rfl, rfl⟩
  repeat' (first | apply (s1 ?_) | apply (s2 ?_) | apply (s3 ?_) | apply (s4 ?_) | apply (s5 ?_) | apply (s6 ?_) | apply (s7 ?_) | apply (s8 ?_) | apply (s9 ?_) | apply (s10 ?_) | apply (s11 ?_) | apply (s12 ?_) | apply (s13 ?_) | apply (s14 ?_) | apply (s26 ?_) | apply (s27 ?_) | apply (s28 ?_) | (apply (s29 ?_); intro _ _) | apply (s30 ?_) | apply (s31 ?_) | apply (s32 ?_) | (apply (s33 ?_); intro _ _) | (apply (s34 ?_); intro _ _) | (apply (s35 ?_); intro _ _) | apply (s36 ?_) | apply (s37 ?_) | apply (s38 ?_) | apply (s39 ?_) | apply (s40 ?_) | apply (s41 ?_) | apply (s42 ?_) | apply (s43 ?_) | apply (s44 ?_) | apply (s45 ?_) | apply (s46 ?_) | apply (s47 ?_) | (apply (s48 ?_); intro _ _) | apply (s49 ?_) | apply (s50 ?_) | (apply (s51 ?_); intro _) | (apply (s52 ?_); intro _) | apply (s53 ?_) | apply (s54 ?_) | apply (s55 ?_) | apply (s56 ?_) | apply (s57 ?_) | apply (s58 ?_) | apply (s59 ?_) | apply (s60 ?_) | apply (s61 ?_) | apply (s62 ?_) | apply (s63 ?_) | apply (s64 ?_) | apply (s65 ?_) | apply (s66 ?_) | apply (s67 ?_) | apply (s68 ?_) | apply (s69 ?_) | apply (s70 ?_) | apply (s71 ?_) | apply (s72 ?_) | apply (s73 ?_) | apply (s74 ?_) | apply (s75 ?_) | apply (s76 ?_ ?_) | apply (s77 ?_) | apply (s78 ?_) | apply (s79 ?_) | ((first | apply (s15 ?_ ?_) | apply (s16 ?_ ?_) | apply (s17 ?_ ?_) | apply (s18 ?_ ?_) | apply (s19 ?_ ?_) | apply (s20 ?_ ?_) | apply (s25 ?_ ?_)) <;> intro _ <;> try (exfalso; omega)) | ((first | apply (s21 ?_ ?_) | apply (s22 ?_ ?_)) <;> intro _ _ <;> try (exfalso; omega)) | ((first | apply (s23 ?_ ?_) | apply (s24 ?_ ?_)) <;> intro _))
  apply VL_callP [] _ en21
  (repeat (first | exact args_nil | (apply args_cons; exact rfl)))
  (repeat (first | with_reducible exact pull_nil | (with_reducible apply pull_cons; (repeat (first | with_reducible exact rem_here | with_reducible apply rem_there)))))
  (repeat (first | with_reducible exact app_nil | with_reducible apply app_cons))
  exact rfl
  exact fun _ hw => ((fun h => newReceiver_spec 100 h (by omega) (by omega)) hw)
  rintro _ _ ⟨r, mm, rfl, rfl⟩
  have hrecv := @whole_recv 3 data most
  have hoks := @frag_ok 3 most data
  have h32 := splitCnt_le 3 data.size most
  have hse1 : splitErr 3 data.size most = 0 → 1 ≤ splitCnt 3 data.size most := fun h => by
    have h1 := last_all h
    have h2 := splitErr_cnt h
    rcases Nat.eq_zero_or_pos (splitCnt 3 data.size most) with h3 | h3
    · rw [h3] at h1; omega
    · exact h3
  rw [pieces_frs]
  obtain ⟨c, hc⟩ : ∃ c, splitCnt 3 data.size most = c := ⟨_, rfl⟩
  obtain ⟨er, her⟩ : ∃ c, splitErr 3 data.size most = c := ⟨_, rfl⟩
  obtain ⟨m, hm⟩ : ∃ m, most.toNat = m := ⟨_, rfl⟩
  obtain ⟨pt, hp⟩ : ∃ c, ptOf 3 data.size most = c := ⟨_, rfl⟩
  rw [hc, her] at hrecv hoks hse1
  rw [hm] at hrecv hoks ⊢
  rw [hp] at hrecv
  rw [hc] at h32
  rw [hc, her]
  clear hc her hp
  by_cases h0 : er = 0
  rotate_left
  · repeat' (first | apply (s1 ?_) | apply (s2 ?_) | apply (s3 ?_) | apply (s4 ?_) | apply (s5 ?_) | apply (s6 ?_) | apply (s7 ?_) | apply (s8 ?_) | apply (s9 ?_) | apply (s10 ?_) | apply (s11 ?_) | apply (s12 ?_) | apply (s13 ?_) | apply (s14 ?_) | apply (s26 ?_) | apply (s27 ?_) | apply (s28 ?_) | (apply (s29 ?_); intro _ _) | apply (s30 ?_) | apply (s31 ?_) | apply (s32 ?_) | (apply (s33 ?_); intro _ _) | (apply (s34 ?_); intro _ _) | (apply (s35 ?_); intro _ _) | apply (s36 ?_) | apply (s37 ?_) | apply (s38 ?_) | apply (s39 ?_) | apply (s40 ?_) | apply (s41 ?_) | apply (s42 ?_) | apply (s43 ?_) | apply (s44 ?_) | apply (s45 ?_) | apply (s46 ?_) | apply (s47 ?_) | (apply (s48 ?_); intro _ _) | apply (s49 ?_) | apply (s50 ?_) | (apply (s51 ?_); intro _) | (apply (s52 ?_); intro _) | apply (s53 ?_) | apply (s54 ?_) | apply (s55 ?_) | apply (s56 ?_) | apply (s57 ?_) | apply (s58 ?_) | apply (s59 ?_) | apply (s60 ?_) | apply (s61 ?_) | apply (s62 ?_) | apply (s63 ?_) | apply (s64 ?_) | apply (s65 ?_) | apply (s66 ?_) | apply (s67 ?_) | apply (s68 ?_) | apply (s69 ?_) | apply (s70 ?_) | apply (s71 ?_) | apply (s72 ?_) | apply (s73 ?_) | apply (s74 ?_) | apply (s75 ?_) | apply (s76 ?_ ?_) | apply (s77 ?_) | apply (s78 ?_) | apply (s79 ?_) | ((first | apply (s15 ?_ ?_) | apply (s16 ?_ ?_) | apply (s17 ?_ ?_) | apply (s18 ?_ ?_) | apply (s19 ?_ ?_) | apply (s20 ?_ ?_) | apply (s25 ?_ ?_)) <;> intro _ <;> try (exfalso; omega)) | ((first | apply (s21 ?_ ?_) | apply (s22 ?_ ?_)) <;> intro _ _ <;> try (exfalso; omega)) | ((first | apply (s23 ?_ ?_) | apply (s24 ?_ ?_)) <;> intro _))
    apply VQ_tail; apply VQ_tail; apply VQ_tail; apply VQ_tail; apply VQ_ret1; exact rfl; exact rfl
    exact ⟨rfl, rfl⟩
  subst h0
  have hc1 := hse1 rfl
  repeat' (first | (apply VL_peql0; exact rfl; exact rfl; kernel_rfl) | (apply VL_makeMap; exact rfl; intro _) | (apply VL_alloc; exact z_map; exact rfl; exact rfl; intro _) | apply (s1 ?_) | apply (s2 ?_) | apply (s3 ?_) | apply (s4 ?_) | apply (s5 ?_) | apply (s6 ?_) | apply (s7 ?_) | apply (s8 ?_) | apply (s9 ?_) | apply (s10 ?_) | apply (s11 ?_) | apply (s12 ?_) | apply (s13 ?_) | apply (s14 ?_) | apply (s26 ?_) | apply (s27 ?_) | apply (s28 ?_) | (apply (s29 ?_); intro _ _) | apply (s30 ?_) | apply (s31 ?_) | apply (s32 ?_) | (apply (s33 ?_); intro _ _) | (apply (s34 ?_); intro _ _) | (apply (s35 ?_); intro _ _) | apply (s36 ?_) | apply (s37 ?_) | apply (s38 ?_) | apply (s39 ?_) | apply (s40 ?_) | apply (s41 ?_) | apply (s42 ?_) | apply (s43 ?_) | apply (s44 ?_) | apply (s45 ?_) | apply (s46 ?_) | apply (s47 ?_) | (apply (s48 ?_); intro _ _) | apply (s49 ?_) | apply (s50 ?_) | (apply (s51 ?_); intro _) | (apply (s52 ?_); intro _) | apply (s53 ?_) | apply (s54 ?_) | apply (s55 ?_) | apply (s56 ?_) | apply (s57 ?_) | apply (s58 ?_) | apply (s59 ?_) | apply (s60 ?_) | apply (s61 ?_) | apply (s62 ?_) | apply (s63 ?_) | apply (s64 ?_) | apply (s65 ?_) | apply (s66 ?_) | apply (s67 ?_) | apply (s68 ?_) | apply (s69 ?_) | apply (s70 ?_) | apply (s71 ?_) | apply (s72 ?_) | apply (s73 ?_) | apply (s74 ?_) | apply (s75 ?_) | apply (s76 ?_ ?_) | apply (s77 ?_) | apply (s78 ?_) | apply (s79 ?_) | ((first | apply (s15 ?_ ?_) | apply (s16 ?_ ?_) | apply (s17 ?_ ?_) | apply (s18 ?_ ?_) | apply (s19 ?_ ?_) | apply (s20 ?_ ?_) | apply (s25 ?_ ?_)) <;> intro _ <;> try (exfalso; omega)) | ((first | apply (s21 ?_ ?_) | apply (s22 ?_ ?_)) <;> intro _ _ <;> try (exfalso; omega)) | ((first | apply (s23 ?_ ?_) | apply (s24 ?_ ?_)) <;> intro _))
  rename_i _ _ _ sm bx
  have hinit : WsOk 3 data m c pt 0 0 [] 0 [] := ⟨⟨by omega, by omega⟩, ⟨by simp, by simp, (fun d hd => (by cases hd))⟩, (fun d hd => (by cases hd)), .inl ⟨rfl, rfl⟩⟩
  refine VC_loop1 (fun (x : Ws) => [(59, .int .i64 x.i), (58, .int .i64 ord.length), (57, .slice A0 ord.length cap0), (9, .pointer (some ⟨r, 0, none⟩)), (7, .slice A c cap), (11, .pointer (some ⟨bx, 0, none⟩)), (0, .string data)])
    (fun x => blk bx (.cells #[.map (some sm)] 43 (0, 0)) :: blk sm (mobj (seenE x.ks) x.mc) :: rpcs r mm 100 x.time x.ds x.clock (sl 23 5 A c cap (frs ((List.range c).map (frOf 3 data m c))) :: H))
    (fun x => x.i ≤ ord.length ∧ WsOk 3 data m c pt x.i x.time x.ds x.clock x.ks) (fun x => ord.length - x.i) ⟨0, 0, [], 0, [], 0⟩ ⟨Nat.zero_le _, hinit⟩ ?_ (fun w hw => hw) ?_
  · (repeat (first | exact sub_nil _ | (apply sub_cons; first | exact rfl | exact congrArg (fun z : Int => some (Value.int .i64 z)) (by omega))))
  clear hinit
  rintro ⟨i, time, ds, clock, ks, mc⟩ ⟨hi, hx⟩ K hK
  simp only at hi hx ⊢
  unfold rpcs
  by_cases hlt : i < ord.length
  · obtain ⟨b, hb⟩ : ∃ b, ord[i]? = some b := ⟨_, List.getElem?_eq_getElem hlt⟩
    have hb256 := hord b (List.mem_of_getElem? hb)
    have hkc : b % c < c := Nat.mod_lt _ (by omega)
    have hmod : ((b : Int) % (c : Int)) = ((b % c : Nat) : Int) := by omega
    obtain ⟨k, hk⟩ : ∃ k, b % c = k := ⟨_, rfl⟩
    rw [hk] at hkc hmod
    have hcel : ∀ i v, ([.int .i64 3, .int .i64 k, .int .i64 c, .int .i64 data.size, .string (piece data m k)] : List Value)[i]? = some v → (frs ((List.range c).map (frOf 3 data m c)))[(k : Int).toNat * 5 + i]? = some v := by
      intro i v hv
      have hi : i < 5 := by have := (List.getElem?_eq_some_iff.1 hv).1; simpa using this
      rw [show (k : Int).toNat = k by omega, frs_get _ k i hi, List.getElem?_map, List.getElem?_range hkc]
      exact hv
    repeat' (first | (apply VL_index_rd T (f := fun b : Nat => [Value.int .u8 (b : Int)]); exact rfl; exact rfl; (focus repeat (first | assumption | apply Rd.cons)); exact rfl; exact fun _ => rfl; exact rfl; exact rfl; omega) | (apply VL_load_rd0 T (f := fun b : Nat => [Value.int .u8 (b : Int)]) (b := b); exact rfl; (focus repeat (first | assumption | apply Rd.cons)); exact hb; exact fun _ => rfl; exact rfl; exact rfl; exact rfl; exact rfl) | ((apply VL_max2; exact rfl; exact rfl; exact rfl) <;> intro _ <;> try (exfalso; omega)) | apply (s1 ?_) | apply (s2 ?_) | apply (s3 ?_) | apply (s4 ?_) | apply (s5 ?_) | apply (s6 ?_) | apply (s7 ?_) | apply (s8 ?_) | apply (s9 ?_) | apply (s10 ?_) | apply (s11 ?_) | apply (s12 ?_) | apply (s13 ?_) | apply (s14 ?_) | apply (s26 ?_) | apply (s27 ?_) | apply (s28 ?_) | (apply (s29 ?_); intro _ _) | apply (s30 ?_) | apply (s31 ?_) | apply (s32 ?_) | (apply (s33 ?_); intro _ _) | (apply (s34 ?_); intro _ _) | (apply (s35 ?_); intro _ _) | apply (s36 ?_) | apply (s37 ?_) | apply (s38 ?_) | apply (s39 ?_) | apply (s40 ?_) | apply (s41 ?_) | apply (s42 ?_) | apply (s43 ?_) | apply (s44 ?_) | apply (s45 ?_) | apply (s46 ?_) | apply (s47 ?_) | (apply (s48 ?_); intro _ _) | apply (s49 ?_) | apply (s50 ?_) | (apply (s51 ?_); intro _) | (apply (s52 ?_); intro _) | apply (s53 ?_) | apply (s54 ?_) | apply (s55 ?_) | apply (s56 ?_) | apply (s57 ?_) | apply (s58 ?_) | apply (s59 ?_) | apply (s60 ?_) | apply (s61 ?_) | apply (s62 ?_) | apply (s63 ?_) | apply (s64 ?_) | apply (s65 ?_) | apply (s66 ?_) | apply (s67 ?_) | apply (s68 ?_) | apply (s69 ?_) | apply (s70 ?_) | apply (s71 ?_) | apply (s72 ?_) | apply (s73 ?_) | apply (s74 ?_) | apply (s75 ?_) | apply (s76 ?_ ?_) | apply (s77 ?_) | apply (s78 ?_) | apply (s79 ?_) | ((first | apply (s15 ?_ ?_) | apply (s16 ?_ ?_) | apply (s17 ?_ ?_) | apply (s18 ?_ ?_) | apply (s19 ?_ ?_) | apply (s20 ?_ ?_) | apply (s25 ?_ ?_)) <;> intro _ <;> try (exfalso; omega)) | ((first | apply (s21 ?_ ?_) | apply (s22 ?_ ?_)) <;> intro _ _ <;> try (exfalso; omega)) | ((first | apply (s23 ?_ ?_) | apply (s24 ?_ ?_)) <;> intro _))
    rw [hmod]
    by_cases hkk : k ∈ keysOf ks
    · have hg := mget_in hkk
      obtain ⟨l1, bb, l2, e1, e2⟩ := seen_split hkk
      repeat' (first | (apply VL_lookup1 (kt := 3) (et := 4); exact rfl; exact rfl; (repeat (first | with_reducible exact List.mem_cons_self | with_reducible apply List.mem_cons_of_mem)); kernel_rfl; exact rfl; exact hg) | apply (s1 ?_) | apply (s2 ?_) | apply (s3 ?_) | apply (s4 ?_) | apply (s5 ?_) | apply (s6 ?_) | apply (s7 ?_) | apply (s8 ?_) | apply (s9 ?_) | apply (s10 ?_) | apply (s11 ?_) | apply (s12 ?_) | apply (s13 ?_) | apply (s14 ?_) | apply (s26 ?_) | apply (s27 ?_) | apply (s28 ?_) | (apply (s29 ?_); intro _ _) | apply (s30 ?_) | apply (s31 ?_) | apply (s32 ?_) | (apply (s33 ?_); intro _ _) | (apply (s34 ?_); intro _ _) | (apply (s35 ?_); intro _ _) | apply (s36 ?_) | apply (s37 ?_) | apply (s38 ?_) | apply (s39 ?_) | apply (s40 ?_) | apply (s41 ?_) | apply (s42 ?_) | apply (s43 ?_) | apply (s44 ?_) | apply (s45 ?_) | apply (s46 ?_) | apply (s47 ?_) | (apply (s48 ?_); intro _ _) | apply (s49 ?_) | apply (s50 ?_) | (apply (s51 ?_); intro _) | (apply (s52 ?_); intro _) | apply (s53 ?_) | apply (s54 ?_) | apply (s55 ?_) | apply (s56 ?_) | apply (s57 ?_) | apply (s58 ?_) | apply (s59 ?_) | apply (s60 ?_) | apply (s61 ?_) | apply (s62 ?_) | apply (s63 ?_) | apply (s64 ?_) | apply (s65 ?_) | apply (s66 ?_) | apply (s67 ?_) | apply (s68 ?_) | apply (s69 ?_) | apply (s70 ?_) | apply (s71 ?_) | apply (s72 ?_) | apply (s73 ?_) | apply (s74 ?_) | apply (s75 ?_) | apply (s76 ?_ ?_) | apply (s77 ?_) | apply (s78 ?_) | apply (s79 ?_) | ((first | apply (s15 ?_ ?_) | apply (s16 ?_ ?_) | apply (s17 ?_ ?_) | apply (s18 ?_ ?_) | apply (s19 ?_ ?_) | apply (s20 ?_ ?_) | apply (s25 ?_ ?_)) <;> intro _ <;> try (exfalso; omega)) | ((first | apply (s21 ?_ ?_) | apply (s22 ?_ ?_)) <;> intro _ _ <;> try (exfalso; omega)) | ((first | apply (s23 ?_ ?_) | apply (s24 ?_ ?_)) <;> intro _))
      rw [e1]
      repeat' (first | (apply VL_mapOld (kt := 3) (et := 4); exact rfl; exact rfl; exact rfl; kernel_rfl; (repeat (first | with_reducible exact Upd.here _ | with_reducible apply Upd.there)); exact e2) | (apply VL_load_agg_sl T (vs := [.int .i64 3, .int .i64 k, .int .i64 c, .int .i64 data.size, .string (piece data m k)]); exact rfl; (repeat (first | with_reducible exact List.mem_cons_self | with_reducible apply List.mem_cons_of_mem)); exact rfl; exact rfl; exact rfl; decide; exact hcel) | apply (s1 ?_) | apply (s2 ?_) | apply (s3 ?_) | apply (s4 ?_) | apply (s5 ?_) | apply (s6 ?_) | apply (s7 ?_) | apply (s8 ?_) | apply (s9 ?_) | apply (s10 ?_) | apply (s11 ?_) | apply (s12 ?_) | apply (s13 ?_) | apply (s14 ?_) | apply (s26 ?_) | apply (s27 ?_) | apply (s28 ?_) | (apply (s29 ?_); intro _ _) | apply (s30 ?_) | apply (s31 ?_) | apply (s32 ?_) | (apply (s33 ?_); intro _ _) | (apply (s34 ?_); intro _ _) | (apply (s35 ?_); intro _ _) | apply (s36 ?_) | apply (s37 ?_) | apply (s38 ?_) | apply (s39 ?_) | apply (s40 ?_) | apply (s41 ?_) | apply (s42 ?_) | apply (s43 ?_) | apply (s44 ?_) | apply (s45 ?_) | apply (s46 ?_) | apply (s47 ?_) | (apply (s48 ?_); intro _ _) | apply (s49 ?_) | apply (s50 ?_) | (apply (s51 ?_); intro _) | (apply (s52 ?_); intro _) | apply (s53 ?_) | apply (s54 ?_) | apply (s55 ?_) | apply (s56 ?_) | apply (s57 ?_) | apply (s58 ?_) | apply (s59 ?_) | apply (s60 ?_) | apply (s61 ?_) | apply (s62 ?_) | apply (s63 ?_) | apply (s64 ?_) | apply (s65 ?_) | apply (s66 ?_) | apply (s67 ?_) | apply (s68 ?_) | apply (s69 ?_) | apply (s70 ?_) | apply (s71 ?_) | apply (s72 ?_) | apply (s73 ?_) | apply (s74 ?_) | apply (s75 ?_) | apply (s76 ?_ ?_) | apply (s77 ?_) | apply (s78 ?_) | apply (s79 ?_) | ((first | apply (s15 ?_ ?_) | apply (s16 ?_ ?_) | apply (s17 ?_ ?_) | apply (s18 ?_ ?_) | apply (s19 ?_ ?_) | apply (s20 ?_ ?_) | apply (s25 ?_ ?_)) <;> intro _ <;> try (exfalso; omega)) | ((first | apply (s21 ?_ ?_) | apply (s22 ?_ ?_)) <;> intro _ _ <;> try (exfalso; omega)) | ((first | apply (s23 ?_ ?_) | apply (s24 ?_ ?_)) <;> intro _))
      rw [← e1]
      apply VL_callP [blk r _, blk mm _, many _] _ en22
      (repeat (first | exact args_nil | (apply args_cons; exact rfl)))
      (repeat (first | with_reducible exact pull_nil | (with_reducible apply pull_cons; (repeat (first | with_reducible exact rem_here | with_reducible apply rem_there)))))
      (repeat (first | with_reducible exact app_nil | with_reducible apply app_cons))
      exact rfl
      exact fun _ hw => (hrecv r mm k mc rfl hkc (by omega) hx hw)
      rintro _ _ ⟨d', clock', rfl, rfl, hx'⟩
      rw [if_pos hkk] at hx'
      unfold wOut rpcs
      rw [if_neg (fun h : k ∉ keysOf ks ∧ ks.length + 1 = c => h.1 hkk)]
      obtain ⟨u1, u2, u3, u4, u5, u6, u7⟩ : d'.tag = 3 ∧ d'.cnt = c ∧ d'.size = data.size ∧ d'.part = pt ∧ 0 ≤ d'.last ∧ BitsAre d'.bm c (keysOf (ks)) ∧ ∀ j ∈ keysOf (ks), d'.parts.getD j ⟨#[]⟩ = piece data m j := by
        rcases hx'.dg with ⟨h1, _⟩ | ⟨d0, h1, h2⟩
        · cases h1
        · obtain rfl : d' = d0 := by simpa using h1
          exact h2
      have hfd : findD ([] ++ d' :: []) 3 = some d' := by simp [findD, u1]
      have hbm : d'.bm < 2 ^ c := u6.lt_pow
      have hbm2 : 2 ^ c ≤ 2 ^ 32 := Bm.pow_le c 32 h32
      obtain ⟨hme, hmo⟩ := miss_of_bits u6 hc1 h32
      have hcount := u6.miss
      have hkl : (keysOf (ks)).length = (ks).length := by simp [keysOf]
      have hsl := seen_len (ks)
      have hmiss : ∀ x ∈ missL d'.bm c, x ∉ keysOf (ks) := fun x hx hk' => by
        have h1 := ((mem_missL _ _ _).1 hx).2
        have h2 := (u6.iff x).2 hk'
        omega
      repeat' (first | (apply VL_bneq; exact rfl; exact rfl; exact rfl; kernel_rfl) | (apply VL_sneq0; exact rfl; exact rfl; (intro h _; exact absurd rfl h); intro _ _) | apply (s1 ?_) | apply (s2 ?_) | apply (s3 ?_) | apply (s4 ?_) | apply (s5 ?_) | apply (s6 ?_) | apply (s7 ?_) | apply (s8 ?_) | apply (s9 ?_) | apply (s10 ?_) | apply (s11 ?_) | apply (s12 ?_) | apply (s13 ?_) | apply (s14 ?_) | apply (s26 ?_) | apply (s27 ?_) | apply (s28 ?_) | (apply (s29 ?_); intro _ _) | apply (s30 ?_) | apply (s31 ?_) | apply (s32 ?_) | (apply (s33 ?_); intro _ _) | (apply (s34 ?_); intro _ _) | (apply (s35 ?_); intro _ _) | apply (s36 ?_) | apply (s37 ?_) | apply (s38 ?_) | apply (s39 ?_) | apply (s40 ?_) | apply (s41 ?_) | apply (s42 ?_) | apply (s43 ?_) | apply (s44 ?_) | apply (s45 ?_) | apply (s46 ?_) | apply (s47 ?_) | (apply (s48 ?_); intro _ _) | apply (s49 ?_) | apply (s50 ?_) | (apply (s51 ?_); intro _) | (apply (s52 ?_); intro _) | apply (s53 ?_) | apply (s54 ?_) | apply (s55 ?_) | apply (s56 ?_) | apply (s57 ?_) | apply (s58 ?_) | apply (s59 ?_) | apply (s60 ?_) | apply (s61 ?_) | apply (s62 ?_) | apply (s63 ?_) | apply (s64 ?_) | apply (s65 ?_) | apply (s66 ?_) | apply (s67 ?_) | apply (s68 ?_) | apply (s69 ?_) | apply (s70 ?_) | apply (s71 ?_) | apply (s72 ?_) | apply (s73 ?_) | apply (s74 ?_) | apply (s75 ?_) | apply (s76 ?_ ?_) | apply (s77 ?_) | apply (s78 ?_) | apply (s79 ?_) | ((first | apply (s15 ?_ ?_) | apply (s16 ?_ ?_) | apply (s17 ?_ ?_) | apply (s18 ?_ ?_) | apply (s19 ?_ ?_) | apply (s20 ?_ ?_) | apply (s25 ?_ ?_)) <;> intro _ <;> try (exfalso; omega)) | ((first | apply (s21 ?_ ?_) | apply (s22 ?_ ?_)) <;> intro _ _ <;> try (exfalso; omega)) | ((first | apply (s23 ?_ ?_) | apply (s24 ?_ ?_)) <;> intro _))
      apply VL_callP [blk r _, blk mm _, many _] _ en23
      (repeat (first | exact args_nil | (apply args_cons; exact rfl)))
      (repeat (first | with_reducible exact pull_nil | (with_reducible apply pull_cons; (repeat (first | with_reducible exact rem_here | with_reducible apply rem_there)))))
      (repeat (first | with_reducible exact app_nil | with_reducible apply app_cons))
      exact rfl
      exact fun _ hw => (bitmap_spec 100 i mm r [] d' [] clock' 3 hfd hw)
      rintro _ _ ⟨rfl, rfl⟩
      unfold rpcs
      repeat' (first | apply (s1 ?_) | apply (s2 ?_) | apply (s3 ?_) | apply (s4 ?_) | apply (s5 ?_) | apply (s6 ?_) | apply (s7 ?_) | apply (s8 ?_) | apply (s9 ?_) | apply (s10 ?_) | apply (s11 ?_) | apply (s12 ?_) | apply (s13 ?_) | apply (s14 ?_) | apply (s26 ?_) | apply (s27 ?_) | apply (s28 ?_) | (apply (s29 ?_); intro _ _) | apply (s30 ?_) | apply (s31 ?_) | apply (s32 ?_) | (apply (s33 ?_); intro _ _) | (apply (s34 ?_); intro _ _) | (apply (s35 ?_); intro _ _) | apply (s36 ?_) | apply (s37 ?_) | apply (s38 ?_) | apply (s39 ?_) | apply (s40 ?_) | apply (s41 ?_) | apply (s42 ?_) | apply (s43 ?_) | apply (s44 ?_) | apply (s45 ?_) | apply (s46 ?_) | apply (s47 ?_) | (apply (s48 ?_); intro _ _) | apply (s49 ?_) | apply (s50 ?_) | (apply (s51 ?_); intro _) | (apply (s52 ?_); intro _) | apply (s53 ?_) | apply (s54 ?_) | apply (s55 ?_) | apply (s56 ?_) | apply (s57 ?_) | apply (s58 ?_) | apply (s59 ?_) | apply (s60 ?_) | apply (s61 ?_) | apply (s62 ?_) | apply (s63 ?_) | apply (s64 ?_) | apply (s65 ?_) | apply (s66 ?_) | apply (s67 ?_) | apply (s68 ?_) | apply (s69 ?_) | apply (s70 ?_) | apply (s71 ?_) | apply (s72 ?_) | apply (s73 ?_) | apply (s74 ?_) | apply (s75 ?_) | apply (s76 ?_ ?_) | apply (s77 ?_) | apply (s78 ?_) | apply (s79 ?_) | ((first | apply (s15 ?_ ?_) | apply (s16 ?_ ?_) | apply (s17 ?_ ?_) | apply (s18 ?_ ?_) | apply (s19 ?_ ?_) | apply (s20 ?_ ?_) | apply (s25 ?_ ?_)) <;> intro _ <;> try (exfalso; omega)) | ((first | apply (s21 ?_ ?_) | apply (s22 ?_ ?_)) <;> intro _ _ <;> try (exfalso; omega)) | ((first | apply (s23 ?_ ?_) | apply (s24 ?_ ?_)) <;> intro _))
      apply VL_callP [] _ en15
      (repeat (first | exact args_nil | (apply args_cons; exact rfl)))
      (repeat (first | with_reducible exact pull_nil | (with_reducible apply pull_cons; (repeat (first | with_reducible exact rem_here | with_reducible apply rem_there)))))
      (repeat (first | with_reducible exact app_nil | with_reducible apply app_cons))
      exact rfl
      exact fun _ hw => (missing_spec c d'.bm (by omega) hw)
      rintro _ _ ⟨A3, cap3, rfl, rfl⟩
      rw [hme, hmo]
      repeat' (first | (apply VL_mlen (kt := 3) (et := 4); exact rfl; (repeat (first | with_reducible exact List.mem_cons_self | with_reducible apply List.mem_cons_of_mem)); kernel_rfl; exact rfl) | (apply VL_makeFunc; (repeat (first | exact args_nil | (apply args_cons; exact rfl))); exact rfl) | apply (s1 ?_) | apply (s2 ?_) | apply (s3 ?_) | apply (s4 ?_) | apply (s5 ?_) | apply (s6 ?_) | apply (s7 ?_) | apply (s8 ?_) | apply (s9 ?_) | apply (s10 ?_) | apply (s11 ?_) | apply (s12 ?_) | apply (s13 ?_) | apply (s14 ?_) | apply (s26 ?_) | apply (s27 ?_) | apply (s28 ?_) | (apply (s29 ?_); intro _ _) | apply (s30 ?_) | apply (s31 ?_) | apply (s32 ?_) | (apply (s33 ?_); intro _ _) | (apply (s34 ?_); intro _ _) | (apply (s35 ?_); intro _ _) | apply (s36 ?_) | apply (s37 ?_) | apply (s38 ?_) | apply (s39 ?_) | apply (s40 ?_) | apply (s41 ?_) | apply (s42 ?_) | apply (s43 ?_) | apply (s44 ?_) | apply (s45 ?_) | apply (s46 ?_) | apply (s47 ?_) | (apply (s48 ?_); intro _ _) | apply (s49 ?_) | apply (s50 ?_) | (apply (s51 ?_); intro _) | (apply (s52 ?_); intro _) | apply (s53 ?_) | apply (s54 ?_) | apply (s55 ?_) | apply (s56 ?_) | apply (s57 ?_) | apply (s58 ?_) | apply (s59 ?_) | apply (s60 ?_) | apply (s61 ?_) | apply (s62 ?_) | apply (s63 ?_) | apply (s64 ?_) | apply (s65 ?_) | apply (s66 ?_) | apply (s67 ?_) | apply (s68 ?_) | apply (s69 ?_) | apply (s70 ?_) | apply (s71 ?_) | apply (s72 ?_) | apply (s73 ?_) | apply (s74 ?_) | apply (s75 ?_) | apply (s76 ?_ ?_) | apply (s77 ?_) | apply (s78 ?_) | apply (s79 ?_) | ((first | apply (s15 ?_ ?_) | apply (s16 ?_ ?_) | apply (s17 ?_ ?_) | apply (s18 ?_ ?_) | apply (s19 ?_ ?_) | apply (s20 ?_ ?_) | apply (s25 ?_ ?_)) <;> intro _ <;> try (exfalso; omega)) | ((first | apply (s21 ?_ ?_) | apply (s22 ?_ ?_)) <;> intro _ _ <;> try (exfalso; omega)) | ((first | apply (s23 ?_ ?_) | apply (s24 ?_ ?_)) <;> intro _))
      apply VL_callt en24
      (repeat (first | exact args_nil | (apply args_cons; exact rfl)))
      exact rfl
      exact fun _ hw => contSeen_spec bx sm (mc) (ks) (missL d'.bm c) (by omega) hmiss (by (repeat (first | with_reducible exact List.mem_cons_self | with_reducible apply List.mem_cons_of_mem))) (by (repeat (first | with_reducible exact List.mem_cons_self | with_reducible apply List.mem_cons_of_mem))) (by (repeat (first | with_reducible exact List.mem_cons_self | with_reducible apply List.mem_cons_of_mem))) hw
      repeat' (first | apply (s1 ?_) | apply (s2 ?_) | apply (s3 ?_) | apply (s4 ?_) | apply (s5 ?_) | apply (s6 ?_) | apply (s7 ?_) | apply (s8 ?_) | apply (s9 ?_) | apply (s10 ?_) | apply (s11 ?_) | apply (s12 ?_) | apply (s13 ?_) | apply (s14 ?_) | apply (s26 ?_) | apply (s27 ?_) | apply (s28 ?_) | (apply (s29 ?_); intro _ _) | apply (s30 ?_) | apply (s31 ?_) | apply (s32 ?_) | (apply (s33 ?_); intro _ _) | (apply (s34 ?_); intro _ _) | (apply (s35 ?_); intro _ _) | apply (s36 ?_) | apply (s37 ?_) | apply (s38 ?_) | apply (s39 ?_) | apply (s40 ?_) | apply (s41 ?_) | apply (s42 ?_) | apply (s43 ?_) | apply (s44 ?_) | apply (s45 ?_) | apply (s46 ?_) | apply (s47 ?_) | (apply (s48 ?_); intro _ _) | apply (s49 ?_) | apply (s50 ?_) | (apply (s51 ?_); intro _) | (apply (s52 ?_); intro _) | apply (s53 ?_) | apply (s54 ?_) | apply (s55 ?_) | apply (s56 ?_) | apply (s57 ?_) | apply (s58 ?_) | apply (s59 ?_) | apply (s60 ?_) | apply (s61 ?_) | apply (s62 ?_) | apply (s63 ?_) | apply (s64 ?_) | apply (s65 ?_) | apply (s66 ?_) | apply (s67 ?_) | apply (s68 ?_) | apply (s69 ?_) | apply (s70 ?_) | apply (s71 ?_) | apply (s72 ?_) | apply (s73 ?_) | apply (s74 ?_) | apply (s75 ?_) | apply (s76 ?_ ?_) | apply (s77 ?_) | apply (s78 ?_) | apply (s79 ?_) | ((first | apply (s15 ?_ ?_) | apply (s16 ?_ ?_) | apply (s17 ?_ ?_) | apply (s18 ?_ ?_) | apply (s19 ?_ ?_) | apply (s20 ?_ ?_) | apply (s25 ?_ ?_)) <;> intro _ <;> try (exfalso; omega)) | ((first | apply (s21 ?_ ?_) | apply (s22 ?_ ?_)) <;> intro _ _ <;> try (exfalso; omega)) | ((first | apply (s23 ?_ ?_) | apply (s24 ?_ ?_)) <;> intro _))
      apply hK ⟨i + 1, i, [d'], clock', ks, mc⟩
      · exact ⟨by simp only; omega, hx'⟩
      · simp only; omega
      · (repeat (first | exact sub_nil _ | (apply sub_cons; first | exact rfl | exact congrArg (fun z : Int => some (Value.int .i64 z)) (by omega))))
      · intro w hw
        have h2 := hw.perm (show Pull [sl 3 _ A3 _ _ _, blk bx _, blk sm _, blk r _, blk mm _, many _, sl 23 _ _ _ _ _] _ _ by (repeat (first | with_reducible exact pull_nil | (with_reducible apply pull_cons; (repeat (first | with_reducible exact rem_here | with_reducible apply rem_there))))))
        exact h2.tail
    · have hg := mget_out hkk
      repeat' (first | (apply VL_lookup0 (kt := 3) (et := 4); exact rfl; exact rfl; (repeat (first | with_reducible exact List.mem_cons_self | with_reducible apply List.mem_cons_of_mem)); kernel_rfl; exact rfl; exact hg; exact z_bool) | (apply VL_mapNew (kt := 3) (et := 4); exact rfl; exact rfl; exact rfl; kernel_rfl; (repeat (first | with_reducible exact Upd.here _ | with_reducible apply Upd.there)); exact hg) | (apply VL_load_agg_sl T (vs := [.int .i64 3, .int .i64 k, .int .i64 c, .int .i64 data.size, .string (piece data m k)]); exact rfl; (repeat (first | with_reducible exact List.mem_cons_self | with_reducible apply List.mem_cons_of_mem)); exact rfl; exact rfl; exact rfl; decide; exact hcel) | apply (s1 ?_) | apply (s2 ?_) | apply (s3 ?_) | apply (s4 ?_) | apply (s5 ?_) | apply (s6 ?_) | apply (s7 ?_) | apply (s8 ?_) | apply (s9 ?_) | apply (s10 ?_) | apply (s11 ?_) | apply (s12 ?_) | apply (s13 ?_) | apply (s14 ?_) | apply (s26 ?_) | apply (s27 ?_) | apply (s28 ?_) | (apply (s29 ?_); intro _ _) | apply (s30 ?_) | apply (s31 ?_) | apply (s32 ?_) | (apply (s33 ?_); intro _ _) | (apply (s34 ?_); intro _ _) | (apply (s35 ?_); intro _ _) | apply (s36 ?_) | apply (s37 ?_) | apply (s38 ?_) | apply (s39 ?_) | apply (s40 ?_) | apply (s41 ?_) | apply (s42 ?_) | apply (s43 ?_) | apply (s44 ?_) | apply (s45 ?_) | apply (s46 ?_) | apply (s47 ?_) | (apply (s48 ?_); intro _ _) | apply (s49 ?_) | apply (s50 ?_) | (apply (s51 ?_); intro _) | (apply (s52 ?_); intro _) | apply (s53 ?_) | apply (s54 ?_) | apply (s55 ?_) | apply (s56 ?_) | apply (s57 ?_) | apply (s58 ?_) | apply (s59 ?_) | apply (s60 ?_) | apply (s61 ?_) | apply (s62 ?_) | apply (s63 ?_) | apply (s64 ?_) | apply (s65 ?_) | apply (s66 ?_) | apply (s67 ?_) | apply (s68 ?_) | apply (s69 ?_) | apply (s70 ?_) | apply (s71 ?_) | apply (s72 ?_) | apply (s73 ?_) | apply (s74 ?_) | apply (s75 ?_) | apply (s76 ?_ ?_) | apply (s77 ?_) | apply (s78 ?_) | apply (s79 ?_) | ((first | apply (s15 ?_ ?_) | apply (s16 ?_ ?_) | apply (s17 ?_ ?_) | apply (s18 ?_ ?_) | apply (s19 ?_ ?_) | apply (s20 ?_ ?_) | apply (s25 ?_ ?_)) <;> intro _ <;> try (exfalso; omega)) | ((first | apply (s21 ?_ ?_) | apply (s22 ?_ ?_)) <;> intro _ _ <;> try (exfalso; omega)) | ((first | apply (s23 ?_ ?_) | apply (s24 ?_ ?_)) <;> intro _))
      rw [← seen_new]
      apply VL_callP [blk r _, blk mm _, many _] _ en22
      (repeat (first | exact args_nil | (apply args_cons; exact rfl)))
      (repeat (first | with_reducible exact pull_nil | (with_reducible apply pull_cons; (repeat (first | with_reducible exact rem_here | with_reducible apply rem_there)))))
      (repeat (first | with_reducible exact app_nil | with_reducible apply app_cons))
      exact rfl
      exact fun _ hw => (hrecv r mm k mc rfl hkc (by omega) hx hw)
      rintro _ _ ⟨d', clock', rfl, rfl, hx'⟩
      rw [if_neg hkk] at hx'
      unfold wOut rpcs
      obtain ⟨u1, u2, u3, u4, u5, u6, u7⟩ : d'.tag = 3 ∧ d'.cnt = c ∧ d'.size = data.size ∧ d'.part = pt ∧ 0 ≤ d'.last ∧ BitsAre d'.bm c (keysOf (ks ++ [(k, mc)])) ∧ ∀ j ∈ keysOf (ks ++ [(k, mc)]), d'.parts.getD j ⟨#[]⟩ = piece data m j := by
        rcases hx'.dg with ⟨h1, _⟩ | ⟨d0, h1, h2⟩
        · cases h1
        · obtain rfl : d' = d0 := by simpa using h1
          exact h2
      have hfd : findD ([] ++ d' :: []) 3 = some d' := by simp [findD, u1]
      have hbm : d'.bm < 2 ^ c := u6.lt_pow
      have hbm2 : 2 ^ c ≤ 2 ^ 32 := Bm.pow_le c 32 h32
      obtain ⟨hme, hmo⟩ := miss_of_bits u6 hc1 h32
      have hcount := u6.miss
      have hkl : (keysOf (ks ++ [(k, mc)])).length = (ks ++ [(k, mc)]).length := by simp [keysOf]
      have hsl := seen_len (ks ++ [(k, mc)])
      have hmiss : ∀ x ∈ missL d'.bm c, x ∉ keysOf (ks ++ [(k, mc)]) := fun x hx hk' => by
        have h1 := ((mem_missL _ _ _).1 hx).2
        have h2 := (u6.iff x).2 hk'
        omega
      have hlk : (ks ++ [(k, mc)]).length = ks.length + 1 := by simp
      by_cases hf : ks.length + 1 = c
      · rw [if_pos (show k ∉ keysOf ks ∧ ks.length + 1 = c from ⟨hkk, hf⟩)]
        repeat' (first | (apply VL_mlen (kt := 3) (et := 4); exact rfl; (repeat (first | with_reducible exact List.mem_cons_self | with_reducible apply List.mem_cons_of_mem)); kernel_rfl; exact rfl) | (apply VL_bneq; exact rfl; exact rfl; exact rfl; kernel_rfl) | (apply VL_sneq; exact rfl; exact rfl; exact rfl; (intro h; exact absurd rfl h); intro _) | apply (s1 ?_) | apply (s2 ?_) | apply (s3 ?_) | apply (s4 ?_) | apply (s5 ?_) | apply (s6 ?_) | apply (s7 ?_) | apply (s8 ?_) | apply (s9 ?_) | apply (s10 ?_) | apply (s11 ?_) | apply (s12 ?_) | apply (s13 ?_) | apply (s14 ?_) | apply (s26 ?_) | apply (s27 ?_) | apply (s28 ?_) | (apply (s29 ?_); intro _ _) | apply (s30 ?_) | apply (s31 ?_) | apply (s32 ?_) | (apply (s33 ?_); intro _ _) | (apply (s34 ?_); intro _ _) | (apply (s35 ?_); intro _ _) | apply (s36 ?_) | apply (s37 ?_) | apply (s38 ?_) | apply (s39 ?_) | apply (s40 ?_) | apply (s41 ?_) | apply (s42 ?_) | apply (s43 ?_) | apply (s44 ?_) | apply (s45 ?_) | apply (s46 ?_) | apply (s47 ?_) | (apply (s48 ?_); intro _ _) | apply (s49 ?_) | apply (s50 ?_) | (apply (s51 ?_); intro _) | (apply (s52 ?_); intro _) | apply (s53 ?_) | apply (s54 ?_) | apply (s55 ?_) | apply (s56 ?_) | apply (s57 ?_) | apply (s58 ?_) | apply (s59 ?_) | apply (s60 ?_) | apply (s61 ?_) | apply (s62 ?_) | apply (s63 ?_) | apply (s64 ?_) | apply (s65 ?_) | apply (s66 ?_) | apply (s67 ?_) | apply (s68 ?_) | apply (s69 ?_) | apply (s70 ?_) | apply (s71 ?_) | apply (s72 ?_) | apply (s73 ?_) | apply (s74 ?_) | apply (s75 ?_) | apply (s76 ?_ ?_) | apply (s77 ?_) | apply (s78 ?_) | apply (s79 ?_) | ((first | apply (s15 ?_ ?_) | apply (s16 ?_ ?_) | apply (s17 ?_ ?_) | apply (s18 ?_ ?_) | apply (s19 ?_ ?_) | apply (s20 ?_ ?_) | apply (s25 ?_ ?_)) <;> intro _ <;> try (exfalso; omega)) | ((first | apply (s21 ?_ ?_) | apply (s22 ?_ ?_)) <;> intro _ _ <;> try (exfalso; omega)) | ((first | apply (s23 ?_ ?_) | apply (s24 ?_ ?_)) <;> intro _))
        apply VL_callP [blk r _, blk mm _, many _] _ en23
        (repeat (first | exact args_nil | (apply args_cons; exact rfl)))
        (repeat (first | with_reducible exact pull_nil | (with_reducible apply pull_cons; (repeat (first | with_reducible exact rem_here | with_reducible apply rem_there)))))
        (repeat (first | with_reducible exact app_nil | with_reducible apply app_cons))
        exact rfl
        exact fun _ hw => (bitmap_spec 100 i mm r [] d' [] clock' 3 hfd hw)
        rintro _ _ ⟨rfl, rfl⟩
        unfold rpcs
        repeat' (first | apply (s1 ?_) | apply (s2 ?_) | apply (s3 ?_) | apply (s4 ?_) | apply (s5 ?_) | apply (s6 ?_) | apply (s7 ?_) | apply (s8 ?_) | apply (s9 ?_) | apply (s10 ?_) | apply (s11 ?_) | apply (s12 ?_) | apply (s13 ?_) | apply (s14 ?_) | apply (s26 ?_) | apply (s27 ?_) | apply (s28 ?_) | (apply (s29 ?_); intro _ _) | apply (s30 ?_) | apply (s31 ?_) | apply (s32 ?_) | (apply (s33 ?_); intro _ _) | (apply (s34 ?_); intro _ _) | (apply (s35 ?_); intro _ _) | apply (s36 ?_) | apply (s37 ?_) | apply (s38 ?_) | apply (s39 ?_) | apply (s40 ?_) | apply (s41 ?_) | apply (s42 ?_) | apply (s43 ?_) | apply (s44 ?_) | apply (s45 ?_) | apply (s46 ?_) | apply (s47 ?_) | (apply (s48 ?_); intro _ _) | apply (s49 ?_) | apply (s50 ?_) | (apply (s51 ?_); intro _) | (apply (s52 ?_); intro _) | apply (s53 ?_) | apply (s54 ?_) | apply (s55 ?_) | apply (s56 ?_) | apply (s57 ?_) | apply (s58 ?_) | apply (s59 ?_) | apply (s60 ?_) | apply (s61 ?_) | apply (s62 ?_) | apply (s63 ?_) | apply (s64 ?_) | apply (s65 ?_) | apply (s66 ?_) | apply (s67 ?_) | apply (s68 ?_) | apply (s69 ?_) | apply (s70 ?_) | apply (s71 ?_) | apply (s72 ?_) | apply (s73 ?_) | apply (s74 ?_) | apply (s75 ?_) | apply (s76 ?_ ?_) | apply (s77 ?_) | apply (s78 ?_) | apply (s79 ?_) | ((first | apply (s15 ?_ ?_) | apply (s16 ?_ ?_) | apply (s17 ?_ ?_) | apply (s18 ?_ ?_) | apply (s19 ?_ ?_) | apply (s20 ?_ ?_) | apply (s25 ?_ ?_)) <;> intro _ <;> try (exfalso; omega)) | ((first | apply (s21 ?_ ?_) | apply (s22 ?_ ?_)) <;> intro _ _ <;> try (exfalso; omega)) | ((first | apply (s23 ?_ ?_) | apply (s24 ?_ ?_)) <;> intro _))
        apply VL_callP [] _ en15
        (repeat (first | exact args_nil | (apply args_cons; exact rfl)))
        (repeat (first | with_reducible exact pull_nil | (with_reducible apply pull_cons; (repeat (first | with_reducible exact rem_here | with_reducible apply rem_there)))))
        (repeat (first | with_reducible exact app_nil | with_reducible apply app_cons))
        exact rfl
        exact fun _ hw => (missing_spec c d'.bm (by omega) hw)
        rintro _ _ ⟨A3, cap3, rfl, rfl⟩
        rw [hme, hmo]
        repeat' (first | (apply VL_mlen (kt := 3) (et := 4); exact rfl; (repeat (first | with_reducible exact List.mem_cons_self | with_reducible apply List.mem_cons_of_mem)); kernel_rfl; exact rfl) | (apply VL_makeFunc; (repeat (first | exact args_nil | (apply args_cons; exact rfl))); exact rfl) | apply (s1 ?_) | apply (s2 ?_) | apply (s3 ?_) | apply (s4 ?_) | apply (s5 ?_) | apply (s6 ?_) | apply (s7 ?_) | apply (s8 ?_) | apply (s9 ?_) | apply (s10 ?_) | apply (s11 ?_) | apply (s12 ?_) | apply (s13 ?_) | apply (s14 ?_) | apply (s26 ?_) | apply (s27 ?_) | apply (s28 ?_) | (apply (s29 ?_); intro _ _) | apply (s30 ?_) | apply (s31 ?_) | apply (s32 ?_) | (apply (s33 ?_); intro _ _) | (apply (s34 ?_); intro _ _) | (apply (s35 ?_); intro _ _) | apply (s36 ?_) | apply (s37 ?_) | apply (s38 ?_) | apply (s39 ?_) | apply (s40 ?_) | apply (s41 ?_) | apply (s42 ?_) | apply (s43 ?_) | apply (s44 ?_) | apply (s45 ?_) | apply (s46 ?_) | apply (s47 ?_) | (apply (s48 ?_); intro _ _) | apply (s49 ?_) | apply (s50 ?_) | (apply (s51 ?_); intro _) | (apply (s52 ?_); intro _) | apply (s53 ?_) | apply (s54 ?_) | apply (s55 ?_) | apply (s56 ?_) | apply (s57 ?_) | apply (s58 ?_) | apply (s59 ?_) | apply (s60 ?_) | apply (s61 ?_) | apply (s62 ?_) | apply (s63 ?_) | apply (s64 ?_) | apply (s65 ?_) | apply (s66 ?_) | apply (s67 ?_) | apply (s68 ?_) | apply (s69 ?_) | apply (s70 ?_) | apply (s71 ?_) | apply (s72 ?_) | apply (s73 ?_) | apply (s74 ?_) | apply (s75 ?_) | apply (s76 ?_ ?_) | apply (s77 ?_) | apply (s78 ?_) | apply (s79 ?_) | ((first | apply (s15 ?_ ?_) | apply (s16 ?_ ?_) | apply (s17 ?_ ?_) | apply (s18 ?_ ?_) | apply (s19 ?_ ?_) | apply (s20 ?_ ?_) | apply (s25 ?_ ?_)) <;> intro _ <;> try (exfalso; omega)) | ((first | apply (s21 ?_ ?_) | apply (s22 ?_ ?_)) <;> intro _ _ <;> try (exfalso; omega)) | ((first | apply (s23 ?_ ?_) | apply (s24 ?_ ?_)) <;> intro _))
        apply VL_callt en24
        (repeat (first | exact args_nil | (apply args_cons; exact rfl)))
        exact rfl
        exact fun _ hw => contSeen_spec bx sm (mc + 1) (ks ++ [(k, mc)]) (missL d'.bm c) (by omega) hmiss (by (repeat (first | with_reducible exact List.mem_cons_self | with_reducible apply List.mem_cons_of_mem))) (by (repeat (first | with_reducible exact List.mem_cons_self | with_reducible apply List.mem_cons_of_mem))) (by (repeat (first | with_reducible exact List.mem_cons_self | with_reducible apply List.mem_cons_of_mem))) hw
        repeat' (first | apply (s1 ?_) | apply (s2 ?_) | apply (s3 ?_) | apply (s4 ?_) | apply (s5 ?_) | apply (s6 ?_) | apply (s7 ?_) | apply (s8 ?_) | apply (s9 ?_) | apply (s10 ?_) | apply (s11 ?_) | apply (s12 ?_) | apply (s13 ?_) | apply (s14 ?_) | apply (s26 ?_) | apply (s27 ?_) | apply (s28 ?_) | (apply (s29 ?_); intro _ _) | apply (s30 ?_) | apply (s31 ?_) | apply (s32 ?_) | (apply (s33 ?_); intro _ _) | (apply (s34 ?_); intro _ _) | (apply (s35 ?_); intro _ _) | apply (s36 ?_) | apply (s37 ?_) | apply (s38 ?_) | apply (s39 ?_) | apply (s40 ?_) | apply (s41 ?_) | apply (s42 ?_) | apply (s43 ?_) | apply (s44 ?_) | apply (s45 ?_) | apply (s46 ?_) | apply (s47 ?_) | (apply (s48 ?_); intro _ _) | apply (s49 ?_) | apply (s50 ?_) | (apply (s51 ?_); intro _) | (apply (s52 ?_); intro _) | apply (s53 ?_) | apply (s54 ?_) | apply (s55 ?_) | apply (s56 ?_) | apply (s57 ?_) | apply (s58 ?_) | apply (s59 ?_) | apply (s60 ?_) | apply (s61 ?_) | apply (s62 ?_) | apply (s63 ?_) | apply (s64 ?_) | apply (s65 ?_) | apply (s66 ?_) | apply (s67 ?_) | apply (s68 ?_) | apply (s69 ?_) | apply (s70 ?_) | apply (s71 ?_) | apply (s72 ?_) | apply (s73 ?_) | apply (s74 ?_) | apply (s75 ?_) | apply (s76 ?_ ?_) | apply (s77 ?_) | apply (s78 ?_) | apply (s79 ?_) | ((first | apply (s15 ?_ ?_) | apply (s16 ?_ ?_) | apply (s17 ?_ ?_) | apply (s18 ?_ ?_) | apply (s19 ?_ ?_) | apply (s20 ?_ ?_) | apply (s25 ?_ ?_)) <;> intro _ <;> try (exfalso; omega)) | ((first | apply (s21 ?_ ?_) | apply (s22 ?_ ?_)) <;> intro _ _ <;> try (exfalso; omega)) | ((first | apply (s23 ?_ ?_) | apply (s24 ?_ ?_)) <;> intro _))
        apply hK ⟨i + 1, i, [d'], clock', ks ++ [(k, mc)], mc + 1⟩
        · exact ⟨by simp only; omega, hx'⟩
        · simp only; omega
        · (repeat (first | exact sub_nil _ | (apply sub_cons; first | exact rfl | exact congrArg (fun z : Int => some (Value.int .i64 z)) (by omega))))
        · intro w hw
          have h2 := hw.perm (show Pull [sl 3 _ A3 _ _ _, blk bx _, blk sm _, blk r _, blk mm _, many _, sl 23 _ _ _ _ _] _ _ by (repeat (first | with_reducible exact pull_nil | (with_reducible apply pull_cons; (repeat (first | with_reducible exact rem_here | with_reducible apply rem_there))))))
          exact h2.tail
      · rw [if_neg (fun h : k ∉ keysOf ks ∧ ks.length + 1 = c => hf h.2)]
        repeat' (first | (apply VL_mlen (kt := 3) (et := 4); exact rfl; (repeat (first | with_reducible exact List.mem_cons_self | with_reducible apply List.mem_cons_of_mem)); kernel_rfl; exact rfl) | (apply VL_bneq; exact rfl; exact rfl; exact rfl; kernel_rfl) | (apply VL_sneq0; exact rfl; exact rfl; (intro h _; exact absurd rfl h); intro _ _) | apply (s1 ?_) | apply (s2 ?_) | apply (s3 ?_) | apply (s4 ?_) | apply (s5 ?_) | apply (s6 ?_) | apply (s7 ?_) | apply (s8 ?_) | apply (s9 ?_) | apply (s10 ?_) | apply (s11 ?_) | apply (s12 ?_) | apply (s13 ?_) | apply (s14 ?_) | apply (s26 ?_) | apply (s27 ?_) | apply (s28 ?_) | (apply (s29 ?_); intro _ _) | apply (s30 ?_) | apply (s31 ?_) | apply (s32 ?_) | (apply (s33 ?_); intro _ _) | (apply (s34 ?_); intro _ _) | (apply (s35 ?_); intro _ _) | apply (s36 ?_) | apply (s37 ?_) | apply (s38 ?_) | apply (s39 ?_) | apply (s40 ?_) | apply (s41 ?_) | apply (s42 ?_) | apply (s43 ?_) | apply (s44 ?_) | apply (s45 ?_) | apply (s46 ?_) | apply (s47 ?_) | (apply (s48 ?_); intro _ _) | apply (s49 ?_) | apply (s50 ?_) | (apply (s51 ?_); intro _) | (apply (s52 ?_); intro _) | apply (s53 ?_) | apply (s54 ?_) | apply (s55 ?_) | apply (s56 ?_) | apply (s57 ?_) | apply (s58 ?_) | apply (s59 ?_) | apply (s60 ?_) | apply (s61 ?_) | apply (s62 ?_) | apply (s63 ?_) | apply (s64 ?_) | apply (s65 ?_) | apply (s66 ?_) | apply (s67 ?_) | apply (s68 ?_) | apply (s69 ?_) | apply (s70 ?_) | apply (s71 ?_) | apply (s72 ?_) | apply (s73 ?_) | apply (s74 ?_) | apply (s75 ?_) | apply (s76 ?_ ?_) | apply (s77 ?_) | apply (s78 ?_) | apply (s79 ?_) | ((first | apply (s15 ?_ ?_) | apply (s16 ?_ ?_) | apply (s17 ?_ ?_) | apply (s18 ?_ ?_) | apply (s19 ?_ ?_) | apply (s20 ?_ ?_) | apply (s25 ?_ ?_)) <;> intro _ <;> try (exfalso; omega)) | ((first | apply (s21 ?_ ?_) | apply (s22 ?_ ?_)) <;> intro _ _ <;> try (exfalso; omega)) | ((first | apply (s23 ?_ ?_) | apply (s24 ?_ ?_)) <;> intro _))
        apply VL_callP [blk r _, blk mm _, many _] _ en23
        (repeat (first | exact args_nil | (apply args_cons; exact rfl)))
        (repeat (first | with_reducible exact pull_nil | (with_reducible apply pull_cons; (repeat (first | with_reducible exact rem_here | with_reducible apply rem_there)))))
        (repeat (first | with_reducible exact app_nil | with_reducible apply app_cons))
        exact rfl
        exact fun _ hw => (bitmap_spec 100 i mm r [] d' [] clock' 3 hfd hw)
        rintro _ _ ⟨rfl, rfl⟩
        unfold rpcs
        repeat' (first | apply (s1 ?_) | apply (s2 ?_) | apply (s3 ?_) | apply (s4 ?_) | apply (s5 ?_) | apply (s6 ?_) | apply (s7 ?_) | apply (s8 ?_) | apply (s9 ?_) | apply (s10 ?_) | apply (s11 ?_) | apply (s12 ?_) | apply (s13 ?_) | apply (s14 ?_) | apply (s26 ?_) | apply (s27 ?_) | apply (s28 ?_) | (apply (s29 ?_); intro _ _) | apply (s30 ?_) | apply (s31 ?_) | apply (s32 ?_) | (apply (s33 ?_); intro _ _) | (apply (s34 ?_); intro _ _) | (apply (s35 ?_); intro _ _) | apply (s36 ?_) | apply (s37 ?_) | apply (s38 ?_) | apply (s39 ?_) | apply (s40 ?_) | apply (s41 ?_) | apply (s42 ?_) | apply (s43 ?_) | apply (s44 ?_) | apply (s45 ?_) | apply (s46 ?_) | apply (s47 ?_) | (apply (s48 ?_); intro _ _) | apply (s49 ?_) | apply (s50 ?_) | (apply (s51 ?_); intro _) | (apply (s52 ?_); intro _) | apply (s53 ?_) | apply (s54 ?_) | apply (s55 ?_) | apply (s56 ?_) | apply (s57 ?_) | apply (s58 ?_) | apply (s59 ?_) | apply (s60 ?_) | apply (s61 ?_) | apply (s62 ?_) | apply (s63 ?_) | apply (s64 ?_) | apply (s65 ?_) | apply (s66 ?_) | apply (s67 ?_) | apply (s68 ?_) | apply (s69 ?_) | apply (s70 ?_) | apply (s71 ?_) | apply (s72 ?_) | apply (s73 ?_) | apply (s74 ?_) | apply (s75 ?_) | apply (s76 ?_ ?_) | apply (s77 ?_) | apply (s78 ?_) | apply (s79 ?_) | ((first | apply (s15 ?_ ?_) | apply (s16 ?_ ?_) | apply (s17 ?_ ?_) | apply (s18 ?_ ?_) | apply (s19 ?_ ?_) | apply (s20 ?_ ?_) | apply (s25 ?_ ?_)) <;> intro _ <;> try (exfalso; omega)) | ((first | apply (s21 ?_ ?_) | apply (s22 ?_ ?_)) <;> intro _ _ <;> try (exfalso; omega)) | ((first | apply (s23 ?_ ?_) | apply (s24 ?_ ?_)) <;> intro _))
        apply VL_callP [] _ en15
        (repeat (first | exact args_nil | (apply args_cons; exact rfl)))
        (repeat (first | with_reducible exact pull_nil | (with_reducible apply pull_cons; (repeat (first | with_reducible exact rem_here | with_reducible apply rem_there)))))
        (repeat (first | with_reducible exact app_nil | with_reducible apply app_cons))
        exact rfl
        exact fun _ hw => (missing_spec c d'.bm (by omega) hw)
        rintro _ _ ⟨A3, cap3, rfl, rfl⟩
        rw [hme, hmo]
        repeat' (first | (apply VL_mlen (kt := 3) (et := 4); exact rfl; (repeat (first | with_reducible exact List.mem_cons_self | with_reducible apply List.mem_cons_of_mem)); kernel_rfl; exact rfl) | (apply VL_makeFunc; (repeat (first | exact args_nil | (apply args_cons; exact rfl))); exact rfl) | apply (s1 ?_) | apply (s2 ?_) | apply (s3 ?_) | apply (s4 ?_) | apply (s5 ?_) | apply (s6 ?_) | apply (s7 ?_) | apply (s8 ?_) | apply (s9 ?_) | apply (s10 ?_) | apply (s11 ?_) | apply (s12 ?_) | apply (s13 ?_) | apply (s14 ?_) | apply (s26 ?_) | apply (s27 ?_) | apply (s28 ?_) | (apply (s29 ?_); intro _ _) | apply (s30 ?_) | apply (s31 ?_) | apply (s32 ?_) | (apply (s33 ?_); intro _ _) | (apply (s34 ?_); intro _ _) | (apply (s35 ?_); intro _ _) | apply (s36 ?_) | apply (s37 ?_) | apply (s38 ?_) | apply (s39 ?_) | apply (s40 ?_) | apply (s41 ?_) | apply (s42 ?_) | apply (s43 ?_) | apply (s44 ?_) | apply (s45 ?_) | apply (s46 ?_) | apply (s47 ?_) | (apply (s48 ?_); intro _ _) | apply (s49 ?_) | apply (s50 ?_) | (apply (s51 ?_); intro _) | (apply (s52 ?_); intro _) | apply (s53 ?_) | apply (s54 ?_) | apply (s55 ?_) | apply (s56 ?_) | apply (s57 ?_) | apply (s58 ?_) | apply (s59 ?_) | apply (s60 ?_) | apply (s61 ?_) | apply (s62 ?_) | apply (s63 ?_) | apply (s64 ?_) | apply (s65 ?_) | apply (s66 ?_) | apply (s67 ?_) | apply (s68 ?_) | apply (s69 ?_) | apply (s70 ?_) | apply (s71 ?_) | apply (s72 ?_) | apply (s73 ?_) | apply (s74 ?_) | apply (s75 ?_) | apply (s76 ?_ ?_) | apply (s77 ?_) | apply (s78 ?_) | apply (s79 ?_) | ((first | apply (s15 ?_ ?_) | apply (s16 ?_ ?_) | apply (s17 ?_ ?_) | apply (s18 ?_ ?_) | apply (s19 ?_ ?_) | apply (s20 ?_ ?_) | apply (s25 ?_ ?_)) <;> intro _ <;> try (exfalso; omega)) | ((first | apply (s21 ?_ ?_) | apply (s22 ?_ ?_)) <;> intro _ _ <;> try (exfalso; omega)) | ((first | apply (s23 ?_ ?_) | apply (s24 ?_ ?_)) <;> intro _))
        apply VL_callt en24
        (repeat (first | exact args_nil | (apply args_cons; exact rfl)))
        exact rfl
        exact fun _ hw => contSeen_spec bx sm (mc + 1) (ks ++ [(k, mc)]) (missL d'.bm c) (by omega) hmiss (by (repeat (first | with_reducible exact List.mem_cons_self | with_reducible apply List.mem_cons_of_mem))) (by (repeat (first | with_reducible exact List.mem_cons_self | with_reducible apply List.mem_cons_of_mem))) (by (repeat (first | with_reducible exact List.mem_cons_self | with_reducible apply List.mem_cons_of_mem))) hw
        repeat' (first | apply (s1 ?_) | apply (s2 ?_) | apply (s3 ?_) | apply (s4 ?_) | apply (s5 ?_) | apply (s6 ?_) | apply (s7 ?_) | apply (s8 ?_) | apply (s9 ?_) | apply (s10 ?_) | apply (s11 ?_) | apply (s12 ?_) | apply (s13 ?_) | apply (s14 ?_) | apply (s26 ?_) | apply (s27 ?_) | apply (s28 ?_) | (apply (s29 ?_); intro _ _) | apply (s30 ?_) | apply (s31 ?_) | apply (s32 ?_) | (apply (s33 ?_); intro _ _) | (apply (s34 ?_); intro _ _) | (apply (s35 ?_); intro _ _) | apply (s36 ?_) | apply (s37 ?_) | apply (s38 ?_) | apply (s39 ?_) | apply (s40 ?_) | apply (s41 ?_) | apply (s42 ?_) | apply (s43 ?_) | apply (s44 ?_) | apply (s45 ?_) | apply (s46 ?_) | apply (s47 ?_) | (apply (s48 ?_); intro _ _) | apply (s49 ?_) | apply (s50 ?_) | (apply (s51 ?_); intro _) | (apply (s52 ?_); intro _) | apply (s53 ?_) | apply (s54 ?_) | apply (s55 ?_) | apply (s56 ?_) | apply (s57 ?_) | apply (s58 ?_) | apply (s59 ?_) | apply (s60 ?_) | apply (s61 ?_) | apply (s62 ?_) | apply (s63 ?_) | apply (s64 ?_) | apply (s65 ?_) | apply (s66 ?_) | apply (s67 ?_) | apply (s68 ?_) | apply (s69 ?_) | apply (s70 ?_) | apply (s71 ?_) | apply (s72 ?_) | apply (s73 ?_) | apply (s74 ?_) | apply (s75 ?_) | apply (s76 ?_ ?_) | apply (s77 ?_) | apply (s78 ?_) | apply (s79 ?_) | ((first | apply (s15 ?_ ?_) | apply (s16 ?_ ?_) | apply (s17 ?_ ?_) | apply (s18 ?_ ?_) | apply (s19 ?_ ?_) | apply (s20 ?_ ?_) | apply (s25 ?_ ?_)) <;> intro _ <;> try (exfalso; omega)) | ((first | apply (s21 ?_ ?_) | apply (s22 ?_ ?_)) <;> intro _ _ <;> try (exfalso; omega)) | ((first | apply (s23 ?_ ?_) | apply (s24 ?_ ?_)) <;> intro _))
        apply hK ⟨i + 1, i, [d'], clock', ks ++ [(k, mc)], mc + 1⟩
        · exact ⟨by simp only; omega, hx'⟩
        · simp only; omega
        · (repeat (first | exact sub_nil _ | (apply sub_cons; first | exact rfl | exact congrArg (fun z : Int => some (Value.int .i64 z)) (by omega))))
        · intro w hw
          have h2 := hw.perm (show Pull [sl 3 _ A3 _ _ _, blk bx _, blk sm _, blk r _, blk mm _, many _, sl 23 _ _ _ _ _] _ _ by (repeat (first | with_reducible exact pull_nil | (with_reducible apply pull_cons; (repeat (first | with_reducible exact rem_here | with_reducible apply rem_there))))))
          exact h2.tail
  · repeat' (first | apply (s1 ?_) | apply (s2 ?_) | apply (s3 ?_) | apply (s4 ?_) | apply (s5 ?_) | apply (s6 ?_) | apply (s7 ?_) | apply (s8 ?_) | apply (s9 ?_) | apply (s10 ?_) | apply (s11 ?_) | apply (s12 ?_) | apply (s13 ?_) | apply (s14 ?_) | apply (s26 ?_) | apply (s27 ?_) | apply (s28 ?_) | (apply (s29 ?_); intro _ _) | apply (s30 ?_) | apply (s31 ?_) | apply (s32 ?_) | (apply (s33 ?_); intro _ _) | (apply (s34 ?_); intro _ _) | (apply (s35 ?_); intro _ _) | apply (s36 ?_) | apply (s37 ?_) | apply (s38 ?_) | apply (s39 ?_) | apply (s40 ?_) | apply (s41 ?_) | apply (s42 ?_) | apply (s43 ?_) | apply (s44 ?_) | apply (s45 ?_) | apply (s46 ?_) | apply (s47 ?_) | (apply (s48 ?_); intro _ _) | apply (s49 ?_) | apply (s50 ?_) | (apply (s51 ?_); intro _) | (apply (s52 ?_); intro _) | apply (s53 ?_) | apply (s54 ?_) | apply (s55 ?_) | apply (s56 ?_) | apply (s57 ?_) | apply (s58 ?_) | apply (s59 ?_) | apply (s60 ?_) | apply (s61 ?_) | apply (s62 ?_) | apply (s63 ?_) | apply (s64 ?_) | apply (s65 ?_) | apply (s66 ?_) | apply (s67 ?_) | apply (s68 ?_) | apply (s69 ?_) | apply (s70 ?_) | apply (s71 ?_) | apply (s72 ?_) | apply (s73 ?_) | apply (s74 ?_) | apply (s75 ?_) | apply (s76 ?_ ?_) | apply (s77 ?_) | apply (s78 ?_) | apply (s79 ?_) | ((first | apply (s15 ?_ ?_) | apply (s16 ?_ ?_) | apply (s17 ?_ ?_) | apply (s18 ?_ ?_) | apply (s19 ?_ ?_) | apply (s20 ?_ ?_) | apply (s25 ?_ ?_)) <;> intro _ <;> try (exfalso; omega)) | ((first | apply (s21 ?_ ?_) | apply (s22 ?_ ?_)) <;> intro _ _ <;> try (exfalso; omega)) | ((first | apply (s23 ?_ ?_) | apply (s24 ?_ ?_)) <;> intro _))
    apply VQ_tail; apply VQ_tail; apply VQ_tail; apply VQ_tail; apply VQ_tail; apply VQ_tail; apply VQ_ret1; exact rfl; exact rfl
    exact ⟨rfl, rfl⟩
end Go.Proofs.Ytfobgjhjigkigaa
