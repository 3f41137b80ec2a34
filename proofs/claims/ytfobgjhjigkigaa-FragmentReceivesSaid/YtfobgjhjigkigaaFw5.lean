/- Walks: the reference's writer of bits. -/
import Derived.Test.YtfobgjhjigkigaaTab
import Derived.Test.YtfobgjhjigkigaaE3
import Derived.Test.YtfobgjhjigkigaaBm
namespace Go.Proofs.Ytfobgjhjigkigaa
open Go.RowKit Go.Eng

theorem bld_rwriter (w : World) : (Instr.build 120 [].toArray).run Try.prog w = .ok (.agg #[.slice none 0 0, .int .i64 0]) w := by kernel_rfl
theorem bls_byte (b : Int) (w : World) : (Instr.buildSlice 39 1 [(0, .int .u8 b)].toArray).run Try.prog w = .ok (.slice (some ⟨w.heap.size, 0, none⟩) 1 1) (w.alloc (.cells #[.int .u8 b] 5 (0, 0))) := by kernel_rfl

theorem rnewWriter_spec {B : Nat} {w0 : World} {H : List HP} {w : World} (hw : St B w0 H w) :
    Calls Try.prog 39 [].toArray w (Post B w0 fun v K => ∃ g, v = .pointer (some ⟨g, 0, none⟩) ∧ K = blk g (.cells #[.slice none 0 0, .int .i64 0] 120 (0, 0)) :: sl 5 1 none 0 0 [] :: H) := by
  refine Calls_of_VC Try.func39 Try.ntmps39 rfl rfl (hw.nilSlice 5 1) ?_
  repeat' (first | (apply VL_build; (repeat (first | exact parts_nil | (apply parts_cons; exact rfl))); exact bld_rwriter; exact rfl) | (apply VL_assign; exact rfl; exact rfl) | (apply VL_box_agg; exact rfl; exact rfl; intro _) | apply VL_nil | apply VQ_then | apply VC_seq | apply VC_region | apply VC_ret)
  apply VQ_ret1; exact rfl; exact rfl
  exact ⟨_, rfl, rfl⟩

theorem u8n_app (l : List Nat) (b : Nat) : u8n (l ++ [b]) = u8n l ++ [.int .u8 b] := by simp [u8n]

theorem rput_spec (g width v : Nat) (hwd : width ≤ 63) (hv : v < 9223372036854775808) {A : Option Addr} {cap : Nat} {bs : List Nat} {err : Int} (h1 : bs.length ≤ 1000000)
    {B : Nat} {w0 : World} {H : List HP} {w : World} (hw : St B w0 (blk g (.cells #[.slice A bs.length cap, .int .i64 err] 120 (0, 0)) :: sl 5 1 A bs.length cap (u8n bs) :: H) w) :
    Calls Try.prog 68 [.pointer (some ⟨g, 0, none⟩), .int .i64 width, .int .i64 v].toArray w (Post B w0 fun u K => u = .tuple #[] ∧ ∃ A cap, K = (blk g (.cells #[.slice A (bs ++ Bm.bitsOf width v).length cap, .int .i64 err] 120 (0, 0)) :: sl 5 1 A (bs ++ Bm.bitsOf width v).length cap (u8n (bs ++ Bm.bitsOf width v)) :: H)) := by
  refine Calls_of_VC Try.func68 Try.ntmps68 rfl rfl hw ?_
  repeat' (first | (apply VL_move; exact rfl; exact rfl) | (apply VL_assign; exact rfl; exact rfl) | (apply VL_sub; exact rfl; exact rfl; exact rfl; omega) | apply VL_nil | apply VQ_then | apply VC_seq | apply VC_region | apply VC_block)
  have hcur : ∃ cur : Nat → List Nat, cur = fun j => bs ++ (Bm.bitsOf width v).take (width - j) := ⟨_, rfl⟩
  obtain ⟨cur, hcur⟩ := hcur
  have e0 : cur width = bs := by rw [hcur]; simp
  have e1 : cur 0 = bs ++ Bm.bitsOf width v := by rw [hcur]; simp [Bm.length_bitsOf, List.take_of_length_le]
  have es : ∀ j, j < width → cur j = cur (j + 1) ++ [v / 2 ^ j % 2] := fun j hj => by
    rw [hcur]
    show bs ++ _ = (bs ++ _) ++ _
    rw [List.append_assoc, show width - j = (width - (j + 1)) + 1 by omega, Bm.take_bitsOf (by omega), show width - 1 - (width - (j + 1)) = j by omega]
  have el : ∀ j, j ≤ width → (cur j).length = bs.length + (width - j) := fun j hj => by rw [hcur]; simp [Bm.length_bitsOf]
  clear hcur
  rw [← e1]
  refine VC_loop3 (fun (j : Nat) (A : Option Addr) (cap : Nat) => [(6, .int .i64 ((j : Int) - 1)), (0, .pointer (some ⟨g, 0, none⟩)), (2, .int .i64 v)])
    (fun j A cap => blk g (.cells #[.slice A (cur j).length cap, .int .i64 err] 120 (0, 0)) :: sl 5 1 A (cur j).length cap (u8n (cur j)) :: H)
    (fun j _ _ => j ≤ width) (fun j _ _ => j) width A cap (Nat.le_refl _) ?_ (fun w hw => by rw [e0]; exact hw) ?_
  · (repeat (first | exact sub_nil _ | (apply sub_cons; first | exact rfl | exact congrArg (fun z : Int => some (Value.int .i64 z)) (by omega))))
  clear e0 hw
  intro j A cap hj K hK
  cases j with
  | zero =>
    repeat' (first | (apply VL_move; exact rfl; exact rfl) | (apply VL_geq; exact rfl; exact rfl; exact rfl; all_goals (intro _; try (exfalso; omega))) | apply VL_nil | apply VQ_then | apply VC_seq | apply VC_region | (apply VC_cond_false; exact rfl) | apply VC_exit | apply VQ_then_exit | apply VQ_block_exit)
    apply VQ_end0; exact rfl
    exact ⟨rfl, A, cap, rfl⟩
  | succ j =>
    have hL := el (j + 1) hj
    have hbit : IntKind.u8.wrap (bits .and .i64 ((v : Int) / 2 ^ (((j + 1 : Nat) : Int) - 1).toNat) 1) = ((v / 2 ^ j % 2 : Nat) : Int) := Bm.bit_i64 v j hv _ (by omega)
    repeat' (first | (apply VL_move; exact rfl; exact rfl) | (apply VL_geq; exact rfl; exact rfl; exact rfl; all_goals (intro _; try (exfalso; omega))) | apply VL_nil | apply VQ_then | apply VC_seq | apply VC_region | (apply VC_cond_true; exact rfl) | apply VC_block | apply VC_skip)
    apply VC_held [0, 1, 2, 3, 4, 5, 6, 7, 8, 9, 10, 11, 12, 13] [14] [true]
    kernel_rfl
    kernel_rfl
    (repeat (first | with_reducible exact split_nil | with_reducible apply split_t | with_reducible apply split_f))
    (simp only [pickOps, nthO]; rfl)
    (simp only [pickOps, nthO]; rfl)
    repeat' (first | (apply VL_buildSlice; (repeat (first | exact parts_nil | (apply parts_cons; exact rfl))); exact bls_byte _; exact rfl; intro _) | (apply VL_move; exact rfl; exact rfl) | (apply VL_assign; exact rfl; exact rfl) | (apply VL_nilCheck; exact rfl; exact rfl) | (apply VL_fieldAddr T; exact rfl; exact rfl; exact rfl) | (apply VL_load T; exact rfl; (focus repeat (first | with_reducible exact List.mem_cons_self | with_reducible apply List.mem_cons_of_mem | assumption)); exact rfl; exact rfl; exact rfl) | (apply VL_sub; exact rfl; exact rfl; exact rfl; omega) | (apply VL_shr; exact rfl; exact rfl; exact rfl; (simp only [IntKind.bits]; omega)) | (apply VL_and; exact rfl; exact rfl; exact rfl) | (apply VL_conv T; exact rfl; exact rfl; exact rfl; exact rfl) | (apply VL_append T; exact rfl; exact rfl; exact rfl; (focus repeat (first | with_reducible exact List.mem_cons_self | with_reducible apply List.mem_cons_of_mem | assumption)); exact rfl; exact rfl; exact rfl; (intro _ _; (repeat (first | with_reducible exact Upd.here _ | with_reducible apply Upd.there))); omega; intro _ _) | (apply VL_store T; exact rfl; exact rfl; exact rfl; (repeat (first | with_reducible exact Upd.here _ | with_reducible apply Upd.there)); (repeat (first | exact setat_here | apply setat_there)); exact rfl) | apply VL_nil | (apply VL_nilh; (repeat (first | with_reducible exact app_nil | with_reducible apply app_cons))) | apply VQ_then | apply VC_region | apply VQ_block_normal | (apply VL_heff; exact rfl; exact rfl; (repeat (first | with_reducible exact app_nil | with_reducible apply app_cons))) | (apply VQ_heldq; (repeat (first | with_reducible exact pull_nil | (with_reducible apply pull_cons; (repeat (first | with_reducible exact rem_here | with_reducible apply rem_there)))))) | apply VQ_tailq | apply VQ_only)
    apply hK j
    · omega
    · omega
    · (repeat (first | exact sub_nil _ | (apply sub_cons; first | exact rfl | exact congrArg (fun z : Int => some (Value.int .i64 z)) (by omega))))
    · intro w hw
      have h2 := (hw.front 1).tail
      rw [hbit] at h2
      have e3 : (cur j).length = (cur (j + 1)).length + 1 := by rw [es j (by omega)]; simp
      rw [e3, es j (by omega), u8n_app]
      exact h2

theorem room_spec (g : Nat) (wn : Nat) {A : Option Addr} {cap : Nat} {bs : List Nat} (hl : bs.length + wn ≤ 524288)
    {B : Nat} {w0 : World} {H : List HP} {w : World} (hw : St B w0 (blk g (.cells #[.slice A bs.length cap, .int .i64 0] 120 (0, 0)) :: H) w) :
    Calls Try.prog 67 [.pointer (some ⟨g, 0, none⟩), .int .i64 wn].toArray w (Post B w0 fun u K => u = .bool true ∧ K = (blk g (.cells #[.slice A bs.length cap, .int .i64 0] 120 (0, 0)) :: H)) := by
  refine Calls_of_VC Try.func67 Try.ntmps67 rfl rfl hw ?_
  repeat' (first | (apply VL_move; exact rfl; exact rfl) | (apply VL_assign; exact rfl; exact rfl) | (apply VL_guard_yes; exact rfl; exact rfl; exact rfl) | (apply VL_nilCheck; exact rfl; exact rfl) | (apply VL_fieldAddr T; exact rfl; exact rfl; exact rfl) | (apply VL_load T; exact rfl; (focus repeat (first | with_reducible exact List.mem_cons_self | with_reducible apply List.mem_cons_of_mem | assumption)); exact rfl; exact rfl; exact rfl) | (apply VL_len T; exact rfl; exact rfl; exact rfl) | (apply VL_pick_true; exact rfl; exact rfl; exact rfl) | (apply VL_eql; exact rfl; exact rfl; exact rfl; all_goals (intro _; try (exfalso; omega))) | (apply VL_gtr; exact rfl; exact rfl; exact rfl; all_goals (intro _; try (exfalso; omega))) | (apply VL_add; exact rfl; exact rfl; exact rfl; omega) | apply VL_nil | apply VQ_then | apply VC_seq | apply VC_region | (apply VC_cond_false; exact rfl) | apply VC_ret | apply VC_skip)
  apply VQ_ret1; exact rfl; exact rfl
  exact ⟨rfl, rfl⟩

theorem runsigned_spec (g : Nat) {width n : Int} (wn nn : Nat) (e1 : width = wn) (e2 : n = nn) (h1 : 1 ≤ wn) (h2 : wn ≤ 62) (h3 : nn < 2 ^ wn) {A : Option Addr} {cap : Nat} {bs : List Nat} (hl : bs.length + wn ≤ 524288)
    {B : Nat} {w0 : World} {H : List HP} {w : World} (hw : St B w0 (blk g (.cells #[.slice A bs.length cap, .int .i64 0] 120 (0, 0)) :: sl 5 1 A bs.length cap (u8n bs) :: H) w) :
    Calls Try.prog 40 [.pointer (some ⟨g, 0, none⟩), .int .i64 width, .int .i64 n].toArray w (Post B w0 fun u K => u = .tuple #[] ∧ ∃ A cap, K = (blk g (.cells #[.slice A (bs ++ Bm.bitsOf wn nn).length cap, .int .i64 0] 120 (0, 0)) :: sl 5 1 A (bs ++ Bm.bitsOf wn nn).length cap (u8n (bs ++ Bm.bitsOf wn nn)) :: H)) := by
  subst e1 e2
  have h4 : 2 ^ wn ≤ 2 ^ 62 := Nat.pow_le_pow_right (by omega) h2
  have h5 : nn < 9223372036854775808 := by omega
  have h6 : IntKind.i64.wrap (1 * 2 ^ (wn : Int).toNat) = ((2 ^ wn : Nat) : Int) := by
    rw [show (1 : Int) * 2 ^ (wn : Int).toNat = ((2 ^ wn : Nat) : Int) by simp, IntKind.wrap_i64]; omega
  refine Calls_of_VC Try.func40 Try.ntmps40 rfl rfl hw ?_
  repeat' (first | (apply VL_move; exact rfl; exact rfl) | (apply VL_guard_yes; exact rfl; exact rfl; exact rfl) | (apply VL_nilCheck; exact rfl; exact rfl) | (apply VL_fieldAddr T; exact rfl; exact rfl; exact rfl) | (apply VL_load T; exact rfl; (focus repeat (first | with_reducible exact List.mem_cons_self | with_reducible apply List.mem_cons_of_mem | assumption)); exact rfl; exact rfl; exact rfl) | (apply VL_pick_true; exact rfl; exact rfl; exact rfl) | (apply VL_pick_false; exact rfl; exact rfl; exact rfl) | (apply VL_neq; exact rfl; exact rfl; exact rfl; all_goals (intro _; try (exfalso; omega))) | (apply VL_lss; exact rfl; exact rfl; exact rfl; all_goals (intro _; try (exfalso; omega))) | (apply VL_gtr; exact rfl; exact rfl; exact rfl; all_goals (intro _; try (exfalso; omega))) | (apply VL_geq; exact rfl; exact rfl; exact rfl; all_goals (intro _; try (exfalso; omega))) | (apply VL_shl; exact rfl; exact rfl; exact rfl; (simp only [IntKind.bits]; omega)) | apply VL_nil | apply VQ_then | apply VC_seq | apply VC_region | (apply VC_cond_false; exact rfl) | apply VC_skip)
  apply VL_call _ en67
  (repeat (first | exact args_nil | (apply args_cons; exact rfl)))
  exact rfl
  exact fun _ hw => (room_spec g wn hl (hw))
  rintro _ _ ⟨rfl, rfl⟩
  repeat' (first | (apply VL_move; exact rfl; exact rfl) | apply VL_nil | apply VQ_then | apply VC_region | (apply VC_cond_true; exact rfl))
  apply VL_call _ en68
  (repeat (first | exact args_nil | (apply args_cons; exact rfl)))
  exact rfl
  exact fun _ hw => (rput_spec g wn nn (by omega) h5 (by omega) (hw))
  rintro _ _ ⟨rfl, A1, cap1, rfl⟩
  repeat' (first | apply VL_nil)
  apply VQ_end0; exact rfl
  exact ⟨rfl, A1, cap1, rfl⟩

theorem rbytes_spec (g : Nat) {A : Option Addr} {cap : Nat} {bs : List Nat} (hb : Bm.Bits bs) (hl : bs.length ≤ 524288)
    {B : Nat} {w0 : World} {H : List HP} {w : World} (hw : St B w0 (blk g (.cells #[.slice A bs.length cap, .int .i64 0] 120 (0, 0)) :: sl 5 1 A bs.length cap (u8n bs) :: H) w) :
    Calls Try.prog 41 [.pointer (some ⟨g, 0, none⟩)].toArray w (Post B w0 fun u K => u = .tuple #[.string (strOf (Bm.pack bs)), .int .i64 0] ∧ K = H) := by
  refine Calls_of_VC Try.func41 Try.ntmps41 rfl rfl hw ?_
  repeat' (first | (apply VL_make1 T; exact rfl; exact rfl; exact rfl; exact zi5; exact rfl; exact rfl; exact rfl; omega; intro _) | (apply VL_move; exact rfl; exact rfl) | (apply VL_assign; exact rfl; exact rfl) | (apply VL_nilCheck; exact rfl; exact rfl) | (apply VL_fieldAddr T; exact rfl; exact rfl; exact rfl) | (apply VL_load T; exact rfl; (focus repeat (first | with_reducible exact List.mem_cons_self | with_reducible apply List.mem_cons_of_mem | assumption)); exact rfl; exact rfl; exact rfl) | (apply VL_len T; exact rfl; exact rfl; exact rfl) | (apply VL_neq; exact rfl; exact rfl; exact rfl; all_goals (intro _; try (exfalso; omega))) | (apply VL_add; exact rfl; exact rfl; exact rfl; omega) | (apply VL_quo; exact rfl; exact rfl; exact rfl; omega) | apply VL_nil | apply VQ_then | apply VC_seq | apply VC_region | (apply VC_cond_false; exact rfl) | apply VC_block | apply VC_skip)
  rename_i g2
  obtain ⟨N, hN⟩ : ∃ N, N = (((bs.length : Int) + 7) / 8).toNat := ⟨_, rfl⟩
  have hN' : N = (bs.length + 7) / 8 := by omega
  rw [← hN]
  refine VC_loop1 (fun (i : Nat) => [(5, .int .i64 i), (4, .slice (some ⟨g2, 0, none⟩) N N), (0, .pointer (some ⟨g, 0, none⟩))])
    (fun i => sl 5 1 (some ⟨g2, 0, none⟩) N N (u8n (Bm.packN N (bs.take i))) :: blk g (.cells #[.slice A bs.length cap, .int .i64 0] 120 (0, 0)) :: sl 5 1 A bs.length cap (u8n bs) :: H)
    (fun i => i ≤ bs.length) (fun i => bs.length - i) 0 (Nat.zero_le _) ?_ (fun w hw => by rw [List.take_zero, Bm.packN_nil, u8n, List.map_replicate]; exact hw) ?_
  · (repeat (first | exact sub_nil _ | (apply sub_cons; first | exact rfl | exact congrArg (fun z : Int => some (Value.int .i64 z)) (by omega))))
  clear hw
  intro i hi K hK
  rcases Nat.lt_or_ge i bs.length with hlt | hge
  · have hold : (Bm.packN N (bs.take i)).getD (i / 8) 0 = Bm.byteAt (bs.take i) (i / 8) := Bm.packN_getD _ (by omega)
    have hc1 : (u8n (Bm.packN N (bs.take i)))[((i : Int) / 8).toNat * 1]? = some (.int .u8 (Bm.byteAt (bs.take i) (i / 8) : Nat)) := by
      rw [show ((i : Int) / 8).toNat * 1 = i / 8 by omega, u8n_get (by rw [Bm.length_packN]; omega), hold]
    have hc2 : (u8n bs)[(i : Int).toNat * 1]? = some (.int .u8 (bs.getD i 0 : Nat)) := by
      rw [show (i : Int).toNat * 1 = i by omega, u8n_get hlt]
    have hq : (u8n (Bm.packN N (bs.take i))).length = N := by rw [length_u8n, Bm.length_packN]
    repeat' (first | (apply VL_move; exact rfl; exact rfl) | (apply VL_nilCheck; exact rfl; exact rfl) | (apply VL_fieldAddr T; exact rfl; exact rfl; exact rfl) | (apply VL_load T; exact rfl; (focus repeat (first | with_reducible exact List.mem_cons_self | with_reducible apply List.mem_cons_of_mem | assumption)); exact rfl; exact rfl; exact rfl) | (apply VL_len T; exact rfl; exact rfl; exact rfl) | (apply VL_lss; exact rfl; exact rfl; exact rfl; all_goals (intro _; try (exfalso; omega))) | apply VL_nil | apply VQ_then | apply VC_seq | apply VC_region | (apply VC_cond_true; exact rfl) | apply VC_block | apply VC_skip)
    apply VC_held [0, 1, 2, 3, 4, 5, 6, 7, 8, 9, 10, 11, 12, 13, 14, 15, 16, 17, 18, 19, 20] [21] [true, true, true]
    kernel_rfl
    kernel_rfl
    (repeat (first | with_reducible exact split_nil | with_reducible apply split_t | with_reducible apply split_f))
    (simp only [pickOps, nthO]; rfl)
    (simp only [pickOps, nthO]; rfl)
    repeat' (first | (apply VL_load_sl T; exact rfl; (focus repeat (first | with_reducible exact List.mem_cons_self | with_reducible apply List.mem_cons_of_mem | assumption)); exact rfl; exact rfl; exact hc1) | (apply VL_load_sl T; exact rfl; (focus repeat (first | with_reducible exact List.mem_cons_self | with_reducible apply List.mem_cons_of_mem | assumption)); exact rfl; exact rfl; exact hc2) | (apply VL_store_sl T; exact rfl; exact rfl; exact rfl; (repeat (first | with_reducible exact Upd.here _ | with_reducible apply Upd.there)); exact rfl; (rw [hq]; omega)) | (apply VL_move; exact rfl; exact rfl) | (apply VL_assign; exact rfl; exact rfl) | (apply VL_nilCheck; exact rfl; exact rfl) | (apply VL_fieldAddr T; exact rfl; exact rfl; exact rfl) | (apply VL_load T; exact rfl; (focus repeat (first | with_reducible exact List.mem_cons_self | with_reducible apply List.mem_cons_of_mem | assumption)); exact rfl; exact rfl; exact rfl) | (apply VL_index_sl T; exact rfl; (focus repeat (first | with_reducible exact List.mem_cons_self | with_reducible apply List.mem_cons_of_mem | assumption)); exact rfl; exact rfl; exact rfl; omega) | (apply VL_add; exact rfl; exact rfl; exact rfl; omega) | (apply VL_sub; exact rfl; exact rfl; exact rfl; omega) | (apply VL_quo; exact rfl; exact rfl; exact rfl; omega) | (apply VL_rem; exact rfl; exact rfl; exact rfl; omega) | (apply VL_shl; exact rfl; exact rfl; exact rfl; (simp only [IntKind.bits]; omega)) | (apply VL_or; exact rfl; exact rfl; exact rfl) | apply VL_nil | (apply VL_nilh; (repeat (first | with_reducible exact app_nil | with_reducible apply app_cons))) | apply VQ_then | apply VC_region | apply VQ_block_normal | apply VQ_tailq | apply VQ_only)
    have hs : bs.take (i + 1) = bs.take i ++ [bs.getD i 0] := by rw [List.take_succ_eq_append_getElem hlt]; simp [List.getD, hlt]
    have hlen : (bs.take i).length = i := by simp; omega
    have hbit : bs.getD i 0 ≤ 1 := Bm.getD_le hb i
    have hfin := Bm.packN_snoc (N := N) (Bm.bits_take hb i) hbit
    rw [hlen, ← hs] at hfin
    apply hK (i + 1)
    · omega
    · omega
    · (repeat (first | exact sub_nil _ | (apply sub_cons; first | exact rfl | exact congrArg (fun z : Int => some (Value.int .i64 z)) (by omega))))
    · intro w hw
      rw [Bm.bit_old _ _ _ hbit (Bm.byteAt_lt (Bm.bits_take hb i) _), show ((i : Int) / 8).toNat * 1 = i / 8 by omega, u8n_set, hfin] at hw
      exact hw
  · have hi' : i = bs.length := by omega
    subst hi'
    repeat' (first | (apply VL_b2s T; exact rfl; (focus repeat (first | with_reducible exact List.mem_cons_self | with_reducible apply List.mem_cons_of_mem | assumption)); exact rfl; exact rfl; exact rfl; exact rfl) | (apply VL_move; exact rfl; exact rfl) | (apply VL_assign; exact rfl; exact rfl) | (apply VL_nilCheck; exact rfl; exact rfl) | (apply VL_fieldAddr T; exact rfl; exact rfl; exact rfl) | (apply VL_load T; exact rfl; (focus repeat (first | with_reducible exact List.mem_cons_self | with_reducible apply List.mem_cons_of_mem | assumption)); exact rfl; exact rfl; exact rfl) | (apply VL_len T; exact rfl; exact rfl; exact rfl) | (apply VL_lss; exact rfl; exact rfl; exact rfl; all_goals (intro _; try (exfalso; omega))) | apply VL_nil | apply VQ_then | apply VC_seq | apply VC_region | (apply VC_cond_false; exact rfl) | apply VC_ret | apply VC_exit | apply VQ_then_exit | apply VQ_block_exit)
    apply VQ_tail; apply VQ_tail; apply VQ_tail; apply VQ_ret2; exact rfl; exact rfl; exact rfl
    refine ⟨?_, rfl⟩
    rw [hN', List.take_length]; rfl
end Go.Proofs.Ytfobgjhjigkigaa
