/- Walks: the writer of bits. -/
import Derived.Test.YtfobgjhjigkigaaTab

import Derived.Test.YtfobgjhjigkigaaE3
import Derived.Test.YtfobgjhjigkigaaBm
namespace Go.Proofs.Ytfobgjhjigkigaa
open Go.RowKit Go.Eng

theorem bls_byte0 (w : World) : (Instr.buildSlice 39 1 [(0, .int .u8 0)].toArray).run Try.prog w = .ok (.slice (some ⟨w.heap.size, 0, none⟩) 1 1) (w.alloc (.cells #[.int .u8 0] 5 (0, 0))) := by kernel_rfl

theorem put_spec (g width v : Nat) (hwd : width ≤ 64) (hv : v < 18446744073709551616) {A : Option Addr} {cap : Nat} {bs : List Nat} {err : Int} (hb : Bm.Bits bs) (h1 : bs.length ≤ 1000000)
    {B : Nat} {w0 : World} {H : List HP} {w : World} (hw : St B w0 (blk g (.cells #[.slice A (Bm.pack bs).length cap, .int .i64 bs.length, .int .i64 err] 117 (0, 0)) :: sl 5 1 A (Bm.pack bs).length cap (u8n (Bm.pack bs)) :: H) w) :
    Calls Try.prog 93 [.pointer (some ⟨g, 0, none⟩), .int .i64 width, .int .u64 v].toArray w (Post B w0 fun u K => u = .tuple #[] ∧ ∃ A cap, K = (blk g (.cells #[.slice A (Bm.pack (bs ++ Bm.bitsOf width v)).length cap, .int .i64 (bs ++ Bm.bitsOf width v).length, .int .i64 err] 117 (0, 0)) :: sl 5 1 A (Bm.pack (bs ++ Bm.bitsOf width v)).length cap (u8n (Bm.pack (bs ++ Bm.bitsOf width v))) :: H)) := by
  refine Calls_of_VC Try.func93 Try.ntmps93 rfl rfl hw ?_
  repeat' (first | (apply VL_move; exact rfl; exact rfl) | (apply VL_assign; exact rfl; exact rfl) | (apply VL_sub; exact rfl; exact rfl; exact rfl; omega) | apply VL_nil | apply VQ_then | apply VC_seq | apply VC_region | apply VC_block)
  have hcur : ∃ cur : Nat → List Nat, cur = fun j => bs ++ (Bm.bitsOf width v).take (width - j) := ⟨_, rfl⟩
  obtain ⟨cur, hcur⟩ := hcur
  have e0 : cur width = bs := by rw [hcur]; simp
  have e1 : cur 0 = bs ++ Bm.bitsOf width v := by rw [hcur]; simp [Bm.length_bitsOf, List.take_of_length_le]
  have eb : ∀ j, Bm.Bits (cur j) := fun j => by rw [hcur]; exact Bm.bits_append hb (Bm.bits_take (Bm.bits_bitsOf _ _) _)
  have es : ∀ j, j < width → cur j = cur (j + 1) ++ [v / 2 ^ j % 2] := fun j hj => by
    rw [hcur]
    show bs ++ _ = (bs ++ _) ++ _
    rw [List.append_assoc, show width - j = (width - (j + 1)) + 1 by omega, Bm.take_bitsOf (by omega), show width - 1 - (width - (j + 1)) = j by omega]
  have el : ∀ j, j ≤ width → (cur j).length = bs.length + (width - j) := fun j hj => by rw [hcur]; simp [Bm.length_bitsOf]
  clear hcur
  rw [← e1]
  refine VC_loop3 (fun (j : Nat) (A : Option Addr) (cap : Nat) => [(6, .int .i64 ((j : Int) - 1)), (0, .pointer (some ⟨g, 0, none⟩)), (2, .int .u64 v)])
    (fun j A cap => blk g (.cells #[.slice A (Bm.pack (cur j)).length cap, .int .i64 (cur j).length, .int .i64 err] 117 (0, 0)) :: sl 5 1 A (Bm.pack (cur j)).length cap (u8n (Bm.pack (cur j))) :: H)
    (fun j _ _ => j ≤ width) (fun j _ _ => j) width A cap (Nat.le_refl _) ?_ (fun w hw => by rw [e0]; exact hw) ?_
  · (repeat (first | exact sub_nil _ | (apply sub_cons; first | exact rfl | exact congrArg (fun z : Int => some (Value.int .i64 z)) (by omega))))
  clear e0 hw
  intro j A cap hj K hK
  cases j with
  | zero =>
    repeat' (first | (apply VL_move; exact rfl; exact rfl) | (apply VL_geq; exact rfl; exact rfl; exact rfl; all_goals (intro _; try (exfalso; omega))) | apply VL_nil | apply VQ_then | apply VC_seq | apply VC_region | (apply VC_cond_false; exact rfl) | apply VC_exit | apply VQ_then_exit | apply VQ_block_exit)
    apply VQ_end0; exact rfl
    exact ⟨rfl, A, cap, rfl⟩
  | succ j =>
    have hL := el (j + 1) hj
    have hP := Bm.length_pack (cur (j + 1))
    have hP2 : (Bm.pack (cur (j + 1))).length ≤ 1000100 := by omega
    clear hP
    repeat' (first | (apply VL_buildSlice; (repeat (first | exact parts_nil | (apply parts_cons; exact rfl))); exact bls_byte0; exact rfl; intro _) | (apply VL_move; exact rfl; exact rfl) | (apply VL_nilCheck; exact rfl; exact rfl) | (apply VL_fieldAddr T; exact rfl; exact rfl; exact rfl) | (apply VL_load T; exact rfl; (focus repeat (first | with_reducible exact List.mem_cons_self | with_reducible apply List.mem_cons_of_mem | assumption)); exact rfl; exact rfl; exact rfl) | (apply VL_eql; exact rfl; exact rfl; exact rfl; all_goals (intro _; try (exfalso; omega))) | (apply VL_geq; exact rfl; exact rfl; exact rfl; all_goals (intro _; try (exfalso; omega))) | (apply VL_rem; exact rfl; exact rfl; exact rfl; omega) | (apply VL_append T; exact rfl; exact rfl; exact rfl; (focus repeat (first | with_reducible exact List.mem_cons_self | with_reducible apply List.mem_cons_of_mem | assumption)); exact rfl; exact rfl; exact rfl; (intro _ _; (repeat (first | with_reducible exact Upd.here _ | with_reducible apply Upd.there))); omega; intro _ _) | (apply VL_store T; exact rfl; exact rfl; exact rfl; (repeat (first | with_reducible exact Upd.here _ | with_reducible apply Upd.there)); (repeat (first | exact setat_here | apply setat_there)); exact rfl) | apply VL_nil | apply VQ_then | apply VC_seq | apply VC_region | (apply VC_cond_true; exact rfl) | (apply VC_cond_false; exact rfl) | apply VC_block | apply VC_skip)
    · rw [u8n_snoc]
      obtain ⟨ys, hys⟩ : ∃ ys, ys = Bm.pack (cur (j + 1)) ++ [0] := ⟨_, rfl⟩
      have hy8 : ys.length = (cur (j + 1)).length / 8 + 1 := by rw [hys]; simp [Bm.length_pack]; omega
      rw [← hys, show (Bm.pack (cur (j + 1))).length + 1 = ys.length by rw [hys]; simp]
      have hold : ys.getD ((cur (j + 1)).length / 8) 0 < 256 := by
        rw [hys]
        rcases Nat.lt_or_ge ((cur (j + 1)).length / 8) (Bm.pack (cur (j + 1))).length with h | h
        · rw [List.getD, List.getElem?_append_left h, ← List.getD]; rw [List.getD, Bm.getElem?_pack, if_pos (by rw [Bm.length_pack] at h; exact h)]; exact Bm.byteAt_lt (eb _) _
        · have hq := Bm.length_pack (cur (j + 1)); rw [List.getD, List.getElem?_append_right h, show (cur (j + 1)).length / 8 - (Bm.pack (cur (j + 1))).length = 0 by omega]; decide
      have hfin : ys.set ((cur (j + 1)).length / 8) (ys.getD ((cur (j + 1)).length / 8) 0 ||| (v / 2 ^ j % 2 * 2 ^ (7 - (cur (j + 1)).length % 8))) = Bm.pack (cur j) := by
        have h := Bm.pack_snoc (eb (j + 1)) (b := v / 2 ^ j % 2) (by omega)
        rw [if_pos (by omega), ← hys, ← es j (by omega)] at h
        exact h
      have hcell : (u8n ys)[(((cur (j + 1)).length : Int) / 8).toNat * 1]? = some (.int .u8 (ys.getD ((cur (j + 1)).length / 8) 0 : Nat)) := by
        rw [show (((cur (j + 1)).length : Int) / 8).toNat * 1 = (cur (j + 1)).length / 8 by omega]; exact u8n_get (by omega)
      apply VC_held [0, 1, 2, 3, 4, 5, 6, 7, 8, 9, 10, 11, 12, 13, 14, 15, 16, 17, 18, 19, 20, 21, 22, 23, 24] [25] [false, true, true]
      kernel_rfl
      kernel_rfl
      (repeat (first | with_reducible exact split_nil | with_reducible apply split_t | with_reducible apply split_f))
      (simp only [pickOps, nthO]; rfl)
      (simp only [pickOps, nthO]; rfl)
      repeat' (first | (apply VL_load_sl T; exact rfl; (focus repeat (first | with_reducible exact List.mem_cons_self | with_reducible apply List.mem_cons_of_mem | assumption)); exact rfl; exact rfl; exact hcell) | (apply VL_store_sl T; exact rfl; exact rfl; exact rfl; (repeat (first | with_reducible exact Upd.here _ | with_reducible apply Upd.there)); exact rfl; (rw [length_u8n]; omega)) | (apply VL_move; exact rfl; exact rfl) | (apply VL_assign; exact rfl; exact rfl) | (apply VL_nilCheck; exact rfl; exact rfl) | (apply VL_fieldAddr T; exact rfl; exact rfl; exact rfl) | (apply VL_load T; exact rfl; (focus repeat (first | with_reducible exact List.mem_cons_self | with_reducible apply List.mem_cons_of_mem | assumption)); exact rfl; exact rfl; exact rfl) | (apply VL_index_sl T; exact rfl; (focus repeat (first | with_reducible exact List.mem_cons_self | with_reducible apply List.mem_cons_of_mem | assumption)); exact rfl; exact rfl; exact rfl; omega) | (apply VL_add; exact rfl; exact rfl; exact rfl; omega) | (apply VL_sub; exact rfl; exact rfl; exact rfl; omega) | (apply VL_quo; exact rfl; exact rfl; exact rfl; omega) | (apply VL_rem; exact rfl; exact rfl; exact rfl; omega) | (apply VL_shr; exact rfl; exact rfl; exact rfl; (simp only [IntKind.bits]; omega)) | (apply VL_shl; exact rfl; exact rfl; exact rfl; (simp only [IntKind.bits]; omega)) | (apply VL_and; exact rfl; exact rfl; exact rfl) | (apply VL_or; exact rfl; exact rfl; exact rfl) | (apply VL_conv T; exact rfl; exact rfl; exact rfl; exact rfl) | (apply VL_store T; exact rfl; exact rfl; exact rfl; (repeat (first | with_reducible exact Upd.here _ | with_reducible apply Upd.there)); (repeat (first | exact setat_here | apply setat_there)); exact rfl) | apply VL_nil | (apply VL_nilh; (repeat (first | with_reducible exact app_nil | with_reducible apply app_cons))) | apply VQ_then | apply VC_region | apply VQ_block_normal | apply VQ_tailq | apply VQ_only)
      apply hK j
      · omega
      · omega
      · (repeat (first | exact sub_nil _ | (apply sub_cons; first | exact rfl | exact congrArg (fun z : Int => some (Value.int .i64 z)) (by omega))))
      · intro w hw
        have h2 := (hw.front 2).tail
        rw [Bm.bit_val v j _ _ hv hold _ (by omega), show (((cur (j + 1)).length : Int) / 8).toNat * 1 = (cur (j + 1)).length / 8 by omega, u8n_set, hfin] at h2
        have e3 : ys.length = (Bm.pack (cur j)).length := by rw [← hfin]; simp
        have e4 : ((cur j).length : Int) = (cur (j + 1)).length + 1 := by rw [es j (by omega)]; simp
        rw [e3] at h2
        rw [e4]
        exact h2
    · skip
      obtain ⟨ys, hys⟩ : ∃ ys, ys = Bm.pack (cur (j + 1)) := ⟨_, rfl⟩
      have hy8 : ys.length = (cur (j + 1)).length / 8 + 1 := by rw [hys]; simp [Bm.length_pack]; omega
      rw [← hys]
      have hold : ys.getD ((cur (j + 1)).length / 8) 0 < 256 := by
        rw [hys]
        rcases Nat.lt_or_ge ((cur (j + 1)).length / 8) (Bm.pack (cur (j + 1))).length with h | h
        · rw [List.getD, Bm.getElem?_pack, if_pos (by rw [Bm.length_pack] at h; exact h)]; exact Bm.byteAt_lt (eb _) _
        · rw [List.getD, List.getElem?_eq_none h]; decide
      have hfin : ys.set ((cur (j + 1)).length / 8) (ys.getD ((cur (j + 1)).length / 8) 0 ||| (v / 2 ^ j % 2 * 2 ^ (7 - (cur (j + 1)).length % 8))) = Bm.pack (cur j) := by
        have h := Bm.pack_snoc (eb (j + 1)) (b := v / 2 ^ j % 2) (by omega)
        rw [if_neg (by omega), ← hys, ← es j (by omega)] at h
        exact h
      have hcell : (u8n ys)[(((cur (j + 1)).length : Int) / 8).toNat * 1]? = some (.int .u8 (ys.getD ((cur (j + 1)).length / 8) 0 : Nat)) := by
        rw [show (((cur (j + 1)).length : Int) / 8).toNat * 1 = (cur (j + 1)).length / 8 by omega]; exact u8n_get (by omega)
      apply VC_held [0, 1, 2, 3, 4, 5, 6, 7, 8, 9, 10, 11, 12, 13, 14, 15, 16, 17, 18, 19, 20, 21, 22, 23, 24] [25] [true, true]
      kernel_rfl
      kernel_rfl
      (repeat (first | with_reducible exact split_nil | with_reducible apply split_t | with_reducible apply split_f))
      (simp only [pickOps, nthO]; rfl)
      (simp only [pickOps, nthO]; rfl)
      repeat' (first | (apply VL_load_sl T; exact rfl; (focus repeat (first | with_reducible exact List.mem_cons_self | with_reducible apply List.mem_cons_of_mem | assumption)); exact rfl; exact rfl; exact hcell) | (apply VL_store_sl T; exact rfl; exact rfl; exact rfl; (repeat (first | with_reducible exact Upd.here _ | with_reducible apply Upd.there)); exact rfl; (rw [length_u8n]; omega)) | (apply VL_move; exact rfl; exact rfl) | (apply VL_assign; exact rfl; exact rfl) | (apply VL_nilCheck; exact rfl; exact rfl) | (apply VL_fieldAddr T; exact rfl; exact rfl; exact rfl) | (apply VL_load T; exact rfl; (focus repeat (first | with_reducible exact List.mem_cons_self | with_reducible apply List.mem_cons_of_mem | assumption)); exact rfl; exact rfl; exact rfl) | (apply VL_index_sl T; exact rfl; (focus repeat (first | with_reducible exact List.mem_cons_self | with_reducible apply List.mem_cons_of_mem | assumption)); exact rfl; exact rfl; exact rfl; omega) | (apply VL_add; exact rfl; exact rfl; exact rfl; omega) | (apply VL_sub; exact rfl; exact rfl; exact rfl; omega) | (apply VL_quo; exact rfl; exact rfl; exact rfl; omega) | (apply VL_rem; exact rfl; exact rfl; exact rfl; omega) | (apply VL_shr; exact rfl; exact rfl; exact rfl; (simp only [IntKind.bits]; omega)) | (apply VL_shl; exact rfl; exact rfl; exact rfl; (simp only [IntKind.bits]; omega)) | (apply VL_and; exact rfl; exact rfl; exact rfl) | (apply VL_or; exact rfl; exact rfl; exact rfl) | (apply VL_conv T; exact rfl; exact rfl; exact rfl; exact rfl) | (apply VL_store T; exact rfl; exact rfl; exact rfl; (repeat (first | with_reducible exact Upd.here _ | with_reducible apply Upd.there)); (repeat (first | exact setat_here | apply setat_there)); exact rfl) | apply VL_nil | (apply VL_nilh; (repeat (first | with_reducible exact app_nil | with_reducible apply app_cons))) | apply VQ_then | apply VC_region | apply VQ_block_normal | apply VQ_tailq | apply VQ_only)
      apply hK j
      · omega
      · omega
      · (repeat (first | exact sub_nil _ | (apply sub_cons; first | exact rfl | exact congrArg (fun z : Int => some (Value.int .i64 z)) (by omega))))
      · intro w hw
        have h2 := hw
        rw [Bm.bit_val v j _ _ hv hold _ (by omega), show (((cur (j + 1)).length : Int) / 8).toNat * 1 = (cur (j + 1)).length / 8 by omega, u8n_set, hfin] at h2
        have e3 : ys.length = (Bm.pack (cur j)).length := by rw [← hfin]; simp
        have e4 : ((cur j).length : Int) = (cur (j + 1)).length + 1 := by rw [es j (by omega)]; simp
        rw [e3] at h2
        rw [e4]
        exact h2
end Go.Proofs.Ytfobgjhjigkigaa
