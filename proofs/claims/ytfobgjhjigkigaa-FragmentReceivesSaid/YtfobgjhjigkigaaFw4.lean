/- Walks: the rest of the writer of bits; Encode. -/
import Derived.Test.YtfobgjhjigkigaaFw3
namespace Go.Proofs.Ytfobgjhjigkigaa
open Go.RowKit Go.Eng

theorem bld_writer (w : World) : (Instr.build 117 [].toArray).run Try.prog w = .ok (.agg #[.slice none 0 0, .int .i64 0, .int .i64 0]) w := by kernel_rfl

theorem newWriter_spec {B : Nat} {w0 : World} {H : List HP} {w : World} (hw : St B w0 H w) :
    Calls Try.prog 36 [].toArray w (Post B w0 fun v K => ∃ g, v = .pointer (some ⟨g, 0, none⟩) ∧ K = blk g (.cells #[.slice none 0 0, .int .i64 0, .int .i64 0] 117 (0, 0)) :: sl 5 1 none 0 0 [] :: H) := by
  refine Calls_of_VC Try.func36 Try.ntmps36 rfl rfl (hw.nilSlice 5 1) ?_
  repeat' (first | (apply VL_build; (repeat (first | exact parts_nil | (apply parts_cons; exact rfl))); exact bld_writer; exact rfl) | (apply VL_assign; exact rfl; exact rfl) | (apply VL_box_agg; exact rfl; exact rfl; intro _) | apply VL_nil | apply VQ_then | apply VC_seq | apply VC_region | apply VC_ret)
  apply VQ_ret1; exact rfl; exact rfl
  exact ⟨_, rfl, rfl⟩

set_option maxRecDepth 10000 in
theorem len64_spec (x : Nat) (hx : x < 18446744073709551616) {B : Nat} {w0 : World} {H : List HP} {w : World} (hw : St B w0 H w) :
    Calls Try.prog 92 [.int .u64 x].toArray w (Post B w0 fun v K => v = .int .i64 (Bm.blen x) ∧ K = H) := by
  refine Calls_of_VC Try.func92 Try.ntmps92 rfl rfl hw ?_
  repeat' (first | (apply VL_index_tab T 256 Bm.blen; kernel_rfl; exact rfl; exact rfl; exact rfl; (rw [IntKind.wrap_u8']; omega)) | (apply VL_move; exact rfl; exact rfl) | (apply VL_assign; exact rfl; exact rfl) | (apply VL_geq; exact rfl; exact rfl; exact rfl; all_goals (intro _; try (exfalso; omega))) | (apply VL_add; exact rfl; exact rfl; exact rfl; omega) | (apply VL_add_any; exact rfl; exact rfl; exact rfl; intro _ _) | (apply VL_shr_c; exact rfl; exact rfl; (simp only [IntKind.bits]; omega); (simp only [Int.reduceToNat, Int.reducePow]; rfl)) | (apply VL_conv T; exact rfl; exact rfl; exact rfl; exact rfl) | apply VL_nil | apply VQ_then | apply VC_seq | apply VC_region | (apply VC_cond_true; exact rfl) | (apply VC_cond_false; exact rfl) | apply VC_ret | apply VC_skip)
  all_goals (((repeat apply VQ_tail); apply VQ_ret1; exact rfl; exact rfl; refine ⟨congrArg _ ?_, rfl⟩))
  · rename_i hr; exact Bm.len_leaf (s := 56) (D := 72057594037927936) (hr := hr) (by decide) (by omega) (by omega) (by omega) (by decide) (by decide)
  · rename_i hr; exact Bm.len_leaf (s := 48) (D := 281474976710656) (hr := hr) (by decide) (by omega) (by omega) (by omega) (by decide) (by decide)
  · rename_i hr; exact Bm.len_leaf (s := 40) (D := 1099511627776) (hr := hr) (by decide) (by omega) (by omega) (by omega) (by decide) (by decide)
  · rename_i hr; exact Bm.len_leaf (s := 32) (D := 4294967296) (hr := hr) (by decide) (by omega) (by omega) (by omega) (by decide) (by decide)
  · rename_i hr; exact Bm.len_leaf (s := 24) (D := 16777216) (hr := hr) (by decide) (by omega) (by omega) (by omega) (by decide) (by decide)
  · rename_i hr; exact Bm.len_leaf (s := 16) (D := 65536) (hr := hr) (by decide) (by omega) (by omega) (by omega) (by decide) (by decide)
  · rename_i hr; exact Bm.len_leaf (s := 8) (D := 256) (hr := hr) (by decide) (by omega) (by omega) (by omega) (by decide) (by decide)
  · rename_i hr; exact Bm.len_leaf (s := 0) (D := 1) (hr := hr) (by decide) (by omega) (by omega) (by omega) (by decide) (by decide)

theorem len_spec (x : Nat) (hx : x < 18446744073709551616) {B : Nat} {w0 : World} {H : List HP} {w : World} (hw : St B w0 H w) :
    Calls Try.prog 65 [.int .u64 x].toArray w (Post B w0 fun v K => v = .int .i64 (Bm.blen x) ∧ K = H) := by
  refine Calls_of_VC Try.func65 Try.ntmps65 rfl rfl hw ?_
  repeat' (first | (apply VL_move; exact rfl; exact rfl) | (apply VL_assign; exact rfl; exact rfl) | apply VL_nil | apply VQ_then | apply VC_seq | apply VC_region | (apply VC_cond_false; exact rfl) | apply VC_skip)
  first | apply VL_callt en92 | apply VL_callq en92
  (repeat (first | exact args_nil | (apply args_cons; exact rfl)))
  exact rfl
  exact fun _ hw => (len64_spec x hx hw)
  repeat' (first | (apply VL_assign; exact rfl; exact rfl) | apply VL_nil | apply VQ_then | apply VC_ret)
  ((repeat apply VQ_tail); apply VQ_ret1; exact rfl; exact rfl; refine ⟨congrArg _ ?_, rfl⟩)
  rfl

theorem field_spec (g : Nat) {width n : Int} (wn nn : Nat) (e1 : width = wn) (e2 : n = nn) (h1 : 1 ≤ wn) (h2 : wn ≤ 63) (h3 : nn < 9223372036854775808) {A : Option Addr} {cap : Nat} {bs : List Nat} (hb : Bm.Bits bs) (hl : bs.length + wn ≤ 524288)
    {B : Nat} {w0 : World} {H : List HP} {w : World} (hw : St B w0 (blk g (.cells #[.slice A (Bm.pack bs).length cap, .int .i64 bs.length, .int .i64 0] 117 (0, 0)) :: sl 5 1 A (Bm.pack bs).length cap (u8n (Bm.pack bs)) :: H) w) :
    Calls Try.prog 66 [.pointer (some ⟨g, 0, none⟩), .bool true, .bool true, .int .i64 width, .int .i64 n].toArray w (Post B w0 fun u K => u = .tuple #[] ∧ ∃ A cap, K = (blk g (.cells #[.slice A (Bm.pack (bs ++ Bm.bitsOf wn nn)).length cap, .int .i64 (bs ++ Bm.bitsOf wn nn).length, .int .i64 0] 117 (0, 0)) :: sl 5 1 A (Bm.pack (bs ++ Bm.bitsOf wn nn)).length cap (u8n (Bm.pack (bs ++ Bm.bitsOf wn nn))) :: H)) := by
  subst e1 e2
  refine Calls_of_VC Try.func66 Try.ntmps66 rfl rfl hw ?_
  repeat' (first | (apply VL_move; exact rfl; exact rfl) | (apply VL_assign; exact rfl; exact rfl) | (apply VL_nilCheck; exact rfl; exact rfl) | (apply VL_fieldAddr T; exact rfl; exact rfl; exact rfl) | (apply VL_load T; exact rfl; (focus repeat (first | with_reducible exact List.mem_cons_self | with_reducible apply List.mem_cons_of_mem | assumption)); exact rfl; exact rfl; exact rfl) | (apply VL_neq; exact rfl; exact rfl; exact rfl; all_goals (intro _; try (exfalso; omega))) | (apply VL_gtr; exact rfl; exact rfl; exact rfl; all_goals (intro _; try (exfalso; omega))) | (apply VL_add; exact rfl; exact rfl; exact rfl; omega) | (apply VL_conv T; exact rfl; exact rfl; exact rfl; exact rfl) | (apply VL_not_true; exact rfl; exact rfl) | apply VL_nil | apply VQ_then | apply VC_seq | apply VC_region | (apply VC_cond_false; exact rfl) | apply VC_block)
  rw [show IntKind.u64.wrap (nn : Int) = (nn : Int) by rw [IntKind.wrap_u64]; omega]
  apply VL_call _ en93
  (repeat (first | exact args_nil | (apply args_cons; exact rfl)))
  exact rfl
  exact fun _ hw => (put_spec g wn nn (by omega) (by omega) hb (by omega) (hw))
  rintro _ _ ⟨rfl, A1, cap1, rfl⟩
  repeat' (first | apply VL_nil | apply VQ_block_normal)
  apply VQ_end0; exact rfl
  exact ⟨rfl, A1, cap1, rfl⟩

theorem unsigned_spec (g : Nat) {width n : Int} (wn nn : Nat) (e1 : width = wn) (e2 : n = nn) (h1 : 1 ≤ wn) (h2 : wn ≤ 63) (h3 : nn < 2 ^ wn) {A : Option Addr} {cap : Nat} {bs : List Nat} (hb : Bm.Bits bs) (hl : bs.length + wn ≤ 524288)
    {B : Nat} {w0 : World} {H : List HP} {w : World} (hw : St B w0 (blk g (.cells #[.slice A (Bm.pack bs).length cap, .int .i64 bs.length, .int .i64 0] 117 (0, 0)) :: sl 5 1 A (Bm.pack bs).length cap (u8n (Bm.pack bs)) :: H) w) :
    Calls Try.prog 37 [.pointer (some ⟨g, 0, none⟩), .int .i64 width, .int .i64 n].toArray w (Post B w0 fun u K => u = .tuple #[] ∧ ∃ A cap, K = (blk g (.cells #[.slice A (Bm.pack (bs ++ Bm.bitsOf wn nn)).length cap, .int .i64 (bs ++ Bm.bitsOf wn nn).length, .int .i64 0] 117 (0, 0)) :: sl 5 1 A (Bm.pack (bs ++ Bm.bitsOf wn nn)).length cap (u8n (Bm.pack (bs ++ Bm.bitsOf wn nn))) :: H)) := by
  subst e1 e2
  have h4 : 2 ^ wn ≤ 2 ^ 63 := Nat.pow_le_pow_right (by omega) h2
  have h5 : nn < 9223372036854775808 := by omega
  have h6 := Bm.blen_le nn wn h3
  clear h3 h4
  refine Calls_of_VC Try.func37 Try.ntmps37 rfl rfl hw ?_
  repeat' (first | (apply VL_move; exact rfl; exact rfl) | (apply VL_assign; exact rfl; exact rfl) | (apply VL_guard_yes; exact rfl; exact rfl; exact rfl) | (apply VL_pick_true; exact rfl; exact rfl; exact rfl) | (apply VL_leq; exact rfl; exact rfl; exact rfl; all_goals (intro _; try (exfalso; omega))) | (apply VL_geq; exact rfl; exact rfl; exact rfl; all_goals (intro _; try (exfalso; omega))) | (apply VL_conv T; exact rfl; exact rfl; exact rfl; exact rfl) | apply VL_nil | apply VQ_then | apply VC_seq | apply VC_region)
  rw [show IntKind.u64.wrap (nn : Int) = (nn : Int) by rw [IntKind.wrap_u64]; omega]
  first | apply VL_callt en65 | apply VL_callq en65
  (repeat (first | exact args_nil | (apply args_cons; exact rfl)))
  exact rfl
  exact fun _ hw => (len_spec nn (by omega) hw)
  repeat' (first | (apply VL_move; exact rfl; exact rfl) | (apply VL_guard_yes; exact rfl; exact rfl; exact rfl) | (apply VL_pick_true; exact rfl; exact rfl; exact rfl) | (apply VL_leq; exact rfl; exact rfl; exact rfl; all_goals (intro _; try (exfalso; omega))))
  apply VL_call _ en66
  (repeat (first | exact args_nil | (apply args_cons; exact rfl)))
  exact rfl
  exact fun _ hw => (field_spec g wn nn rfl rfl h1 h2 h5 hb hl (hw))
  rintro _ _ ⟨rfl, A1, cap1, rfl⟩
  repeat' (first | apply VL_nil)
  apply VQ_end0; exact rfl
  exact ⟨rfl, A1, cap1, rfl⟩

theorem bytes_spec (g : Nat) {A : Option Addr} {cap : Nat} {bs : List Nat}
    {B : Nat} {w0 : World} {H : List HP} {w : World} (hw : St B w0 (blk g (.cells #[.slice A (Bm.pack bs).length cap, .int .i64 bs.length, .int .i64 0] 117 (0, 0)) :: sl 5 1 A (Bm.pack bs).length cap (u8n (Bm.pack bs)) :: H) w) :
    Calls Try.prog 38 [.pointer (some ⟨g, 0, none⟩)].toArray w (Post B w0 fun u K => u = .tuple #[.string (strOf (Bm.pack bs)), .int .i64 0] ∧ K = H) := by
  refine Calls_of_VC Try.func38 Try.ntmps38 rfl rfl hw ?_
  repeat' (first | (apply VL_b2s T; exact rfl; (focus repeat (first | with_reducible exact List.mem_cons_self | with_reducible apply List.mem_cons_of_mem | assumption)); exact rfl; exact rfl; exact rfl; exact rfl) | (apply VL_move; exact rfl; exact rfl) | (apply VL_assign; exact rfl; exact rfl) | (apply VL_nilCheck; exact rfl; exact rfl) | (apply VL_fieldAddr T; exact rfl; exact rfl; exact rfl) | (apply VL_load T; exact rfl; (focus repeat (first | with_reducible exact List.mem_cons_self | with_reducible apply List.mem_cons_of_mem | assumption)); exact rfl; exact rfl; exact rfl) | (apply VL_neq; exact rfl; exact rfl; exact rfl; all_goals (intro _; try (exfalso; omega))) | apply VL_nil | apply VQ_then | apply VC_seq | apply VC_region | (apply VC_cond_false; exact rfl) | apply VC_ret | apply VC_skip)
  apply VQ_tail; apply VQ_tail; apply VQ_ret2; exact rfl; exact rfl; exact rfl
  exact ⟨rfl, rfl⟩
end Go.Proofs.Ytfobgjhjigkigaa
