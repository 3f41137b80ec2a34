/- Walks: the receiver's get and belongs. -/
import Derived.Test.YtfobgjhjigkigaaFw8

namespace Go.Proofs.Ytfobgjhjigkigaa
open Go.RowKit Go.Eng

def newDg (g clock : Nat) (tag cnt size part : Int) : Dg := ⟨g, clock, tag, cnt, size, part, 0, 0, List.replicate 32 ⟨#[]⟩⟩
def findD (ds : List Dg) (tag : Int) : Option Dg := ds.find? fun d => d.tag == tag
theorem mget_ents (ds : List Dg) (tag : Int) : mget (ds.map Dg.ent) tag = (findD ds tag).map fun d => .pointer (some ⟨d.g, 0, none⟩) := by
  induction ds with
  | nil => rfl
  | cons d ds ih =>
    simp only [mget, findD, List.map_cons, List.find?_cons] at *
    rw [show d.ent.1 = d.tag from rfl]
    cases h : d.tag == tag
    · exact ih
    · rfl

theorem z_dg (w : World) : (zeroValue 81).run Try.prog w = .ok (.pointer none) w := by kernel_rfl
theorem bld_dg (g c : Nat) (tag cnt size part : Int) (w : World) : (Instr.build 84 [(0, .int .i64 cnt), (1, .int .i64 size), (2, .int .i64 part)].toArray).run Try.prog w = .ok (.agg (newDg g c tag cnt size part).cells.toArray) w := by kernel_rfl

theorem get_old (hold time : Int) (m r : Nat) (ds : List Dg) (clock : Nat) (d : Dg) (tag idx cnt size : Int) (s : ByteArray) (hf : findD ds tag = some d) {B : Nat} {w0 : World} {H : List HP} {w : World} (hw : St B w0 (rpcs r m hold time ds clock H) w) :
    Calls Try.prog 46 [.pointer (some ⟨r, 0, none⟩), .agg #[.int .i64 tag, .int .i64 idx, .int .i64 cnt, .int .i64 size, .string s]].toArray w (Post B w0 fun v K => v = .pointer (some ⟨d.g, 0, none⟩) ∧ K = rpcs r m hold time ds clock H) := by
  refine Calls_of_VC Try.func46 Try.ntmps46 rfl rfl hw ?_
  have hk : mget (ds.map Dg.ent) tag = some (.pointer (some ⟨d.g, 0, none⟩)) := by rw [mget_ents, hf]; rfl
  unfold rpcs
  repeat' (first | (apply VL_lookup1 (kt := 3) (et := 81); exact rfl; exact rfl; (focus repeat (first | with_reducible exact List.mem_cons_self | with_reducible apply List.mem_cons_of_mem | assumption)); kernel_rfl; exact rfl; exact hk) | (apply VL_peql0; exact rfl; exact rfl; kernel_rfl) | (apply VL_move; exact rfl; exact rfl) | (apply VL_assign; exact rfl; exact rfl) | (apply VL_guard_no; exact rfl; exact rfl; exact rfl; exact rfl; exact rfl) | (apply VL_nilCheck; exact rfl; exact rfl) | (apply VL_fieldAddr T; exact rfl; exact rfl; exact rfl) | (apply VL_load T; exact rfl; (focus repeat (first | with_reducible exact List.mem_cons_self | with_reducible apply List.mem_cons_of_mem | assumption)); exact rfl; exact rfl; exact rfl) | (apply VL_pick_false; exact rfl; exact rfl; exact rfl) | (apply VL_box_agg; exact rfl; exact rfl; intro _) | apply VL_nil | apply VL_nilq | apply VQ_then | apply VC_seq | apply VC_region | (apply VC_cond_false; exact rfl) | apply VC_ret | apply VC_skip | (apply VC_drawp; exact rfl; kernel_rfl; kernel_rfl))
  apply VQ_tail; apply VQ_ret1; exact rfl; exact rfl
  exact ⟨rfl, rfl⟩

theorem get_full (hold time : Int) (m r : Nat) (ds : List Dg) (clock : Nat) (tag idx cnt size : Int) (s : ByteArray) (hf : findD ds tag = none) (hl : 8 ≤ ds.length) {B : Nat} {w0 : World} {H : List HP} {w : World} (hw : St B w0 (rpcs r m hold time ds clock H) w) :
    Calls Try.prog 46 [.pointer (some ⟨r, 0, none⟩), .agg #[.int .i64 tag, .int .i64 idx, .int .i64 cnt, .int .i64 size, .string s]].toArray w (Post B w0 fun v K => v = .pointer none ∧ K = rpcs r m hold time ds clock H) := by
  refine Calls_of_VC Try.func46 Try.ntmps46 rfl rfl hw ?_
  have hk : mget (ds.map Dg.ent) tag = none := by rw [mget_ents, hf]; rfl
  have hle : (ds.map Dg.ent).length = ds.length := List.length_map _
  unfold rpcs
  repeat' (first | (apply VL_lookup0 (kt := 3) (et := 81); exact rfl; exact rfl; (focus repeat (first | with_reducible exact List.mem_cons_self | with_reducible apply List.mem_cons_of_mem | assumption)); kernel_rfl; exact rfl; exact hk; exact z_dg) | (apply VL_peql0; exact rfl; exact rfl; kernel_rfl) | (apply VL_mlen (kt := 3) (et := 81); exact rfl; (focus repeat (first | with_reducible exact List.mem_cons_self | with_reducible apply List.mem_cons_of_mem | assumption)); kernel_rfl; exact rfl) | (apply VL_move; exact rfl; exact rfl) | (apply VL_assign; exact rfl; exact rfl) | (apply VL_guard_yes; exact rfl; exact rfl; exact rfl) | (apply VL_nilCheck; exact rfl; exact rfl) | (apply VL_fieldAddr T; exact rfl; exact rfl; exact rfl) | (apply VL_load T; exact rfl; (focus repeat (first | with_reducible exact List.mem_cons_self | with_reducible apply List.mem_cons_of_mem | assumption)); exact rfl; exact rfl; exact rfl) | (apply VL_pick_true; exact rfl; exact rfl; exact rfl) | (apply VL_lss; exact rfl; exact rfl; exact rfl; all_goals (intro _; try (exfalso; omega))) | (apply VL_box_agg; exact rfl; exact rfl; intro _) | apply VL_nil | apply VL_nilq | apply VQ_then | apply VC_seq | apply VC_region | (apply VC_cond_false; exact rfl) | apply VC_ret | apply VC_skip | (apply VC_drawp; exact rfl; kernel_rfl; kernel_rfl))
  apply VQ_tail; apply VQ_ret1; exact rfl; exact rfl
  exact ⟨rfl, rfl⟩

theorem get_new (hold time : Int) (m r : Nat) (ds : List Dg) (clock : Nat) (tag idx cnt size : Int) (s : ByteArray) (hs : s.size ≤ 9000000000000000000) (hf : findD ds tag = none) (hl : ds.length < 8) {B : Nat} {w0 : World} {H : List HP} {w : World} (hw : St B w0 (rpcs r m hold time ds clock H) w) :
    Calls Try.prog 46 [.pointer (some ⟨r, 0, none⟩), .agg #[.int .i64 tag, .int .i64 idx, .int .i64 cnt, .int .i64 size, .string s]].toArray w (Post B w0 fun v K => ∃ g, v = .pointer (some ⟨g, 0, none⟩) ∧ K = rpcs r m hold time (ds ++ [newDg g clock tag cnt size (Fm.part tag idx cnt size s.size)]) (clock + 1) H) := by
  refine Calls_of_VC Try.func46 Try.ntmps46 rfl rfl hw ?_
  have hk : mget (ds.map Dg.ent) tag = none := by rw [mget_ents, hf]; rfl
  have hle : (ds.map Dg.ent).length = ds.length := List.length_map _
  unfold rpcs
  repeat' (first | (apply VL_lookup0 (kt := 3) (et := 81); exact rfl; exact rfl; (focus repeat (first | with_reducible exact List.mem_cons_self | with_reducible apply List.mem_cons_of_mem | assumption)); kernel_rfl; exact rfl; exact hk; exact z_dg) | (apply VL_peql0; exact rfl; exact rfl; kernel_rfl) | (apply VL_mlen (kt := 3) (et := 81); exact rfl; (focus repeat (first | with_reducible exact List.mem_cons_self | with_reducible apply List.mem_cons_of_mem | assumption)); kernel_rfl; exact rfl) | (apply VL_move; exact rfl; exact rfl) | (apply VL_assign; exact rfl; exact rfl) | (apply VL_guard_yes; exact rfl; exact rfl; exact rfl) | (apply VL_nilCheck; exact rfl; exact rfl) | (apply VL_fieldAddr T; exact rfl; exact rfl; exact rfl) | (apply VL_load T; exact rfl; (focus repeat (first | with_reducible exact List.mem_cons_self | with_reducible apply List.mem_cons_of_mem | assumption)); exact rfl; exact rfl; exact rfl) | (apply VL_pick_true; exact rfl; exact rfl; exact rfl) | (apply VL_lss; exact rfl; exact rfl; exact rfl; all_goals (intro _; try (exfalso; omega))) | (apply VL_box_agg; exact rfl; exact rfl; intro _) | apply VL_nil | apply VL_nilq | apply VQ_then | apply VC_seq | apply VC_region | (apply VC_cond_true; exact rfl) | (apply VC_drawp; exact rfl; kernel_rfl; kernel_rfl))
  apply VC_held [0, 1, 2, 3, 4, 5, 6, 7, 8] [] [true]
  kernel_rfl
  kernel_rfl
  (repeat (first | with_reducible exact split_nil | with_reducible apply split_t | with_reducible apply split_f))
  (simp only [pickOps, nthO]; rfl)
  exact rfl
  repeat' (first | (apply VL_fieldAddr T; exact rfl; exact rfl; exact rfl) | (apply VL_load T; exact rfl; (focus repeat (first | with_reducible exact List.mem_cons_self | with_reducible apply List.mem_cons_of_mem | assumption)); exact rfl; exact rfl; exact rfl) | (apply VL_load_whole T; exact rfl; (focus repeat (first | with_reducible exact List.mem_cons_self | with_reducible apply List.mem_cons_of_mem | assumption)); exact rfl; exact rfl; exact rfl) | (apply VL_heff; exact rfl; exact rfl; (repeat (first | with_reducible exact app_nil | with_reducible apply app_cons))))
  first | apply VL_callt en42 | apply VL_callq en42
  (repeat (first | exact args_nil | (apply args_cons; exact rfl)))
  exact rfl
  exact fun _ hw => (part_spec tag idx cnt size s (by omega) hw)
  repeat' (first | (apply VL_build; (repeat (first | exact parts_nil | (apply parts_cons; exact rfl))); exact bld_dg 0 clock tag cnt size _; exact rfl) | (apply VL_assign; exact rfl; exact rfl) | (apply VL_box_agg; exact rfl; exact rfl; intro _) | apply VL_nil | (apply VL_nilh; (repeat (first | with_reducible exact app_nil | with_reducible apply app_cons))) | apply VQ_then | (apply VL_heff; exact rfl; exact rfl; (repeat (first | with_reducible exact app_nil | with_reducible apply app_cons))) | (apply VQ_heldq; (repeat (first | with_reducible exact pull_nil | (with_reducible apply pull_cons; (repeat (first | with_reducible exact rem_here | with_reducible apply rem_there)))))) | apply VQ_tailq | apply VQ_only)
  rename_i g
  apply VC_held [0, 1, 2, 3, 4, 5, 6] [7] [true, true, true]
  kernel_rfl
  kernel_rfl
  (repeat (first | with_reducible exact split_nil | with_reducible apply split_t | with_reducible apply split_f))
  (simp only [pickOps, nthO]; rfl)
  (simp only [pickOps, nthO]; rfl)
  repeat' (first | (apply VL_mapNew (kt := 3) (et := 81); exact rfl; exact rfl; exact rfl; kernel_rfl; (repeat (first | with_reducible exact Upd.here _ | with_reducible apply Upd.there)); exact hk) | (apply VL_move; exact rfl; exact rfl) | (apply VL_assign; exact rfl; exact rfl) | (apply VL_nilCheck; exact rfl; exact rfl) | (apply VL_fieldAddr T; exact rfl; exact rfl; exact rfl) | (apply VL_load T; exact rfl; (focus repeat (first | with_reducible exact List.mem_cons_self | with_reducible apply List.mem_cons_of_mem | assumption)); exact rfl; exact rfl; exact rfl) | apply VL_nil | (apply VL_nilh; (repeat (first | with_reducible exact app_nil | with_reducible apply app_cons))) | apply VQ_then | apply VC_seq | apply VC_region | apply VC_ret | apply VQ_tailq | apply VQ_only)
  apply VQ_tail
  apply VQ_st (rpcs r m hold time (ds ++ [newDg g clock tag cnt size (Fm.part tag idx cnt size s.size)]) (clock + 1) H)
  · intro w hw
    unfold rpcs
    rw [List.map_append, List.map_append]
    have h1 := Perm.push (newDg g clock tag cnt size (Fm.part tag idx cnt size s.size)).hp (ds.map Dg.hp) [] H
    rw [List.append_nil] at h1
    exact hw.perm (.trans (.swap _ _ _) (.cons _ (.trans (.swap _ _ _) (.cons _ h1))))
  apply VQ_ret1; exact rfl; exact rfl
  exact ⟨g, rfl, rfl⟩

/-- Whether a fragment fits to what is there of its datagram. -/
def fits (d : Dg) (tag idx cnt size : Int) (s : ByteArray) : Prop := cnt = d.cnt ∧ size = d.size ∧ Fm.part tag idx cnt size s.size = d.part ∧ (d.bm / 2 ^ idx.toNat % 2 = 0 ∨ d.parts.getD idx.toNat ⟨#[]⟩ = s)

theorem get_strs (d : Dg) {i : Nat} (h : i < d.parts.length) : (d.cells.toArray)[0 + 5 + i * 1]? = some (.string (d.parts.getD i ⟨#[]⟩)) := by
  rw [show 0 + 5 + i * 1 = i + 5 by omega]
  simp [Dg.cells, Dg.strs, List.getD, h]

theorem belongs_spec (d : Dg) (tag idx cnt size : Int) (s : ByteArray) (hs : s.size ≤ 9000000000000000000) (hi : 0 ≤ idx ∧ idx < 32) (hp : d.parts.length = 32) (hb : d.bm < 9223372036854775808)
    {B : Nat} {w0 : World} {H : List HP} {w : World} (hw : St B w0 H w) (hd : d.hp ∈ H) :
    Calls Try.prog 47 [.pointer (some ⟨d.g, 0, none⟩), .agg #[.int .i64 tag, .int .i64 idx, .int .i64 cnt, .int .i64 size, .string s]].toArray w (Post B w0 fun v K => (∃ b, v = .bool b ∧ (b = true ↔ fits d tag idx cnt size s)) ∧ K = H) := by
  refine Calls_of_VC Try.func47 Try.ntmps47 rfl rfl hw ?_
  have hg := get_strs d (i := idx.toNat) (by omega)
  have hbit := bit_of d.bm idx.toNat hb idx (by omega)
  repeat' (first | (apply VL_load T; exact rfl; (apply List.mem_cons_of_mem; exact hd); exact rfl; exact rfl; exact rfl) | (apply VL_index_arr T; exact rfl; exact rfl; exact rfl; exact rfl; omega) | (apply VL_load_at T; exact rfl; (apply List.mem_cons_of_mem; exact hd); exact hg; exact rfl; exact rfl) | (apply VL_move; exact rfl; exact rfl) | (apply VL_assign; exact rfl; exact rfl) | (apply VL_guard_no; exact rfl; exact rfl; exact rfl; exact rfl; exact rfl) | (apply VL_guard_yes; exact rfl; exact rfl; exact rfl) | (apply VL_nilCheck; exact rfl; exact rfl) | (apply VL_fieldAddr T; exact rfl; exact rfl; exact rfl) | (apply VL_load T; exact rfl; (focus repeat (first | with_reducible exact List.mem_cons_self | with_reducible apply List.mem_cons_of_mem | assumption)); exact rfl; exact rfl; exact rfl) | (apply VL_load_whole T; exact rfl; (focus repeat (first | with_reducible exact List.mem_cons_self | with_reducible apply List.mem_cons_of_mem | assumption)); exact rfl; exact rfl; exact rfl) | (apply VL_pick_true; exact rfl; exact rfl; exact rfl) | (apply VL_pick_false; exact rfl; exact rfl; exact rfl) | (apply VL_neq; exact rfl; exact rfl; exact rfl; all_goals (intro _; try (exfalso; omega))) | (apply VL_box_agg; exact rfl; exact rfl; intro _) | apply VL_nil | apply VL_nilq | apply VQ_then | apply VC_seq | apply VC_region | (apply VC_cond_true; exact rfl) | apply VC_ret | apply VQ_then_ret | (apply VC_drawc; exact rfl; kernel_rfl; kernel_rfl))
  · apply VQ_tail; apply VQ_ret1; exact rfl; exact rfl
    exact ⟨⟨_, rfl, by unfold fits; simp; omega⟩, rfl⟩
  · apply VQ_tail; apply VQ_ret1; exact rfl; exact rfl
    exact ⟨⟨_, rfl, by unfold fits; simp; omega⟩, rfl⟩
  first | apply VL_callt en42 | apply VL_callq en42
  (repeat (first | exact args_nil | (apply args_cons; exact rfl)))
  exact rfl
  exact fun _ hw => (part_spec tag idx cnt size s (by omega) hw)
  repeat' (first | (apply VL_load T; exact rfl; (apply List.mem_cons_of_mem; exact hd); exact rfl; exact rfl; exact rfl) | (apply VL_index_arr T; exact rfl; exact rfl; exact rfl; exact rfl; omega) | (apply VL_load_at T; exact rfl; (apply List.mem_cons_of_mem; exact hd); exact hg; exact rfl; exact rfl) | (apply VL_move; exact rfl; exact rfl) | (apply VL_assign; exact rfl; exact rfl) | (apply VL_guard_no; exact rfl; exact rfl; exact rfl; exact rfl; exact rfl) | (apply VL_guard_yes; exact rfl; exact rfl; exact rfl) | (apply VL_nilCheck; exact rfl; exact rfl) | (apply VL_fieldAddr T; exact rfl; exact rfl; exact rfl) | (apply VL_load T; exact rfl; (focus repeat (first | with_reducible exact List.mem_cons_self | with_reducible apply List.mem_cons_of_mem | assumption)); exact rfl; exact rfl; exact rfl) | (apply VL_pick_true; exact rfl; exact rfl; exact rfl) | (apply VL_pick_false; exact rfl; exact rfl; exact rfl) | (apply VL_eql; exact rfl; exact rfl; exact rfl; all_goals (intro _; try (exfalso; omega))) | (apply VL_neq; exact rfl; exact rfl; exact rfl; all_goals (intro _; try (exfalso; omega))) | (apply VL_seql; exact rfl; exact rfl; exact rfl; all_goals intro _) | (apply VL_shr; exact rfl; exact rfl; exact rfl; (simp only [IntKind.bits]; omega)) | (apply VL_and; exact rfl; exact rfl; exact rfl) | apply VL_nil | apply VL_nilq | apply VQ_then | apply VC_seq | apply VC_region | (apply VC_cond_true; exact rfl) | (apply VC_cond_false; exact rfl) | apply VC_ret | apply VC_skip | apply VQ_then_ret | (apply VC_drawp; exact rfl; kernel_rfl; kernel_rfl))
  all_goals (apply VQ_tail; apply VQ_ret1; exact rfl; exact rfl; refine ⟨⟨_, rfl, ?_⟩, rfl⟩; unfold fits)
  · rename_i h; exact ⟨fun h => (by cases h), fun h' => absurd h'.2.2.1 h⟩
  · rename_i h1 h2 h3 h4; exact ⟨fun _ => ⟨h1, h2, h3, .inl (by omega)⟩, fun _ => rfl⟩
  · rename_i h1 h2 h3 h4 h5; exact ⟨fun _ => ⟨h1, h2, h3, .inr h5⟩, fun _ => rfl⟩
  · rename_i h1 h2 h3 h4 h5; exact ⟨fun h => (by cases h), fun h' => h'.2.2.2.elim (fun e => absurd e (by omega)) (fun e => absurd e h5)⟩
end Go.Proofs.Ytfobgjhjigkigaa
