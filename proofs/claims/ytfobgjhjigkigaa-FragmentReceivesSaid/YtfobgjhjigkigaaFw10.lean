/- Walks: Receive. -/
import Derived.Test.YtfobgjhjigkigaaFw9
import Derived.Test.YtfobgjhjigkigaaShelf

namespace Go.Proofs.Ytfobgjhjigkigaa
open Go.RowKit Go.Eng

/-- What holds of every datagram of a receiver. -/
structure OkD (d : Dg) : Prop where
  parts : d.parts.length = 32
  cnt : 1 ≤ d.cnt ∧ d.cnt ≤ 32
  bm : d.bm < 4294967296
  size : ∀ s ∈ d.parts, s.size ≤ 5000

def joinB (l : List ByteArray) : ByteArray := ⟨(Lib.join (l.map (·.data.toList)) []).toArray⟩

theorem lens_le (l : List ByteArray) (h : ∀ s ∈ l, s.size ≤ 5000) : Lib.lens (l.map (·.data.toList)) ≤ l.length * 5000 := by
  induction l with
  | nil => simp [Lib.lens]
  | cons a l ih =>
    have h1 := h a (by simp)
    have h2 := ih fun s hs => h s (by simp [hs])
    have h3 : a.data.toList.length = a.size := Array.length_toList
    simp only [Lib.lens, List.map_cons, List.length_cons, List.sum_cons] at *
    omega

theorem join_spec (d : Dg) (n : Nat) (hn : n ≤ 32) (hd : OkD d) {B : Nat} {w0 : World} {H : List HP} {w : World} (hw : St B w0 H w) (hm : d.hp ∈ H) :
    Calls Try.prog 48 [.slice (some ⟨d.g, 0 + 5, none⟩) n 32, .string ⟨#[]⟩].toArray w (Post B w0 fun v K => v = .string (joinB (d.parts.take n)) ∧ K = H) := by
  obtain ⟨hb, _, hlt⟩ := hw.blk hm
  have hlen : (d.parts.take n).length = n := by simp [hd.parts]; omega
  have hj : (Lib.join ((d.parts.take n).map (·.data.toList)) []).length ≤ 140737488355328 := by
    have := lens_le (d.parts.take n) fun s hs => hd.size s (List.mem_of_mem_take hs)
    rw [hlen] at this
    cases hc : (d.parts.take n).map (·.data.toList) with
    | nil => simp [Lib.join_nil]
    | cons x r => rw [hc] at this; rw [Lib.join_length]; simp; omega
  have h := Try.strings_Join d.g 5 32 (d.parts.take n) ⟨#[]⟩ w (fun j x hx => by
    rw [cell_of_blk hb]
    have hj : j < n := by have := (List.getElem?_eq_some_iff.1 hx).1; omega
    rw [List.getElem?_take_of_lt hj] at hx
    rw [show 5 + j = j + 5 by omega]
    simp [Dg.cells, Dg.strs, hx]) hlt (by omega) (by omega) hj
  rw [hlen] at h
  refine h.mono ?_
  rintro e w' ⟨rfl, hbl⟩
  exact ⟨_, H, rfl, hw.grow hbl, rfl, rfl⟩

theorem i64_or_nat (a b : Nat) (ha : a < 9223372036854775808) (hb : b < 9223372036854775808) : bits .or .i64 (a : Int) (b : Int) = ((a ||| b : Nat) : Int) := by
  have hx : a ||| b < 2 ^ 63 := Nat.or_lt_two_pow (by omega) (by omega)
  have e1 : (BitVec.ofInt 64 (a : Int)).toNat = a := by rw [BitVec.ofInt_natCast, BitVec.toNat_ofNat]; exact Nat.mod_eq_of_lt (by omega)
  have e2 : (BitVec.ofInt 64 (b : Int)).toNat = b := by rw [BitVec.ofInt_natCast, BitVec.toNat_ofNat]; exact Nat.mod_eq_of_lt (by omega)
  show IntKind.i64.wrap ((BitVec.ofInt 64 (a : Int) ||| BitVec.ofInt 64 (b : Int)).toNat : Int) = _
  rw [BitVec.toNat_or, e1, e2, IntKind.wrap_i64]
  omega

/-- The datagram that a fragment belongs to: an old one, or a new one. -/
def Got (ds : List Dg) (clock : Nat) (tag idx cnt size : Int) (s : ByteArray) (l1 : List Dg) (d : Dg) (l2 : List Dg) (clock2 : Nat) : Prop :=
  (findD ds tag = some d ∧ ds = l1 ++ d :: l2 ∧ clock2 = clock) ∨
  (findD ds tag = none ∧ ds.length < 8 ∧ l1 = ds ∧ l2 = [] ∧ d = newDg d.g clock tag cnt size (Fm.part tag idx cnt size s.size) ∧ clock2 = clock + 1)

theorem find_split {ds : List Dg} {tag : Int} {d : Dg} (h : findD ds tag = some d) : ∃ l1 l2, ds = l1 ++ d :: l2 := List.append_of_mem (List.mem_of_find?_eq_some h)

theorem getG_spec (hold time : Int) (m r : Nat) (ds : List Dg) (clock : Nat) (tag idx cnt size : Int) (s : ByteArray) (hs : s.size ≤ 9000000000000000000) (hf : findD ds tag = none → ds.length < 8) {B : Nat} {w0 : World} {H : List HP} {w : World} (hw : St B w0 (rpcs r m hold time ds clock H) w) :
    Calls Try.prog 46 [.pointer (some ⟨r, 0, none⟩), .agg #[.int .i64 tag, .int .i64 idx, .int .i64 cnt, .int .i64 size, .string s]].toArray w (Post B w0 fun v K => ∃ l1 d l2 clock2, Got ds clock tag idx cnt size s l1 d l2 clock2 ∧ v = .pointer (some ⟨d.g, 0, none⟩) ∧ K = rpcs r m hold time (l1 ++ d :: l2) clock2 H) := by
  cases hc : findD ds tag with
  | some d =>
    obtain ⟨l1, l2, rfl⟩ := find_split hc
    refine (get_old hold time m r _ clock d tag idx cnt size s hc hw).mono ?_
    rintro e w' ⟨v, K, rfl, hst, rfl, rfl⟩
    exact ⟨_, _, rfl, hst, l1, d, l2, clock, .inl ⟨hc, rfl, rfl⟩, rfl, rfl⟩
  | none =>
    refine (get_new hold time m r ds clock tag idx cnt size s hs hc (hf hc) hw).mono ?_
    rintro e w' ⟨v, K, rfl, hst, g, rfl, rfl⟩
    exact ⟨_, _, rfl, hst, ds, _, [], clock + 1, .inr ⟨hc, hf hc, rfl, rfl, rfl, rfl⟩, rfl, rfl⟩

/-- A datagram behind the receipt of one of its fragments. -/
def upd (d : Dg) (slot idx : Int) (s : ByteArray) : Dg := { d with last := slot, bm := d.bm ||| 2 ^ idx.toNat, parts := d.parts.set idx.toNat s }
def allBits (d : Dg) : Nat := 2 ^ d.cnt.toNat - 1
/-- What Receive hands back behind it. -/
def outV (d d' : Dg) : Value := if d.bm = allBits d ∨ d'.bm ≠ allBits d then .tuple #[.string ⟨#[]⟩, .bool false, .int .i64 0] else .tuple #[.string (joinB (d'.parts.take d.cnt.toNat)), .bool true, .int .i64 0]

theorem receive_bad (hold time : Int) (m r : Nat) (ds : List Dg) (clock : Nat) (slot tag idx cnt size : Int) (s : ByteArray) (hs : s.size ≤ 9000000000000000000) (hp : Fm.part tag idx cnt size s.size = 0) {B : Nat} {w0 : World} {H : List HP} {w : World} (hw : St B w0 (rpcs r m hold time ds clock H) w) :
    Calls Try.prog 22 [.pointer (some ⟨r, 0, none⟩), .int .i64 slot, .agg #[.int .i64 tag, .int .i64 idx, .int .i64 cnt, .int .i64 size, .string s]].toArray w (Post B w0 fun v K => v = .tuple #[.string ⟨#[]⟩, .bool false, .int .i64 1] ∧ K = rpcs r m hold time ds clock H) := by
  refine Calls_of_VC Try.func22 Try.ntmps22 rfl rfl hw ?_
  repeat' (first | (apply VL_assign; exact rfl; exact rfl) | (apply VL_load_whole T; exact rfl; (focus repeat (first | with_reducible exact List.mem_cons_self | with_reducible apply List.mem_cons_of_mem | assumption)); exact rfl; exact rfl; exact rfl) | (apply VL_box_agg; exact rfl; exact rfl; intro _) | (apply VL_box_one; exact rfl; exact rfl; exact rfl; intro _) | apply VL_nil | apply VQ_then | apply VC_seq | apply VC_region | apply VC_block)
  first | apply VL_callt en17 | apply VL_callq en17
  (repeat (first | exact args_nil | (apply args_cons; exact rfl)))
  exact rfl
  exact fun _ hw => (check_spec tag idx cnt size s (by omega) hw)
  rw [if_pos hp]
  repeat' (first | (apply VL_assign; exact rfl; exact rfl) | (apply VL_neq; exact rfl; exact rfl; exact rfl; all_goals (intro _; try (exfalso; omega))) | apply VL_nil | apply VQ_then | apply VC_seq | apply VC_region | (apply VC_cond_true; exact rfl) | apply VC_ret | apply VQ_then_ret | apply VQ_block_ret)
  apply VQ_tail; apply VQ_tail; apply VQ_ret3; exact rfl; exact rfl; exact rfl; exact rfl
  exact ⟨rfl, rfl⟩

theorem receive_order (hold time : Int) (m r : Nat) (ds : List Dg) (clock : Nat) (slot tag idx cnt size : Int) (s : ByteArray) (hs : s.size ≤ 9000000000000000000) (hp : Fm.part tag idx cnt size s.size ≠ 0) (ho : slot < time ∨ 109951162 < slot) {B : Nat} {w0 : World} {H : List HP} {w : World} (hw : St B w0 (rpcs r m hold time ds clock H) w) :
    Calls Try.prog 22 [.pointer (some ⟨r, 0, none⟩), .int .i64 slot, .agg #[.int .i64 tag, .int .i64 idx, .int .i64 cnt, .int .i64 size, .string s]].toArray w (Post B w0 fun v K => v = .tuple #[.string ⟨#[]⟩, .bool false, .int .i64 5] ∧ K = rpcs r m hold time ds clock H) := by
  refine Calls_of_VC Try.func22 Try.ntmps22 rfl rfl hw ?_
  repeat' (first | (apply VL_assign; exact rfl; exact rfl) | (apply VL_load_whole T; exact rfl; (focus repeat (first | with_reducible exact List.mem_cons_self | with_reducible apply List.mem_cons_of_mem | assumption)); exact rfl; exact rfl; exact rfl) | (apply VL_box_agg; exact rfl; exact rfl; intro _) | (apply VL_box_one; exact rfl; exact rfl; exact rfl; intro _) | apply VL_nil | apply VQ_then | apply VC_seq | apply VC_region | apply VC_block)
  first | apply VL_callt en17 | apply VL_callq en17
  (repeat (first | exact args_nil | (apply args_cons; exact rfl)))
  exact rfl
  exact fun _ hw => (check_spec tag idx cnt size s (by omega) hw)
  rw [if_neg hp]
  unfold rpcs
  repeat' (first | (apply VL_move; exact rfl; exact rfl) | (apply VL_assign; exact rfl; exact rfl) | (apply VL_guard_no; exact rfl; exact rfl; exact rfl; exact rfl; exact rfl) | (apply VL_guard_yes; exact rfl; exact rfl; exact rfl) | (apply VL_nilCheck; exact rfl; exact rfl) | (apply VL_fieldAddr T; exact rfl; exact rfl; exact rfl) | (apply VL_load T; exact rfl; (focus repeat (first | with_reducible exact List.mem_cons_self | with_reducible apply List.mem_cons_of_mem | assumption)); exact rfl; exact rfl; exact rfl) | (apply VL_pick_true; exact rfl; exact rfl; exact rfl) | (apply VL_pick_false; exact rfl; exact rfl; exact rfl) | (apply VL_neq; exact rfl; exact rfl; exact rfl; all_goals (intro _; try (exfalso; omega))) | (apply VL_lss; exact rfl; exact rfl; exact rfl; all_goals (intro _; try (exfalso; omega))) | (apply VL_gtr; exact rfl; exact rfl; exact rfl; all_goals (intro _; try (exfalso; omega))) | apply VL_nil | apply VQ_then | apply VC_seq | apply VC_region | (apply VC_cond_true; exact rfl) | (apply VC_cond_false; exact rfl) | apply VC_ret | apply VQ_then_ret | apply VQ_block_ret)
  all_goals (apply VQ_tail; apply VQ_tail; apply VQ_ret3; exact rfl; exact rfl; exact rfl; exact rfl; exact ⟨rfl, rfl⟩)

theorem receive_full (hold time : Int) (m r : Nat) (ds : List Dg) (clock : Nat) (slot tag idx cnt size : Int) (s : ByteArray) (hs : s.size ≤ 9000000000000000000) (hp : Fm.part tag idx cnt size s.size ≠ 0) (ht : 0 ≤ time) (ho : time ≤ slot ∧ slot ≤ 109951162) (hh : 0 ≤ hold ∧ hold ≤ 4096) (hm : Maps ds clock)
    (hf : findD (ds.filter fun d => !old hold slot d) tag = none) (h8 : 8 ≤ (ds.filter fun d => !old hold slot d).length) {B : Nat} {w0 : World} {H : List HP} {w : World} (hw : St B w0 (rpcs r m hold time ds clock H) w) :
    Calls Try.prog 22 [.pointer (some ⟨r, 0, none⟩), .int .i64 slot, .agg #[.int .i64 tag, .int .i64 idx, .int .i64 cnt, .int .i64 size, .string s]].toArray w (Post B w0 fun v K => v = .tuple #[.string ⟨#[]⟩, .bool false, .int .i64 13] ∧ K = rpcs r m hold slot (ds.filter fun d => !old hold slot d) clock H) := by
  refine Calls_of_VC Try.func22 Try.ntmps22 rfl rfl hw ?_
  repeat' (first | (apply VL_assign; exact rfl; exact rfl) | (apply VL_load_whole T; exact rfl; (focus repeat (first | with_reducible exact List.mem_cons_self | with_reducible apply List.mem_cons_of_mem | assumption)); exact rfl; exact rfl; exact rfl) | (apply VL_box_agg; exact rfl; exact rfl; intro _) | (apply VL_box_one; exact rfl; exact rfl; exact rfl; intro _) | apply VL_nil | apply VQ_then | apply VC_seq | apply VC_region | apply VC_block)
  first | apply VL_callt en17 | apply VL_callq en17
  (repeat (first | exact args_nil | (apply args_cons; exact rfl)))
  exact rfl
  exact fun _ hw => (check_spec tag idx cnt size s (by omega) hw)
  rw [if_neg hp]
  unfold rpcs
  repeat' (first | (apply VL_makeFunc; (repeat (first | exact args_nil | (apply args_cons; exact rfl))); exact rfl) | (apply VL_move; exact rfl; exact rfl) | (apply VL_assign; exact rfl; exact rfl) | (apply VL_guard_yes; exact rfl; exact rfl; exact rfl) | (apply VL_nilCheck; exact rfl; exact rfl) | (apply VL_fieldAddr T; exact rfl; exact rfl; exact rfl) | (apply VL_load T; exact rfl; (focus repeat (first | with_reducible exact List.mem_cons_self | with_reducible apply List.mem_cons_of_mem | assumption)); exact rfl; exact rfl; exact rfl) | (apply VL_pick_false; exact rfl; exact rfl; exact rfl) | (apply VL_neq; exact rfl; exact rfl; exact rfl; all_goals (intro _; try (exfalso; omega))) | (apply VL_lss; exact rfl; exact rfl; exact rfl; all_goals (intro _; try (exfalso; omega))) | (apply VL_gtr; exact rfl; exact rfl; exact rfl; all_goals (intro _; try (exfalso; omega))) | (apply VL_store T; exact rfl; exact rfl; exact rfl; (repeat (first | with_reducible exact Upd.here _ | with_reducible apply Upd.there)); (repeat (first | exact setat_here | apply setat_there)); exact rfl) | apply VL_nil | apply VQ_then | apply VC_seq | apply VC_region | (apply VC_cond_false; exact rfl) | apply VC_skip | apply VQ_block_normal)
  rename_i bx fb _ _ _
  apply VL_st (rpcs r m hold slot ds clock (blk fb (.cells #[.int .i64 tag, .int .i64 idx, .int .i64 cnt, .int .i64 size, .string s] 23 (0, 0)) :: blk bx (.cells #[.pointer (some ⟨r, 0, none⟩)] 40 (0, 0)) :: H))
  · intro w hw
    exact ((hw.front 4).front 4).front 4
  apply VL_call _ en44
  (repeat (first | exact args_nil | (apply args_cons; exact rfl)))
  exact rfl
  exact fun _ hw => deleteFunc_spec hold slot m r bx ds clock hm hh (by omega) hw (.tail _ (.head _))
  rintro _ _ ⟨rfl, rfl⟩
  unfold rpcs
  repeat' (first | (apply VL_load T; exact rfl; (focus repeat (first | with_reducible exact List.mem_cons_self | with_reducible apply List.mem_cons_of_mem | assumption)); exact rfl; exact rfl; exact rfl) | (apply VL_load_whole T; exact rfl; (focus repeat (first | with_reducible exact List.mem_cons_self | with_reducible apply List.mem_cons_of_mem | assumption)); exact rfl; exact rfl; exact rfl) | apply VL_nil | apply VQ_then | apply VC_seq | apply VC_region)
  apply VL_call _ en46
  (repeat (first | exact args_nil | (apply args_cons; exact rfl)))
  exact rfl
  exact fun _ hw => (get_full hold slot m r _ clock tag idx cnt size s hf h8 (hw))
  rintro _ _ ⟨rfl, rfl⟩
  unfold rpcs
  repeat' (first | (apply VL_peql0; exact rfl; exact rfl; kernel_rfl) | (apply VL_move; exact rfl; exact rfl) | (apply VL_assign; exact rfl; exact rfl) | apply VL_nil | apply VQ_then | apply VC_seq | apply VC_region | (apply VC_cond_true; exact rfl) | apply VC_block | apply VC_ret | apply VQ_then_ret | apply VQ_block_ret)
  apply VQ_st (rpcs r m hold slot (ds.filter fun d => !old hold slot d) clock H)
  · exact fun w hw => (((hw.front 3).tail).front 3).tail
  apply VQ_ret3; exact rfl; exact rfl; exact rfl; exact rfl
  exact ⟨rfl, rfl⟩

theorem okd_upd {d : Dg} {slot idx : Int} {s : ByteArray} (hd : OkD d) (h0 : 0 ≤ idx) (h1 : idx < 32) (hs : s.size ≤ 5000) : OkD (upd d slot idx s) := by
  refine ⟨by simp [upd, hd.parts], hd.cnt, ?_, fun x hx => ?_⟩
  · have h2 : 2 ^ idx.toNat < 2 ^ 32 := Nat.pow_lt_pow_right (by omega) (by omega)
    exact Nat.or_lt_two_pow (n := 32) hd.bm h2
  · rcases List.mem_or_eq_of_mem_set hx with h | rfl
    · exact hd.size x h
    · exact hs

theorem setat_strs (a b c d e : Value) (l : List Value) (i : Nat) (v : Value) (h : i < l.length) : SetAt (a :: b :: c :: d :: e :: l) (0 + 5 + i * 1) v (a :: b :: c :: d :: e :: l.set i v) := by
  rw [show 0 + 5 + i * 1 = i + 1 + 1 + 1 + 1 + 1 by omega]
  exact setat_there (setat_there (setat_there (setat_there (setat_there ⟨h, rfl⟩))))

theorem receive_got (hold time : Int) (m r : Nat) (ds : List Dg) (clock : Nat) (slot tag idx cnt size : Int) (s : ByteArray) (hs : s.size ≤ 5000) (hp : Fm.part tag idx cnt size s.size ≠ 0) (ht : 0 ≤ time) (ho : time ≤ slot ∧ slot ≤ 109951162) (hh : 0 ≤ hold ∧ hold ≤ 4096) (hm : Maps ds clock) (hok : ∀ d ∈ ds, OkD d)
    (hf : findD (ds.filter fun d => !old hold slot d) tag = none → (ds.filter fun d => !old hold slot d).length < 8) {B : Nat} {w0 : World} {H : List HP} {w : World} (hw : St B w0 (rpcs r m hold time ds clock H) w) :
    Calls Try.prog 22 [.pointer (some ⟨r, 0, none⟩), .int .i64 slot, .agg #[.int .i64 tag, .int .i64 idx, .int .i64 cnt, .int .i64 size, .string s]].toArray w (Post B w0 fun v K => ∃ l1 d l2 clock2, Got (ds.filter fun d => !old hold slot d) clock tag idx cnt size s l1 d l2 clock2 ∧
      ((¬ fits d tag idx cnt size s ∧ v = .tuple #[.string ⟨#[]⟩, .bool false, .int .i64 11] ∧ K = rpcs r m hold slot (l1 ++ d :: l2) clock2 H) ∨
       (fits d tag idx cnt size s ∧ v = outV d (upd d slot idx s) ∧ K = rpcs r m hold slot (l1 ++ upd d slot idx s :: l2) clock2 H))) := by
  refine Calls_of_VC Try.func22 Try.ntmps22 rfl rfl hw ?_
  repeat' (first | (apply VL_assign; exact rfl; exact rfl) | (apply VL_load_whole T; exact rfl; (focus repeat (first | with_reducible exact List.mem_cons_self | with_reducible apply List.mem_cons_of_mem | assumption)); exact rfl; exact rfl; exact rfl) | (apply VL_box_agg; exact rfl; exact rfl; intro _) | (apply VL_box_one; exact rfl; exact rfl; exact rfl; intro _) | apply VL_nil | apply VQ_then | apply VC_seq | apply VC_region | apply VC_block)
  first | apply VL_callt en17 | apply VL_callq en17
  (repeat (first | exact args_nil | (apply args_cons; exact rfl)))
  exact rfl
  exact fun _ hw => (check_spec tag idx cnt size s (by omega) hw)
  rw [if_neg hp]
  unfold rpcs
  repeat' (first | (apply VL_makeFunc; (repeat (first | exact args_nil | (apply args_cons; exact rfl))); exact rfl) | (apply VL_move; exact rfl; exact rfl) | (apply VL_assign; exact rfl; exact rfl) | (apply VL_guard_yes; exact rfl; exact rfl; exact rfl) | (apply VL_nilCheck; exact rfl; exact rfl) | (apply VL_fieldAddr T; exact rfl; exact rfl; exact rfl) | (apply VL_load T; exact rfl; (focus repeat (first | with_reducible exact List.mem_cons_self | with_reducible apply List.mem_cons_of_mem | assumption)); exact rfl; exact rfl; exact rfl) | (apply VL_pick_false; exact rfl; exact rfl; exact rfl) | (apply VL_neq; exact rfl; exact rfl; exact rfl; all_goals (intro _; try (exfalso; omega))) | (apply VL_lss; exact rfl; exact rfl; exact rfl; all_goals (intro _; try (exfalso; omega))) | (apply VL_gtr; exact rfl; exact rfl; exact rfl; all_goals (intro _; try (exfalso; omega))) | (apply VL_store T; exact rfl; exact rfl; exact rfl; (repeat (first | with_reducible exact Upd.here _ | with_reducible apply Upd.there)); (repeat (first | exact setat_here | apply setat_there)); exact rfl) | apply VL_nil | apply VQ_then | apply VC_seq | apply VC_region | (apply VC_cond_false; exact rfl) | apply VC_skip | apply VQ_block_normal)
  rename_i bx fb _ _ _
  apply VL_st (rpcs r m hold slot ds clock (blk fb (.cells #[.int .i64 tag, .int .i64 idx, .int .i64 cnt, .int .i64 size, .string s] 23 (0, 0)) :: blk bx (.cells #[.pointer (some ⟨r, 0, none⟩)] 40 (0, 0)) :: H))
  · intro w hw
    exact ((hw.front 4).front 4).front 4
  apply VL_call _ en44
  (repeat (first | exact args_nil | (apply args_cons; exact rfl)))
  exact rfl
  exact fun _ hw => deleteFunc_spec hold slot m r bx ds clock hm hh (by omega) hw (.tail _ (.head _))
  rintro _ _ ⟨rfl, rfl⟩
  unfold rpcs
  repeat' (first | (apply VL_load T; exact rfl; (focus repeat (first | with_reducible exact List.mem_cons_self | with_reducible apply List.mem_cons_of_mem | assumption)); exact rfl; exact rfl; exact rfl) | (apply VL_load_whole T; exact rfl; (focus repeat (first | with_reducible exact List.mem_cons_self | with_reducible apply List.mem_cons_of_mem | assumption)); exact rfl; exact rfl; exact rfl) | apply VL_nil | apply VQ_then | apply VC_seq | apply VC_region)
  apply VL_call _ en46
  (repeat (first | exact args_nil | (apply args_cons; exact rfl)))
  exact rfl
  exact fun _ hw => (getG_spec hold slot m r _ clock tag idx cnt size s (by omega) hf (hw))
  rintro _ _ ⟨l1, d, l2, clock2, hgot, rfl, rfl⟩
  obtain ⟨⟨a1, a2⟩, ⟨a3, a4⟩, ⟨a5, a6⟩, ⟨a7, a8⟩, _⟩ := Fm.part_ok hp
  have hd : OkD d := by
    rcases hgot with ⟨h1, h2, _⟩ | ⟨_, _, _, _, h2, _⟩
    · exact hok d (List.mem_filter.1 (h2 ▸ by simp : d ∈ ds.filter fun d => !old hold slot d)).1
    · rw [h2]
      exact ⟨by simp [newDg], ⟨a5, a6⟩, by simp [newDg], fun x hx => by rw [(List.mem_replicate.1 hx).2]; decide⟩
  have hpl := hd.parts
  have hbm := hd.bm
  have hcn := hd.cnt
  unfold rpcs
  rw [List.map_append, List.map_append, List.map_cons, List.map_cons]
  apply VL_st (d.hp :: many (l1.map Dg.hp ++ l2.map Dg.hp) :: blk r (rcells hold slot m) :: blk m (mobj (l1.map Dg.ent ++ d.ent :: l2.map Dg.ent) clock2) :: blk fb (.cells #[.int .i64 tag, .int .i64 idx, .int .i64 cnt, .int .i64 size, .string s] 23 (0, 0)) :: blk bx (.cells #[.pointer (some ⟨r, 0, none⟩)] 40 (0, 0)) :: H)
  · exact fun w hw => (hw.front 2).perm (.pull _ _ _ _)
  repeat' (first | (apply VL_peql0; exact rfl; exact rfl; kernel_rfl) | (apply VL_move; exact rfl; exact rfl) | (apply VL_assign; exact rfl; exact rfl) | (apply VL_load_whole T; exact rfl; (focus repeat (first | with_reducible exact List.mem_cons_self | with_reducible apply List.mem_cons_of_mem | assumption)); exact rfl; exact rfl; exact rfl) | apply VL_nil | apply VQ_then | apply VC_seq | apply VC_region | (apply VC_cond_false; exact rfl) | apply VC_block)
  apply VL_call _ en47
  (repeat (first | exact args_nil | (apply args_cons; exact rfl)))
  exact rfl
  exact fun _ hw => belongs_spec d tag idx cnt size s (by omega) (by omega) hpl (by omega) hw (.head _)
  rintro _ _ ⟨⟨b, rfl, hb⟩, rfl⟩
  cases b with
  | false =>
    repeat' (first | (apply VL_assign; exact rfl; exact rfl) | (apply VL_not_false; exact rfl; exact rfl) | apply VL_nil | apply VQ_then | apply VC_seq | apply VC_region | (apply VC_cond_true; exact rfl) | apply VC_ret | apply VQ_then_ret | apply VQ_block_ret)
    apply VQ_st (rpcs r m hold slot (l1 ++ d :: l2) clock2 H)
    · intro w hw
      unfold rpcs
      rw [List.map_append, List.map_append, List.map_cons, List.map_cons]
      have h1 := hw.perm (.push _ _ _ _)
      exact ((((h1.perm (.trans (.swap _ _ _) (.cons _ (.swap _ _ _)))).front 3).tail).front 3).tail
    apply VQ_ret3; exact rfl; exact rfl; exact rfl; exact rfl
    exact ⟨l1, d, l2, clock2, hgot, .inl ⟨fun h => (by cases hb.2 h), rfl, rfl⟩⟩
  | true =>
    have hfits := hb.1 rfl
    obtain ⟨Pw, hPw, hP1, hP2, hP3⟩ : ∃ Pw : Nat, IntKind.i64.wrap (1 * 2 ^ d.cnt.toNat) = Pw ∧ 1 ≤ Pw ∧ Pw ≤ 4294967296 ∧ Pw = 2 ^ d.cnt.toNat := by
      obtain ⟨Pw, hPw⟩ : ∃ Pw : Nat, Pw = 2 ^ d.cnt.toNat := ⟨_, rfl⟩
      have h1 : 1 ≤ Pw := by rw [hPw]; exact Nat.pow_pos (by omega)
      have h2 : Pw ≤ 4294967296 := by rw [hPw]; exact Nat.pow_le_pow_right (n := 2) (by omega) (by omega : d.cnt.toNat ≤ 32)
      refine ⟨Pw, ?_, h1, h2, hPw⟩
      rw [show (1 : Int) * 2 ^ d.cnt.toNat = ((2 ^ d.cnt.toNat : Nat) : Int) by simp, ← hPw, IntKind.wrap_i64]; omega
    obtain ⟨Pi, hPi, hQ1, hQ2, hQ3⟩ : ∃ Pi : Nat, IntKind.i64.wrap (1 * 2 ^ idx.toNat) = Pi ∧ 1 ≤ Pi ∧ Pi < 4294967296 ∧ Pi = 2 ^ idx.toNat := by
      obtain ⟨Pw, hPw⟩ : ∃ Pw : Nat, Pw = 2 ^ idx.toNat := ⟨_, rfl⟩
      have h1 : 1 ≤ Pw := by rw [hPw]; exact Nat.pow_pos (by omega)
      have h2 : Pw ≤ 2147483648 := by rw [hPw]; exact Nat.pow_le_pow_right (n := 2) (by omega) (by omega : idx.toNat ≤ 31)
      refine ⟨Pw, ?_, h1, by omega, hPw⟩
      rw [show (1 : Int) * 2 ^ idx.toNat = ((2 ^ idx.toNat : Nat) : Int) by simp, ← hPw, IntKind.wrap_i64]; omega
    have hor := i64_or_nat d.bm Pi (by omega) (by omega)
    have hsl : d.strs.length = 32 := by simp [Dg.strs, hpl]
    have hset := setat_strs (.int .i64 d.cnt) (.int .i64 d.size) (.int .i64 d.part) (.int .i64 slot) (.int .i64 d.bm) d.strs idx.toNat (.string s) (by omega)
    apply VL_st (blk d.g (.cells (.int .i64 d.cnt :: .int .i64 d.size :: .int .i64 d.part :: .int .i64 d.last :: .int .i64 d.bm :: d.strs).toArray 84 (0, 0)) :: many (l1.map Dg.hp ++ l2.map Dg.hp) :: blk r (rcells hold slot m) :: blk m (mobj (l1.map Dg.ent ++ d.ent :: l2.map Dg.ent) clock2) :: blk fb (.cells #[.int .i64 tag, .int .i64 idx, .int .i64 cnt, .int .i64 size, .string s] 23 (0, 0)) :: blk bx (.cells #[.pointer (some ⟨r, 0, none⟩)] 40 (0, 0)) :: H)
    · exact fun w hw => hw
    repeat' (first | (apply VL_move; exact rfl; exact rfl) | (apply VL_assign; exact rfl; exact rfl) | (apply VL_nilCheck; exact rfl; exact rfl) | (apply VL_fieldAddr T; exact rfl; exact rfl; exact rfl) | (apply VL_load T; exact rfl; (focus repeat (first | with_reducible exact List.mem_cons_self | with_reducible apply List.mem_cons_of_mem | assumption)); exact rfl; exact rfl; exact rfl) | (apply VL_sub; exact rfl; exact rfl; exact rfl; omega) | (apply VL_shl; exact rfl; exact rfl; exact rfl; (simp only [IntKind.bits]; omega)) | (apply VL_not_true; exact rfl; exact rfl) | (apply VL_store T; exact rfl; exact rfl; exact rfl; (repeat (first | with_reducible exact Upd.here _ | with_reducible apply Upd.there)); (repeat (first | exact setat_here | apply setat_there)); exact rfl) | apply VL_nil | apply VL_nilq | apply VQ_then | apply VC_seq | apply VC_region | (apply VC_cond_false; exact rfl) | apply VC_skip | apply VQ_block_normal | (apply VC_drawp; exact rfl; kernel_rfl; kernel_rfl))
    rw [hPw]
    apply VC_held [0, 1, 2, 3, 4, 5, 6, 7] [8] [true, true, true, true, true, true]
    kernel_rfl
    kernel_rfl
    (repeat (first | with_reducible exact split_nil | with_reducible apply split_t | with_reducible apply split_f))
    (simp only [pickOps, nthO]; rfl)
    (simp only [pickOps, nthO]; rfl)
    repeat' (first | (apply VL_index_arr T; exact rfl; exact rfl; exact rfl; exact rfl; omega) | (apply VL_store T; exact rfl; exact rfl; exact rfl; (repeat (first | with_reducible exact Upd.here _ | with_reducible apply Upd.there)); exact hset; exact rfl) | (apply VL_move; exact rfl; exact rfl) | (apply VL_nilCheck; exact rfl; exact rfl) | (apply VL_fieldAddr T; exact rfl; exact rfl; exact rfl) | (apply VL_load T; exact rfl; (focus repeat (first | with_reducible exact List.mem_cons_self | with_reducible apply List.mem_cons_of_mem | assumption)); exact rfl; exact rfl; exact rfl) | apply VL_nil | (apply VL_nilh; (repeat (first | with_reducible exact app_nil | with_reducible apply app_cons))) | apply VQ_then | apply VC_seq | apply VQ_tailq | apply VQ_only)
    apply VC_held [0, 1, 2, 3, 4, 5, 6, 7, 8, 9] [10] [true, true, true, true, true, true]
    kernel_rfl
    kernel_rfl
    (repeat (first | with_reducible exact split_nil | with_reducible apply split_t | with_reducible apply split_f))
    (simp only [pickOps, nthO]; rfl)
    (simp only [pickOps, nthO]; rfl)
    repeat' (first | (apply VL_move; exact rfl; exact rfl) | (apply VL_assign; exact rfl; exact rfl) | (apply VL_guard_no; exact rfl; exact rfl; exact rfl; exact rfl; exact rfl) | (apply VL_guard_yes; exact rfl; exact rfl; exact rfl) | (apply VL_nilCheck; exact rfl; exact rfl) | (apply VL_fieldAddr T; exact rfl; exact rfl; exact rfl) | (apply VL_load T; exact rfl; (focus repeat (first | with_reducible exact List.mem_cons_self | with_reducible apply List.mem_cons_of_mem | assumption)); exact rfl; exact rfl; exact rfl) | (apply VL_pick_true; exact rfl; exact rfl; exact rfl) | (apply VL_pick_false; exact rfl; exact rfl; exact rfl) | (apply VL_eql; exact rfl; exact rfl; exact rfl; all_goals (intro _; try (exfalso; omega))) | (apply VL_neq; exact rfl; exact rfl; exact rfl; all_goals (intro _; try (exfalso; omega))) | (apply VL_shl; exact rfl; exact rfl; exact rfl; (simp only [IntKind.bits]; omega)) | (apply VL_or; exact rfl; exact rfl; exact rfl) | (apply VL_store T; exact rfl; exact rfl; exact rfl; (repeat (first | with_reducible exact Upd.here _ | with_reducible apply Upd.there)); (repeat (first | exact setat_here | apply setat_there)); exact rfl) | apply VL_nil | (apply VL_nilh; (repeat (first | with_reducible exact app_nil | with_reducible apply app_cons))) | apply VQ_then | apply VC_seq | apply VC_region | (apply VC_cond_true; exact rfl) | (apply VC_cond_false; exact rfl) | apply VC_ret | apply VC_skip | apply VQ_then_ret | (apply VC_drawc; exact rfl; kernel_rfl; kernel_rfl) | apply VQ_tailq | apply VQ_only)
    all_goals rename_i hbefore
    all_goals (
      have hcells : (.int .i64 d.cnt :: .int .i64 d.size :: .int .i64 d.part :: .int .i64 slot :: .int .i64 (bits .or .i64 d.bm (IntKind.i64.wrap (1 * 2 ^ idx.toNat))) :: d.strs.set idx.toNat (.string s)) = (upd d slot idx s).cells := by
        rw [hPi, hor, hQ3]; simp [Dg.cells, Dg.strs, upd, List.map_set]
      have hfinal : ∀ w, St B w0 ((upd d slot idx s).hp :: many (l1.map Dg.hp ++ l2.map Dg.hp) :: blk r (rcells hold slot m) :: blk m (mobj (l1.map Dg.ent ++ d.ent :: l2.map Dg.ent) clock2) :: blk fb (.cells #[.int .i64 tag, .int .i64 idx, .int .i64 cnt, .int .i64 size, .string s] 23 (0, 0)) :: blk bx (.cells #[.pointer (some ⟨r, 0, none⟩)] 40 (0, 0)) :: H) w → St B w0 (rpcs r m hold slot (l1 ++ upd d slot idx s :: l2) clock2 H) w := by
        intro w hw
        unfold rpcs
        rw [List.map_append, List.map_append, List.map_cons, List.map_cons]
        have h1 := hw.perm (.push _ _ _ _)
        exact ((((h1.perm (.trans (.swap _ _ _) (.cons _ (.swap _ _ _)))).front 3).tail).front 3).tail
      rw [hcells])
    · apply VQ_st _ hfinal
      apply VQ_ret3; exact rfl; exact rfl; exact rfl; exact rfl
      refine ⟨l1, d, l2, clock2, hgot, .inr ⟨hfits, ?_, rfl⟩⟩
      unfold outV allBits
      rw [if_pos (.inl (by omega))]
    · apply VQ_st _ hfinal
      apply VQ_ret3; exact rfl; exact rfl; exact rfl; exact rfl
      refine ⟨l1, d, l2, clock2, hgot, .inr ⟨hfits, ?_, rfl⟩⟩
      unfold outV allBits
      rw [hPi, hor] at hbefore
      rw [if_pos (.inr (by show d.bm ||| 2 ^ idx.toNat ≠ _; rw [← hQ3]; omega))]
    · have hu : OkD (upd d slot idx s) := okd_upd hd (by omega) (by omega) hs
      repeat' (first | (apply VL_slice_arr T; exact rfl; exact rfl; exact rfl; exact rfl; exact ⟨Int.le_trans (by decide) hcn.1, hcn.2⟩) | fail)
      apply VL_callq en48
      (repeat (first | exact args_nil | (apply args_cons; exact rfl)))
      exact rfl
      exact fun _ hw => join_spec (upd d slot idx s) d.cnt.toNat (by omega) hu hw (.head _)
      repeat' (first | (apply VL_assign; exact rfl; exact rfl) | apply VL_nilq | apply VQ_then | apply VC_ret)
      apply VQ_st _ hfinal
      apply VQ_ret3; exact rfl; exact rfl; exact rfl; exact rfl
      refine ⟨l1, d, l2, clock2, hgot, .inr ⟨hfits, ?_, rfl⟩⟩
      unfold outV allBits
      rw [hPi, hor] at hbefore
      rw [if_neg (by
        show ¬ (_ ∨ d.bm ||| 2 ^ idx.toNat ≠ _)
        rw [← hQ3, ← hP3]; omega)]
end Go.Proofs.Ytfobgjhjigkigaa
