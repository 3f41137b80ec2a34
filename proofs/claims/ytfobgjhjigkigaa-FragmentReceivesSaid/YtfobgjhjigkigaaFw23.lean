/- Walks: the tags of a receiver; receipts of a first fragment. -/
import Derived.Test.YtfobgjhjigkigaaFw22
import Derived.ChangeKeysEq
namespace Go.Eng
open Go.RowKit
/-- An element of an array that is a value. -/
theorem VL_index_av {P : Program} {m : Mode} {n B d : Nat} {w0 : World} {ops : Array Oper} {Q : Exit → Act → World → Prop} {rest : List Oper} {env : Env} {H : List HP} {ty : TypeId} {pos : String} {after : Array Edge} (T : Tab P) {t k e : Nat} {x y : Operand} {cs : Array Value} {ki : IntKind} {i : Int} {v : Value}
    (hx : evo env x = some (.agg cs)) (hy : evo env y = some (.int ki i)) (ht : look T.ar t = some (k, e, 1)) (hn : Nat.ble (d + 1) n = true) (hp : P.plainKey e = true) (hi : 0 ≤ i ∧ i < k) (hv : cs[i.toNat]? = some v)
    (h : VL P m n B w0 ops Q rest ((d, v) :: env) H) : VL P m n B w0 ops Q (⟨some d, .index t x y, ty, pos, after, none⟩ :: rest) env H := by
  obtain ⟨inf, hu, hinf, hs⟩ := arrayT_spec (T.arra ht)
  refine VL_pure rfl rfl hn rfl (fun a w ha hw => ?_) h
  have hr := Go.run_part_plain (w := w) hp hv
  simp [execOp, ha.eval hx, ha.eval hy, Instr.index, asIntOf, run_underlying hu, hi, sizeOf, typeInfo, hinf, hs, hr]
end Go.Eng
namespace Go.Proofs.Ytfobgjhjigkigaa
open Go.RowKit Go.Eng

def tagsOf (ds : List Dg) : List Int := (ds.map (·.tag)).mergeSort fun x y => decide (x ≤ y)
theorem tagsOf_len (ds : List Dg) : (tagsOf ds).length = ds.length := by simp [tagsOf, List.length_mergeSort]
theorem mem_tagsOf {ds : List Dg} {t : Int} : t ∈ tagsOf ds ↔ t ∈ ds.map (·.tag) := by simp [tagsOf, List.mem_mergeSort]

theorem tags_spec (hold time : Int) (m r : Nat) (ds : List Dg) (clock : Nat) (hm : Maps ds clock) (hl : ds.length ≤ 1000000) (ht : ∀ d ∈ ds, 0 ≤ d.tag ∧ d.tag ≤ 255) {B : Nat} {w0 : World} {H : List HP} {w : World} (hw : St B w0 (rpcs r m hold time ds clock H) w) :
    Calls Try.prog 32 [.pointer (some ⟨r, 0, none⟩)].toArray w (Post B w0 fun v K => ∃ A cap, v = .slice A (tagsOf ds).length cap ∧ K = sl 3 1 A (tagsOf ds).length cap ((tagsOf ds).map (Value.int .i64)) :: rpcs r m hold time ds clock H) := by
  refine Calls_of_VC Try.func32 Try.ntmps32 rfl rfl hw ?_
  have e1 : (ds.map Dg.ent).map (·.1) = ds.map (·.tag) := by rw [List.map_map]; rfl
  have e2 : (ds.map Dg.ent).map (·.2.2) = ds.map (·.born) := by rw [List.map_map]; rfl
  have e3 : (ds.map Dg.ent).length = ds.length := List.length_map _
  have hs := fun (g : Nat) (K : List HP) (h1 : blk m (mobj (ds.map Dg.ent) clock) ∈ K) (h2 : blk g (.cells #[.map (some m)] 77 (0, 0)) ∈ K) (w : World) (hw : St B w0 K w) => sorted_spec g m clock (ds.map Dg.ent) (by omega) (fun e he => by
    obtain ⟨d, hd, rfl⟩ := List.mem_map.1 he
    have := ht d hd
    show (Lit.int .i64 d.tag).wf = true
    have h5 : IntKind.i64.min = -9223372036854775808 := by decide
    have h6 : IntKind.i64.max = 9223372036854775807 := by decide
    simp only [Lit.wf, Bool.and_eq_true, decide_eq_true_eq]
    omega) (by rw [e1]; exact hm.tags) (by rw [e2]; exact hm.borns) (fun e he => by
    obtain ⟨d, hd, rfl⟩ := List.mem_map.1 he
    exact hm.lt d hd) h1 h2 hw
  rw [e1, e3] at hs
  unfold rpcs
  repeat' (first | apply (zs1 ?_) | apply (zs2 ?_) | apply (zs5 ?_) | (apply zg2; refine zs6 ?_) | (apply zg3; refine zs7 ?_) | apply (zs65 ?_) | apply (zs68 ?_) | apply (zs69 ?_) | apply (zs70 ?_))
  apply VL_call _ en62
  (repeat (first | exact args_nil | (apply args_cons; exact rfl)))
  exact rfl
  exact fun _ hw => (keys_spec m (hw))
  rintro _ _ ⟨g, rfl, rfl⟩
  repeat' (first | fail)
  apply VL_call _ en61
  (repeat (first | exact args_nil | (apply args_cons; exact rfl)))
  exact rfl
  exact fun _ hw => (hs g _ (by (focus repeat (first | with_reducible exact List.mem_cons_self | with_reducible apply List.mem_cons_of_mem | assumption))) (by (focus repeat (first | with_reducible exact List.mem_cons_self | with_reducible apply List.mem_cons_of_mem | assumption))) _ (hw))
  rintro _ _ ⟨A, cap, rfl, rfl⟩
  repeat' (first | apply (zs2 ?_) | apply (zs65 ?_) | apply (zs68 ?_) | apply (zs74 ?_))
  rw [show ((ds.map (·.tag)).mergeSort fun x y => decide (x ≤ y)) = tagsOf ds from rfl, ← tagsOf_len ds]
  apply VQ_st (sl 3 1 A (tagsOf ds).length cap ((tagsOf ds).map (Value.int .i64)) :: rpcs r m hold time ds clock H)
  · unfold rpcs
    (intro w hw; refine hw.perm ?_; focus repeat (first | with_reducible exact Perm.refl _ | (with_reducible apply perm_take; focus ((repeat (first | with_reducible exact rem_here | with_reducible apply rem_there)); done)) | with_reducible apply Perm.dropK))
  apply VQ_ret1; exact rfl; exact rfl
  exact ⟨A, cap, rfl, rfl⟩

theorem recv_new (hold time : Int) (m r : Nat) (ds F : List Dg) (clock : Nat) (slot tag cnt size : Int) (s : ByteArray) (hs : s.size ≤ 5000) (hp : Fm.part tag 0 cnt size s.size ≠ 0) (ht : 0 ≤ time) (ho : time ≤ slot ∧ slot ≤ 109951162) (hh : 0 ≤ hold ∧ hold ≤ 4096) (hm : Maps ds clock) (hok : ∀ d ∈ ds, OkD d)
    (hF : (ds.filter fun d => !old hold slot d) = F) (hn : findD F tag = none) (hl : F.length < 8) (hc : 1 ≤ cnt ∧ cnt ≤ 32) {B : Nat} {w0 : World} {H : List HP} {w : World} (hw : St B w0 (rpcs r m hold time ds clock H) w) :
    Calls Try.prog 22 [.pointer (some ⟨r, 0, none⟩), .int .i64 slot, .agg #[.int .i64 tag, .int .i64 0, .int .i64 cnt, .int .i64 size, .string s]].toArray w (Post B w0 fun v K => ∃ g x, v = .tuple #[.string x, .bool (decide (cnt = 1)), .int .i64 0] ∧
      K = rpcs r m hold slot (F ++ [upd (newDg g clock tag cnt size (Fm.part tag 0 cnt size s.size)) slot 0 s]) (clock + 1) H) := by
  have h := receive_got hold time m r ds clock slot tag 0 cnt size s hs hp ht ho hh hm hok (by rw [hF]; exact fun _ => hl) hw
  rw [hF] at h
  refine h.mono ?_
  rintro e w' ⟨v, K, rfl, hst, l1, d, l2, clock2, hgot, hres⟩
  rcases hgot with ⟨g1, _⟩ | ⟨_, _, g3, g4, g5, g6⟩
  · rw [hn] at g1; cases g1
  subst g3 g4 g6
  have hfit : fits d tag 0 cnt size s := by rw [g5]; exact ⟨rfl, rfl, rfl, .inl (by simp [newDg])⟩
  rcases hres with ⟨hnf, _⟩ | ⟨_, rfl, rfl⟩
  · exact absurd hfit hnf
  have hbm : d.bm = 0 := by rw [g5]; rfl
  have hcn : d.cnt = cnt := by rw [g5]; rfl
  have hb2 : (upd d slot 0 s).bm = 1 := by show d.bm ||| 2 ^ Int.toNat 0 = 1; rw [hbm]; rfl
  have hall : allBits d = 2 ^ cnt.toNat - 1 := by rw [allBits, hcn]
  have hpow : 2 ≤ 2 ^ cnt.toNat := by
    obtain ⟨k, hk⟩ : ∃ k, cnt.toNat = k + 1 := ⟨cnt.toNat - 1, by omega⟩
    rw [hk, Nat.pow_succ]
    have := Nat.one_le_two_pow (n := k)
    omega
  obtain ⟨x, hx⟩ : ∃ x, outV d (upd d slot 0 s) = .tuple #[.string x, .bool (decide (cnt = 1)), .int .i64 0] := by
    unfold outV
    rw [hbm, hb2, hall]
    by_cases h1 : cnt = 1
    · subst h1
      rw [if_neg (by decide)]
      exact ⟨_, rfl⟩
    · have h4 : 4 ≤ 2 ^ cnt.toNat := by
        obtain ⟨k, hk⟩ : ∃ k, cnt.toNat = k + 2 := ⟨cnt.toNat - 2, by omega⟩
        rw [hk, Nat.pow_succ, Nat.pow_succ]
        have := Nat.one_le_two_pow (n := k)
        omega
      rw [if_pos (by omega), decide_eq_false h1]
      exact ⟨_, rfl⟩
  refine ⟨_, _, rfl, hst, d.g, x, hx, ?_⟩
  rw [← g5]

theorem recv_again (hold time : Int) (m r : Nat) (ds F : List Dg) (clock : Nat) (slot t0 tag cnt size : Int) (g k : Nat) (s : ByteArray) (hs : s.size ≤ 5000) (hp : Fm.part tag 0 cnt size s.size ≠ 0) (ht : 0 ≤ time) (ho : time ≤ slot ∧ slot ≤ 109951162) (hh : 0 ≤ hold ∧ hold ≤ 4096) (hm : Maps ds clock) (hok : ∀ d ∈ ds, OkD d)
    (hF : (ds.filter fun d => !old hold slot d) = F) (hn : findD F tag = some (upd (newDg g k tag cnt size (Fm.part tag 0 cnt size s.size)) t0 0 s)) (_hc : 1 ≤ cnt ∧ cnt ≤ 32) {B : Nat} {w0 : World} {H : List HP} {w : World} (hw : St B w0 (rpcs r m hold time ds clock H) w) :
    Calls Try.prog 22 [.pointer (some ⟨r, 0, none⟩), .int .i64 slot, .agg #[.int .i64 tag, .int .i64 0, .int .i64 cnt, .int .i64 size, .string s]].toArray w (Post B w0 fun v K => ∃ ds' clock', v = .tuple #[.string ⟨#[]⟩, .bool false, .int .i64 0] ∧ K = rpcs r m hold slot ds' clock' H) := by
  have h := receive_got hold time m r ds clock slot tag 0 cnt size s hs hp ht ho hh hm hok (by rw [hF, hn]; intro h; cases h) hw
  rw [hF] at h
  refine h.mono ?_
  rintro e w' ⟨v, K, rfl, hst, l1, d, l2, clock2, hgot, hres⟩
  rcases hgot with ⟨g1, _, _⟩ | ⟨g1, _⟩
  rotate_left
  · rw [hn] at g1; cases g1
  rw [hn] at g1
  have g1 := (Option.some.inj g1).symm
  have hbm : d.bm = 1 := by rw [g1]; show (0 ||| 2 ^ Int.toNat 0) = 1; decide
  have hcn : d.cnt = cnt := by rw [g1]; rfl
  have hpa : d.parts.getD (0 : Int).toNat ⟨#[]⟩ = s := by rw [g1]; rfl
  have hfit : fits d tag 0 cnt size s := ⟨by rw [g1]; rfl, by rw [g1]; rfl, by rw [g1]; rfl, .inr hpa⟩
  rcases hres with ⟨hnf, _⟩ | ⟨_, rfl, rfl⟩
  · exact absurd hfit hnf
  refine ⟨_, _, rfl, hst, _, _, ?_, rfl⟩
  have hb2 : (upd d slot 0 s).bm = 1 := by show d.bm ||| 2 ^ Int.toNat 0 = 1; rw [hbm]; rfl
  unfold outV
  rw [hbm, hb2]
  rw [if_pos (by omega)]
end Go.Proofs.Ytfobgjhjigkigaa
