/- Walk: the tags of a receiver. -/
import Derived.Test.YtfobgjhjigkigaaFw11
import Derived.Test.YtfobgjhjigkigaaIter
import Derived.Test.YtfobgjhjigkigaaShelf
import Derived.Test.YtfobgjhjigkigaaSt
import Derived.Test.YtfobgjhjigkigaaE16
namespace Go.Eng
open Go.RowKit
/-- What a call has laid anew, nothing else having turned: a slice of one's own. -/
theorem St.newRow {B : Nat} {w0 w w' : World} {H : List HP} {e size k : Nat} {v : Value} {xs : List Value} (hw : St B w0 H w) (hb : Below w.heap.size w w') (hr : w'.ownsRow w.heap.size e size v k xs) : ∃ A cap, v = .slice A k cap ∧ St B w0 (Eng.sl e size A k cap xs :: H) w' := by
  have hg := hw.grow hb
  obtain ⟨h1, h2⟩ := hr
  rcases h2 with ⟨rfl, rfl⟩ | ⟨g, c, cur, rfl, h3, h4, h5, h6, h7, h8⟩
  · have hx : xs = [] := List.eq_nil_of_length_eq_zero (by rw [h1, Nat.zero_mul])
    subst hx
    exact ⟨none, 0, rfl, hg.nilSlice e size⟩
  · refine ⟨_, c, rfl, hg.below, hg.le, fun b => b = g, fun b => B ≤ b ∧ b < w.heap.size, ?_, ?_, ?_, ⟨⟨h1, .inr ⟨g, c, cur, rfl, Nat.zero_le _, h4, h5, h6, h7, h8⟩⟩, fun a ha => by cases ha; rfl⟩, ?_⟩
    · rintro b rfl
      have hle := hw.le
      refine ⟨by omega, ?_⟩
      rcases Nat.lt_or_ge b w'.heap.size with h | h
      · exact h
      · rw [Array.getElem?_eq_none h] at h4; cases h4
    · rintro b ⟨h9, h10⟩; exact ⟨h9, Nat.lt_of_lt_of_le h10 hb.size⟩
    · rintro b rfl ⟨_, h10⟩; omega
    · exact sepL_loc hw.sep fun b hb' => hb.block b hb'.2
end Go.Eng
namespace Go.Proofs.Ytfobgjhjigkigaa
open Go.RowKit Go.Eng Go.Maps Go.WideElems Go.WideShapes

theorem Try.sortsA (m : Nat) : AnyZI.SortsIn Try.prog Try.sortedA_ren Fence.wide m :=
  ⟨fun blk off cap ss W hH hblk hsz => callsIn_wide.2 (Try.slices_Sort_int blk off cap ss W hH hblk hsz), fun p cap W => callsIn_wide.2 (Try.slices_Sort_int_none p cap W)⟩

/-- A map with int keys, as the library's contracts read it: of its values nothing is said. -/
def anyV (_ : Value) : Option (DataW Unit × List MemPlace) := some (.nil, [])
noncomputable def mdat (es : Ents) : DataW Unit := .map (((es.map toE).map (rg Try.prog 3 anyV)).foldr DataW.insert [])
theorem rd_ent {e : Int × Value × Nat} (h : (Lit.int .i64 e.1).wf = true) : rd Try.prog 3 anyV (toE e) = some (.int .i64 e.1, .nil) := by
  have hk := keyOf_int_mk Try.underlying3 h
  exact rd_mk (yv := (.nil, [])) hk rfl
theorem rg_ents {es : Ents} (h : ∀ e ∈ es, (Lit.int .i64 e.1).wf = true) : (es.map toE).map (rg Try.prog 3 anyV) = es.map fun e => (.int .i64 e.1, .nil) := by
  induction es with
  | nil => rfl
  | cons e es ih => rw [List.map_cons, List.map_cons, List.map_cons, rg_of (rd_ent (h e List.mem_cons_self)), ih fun x hx => h x (List.mem_cons_of_mem _ hx)]
theorem mdat_size (es : Ents) : Maps.size (mdat es) = es.length := by
  show (((es.map toE).map _).foldr DataW.insert []).length = _
  rw [(sorted_perm _).length_eq]; simp
theorem mdat_keys {es : Ents} (h : ∀ e ∈ es, (Lit.int .i64 e.1).wf = true) : (intKeys (mdat es)).Perm (es.map (·.1)) := by
  show ((((es.map toE).map (rg Try.prog 3 anyV)).foldr DataW.insert []).map fun p => Go.intOf p.1).Perm _
  refine ((sorted_perm _).map _).trans ?_
  rw [rg_ents h, List.map_map]
  exact .refl _
theorem owns_mobj {es : Ents} {clock m : Nat} {w : World} (hw : w.heap[m]? = some (mobj es clock)) (hl : es.length ≤ 1000000) (h : ∀ e ∈ es, (Lit.int .i64 e.1).wf = true) (hk : (es.map (·.1)).Nodup) (hb : (es.map (·.2.2)).Nodup) (hc : ∀ e ∈ es, e.2.2 < clock) : w.ownsMap Try.prog 3 anyV m es.length (mdat es) := by
  refine ⟨(es.map toE).toArray, clock, hw, ⟨?_, ?_, ?_⟩, by simp, ?_⟩
  · simp only [List.size_toArray, List.length_map, maxLen]; omega
  · refine (MapKept.stamped_iff _ _).2 ⟨?_, ?_, ?_⟩
    · intro x hx
      obtain ⟨e, he, rfl⟩ := List.mem_map.1 hx
      exact hc e he
    · rw [List.map_map]; exact hb
    · refine List.pairwise_map.2 ((List.pairwise_map.1 hk).imp fun {a b} hab e => hab ?_)
      simpa [toE] using e
  · intro x hx
    obtain ⟨e, he, rfl⟩ := List.mem_map.1 hx
    exact ⟨_, rd_ent (h e he)⟩
  · simp [mdat]

theorem keys_spec (m : Nat) {B : Nat} {w0 : World} {H : List HP} {w : World} (hw : St B w0 H w) :
    Calls Try.prog 62 [.map (some m)].toArray w (Post B w0 fun v K => ∃ g, v = .func (.func 81) #[] #[.pointer (some ⟨g, 0, none⟩)] ∧ K = blk g (.cells #[.map (some m)] 77 (0, 0)) :: H) := by
  refine Calls_of_VC Try.func62 Try.ntmps62 rfl rfl hw ?_
  repeat' (first | apply (zs2 ?_) | (apply zg23; (refine zs53 ?_; intro _)) | apply (zs65 ?_) | apply (zs68 ?_) | apply (zs69 ?_) | apply (zs70 ?_) | apply (zs74 ?_) | (apply zg29; (apply VL_makeFunc; (repeat (first | exact args_nil | (apply args_cons; exact rfl))) ; exact rfl)))
  apply VQ_ret1; exact rfl; exact rfl
  exact ⟨_, rfl, rfl⟩

theorem sorted_spec (g m clock : Nat) (es : Ents) (hl : es.length ≤ 1000000) (h : ∀ e ∈ es, (Lit.int .i64 e.1).wf = true) (hk : (es.map (·.1)).Nodup) (hb : (es.map (·.2.2)).Nodup) (hc : ∀ e ∈ es, e.2.2 < clock) {B : Nat} {w0 : World} {H : List HP} {w : World} (hm : blk m (mobj es clock) ∈ H) (hg : blk g (.cells #[.map (some m)] 77 (0, 0)) ∈ H) (hw : St B w0 H w) :
    Calls Try.prog 61 [.func (.func 81) #[] #[.pointer (some ⟨g, 0, none⟩)]].toArray w (Post B w0 fun v K => ∃ A cap, v = .slice A es.length cap ∧ K = sl 3 1 A es.length cap (((es.map (·.1)).mergeSort fun x y => decide (x ≤ y)).map (Value.int .i64)) :: H) := by
  obtain ⟨hg1, _, hg2⟩ := hw.blk hg
  have hown := owns_mobj (hw.blk hm).1 hl h hk hb hc
  have hseq : SeqGives Fence.wide 2 Try.prog 81 #[.pointer (some ⟨g, 0, none⟩)] encZ (fun ss => ss.Perm (intKeys (mdat es))) (Maps.size (mdat es)) w :=
    AnyZI.keys_gives (ρ := Try.keysA_ren) { Try.keysA with } Fence.wide _ trivial rfl (by omega) g m es.length (mdat es) _ hg2 (by rw [cell_of_blk hg1]; rfl) hown
  have cS := AnyZI.sorted_in Try.sortedA Fence.wide 5 trivial trivial trivial trivial rfl (by omega) (Try.sortsA _) en35 81 #[.pointer (some ⟨g, 0, none⟩)] trivial (enters_of Try.func81 (by kernel_rfl) rfl) _ _ (by rw [mdat_size]; simp only [maxLen]; omega) (by rw [mdat_size]; omega) _ hseq
  refine ((callsIn_wide (n := 5)).1 cS).mono ?_
  rintro e w' ⟨v, ss, rfl, hp, hrow, _, hbel⟩
  have hp2 := hp.trans (mdat_keys h)
  have hlen : ss.length = es.length := by rw [hp2.length_eq]; simp
  have hsort : ss.mergeSort (fun x y => decide (x ≤ y)) = (es.map (·.1)).mergeSort fun x y => decide (x ≤ y) := mergeSort_of_perm_i hp2
  rw [hlen, hsort] at hrow
  obtain ⟨A, cap, rfl, hst⟩ := hw.newRow hbel hrow
  exact ⟨_, _, rfl, hst, A, cap, rfl, rfl⟩
end Go.Proofs.Ytfobgjhjigkigaa
