/- Lemmas for the claim, part 5. -/
import Derived.Lib.AppendZeros
import Derived.Test.YtleldppdflgmgaaGreatQ4

/- Walks: Pair; the least of numbers. -/
namespace Go.Proofs.YtleldppdflgmgaaGreat
open Go.RowKit Go.Eng Go.Nw Go.Rt

noncomputable def PairE (fuel : Nat) (n : Net) (s t : Int) : Option (Option (List Int × List Int) × Int) :=
  if endsE n s t ≠ 0 then some (none, endsE n s t) else
    match pairF fuel n.nodes.toNat (arcsE n) s t with
    | none => none
    | some none => some (none, 17)
    | some (some pq) => if 9 < pq.1.length ∨ 9 < pq.2.length then some (none, 21) else some (some pq, 0)

set_option maxRecDepth 10000 in
set_option maxHeartbeats 1000000 in
theorem Pair_spec (n : NetM) (s to : Int) (fuel : Nat) (res : Option (List Int × List Int) × Int) (hfu : fuel ≤ 100000) (hrun : PairE fuel n.net s to = some res) {B : Nat} {w0 : World} {H : List HP} {w : World} (hin : n.In B w0 H) (hw : St B w0 H w) :
    Calls Tryz.prog 12 [n.val, .int .i64 s, .int .i64 to].toArray w (Post B w0 fun v K => match res.1 with
      | none => v = .tuple #[.slice none 0 0, .int .i64 res.2] ∧ K = H
      | some pq => ∃ g A1 c1 A2 c2, v = .tuple #[.slice (some ⟨g, 0, none⟩) 2 2, .int .i64 res.2] ∧ (2 ≤ pq.1.length ∧ pq.1.length ≤ 9 ∧ pq.2.length ≤ 9) ∧ WayV A2 pq.2 ∧ K = sl 31 1 (some ⟨g, 0, none⟩) 2 2 ([⟨A1, c1, pq.1⟩, ⟨A2, c2, pq.2⟩].flatMap rowF) :: ints A1 c1 pq.1 :: ints A2 c2 pq.2 :: H) := by
  refine Calls_of_VC Tryz.func12 Tryz.ntmps12 rfl rfl hw ?_
  (apply VC_seq; apply VC_region; apply VL_box_agg; exact rfl; exact rfl; intro g)
  unfold PairE at hrun
  by_cases he : endsE n.net s to = 0
  rotate_left
  · rw [if_pos he] at hrun
    obtain rfl := Option.some.inj hrun
    repeat' (first | ((first | apply VL_callt en20 | apply VL_callq en20); (repeat (first | exact args_nil | (apply args_cons; exact rfl))); exact rfl; exact fun _ hw => (ends_spec n s to hin.cons hw)) | apply (zs1 ?_) | apply (zs2 ?_) | (apply zg3; refine zs8 ?_) | (apply zg8; (refine zs16 ?_ ?_ <;> intro _ <;> try (exfalso; omega))) | apply (zs65 ?_) | apply (zs68 ?_) | apply (zs69 ?_) | apply (zs70 ?_) | (apply zg27; refine zs71 ?_) | apply (zs74 ?_) | apply (zs77 ?_) | fail)
    (repeat apply VQ_tail)
    apply VQ_ret2; exact rfl; exact rfl; exact rfl
    exact ⟨rfl, rfl⟩
  rw [if_neg (fun h => h he)] at hrun
  obtain ⟨hck, ⟨s0, s1⟩, ⟨t0, t1⟩, hst⟩ := ends_ok he
  have hen := fun {H : List HP} {w : World} (hin : n.In B w0 H) (hw : St B w0 H w) => ends_spec n s to hin hw
  rw [he] at hen
  have hok := check_ok hck
  have hn0 := hok.n0
  have hn1 := hok.n1
  have hnn : ((n.net.nodes.toNat : Nat) : Int) = n.net.nodes := by omega
  have hnn2 : n.nodes = ((n.net.nodes.toNat : Nat) : Int) := by rw [hnn]; rfl
  cases hpf : pairF fuel n.net.nodes.toNat (arcsE n.net) s to with
  | none => rw [hpf] at hrun; cases hrun
  | some o =>
    rw [hpf] at hrun
    have hp := fun {H : List HP} {w : World} (hin : n.In B w0 H) (hw : St B w0 H w) => pair_spec n s to n.net.nodes.toNat fuel o hck hnn2 ⟨s0, by omega⟩ ⟨t0, by omega⟩ hst hfu hpf hin hw
    cases o with
    | none =>
      obtain rfl := Option.some.inj hrun
      repeat' (first | ((first | apply VL_callt en20 | apply VL_callq en20); (repeat (first | exact args_nil | (apply args_cons; exact rfl))); exact rfl; exact fun _ hw => (hen hin.cons hw)) | apply (zs1 ?_) | apply (zs2 ?_) | (apply zg3; refine zs8 ?_) | (apply zg8; (refine zs16 ?_ ?_ <;> intro _ <;> try (exfalso; omega))) | apply (zs65 ?_) | apply (zs68 ?_) | apply (zs69 ?_) | apply (zs70 ?_) | (apply zg27; refine zs72 ?_) | apply (zs76 ?_) | fail)
      apply VL_call _ en28
      (repeat (first | exact args_nil | (apply args_cons; exact rfl)))
      exact rfl
      exact fun _ hw => (hp hin.cons (hw))
      rintro _ _ ⟨rfl, rfl⟩
      repeat' (first | (apply VL_sleql0; exact rfl; exact rfl; exact rfl) | apply (zs1 ?_) | apply (zs2 ?_) | apply (zs65 ?_) | apply (zs68 ?_) | apply (zs69 ?_) | apply (zs70 ?_) | (apply zg27; refine zs71 ?_) | apply (zs74 ?_) | apply (zs77 ?_) | fail)
      apply VQ_tail
      apply VQ_ret2; exact rfl; exact rfl; exact rfl
      exact ⟨rfl, rfl⟩
    | some pq =>
      obtain ⟨p, q⟩ := pq
      dsimp only at hrun
      repeat' (first | ((first | apply VL_callt en20 | apply VL_callq en20); (repeat (first | exact args_nil | (apply args_cons; exact rfl))); exact rfl; exact fun _ hw => (hen hin.cons hw)) | apply (zs1 ?_) | apply (zs2 ?_) | (apply zg3; refine zs8 ?_) | (apply zg8; (refine zs16 ?_ ?_ <;> intro _ <;> try (exfalso; omega))) | apply (zs65 ?_) | apply (zs68 ?_) | apply (zs69 ?_) | apply (zs70 ?_) | (apply zg27; refine zs72 ?_) | apply (zs76 ?_) | fail)
      apply VL_call _ en28
      (repeat (first | exact args_nil | (apply args_cons; exact rfl)))
      exact rfl
      exact fun _ hw => (hp hin.cons (hw))
      rintro _ _ ⟨gL, A1, c1, A2, c2, rfl, ⟨k1, k2, k3⟩, hway, rfl⟩
      dsimp only at k1 k2 k3 hway ⊢
      repeat' (first | (apply VL_sleql0; exact rfl; exact rfl; exact rfl) | apply (zs1 ?_) | apply (zs2 ?_) | (apply zg4; refine zs9 ?_) | apply (zs65 ?_) | apply (zs68 ?_) | apply (zs69 ?_) | apply (zs70 ?_) | (apply zg27; refine zs72 ?_) | apply (zs73 ?_) | apply (zs76 ?_) | fail)
      have hs1 := fun {H : List HP} {w : World} (hw : St B w0 H w) => short_spec p.length (A := A1) (cap := c1) (by omega) hw
      have hs2 := fun {H : List HP} {w : World} (hw : St B w0 H w) => short_spec q.length (A := A2) (cap := c2) (by omega) hw
      refine VC_loop1 (fun (k : Nat) => [(28, .int .i64 k), (27, .int .i64 2), (26, .slice (some ⟨gL, 0, none⟩) 2 2), (9, .slice (some ⟨gL, 0, none⟩) 2 2)]) (fun _ => sl 31 1 (some ⟨gL, 0, none⟩) 2 2 ([(⟨A1, c1, p⟩ : RowM), ⟨A2, c2, q⟩].flatMap rowF) :: ints A1 c1 p :: ints A2 c2 q :: netB g n :: H) (fun k => k ≤ 2 ∧ (1 ≤ k → p.length ≤ 9) ∧ (2 ≤ k → q.length ≤ 9)) (fun k => 2 - k) 0 ⟨by omega, by omega, by omega⟩ ?_ (fun w hw => hw) ?_
      · (repeat (first | exact sub_nil _ | (apply sub_cons; first | exact rfl | exact congrArg (fun z : Int => some (Value.int .i64 z)) (by omega))))
      rintro k ⟨hk, hk1, hk2⟩ K hK
      obtain rfl | rfl | rfl : k = 0 ∨ k = 1 ∨ k = 2 := by omega
      · have hx0 : [(⟨A1, c1, p⟩ : RowM), ⟨A2, c2, q⟩][0]? = some ⟨A1, c1, p⟩ := rfl
        by_cases h9 : 9 < p.length
        · rw [if_pos h9] at hs1
          rw [if_pos (.inl h9)] at hrun
          obtain rfl := Option.some.inj hrun
          clear hK
          repeat' (first | (apply VL_index_rd T (f := rowF) (l := [(⟨A1, c1, p⟩ : RowM), ⟨A2, c2, q⟩]); exact rfl; exact rfl; exact .sl (by (focus repeat (first | with_reducible exact List.mem_cons_self | with_reducible apply List.mem_cons_of_mem | assumption))); exact rfl; exact fun _ => rfl; exact rfl; exact rfl; (simp only [List.length_cons, List.length_nil]; omega)) | (apply VL_load_rd0 T (f := rowF) (l := [(⟨A1, c1, p⟩ : RowM), ⟨A2, c2, q⟩]); exact rfl; exact .sl (by (focus repeat (first | with_reducible exact List.mem_cons_self | with_reducible apply List.mem_cons_of_mem | assumption))); exact hx0; exact fun _ => rfl; exact rfl; exact rfl; exact rfl; exact rfl) | ((first | apply VL_callt en23 | apply VL_callq en23); (repeat (first | exact args_nil | (apply args_cons; exact rfl))); exact rfl; exact fun _ hw => (hs1 hw)) | apply (zs1 ?_) | apply (zs2 ?_) | (apply zg8; (refine zs16 ?_ ?_ <;> intro _ <;> try (exfalso; omega))) | (apply (zs17 ?_ ?_) <;> intro _ <;> try (exfalso; omega)) | apply (zs65 ?_) | apply (zs68 ?_) | apply (zs69 ?_) | apply (zs70 ?_) | (apply zg27; refine zs71 ?_) | apply (zs73 ?_) | apply (zs74 ?_) | apply (zs76 ?_) | apply (zs77 ?_) | apply (zs78 ?_) | fail)
          apply VQ_st H
          · exact fun w hw => hw.tail.tail.tail.tail
          apply VQ_ret2; exact rfl; exact rfl; exact rfl
          exact ⟨rfl, rfl⟩
        · rw [if_neg h9] at hs1
          repeat' (first | (apply VL_index_rd T (f := rowF) (l := [(⟨A1, c1, p⟩ : RowM), ⟨A2, c2, q⟩]); exact rfl; exact rfl; exact .sl (by (focus repeat (first | with_reducible exact List.mem_cons_self | with_reducible apply List.mem_cons_of_mem | assumption))); exact rfl; exact fun _ => rfl; exact rfl; exact rfl; (simp only [List.length_cons, List.length_nil]; omega)) | (apply VL_load_rd0 T (f := rowF) (l := [(⟨A1, c1, p⟩ : RowM), ⟨A2, c2, q⟩]); exact rfl; exact .sl (by (focus repeat (first | with_reducible exact List.mem_cons_self | with_reducible apply List.mem_cons_of_mem | assumption))); exact hx0; exact fun _ => rfl; exact rfl; exact rfl; exact rfl; exact rfl) | ((first | apply VL_callt en23 | apply VL_callq en23); (repeat (first | exact args_nil | (apply args_cons; exact rfl))); exact rfl; exact fun _ hw => (hs1 hw)) | apply (zs1 ?_) | apply (zs2 ?_) | (apply zg8; (refine zs16 ?_ ?_ <;> intro _ <;> try (exfalso; omega))) | (apply (zs17 ?_ ?_) <;> intro _ <;> try (exfalso; omega)) | (apply zg13; refine zs30 ?_) | apply (zs65 ?_) | apply (zs68 ?_) | apply (zs69 ?_) | apply (zs70 ?_) | (apply zg27; first | refine zs71 ?_ | refine zs72 ?_) | apply (zs73 ?_) | apply (zs76 ?_) | apply (zs79 ?_) | fail)
          apply hK 1
          · exact ⟨by omega, fun _ => by omega, by omega⟩
          · omega
          · (repeat (first | exact sub_nil _ | (apply sub_cons; first | exact rfl | exact congrArg (fun z : Int => some (Value.int .i64 z)) (by omega))))
          · exact fun w hw => hw
      · have hx1 : [(⟨A1, c1, p⟩ : RowM), ⟨A2, c2, q⟩][1]? = some ⟨A2, c2, q⟩ := rfl
        by_cases h9 : 9 < q.length
        · rw [if_pos h9] at hs2
          rw [if_pos (.inr h9)] at hrun
          obtain rfl := Option.some.inj hrun
          clear hK
          repeat' (first | (apply VL_index_rd T (f := rowF) (l := [(⟨A1, c1, p⟩ : RowM), ⟨A2, c2, q⟩]); exact rfl; exact rfl; exact .sl (by (focus repeat (first | with_reducible exact List.mem_cons_self | with_reducible apply List.mem_cons_of_mem | assumption))); exact rfl; exact fun _ => rfl; exact rfl; exact rfl; (simp only [List.length_cons, List.length_nil]; omega)) | (apply VL_load_rd0 T (f := rowF) (l := [(⟨A1, c1, p⟩ : RowM), ⟨A2, c2, q⟩]); exact rfl; exact .sl (by (focus repeat (first | with_reducible exact List.mem_cons_self | with_reducible apply List.mem_cons_of_mem | assumption))); exact hx1; exact fun _ => rfl; exact rfl; exact rfl; exact rfl; exact rfl) | ((first | apply VL_callt en23 | apply VL_callq en23); (repeat (first | exact args_nil | (apply args_cons; exact rfl))); exact rfl; exact fun _ hw => (hs2 hw)) | apply (zs1 ?_) | apply (zs2 ?_) | (apply zg8; (refine zs16 ?_ ?_ <;> intro _ <;> try (exfalso; omega))) | (apply (zs17 ?_ ?_) <;> intro _ <;> try (exfalso; omega)) | apply (zs65 ?_) | apply (zs68 ?_) | apply (zs69 ?_) | apply (zs70 ?_) | (apply zg27; refine zs71 ?_) | apply (zs73 ?_) | apply (zs74 ?_) | apply (zs76 ?_) | apply (zs77 ?_) | apply (zs78 ?_) | fail)
          apply VQ_st H
          · exact fun w hw => hw.tail.tail.tail.tail
          apply VQ_ret2; exact rfl; exact rfl; exact rfl
          exact ⟨rfl, rfl⟩
        · rw [if_neg h9] at hs2
          repeat' (first | (apply VL_index_rd T (f := rowF) (l := [(⟨A1, c1, p⟩ : RowM), ⟨A2, c2, q⟩]); exact rfl; exact rfl; exact .sl (by (focus repeat (first | with_reducible exact List.mem_cons_self | with_reducible apply List.mem_cons_of_mem | assumption))); exact rfl; exact fun _ => rfl; exact rfl; exact rfl; (simp only [List.length_cons, List.length_nil]; omega)) | (apply VL_load_rd0 T (f := rowF) (l := [(⟨A1, c1, p⟩ : RowM), ⟨A2, c2, q⟩]); exact rfl; exact .sl (by (focus repeat (first | with_reducible exact List.mem_cons_self | with_reducible apply List.mem_cons_of_mem | assumption))); exact hx1; exact fun _ => rfl; exact rfl; exact rfl; exact rfl; exact rfl) | ((first | apply VL_callt en23 | apply VL_callq en23); (repeat (first | exact args_nil | (apply args_cons; exact rfl))); exact rfl; exact fun _ hw => (hs2 hw)) | apply (zs1 ?_) | apply (zs2 ?_) | (apply zg8; (refine zs16 ?_ ?_ <;> intro _ <;> try (exfalso; omega))) | (apply (zs17 ?_ ?_) <;> intro _ <;> try (exfalso; omega)) | (apply zg13; refine zs30 ?_) | apply (zs65 ?_) | apply (zs68 ?_) | apply (zs69 ?_) | apply (zs70 ?_) | (apply zg27; first | refine zs71 ?_ | refine zs72 ?_) | apply (zs73 ?_) | apply (zs76 ?_) | apply (zs79 ?_) | fail)
          apply hK 2
          · exact ⟨by omega, fun _ => hk1 (by omega), fun _ => by omega⟩
          · omega
          · (repeat (first | exact sub_nil _ | (apply sub_cons; first | exact rfl | exact congrArg (fun z : Int => some (Value.int .i64 z)) (by omega))))
          · exact fun w hw => hw
      · have h1 := hk1 (by omega)
        have h2 := hk2 (by omega)
        rw [if_neg (by omega)] at hrun
        obtain rfl := Option.some.inj hrun
        clear hK
        repeat' (first | apply (zs1 ?_) | apply (zs2 ?_) | (apply (zs17 ?_ ?_) <;> intro _ <;> try (exfalso; omega)) | apply (zs65 ?_) | apply (zs68 ?_) | apply (zs69 ?_) | apply (zs70 ?_) | (apply zg27; refine zs72 ?_) | apply (zs74 ?_) | apply (zs75 ?_) | apply (zs80 ?_) | apply (zs81 ?_) | fail)
        apply VQ_st (sl 31 1 (some ⟨gL, 0, none⟩) 2 2 ([(⟨A1, c1, p⟩ : RowM), ⟨A2, c2, q⟩].flatMap rowF) :: ints A1 c1 p :: ints A2 c2 q :: H)
        · (intro w hw; refine hw.perm ?_; focus repeat (first | with_reducible exact Perm.refl _ | (with_reducible apply perm_take; focus ((repeat (first | with_reducible exact rem_here | with_reducible apply rem_there)); done)) | with_reducible apply Perm.dropK))
        apply VQ_ret2; exact rfl; exact rfl; exact rfl
        exact ⟨gL, A1, c1, A2, c2, rfl, ⟨k1, h1, h2⟩, hway, rfl⟩

def minL : List Int → Int
  | [] => 0
  | a :: l => l.foldl min a
theorem min_spec (l : List Int) (hl : 1 ≤ l.length ∧ l.length ≤ 1000000) {A : Option Addr} {cap B : Nat} {w0 : World} {H : List HP} {w : World} (hr : Rd B w0 H A (l.flatMap numF)) (hw : St B w0 H w) :
    Calls Tryz.prog 34 [.slice A l.length cap].toArray w (Post B w0 fun v K => v = .int .i64 (minL l) ∧ K = H) := by
  refine Calls_of_VC Tryz.func34 Tryz.ntmps34 rfl rfl hw ?_
  obtain ⟨a, m, rfl⟩ : ∃ a m, l = a :: m := by
    cases l with
    | nil => simp at hl
    | cons a m => exact ⟨a, m, rfl⟩
  have hlen : (a :: m).length = m.length + 1 := rfl
  have h0 : (a :: m)[0]? = some a := rfl
  repeat' (first | (apply VL_load_rd0 T (f := numF) (l := a :: m); exact rfl; exact hr; exact h0; exact fun _ => rfl; exact rfl; exact rfl; exact rfl; exact rfl) | apply (zs1 ?_) | apply (zs2 ?_) | (apply zg4; refine zs9 ?_) | (apply zg5; refine zs57 ?_) | (apply (zs17 ?_ ?_) <;> intro _ <;> try (exfalso; omega)) | apply (zs65 ?_) | apply (zs68 ?_) | apply (zs69 ?_) | apply (zs70 ?_) | (apply zg27; refine zs72 ?_) | apply (zs73 ?_) | apply (zs76 ?_) | fail)
  refine VC_loop1 (fun (k : Nat) => [(4, .int .i64 ((k : Int) + 1)), (3, .int .i64 ((m.take k).foldl min a)), (0, .slice A (a :: m).length cap)]) (fun _ => H) (fun k => k ≤ m.length) (fun k => m.length - k) 0 (Nat.zero_le _) ?_ (fun w hw => hw) ?_
  · (repeat (first | exact sub_nil _ | (apply sub_cons; first | exact rfl | exact congrArg (fun z : Int => some (Value.int .i64 z)) (by omega))))
  intro k hk K hK
  by_cases hlt : k < m.length
  · obtain ⟨x, hx⟩ : ∃ x, m[k]? = some x := ⟨_, List.getElem?_eq_getElem hlt⟩
    have hx1 : (a :: m)[((k : Int) + 1).toNat]? = some x := by rw [show ((k : Int) + 1).toNat = k + 1 by omega]; exact hx
    have hst : (m.take (k + 1)).foldl min a = min ((m.take k).foldl min a) x := by rw [List.take_add_one, hx, List.foldl_append]; rfl
    obtain ⟨y, hy⟩ : ∃ y, (m.take k).foldl min a = y := ⟨_, rfl⟩
    rw [hy] at hst ⊢
    repeat' (first | apply (zs1 ?_) | apply (zs2 ?_) | (apply zg3; refine zs60 ?_) | (apply zg4; refine zs9 ?_) | (apply zg5; refine zs57 ?_) | (apply (zs17 ?_ ?_) <;> intro _ <;> try (exfalso; omega)) | (apply (zs25 ?_ ?_) <;> intro _ <;> try (exfalso; omega)) | (apply zg13; refine zs30 ?_) | apply (zs65 ?_) | apply (zs68 ?_) | apply (zs69 ?_) | apply (zs70 ?_) | (apply zg27; refine zs71 ?_) | apply (zs73 ?_) | apply (zs76 ?_) | apply (zs79 ?_) | fail)
    · apply hK (k + 1)
      · omega
      · omega
      · rw [hst, Int.min_eq_right (by omega)]; (repeat (first | exact sub_nil _ | (apply sub_cons; first | exact rfl | exact congrArg (fun z : Int => some (Value.int .i64 z)) (by omega))))
      · exact fun w hw => hw
    · apply hK (k + 1)
      · omega
      · omega
      · rw [hst, Int.min_eq_left (by omega)]; (repeat (first | exact sub_nil _ | (apply sub_cons; first | exact rfl | exact congrArg (fun z : Int => some (Value.int .i64 z)) (by omega))))
      · exact fun w hw => hw
  · obtain rfl : k = m.length := by omega
    clear hK
    rw [List.take_length]
    repeat' (first | apply (zs1 ?_) | apply (zs2 ?_) | (apply zg4; refine zs9 ?_) | (apply (zs17 ?_ ?_) <;> intro _ <;> try (exfalso; omega)) | apply (zs65 ?_) | apply (zs68 ?_) | apply (zs69 ?_) | apply (zs70 ?_) | (apply zg27; refine zs72 ?_) | apply (zs74 ?_) | apply (zs75 ?_) | apply (zs80 ?_) | apply (zs81 ?_) | fail)
    apply VQ_ret1; exact rfl; exact rfl
    exact ⟨rfl, rfl⟩
end Go.Proofs.YtleldppdflgmgaaGreat

/- Walk: Prove. -/
namespace Go.Proofs.YtleldppdflgmgaaGreat
open Go.RowKit Go.Eng Go.Nw Go.Rt

theorem fold_min_mem : ∀ (l : List Int) (a : Int), l.foldl min a = a ∨ l.foldl min a ∈ l
  | [], _ => .inl rfl
  | x :: l, a => by
    rw [List.foldl_cons]
    rcases fold_min_mem l (min a x) with h | h
    · rw [h]
      rcases Int.le_total a x with h1 | h1
      · left; exact Int.min_eq_left h1
      · right; rw [Int.min_eq_right h1]; exact List.mem_cons_self
    · exact .inr (List.mem_cons_of_mem _ h)
theorem minL_mem {l : List Int} (h : 1 ≤ l.length) : minL l ∈ l := by
  cases l with
  | nil => simp at h
  | cons a m =>
    rcases fold_min_mem m a with h | h
    · rw [show minL (a :: m) = m.foldl min a from rfl, h]; exact List.mem_cons_self
    · exact List.mem_cons_of_mem _ h
theorem far_mem {far : List Int} {x : Int} (h : x ∈ far) : ∃ v : Int, 0 ≤ v ∧ v < far.length ∧ farAt far v = x := by
  obtain ⟨i, hi, rfl⟩ := List.mem_iff_getElem.1 h
  refine ⟨i, by omega, by omega, ?_⟩
  have := farAt_get (far := far) (i := (i : Int)) (by rw [Int.toNat_natCast]; exact hi)
  rw [Int.toNat_natCast, List.getElem?_eq_getElem hi] at this
  exact (Option.some.inj this).symm
def potIn (nodes : Nat) (far : List Int) : List Int := (List.range nodes).map fun v : Nat => farAt far (2 * (v : Int)) - minL far
def potOut (nodes : Nat) (far : List Int) : List Int := (List.range nodes).map fun v : Nat => farAt far (2 * (v : Int) + 1) - minL far
theorem pot_step (f : Nat → Int) (k : Nat) : (List.range (k + 1)).map f = (List.range k).map f ++ [f k] := by rw [List.range_succ, List.map_append]; rfl
def proveE (fuel : Nat) (n : Net) (s t : Int) : Option ((List Int × List Int) × Int) :=
  if endsE n s t ≠ 0 then some (([], []), endsE n s t) else
    match bothF fuel n.nodes.toNat (arcsE n) s s t (fun _ => false) with
    | none => none
    | some r => if r.2.1 = false then some (([], []), 17) else
      match relaxF fuel r.2.2 (List.replicate (2 * n.nodes.toNat) 0) (List.replicate (2 * n.nodes.toNat) (-1)) with
      | none => none
      | some fb => some ((potIn n.nodes.toNat fb.1, potOut n.nodes.toNat fb.1), 0)
structure Vz where
  k : Nat
  A1 : Option Addr
  c1 : Nat
  A2 : Option Addr
  c2 : Nat

theorem rep_num (k : Nat) (z : Int) : List.replicate k (Value.int .i64 z) = (List.replicate k z).flatMap numF := by
  induction k with
  | zero => rfl
  | succ k ih => rw [List.replicate_succ, List.replicate_succ, List.flatMap_cons, ih]; rfl

set_option maxRecDepth 10000 in
set_option maxHeartbeats 2000000 in
theorem prove_spec (n : NetM) (s to : Int) (fuel : Nat) (res : (List Int × List Int) × Int) (hfu : fuel ≤ 100000) (hrun : proveE fuel n.net s to = some res) {B : Nat} {w0 : World} {H : List HP} {w : World} (hin : n.In B w0 H) (hw : St B w0 H w) :
    Calls Tryz.prog 14 [n.val, .int .i64 s, .int .i64 to].toArray w (Post B w0 fun v K => ∃ A1 c1 A2 c2, v = .tuple #[.agg #[.slice A1 res.1.1.length c1, .slice A2 res.1.2.length c2], .int .i64 res.2] ∧ (res.1.1.length ≤ 40 ∧ res.1.2.length ≤ 40) ∧ K = ints A1 c1 res.1.1 :: ints A2 c2 res.1.2 :: H) := by
  refine Calls_of_VC Tryz.func14 Tryz.ntmps14 rfl rfl hw ?_
  (apply VC_seq; apply VC_region; apply VL_box_agg; exact rfl; exact rfl; intro g)
  unfold proveE at hrun
  by_cases he : endsE n.net s to = 0
  rotate_left
  · rw [if_pos he] at hrun
    obtain rfl := Option.some.inj hrun
    repeat' (first | ((first | apply VL_callt en20 | apply VL_callq en20); (repeat (first | exact args_nil | (apply args_cons; exact rfl))); exact rfl; exact fun _ hw => (ends_spec n s to hin.cons.cons hw)) | apply (zs1 ?_) | apply (zs2 ?_) | (apply zg3; refine zs8 ?_) | (apply zg8; (refine zs16 ?_ ?_ <;> intro _ <;> try (exfalso; omega))) | (apply zg22; refine zs51 ?_) | (apply zg24; (refine zs54 ?_; intro _)) | (apply zg25; refine zs55 ?_) | apply (zs65 ?_) | apply (zs68 ?_) | apply (zs69 ?_) | apply (zs70 ?_) | (apply zg27; refine zs71 ?_) | apply (zs74 ?_) | apply (zs77 ?_) | fail)
    refine VQ_retc2 T (H2 := ints none 0 [] :: ints none 0 [] :: H) rfl rfl rfl (by (focus repeat (first | with_reducible exact List.mem_cons_self | with_reducible apply List.mem_cons_of_mem | assumption))) rfl rfl (fun w hw => (hw.tail.tail.nilSlice _ _).nilSlice _ _) ?_
    exact ⟨none, 0, none, 0, rfl, ⟨by simp, by simp⟩, rfl⟩
  rw [if_neg (fun h => h he)] at hrun
  obtain ⟨hck, ⟨s0, s1⟩, ⟨t0, t1⟩, hst⟩ := ends_ok he
  have hen := fun {H : List HP} {w : World} (hin : n.In B w0 H) (hw : St B w0 H w) => ends_spec n s to hin hw
  rw [he] at hen
  have hok := check_ok hck
  have hn0 := hok.n0
  have hn1 := hok.n1
  obtain ⟨nodes, hnd⟩ : ∃ k, n.net.nodes.toNat = k := ⟨_, rfl⟩
  have hnn : n.nodes = (nodes : Int) := by have : n.net.nodes = n.nodes := rfl; omega
  have hnn1 : n.net.nodes = (nodes : Int) := by omega
  rw [hnd] at hrun
  have hal : (arcsE n.net).length ≤ 128 := Nat.le_trans (arcsTo_len _ _) hok.k0
  have hLo := arcs_ok hok (nodes := nodes) hnn1
  obtain ⟨L, hL⟩ : ∃ L, arcsE n.net = L := ⟨_, rfl⟩
  have hspecA := fun {H : List HP} {w : World} (hin : n.In B w0 H) (hw : St B w0 H w) => arcs_spec n hin hck hw
  rw [hL] at hal hLo hrun hspecA
  cases hbo : bothF fuel nodes L s s to (fun _ => false) with
  | none => rw [hbo] at hrun; cases hrun
  | some r0 =>
    rw [hbo] at hrun
    obtain ⟨total, ok, es0⟩ := r0
    dsimp only at hrun
    have hboth := fun {A : Option Addr} {cap : Nat} {H : List HP} {w : World} (hr : Rd B w0 H A (L.flatMap lkF)) (hw : St B w0 H w) => both_spec nodes L s s to none (fun _ => false) fuel (total, ok, es0) (capL := cap) (by omega) (by omega) hLo ⟨s0, by omega⟩ ⟨s0, by omega⟩ ⟨t0, by omega⟩ hfu hbo (fun _ => rfl) hr hw
    rw [← hnn] at hboth
    repeat' (first | ((first | apply VL_callt en20 | apply VL_callq en20); (repeat (first | exact args_nil | (apply args_cons; exact rfl))); exact rfl; exact fun _ hw => (hen hin.cons.cons hw)) | apply (zs1 ?_) | apply (zs2 ?_) | (apply zg3; refine zs8 ?_) | (apply zg8; (refine zs16 ?_ ?_ <;> intro _ <;> try (exfalso; omega))) | (apply zg24; (refine zs54 ?_; intro _)) | apply (zs65 ?_) | apply (zs68 ?_) | apply (zs69 ?_) | apply (zs70 ?_) | (apply zg27; refine zs72 ?_) | apply (zs76 ?_) | fail)
    rename_i g6 _
    apply VC_held [0, 1, 2, 4, 5, 6, 3, 7, 8, 9, 10, 11, 12, 13, 14] [] [true, true]
    kernel_rfl
    kernel_rfl
    (repeat (first | with_reducible exact split_nil | with_reducible apply split_t | with_reducible apply split_f))
    (simp only [pickOps, nthO]; rfl)
    exact rfl
    repeat' (first | apply (zs1 ?_) | (apply zg2; refine zs6 ?_) | (apply zg3; first | refine zs7 ?_ | refine zs8 ?_) | apply (zs87 ?_) | fail)
    apply VL_call _ en21
    (repeat (first | exact args_nil | (apply args_cons; exact rfl)))
    exact rfl
    exact fun _ hw => (hspecA hin.cons.cons (hw))
    rintro _ _ ⟨A, cap, rfl, rfl⟩
    repeat' (first | apply (zs65 ?_) | apply (zs87 ?_) | (apply VQ_heldq; (repeat (first | with_reducible exact pull_nil | (with_reducible apply pull_cons; (repeat (first | with_reducible exact rem_here | with_reducible apply rem_there)))))) | fail)
    apply VL_call _ en32
    (repeat (first | exact args_nil | (apply args_cons; exact rfl)))
    exact rfl
    exact fun _ hw => (hboth (.sl (by (focus repeat (first | with_reducible exact List.mem_cons_self | with_reducible apply List.mem_cons_of_mem | assumption)))) (hw))
    rintro _ _ ⟨g0, A0, cap0, rfl, ⟨b1, b2, b3, b4⟩, rfl⟩
    dsimp only at b1 b2 b3 b4 ⊢
    unfold gpcs
    cases ok with
    | false =>
      rw [if_pos rfl] at hrun
      obtain rfl := Option.some.inj hrun
      repeat' (first | apply (zs1 ?_) | apply (zs2 ?_) | apply (zs13 ?_) | (apply zg20; refine zs48 ?_) | (apply zg22; refine zs51 ?_) | (apply zg25; refine zs55 ?_) | apply (zs65 ?_) | (apply VL_nilh; (repeat (first | with_reducible exact app_nil | with_reducible apply app_cons))) | apply (zs68 ?_) | apply (zs69 ?_) | apply (zs70 ?_) | (apply zg27; refine zs71 ?_) | apply (zs74 ?_) | apply (zs77 ?_) | (apply VQ_heldq; (repeat (first | with_reducible exact pull_nil | (with_reducible apply pull_cons; (repeat (first | with_reducible exact rem_here | with_reducible apply rem_there)))))) | apply (zs93 ?_) | apply (zs94 ?_) | fail)
      refine VQ_retc2 T (H2 := ints none 0 [] :: ints none 0 [] :: H) rfl rfl rfl (by (focus repeat (first | with_reducible exact List.mem_cons_self | with_reducible apply List.mem_cons_of_mem | assumption))) rfl rfl ?_ ?_
      · intro w hw
        have h5 : St B w0 H w := by
          revert w
          (intro w hw; refine hw.perm ?_; focus repeat (first | with_reducible exact Perm.refl _ | (with_reducible apply perm_take; focus ((repeat (first | with_reducible exact rem_here | with_reducible apply rem_there)); done)) | with_reducible apply Perm.dropK))
        exact (h5.nilSlice _ _).nilSlice _ _
      exact ⟨none, 0, none, 0, rfl, ⟨by simp, by simp⟩, rfl⟩
    | true =>
      rw [if_neg (by decide)] at hrun
      cases hre : relaxF fuel es0 (List.replicate (2 * nodes) 0) (List.replicate (2 * nodes) (-1)) with
      | none => rw [hre] at hrun; cases hrun
      | some fb =>
        rw [hre] at hrun
        obtain rfl := Option.some.inj hrun
        obtain ⟨far, by_⟩ := fb
        dsimp only
        have hz2 : (2 * (nodes : Int)).toNat = 2 * nodes := by omega
        have hed : EdsOk (2 * nodes) es0 := EdsIn.ok b2 (by omega)
        have hrl0 : (List.replicate (2 * nodes) (0 : Int)).length = 2 * nodes := List.length_replicate
        have hro0 : RelOk (2 * nodes) (-2000000000) (List.replicate (2 * nodes) (0 : Int), List.replicate (2 * nodes) (-1), true) := by
          refine ⟨hrl0, List.length_replicate, fun v h0 h1 => ?_⟩
          have : farAt (List.replicate (2 * nodes) (0 : Int)) v = 0 := by
            unfold farAt
            rw [List.getD_eq_getElem?_getD, List.getElem?_replicate]
            split <;> rfl
          simp only
          rw [this]
          exact ⟨by decide, by decide⟩
        have hrel := fun {H : List HP} {AF : Option Addr} {w : World} (hw : St B w0 (gpcs g0 (2 * nodes) A0 cap0 es0 (ints AF (2 * nodes) (List.replicate (2 * nodes) (0 : Int)) :: H)) w) => relax_spec g0 (2 * nodes) es0 (List.replicate (2 * nodes) (0 : Int)) fuel (far, by_) (by omega) hed b1 hfu hro0 hre hw
        rw [hrl0] at hrel
        repeat' (first | (apply VL_make1 T (z := .int .i64 0); exact rfl; exact rfl; exact rfl; exact zi3; exact rfl; exact rfl; exact rfl; omega; intro gz) | apply (zs1 ?_) | apply (zs2 ?_) | apply (zs5 ?_) | (apply zg2; refine zs6 ?_) | (apply zg3; refine zs7 ?_) | apply (zs13 ?_) | (apply zg20; refine zs47 ?_) | apply (zs65 ?_) | (apply VL_nilh; (repeat (first | with_reducible exact app_nil | with_reducible apply app_cons))) | apply (zs68 ?_) | apply (zs69 ?_) | apply (zs70 ?_) | (apply zg27; refine zs72 ?_) | apply (zs76 ?_) | (apply VQ_heldq; (repeat (first | with_reducible exact pull_nil | (with_reducible apply pull_cons; (repeat (first | with_reducible exact rem_here | with_reducible apply rem_there)))))) | apply (zs93 ?_) | apply (zs94 ?_) | fail)
        rw [Int.toNat_natCast, rep_num]
        apply VL_st (gpcs g0 (2 * nodes) A0 cap0 es0 (ints (some ⟨gz, 0, none⟩) (2 * nodes) (List.replicate (2 * nodes) (0 : Int)) :: blk g6 (.cells (Value.agg #[.slice none 0 0, .slice none 0 0]).cells 45 (0, 0)) :: netB g n :: H))
        · unfold gpcs ints
          rw [hrl0]
          (intro w hw; refine hw.perm ?_; focus repeat (first | with_reducible exact Perm.refl _ | (with_reducible apply perm_take; focus ((repeat (first | with_reducible exact rem_here | with_reducible apply rem_there)); done)) | with_reducible apply Perm.dropK))
        apply VL_call _ en33
        (repeat (first | exact args_nil | (apply args_cons; exact rfl)))
        exact rfl
        exact fun _ hw => (hrel (hw))
        rintro _ _ ⟨gb, rfl, hro, rfl⟩
        dsimp only at hro ⊢
        obtain ⟨l1, l2, hlow⟩ := hro
        simp only at l1 l2 hlow
        have hmin := minL_mem (l := far) (by omega)
        obtain ⟨u, u0, u1, hu⟩ := far_mem hmin
        have hub := hlow u u0 (by omega)
        rw [hu] at hub
        have hnoc : noneC = 1073741824 := rfl
        rw [hnoc] at hub
        apply VL_st (ints (some ⟨gz, 0, none⟩) (2 * nodes) far :: blk g6 (.cells (Value.agg #[.slice none 0 0, .slice none 0 0]).cells 45 (0, 0)) :: netB g n :: H)
        · unfold gpcs
          (intro w hw; refine hw.perm ?_; focus repeat (first | with_reducible exact Perm.refl _ | (with_reducible apply perm_take; focus ((repeat (first | with_reducible exact rem_here | with_reducible apply rem_there)); done)) | with_reducible apply Perm.dropK))
        obtain ⟨least, hle⟩ : ∃ x, minL far = x := ⟨_, rfl⟩
        have hmn := fun {A : Option Addr} {cap : Nat} {H : List HP} {w : World} (hr : Rd B w0 H A (far.flatMap numF)) (hw : St B w0 H w) => min_spec far (cap := cap) (by omega) hr hw
        rw [hle] at hmn hub
        repeat' (first | apply (zs1 ?_) | apply (zs2 ?_) | apply (zs13 ?_) | apply (zs65 ?_) | apply (zs68 ?_) | apply (zs69 ?_) | apply (zs70 ?_) | fail)
        first | apply VL_callt en34 | apply VL_callq en34
        (repeat (first | exact args_nil | (apply args_cons; exact rfl)))
        exact rfl
        exact fun _ hw => (hmn (.sl (by (focus repeat (first | with_reducible exact List.mem_cons_self | with_reducible apply List.mem_cons_of_mem | assumption)))) hw)
        repeat' (first | apply (zs1 ?_) | apply (zs2 ?_) | (apply zg2; refine zs6 ?_) | (apply zg3; refine zs7 ?_) | (apply zg24; (refine zs54 ?_; intro _)) | apply (zs65 ?_) | apply (zs68 ?_) | apply (zs69 ?_) | apply (zs70 ?_) | apply (zs73 ?_) | fail)
        rename_i gp
        refine VC_loop1 (fun (z : Vz) => [(54, .int .i64 z.k), (53, .int .i64 n.nodes), (15, .pointer (some ⟨gp, 0, none⟩)), (14, .int .i64 least), (12, .slice (some ⟨gz, 0, none⟩) far.length (2 * nodes)), (6, .pointer (some ⟨g6, 0, none⟩))]) (fun z => blk gp (.cells #[.slice z.A1 ((potIn nodes far).take z.k).length z.c1, .slice z.A2 ((potOut nodes far).take z.k).length z.c2] 45 (0, 0)) :: ints (some ⟨gz, 0, none⟩) (2 * nodes) far :: ints z.A1 z.c1 ((potIn nodes far).take z.k) :: ints z.A2 z.c2 ((potOut nodes far).take z.k) :: blk g6 (.cells (Value.agg #[.slice none 0 0, .slice none 0 0]).cells 45 (0, 0)) :: H) (fun z => z.k ≤ nodes) (fun z => nodes - z.k) ⟨0, none, 0, none, 0⟩ (Nat.zero_le _) ?_ ?_ ?_
        · (repeat (first | exact sub_nil _ | (apply sub_cons; first | exact rfl | exact congrArg (fun z : Int => some (Value.int .i64 z)) (by omega))))
        · intro w hw
          have h5 : St B w0 (ints (some ⟨gz, 0, none⟩) (2 * nodes) far :: blk g6 (.cells (Value.agg #[.slice none 0 0, .slice none 0 0]).cells 45 (0, 0)) :: blk gp (.cells (Value.agg #[.slice none 0 0, .slice none 0 0]).cells 45 (0, 0)) :: H) w := by
            revert w
            (intro w hw; refine hw.perm ?_; focus repeat (first | with_reducible exact Perm.refl _ | (with_reducible apply perm_take; focus ((repeat (first | with_reducible exact rem_here | with_reducible apply rem_there)); done)) | with_reducible apply Perm.dropK))
          have h7 : St B w0 (ints (some ⟨gz, 0, none⟩) (2 * nodes) far :: blk g6 (.cells (Value.agg #[.slice none 0 0, .slice none 0 0]).cells 45 (0, 0)) :: blk gp (.cells #[.slice none 0 0, .slice none 0 0] 45 (0, 0)) :: H) w := h5
          have h6 := (h7.nilSlice 3 1).nilSlice 3 1
          revert h6
          clear h5 h7 hw
          revert w
          dsimp only
          rw [List.take_zero, List.take_zero]
          show ∀ w, St B w0 (ints none 0 [] :: ints none 0 [] :: ints (some ⟨gz, 0, none⟩) (2 * nodes) far :: blk g6 (.cells (Value.agg #[.slice none 0 0, .slice none 0 0]).cells 45 (0, 0)) :: blk gp (.cells #[.slice none 0 0, .slice none 0 0] 45 (0, 0)) :: H) w → St B w0 (blk gp (.cells #[.slice none 0 0, .slice none 0 0] 45 (0, 0)) :: ints (some ⟨gz, 0, none⟩) (2 * nodes) far :: ints none 0 [] :: ints none 0 [] :: blk g6 (.cells (Value.agg #[.slice none 0 0, .slice none 0 0]).cells 45 (0, 0)) :: H) w
          (intro w hw; refine hw.perm ?_; focus repeat (first | with_reducible exact Perm.refl _ | (with_reducible apply perm_take; focus ((repeat (first | with_reducible exact rem_here | with_reducible apply rem_there)); done)) | with_reducible apply Perm.dropK))
        rintro ⟨k, A1, c1, A2, c2⟩ hk K hK
        simp only at hk ⊢
        have hpi : (potIn nodes far).length = nodes := by unfold potIn; rw [List.length_map, List.length_range]
        have hpo : (potOut nodes far).length = nodes := by unfold potOut; rw [List.length_map, List.length_range]
        by_cases hlt : k < nodes
        · have hgi : (potIn nodes far)[k]? = some (farAt far (2 * (k : Int)) - least) := by
            unfold potIn; rw [List.getElem?_map, List.getElem?_range hlt, hle]; rfl
          have hgo : (potOut nodes far)[k]? = some (farAt far (2 * (k : Int) + 1) - least) := by
            unfold potOut; rw [List.getElem?_map, List.getElem?_range hlt, hle]; rfl
          have hti : (potIn nodes far).take (k + 1) = (potIn nodes far).take k ++ [farAt far (2 * (k : Int)) - least] := by rw [List.take_add_one, hgi]; rfl
          have hto : (potOut nodes far).take (k + 1) = (potOut nodes far).take k ++ [farAt far (2 * (k : Int) + 1) - least] := by rw [List.take_add_one, hgo]; rfl
          have hli : ((potIn nodes far).take k).length = k := by rw [List.length_take]; omega
          have hlo2 : ((potOut nodes far).take k).length = k := by rw [List.length_take]; omega
          obtain ⟨PI, hPI⟩ : ∃ x, (potIn nodes far).take k = x := ⟨_, rfl⟩
          obtain ⟨PO, hPO⟩ : ∃ x, (potOut nodes far).take k = x := ⟨_, rfl⟩
          rw [hPI] at hti hli ⊢
          rw [hPO] at hto hlo2 ⊢
          have hg1 := farAt_get (far := far) (i := 2 * (k : Int)) (by omega)
          have hg2 := farAt_get (far := far) (i := 2 * (k : Int) + 1) (by omega)
          have hb1 := hlow (2 * (k : Int)) (by omega) (by omega)
          have hb2 := hlow (2 * (k : Int) + 1) (by omega) (by omega)
          rw [hnoc] at hb1 hb2
          obtain ⟨x1, hx1⟩ : ∃ x, farAt far (2 * (k : Int)) = x := ⟨_, rfl⟩
          obtain ⟨x2, hx2⟩ : ∃ x, farAt far (2 * (k : Int) + 1) = x := ⟨_, rfl⟩
          rw [hx1] at hg1 hb1 hti
          rw [hx2] at hg2 hb2 hto
          repeat' (first | apply (zs1 ?_) | apply (zs2 ?_) | (apply (zs17 ?_ ?_) <;> intro _ <;> try (exfalso; omega)) | apply (zs65 ?_) | apply (zs68 ?_) | apply (zs69 ?_) | apply (zs70 ?_) | (apply zg27; refine zs71 ?_) | apply (zs73 ?_) | apply (zs76 ?_) | fail)
          apply VC_treeU (.n1 0 (.n1 1 (.n1 2 (.n1 3 (.n1 4 (.n1 5 (.n1 6 (.n1 7 (.n1 8 (.n1 11 (.n1 12 (.n1 13 (.n1 14 (.n1 15 (.n1 16 (.n1 17 (.n1 18 (.n1 19 (.n1 20 (.n2 9 (.n2 10 (.n1 23 (.n1 21 (.n1 22 .done))) 21 (.n1 10 (.n1 23 (.n1 22 .done)))) 21 (.n1 9 (.n1 10 (.n1 23 (.n1 22 .done)))))))))))))))))))))))) [24, 25, 26] [true, true]
          kernel_rfl
          kernel_rfl
          (repeat (first | with_reducible exact split_nil | with_reducible apply split_t | with_reducible apply split_f))
          (simp only [pickOps, nthO]; rfl)
          repeat' (first | (apply VU_n2; (simp only [nthO]; rfl); (simp only [nthO]; rfl)) | (apply VU_n1; (simp only [nthO]; rfl)) | (apply VQ_treeu; (repeat (first | with_reducible exact pull_nil | (with_reducible apply pull_cons; (repeat (first | with_reducible exact rem_here | with_reducible apply rem_there)))))) | (apply VU_done; (repeat (first | with_reducible exact app_nil | with_reducible apply app_cons))) | apply (zs1 ?_) | (apply zg2; refine zs6 ?_) | (apply zg3; first | refine zs7 ?_ | refine zs60 ?_) | (apply zg5; refine zs10 ?_) | (apply zg13; refine zs30 ?_) | (apply zg14; refine zs31 ?_) | (apply zg15; refine zs32 ?_) | (apply zg21; (refine zs49 ?_; intro _ _)) | (apply zg22; refine zs50 ?_) | (apply zg26; (refine zs56 ?_; intro _)) | apply (zs65 ?_) | (apply VL_nilh; (repeat (first | with_reducible exact app_nil | with_reducible apply app_cons))) | apply (zs68 ?_) | apply (zs70 ?_) | apply (zs79 ?_) | apply (zs87 ?_) | (apply VQ_heldq; (repeat (first | with_reducible exact pull_nil | (with_reducible apply pull_cons; (repeat (first | with_reducible exact rem_here | with_reducible apply rem_there)))))) | apply (zs93 ?_) | apply (zs94 ?_) | fail)
          · rename_i _ Ai ci _ Ao co
            apply hK ⟨k + 1, Ai, ci, Ao, co⟩
            · simp only; omega
            · simp only; omega
            · (repeat (first | exact sub_nil _ | (apply sub_cons; first | exact rfl | exact congrArg (fun z : Int => some (Value.int .i64 z)) (by omega))))
            · dsimp only
              rw [hti, hto, ← ints_one, ← ints_one, List.length_append, List.length_append, List.length_singleton, List.length_singleton]
              (intro w hw; refine hw.perm ?_; focus repeat (first | with_reducible exact Perm.refl _ | (with_reducible apply perm_take; focus ((repeat (first | with_reducible exact rem_here | with_reducible apply rem_there)); done)) | with_reducible apply Perm.dropK))
          · rename_i _ _ Ai ci Ao co
            apply hK ⟨k + 1, Ai, ci, Ao, co⟩
            · simp only; omega
            · simp only; omega
            · (repeat (first | exact sub_nil _ | (apply sub_cons; first | exact rfl | exact congrArg (fun z : Int => some (Value.int .i64 z)) (by omega))))
            · dsimp only
              rw [hti, hto, ← ints_one, ← ints_one, List.length_append, List.length_append, List.length_singleton, List.length_singleton]
              (intro w hw; refine hw.perm ?_; focus repeat (first | with_reducible exact Perm.refl _ | (with_reducible apply perm_take; focus ((repeat (first | with_reducible exact rem_here | with_reducible apply rem_there)); done)) | with_reducible apply Perm.dropK))
          · rename_i _ _ Ai ci Ao co
            apply hK ⟨k + 1, Ai, ci, Ao, co⟩
            · simp only; omega
            · simp only; omega
            · (repeat (first | exact sub_nil _ | (apply sub_cons; first | exact rfl | exact congrArg (fun z : Int => some (Value.int .i64 z)) (by omega))))
            · dsimp only
              rw [hti, hto, ← ints_one, ← ints_one, List.length_append, List.length_append, List.length_singleton, List.length_singleton]
              (intro w hw; refine hw.perm ?_; focus repeat (first | with_reducible exact Perm.refl _ | (with_reducible apply perm_take; focus ((repeat (first | with_reducible exact rem_here | with_reducible apply rem_there)); done)) | with_reducible apply Perm.dropK))
        · obtain rfl : k = nodes := by omega
          clear hK
          rw [List.take_of_length_le (by omega), List.take_of_length_le (by omega)]
          repeat' (first | apply (zs2 ?_) | (apply zg3; refine zs8 ?_) | (apply (zs17 ?_ ?_) <;> intro _ <;> try (exfalso; omega)) | (apply zg22; refine zs51 ?_) | apply (zs65 ?_) | apply (zs68 ?_) | apply (zs69 ?_) | apply (zs70 ?_) | (apply zg27; refine zs72 ?_) | apply (zs74 ?_) | apply (zs75 ?_) | apply (zs80 ?_) | apply (zs81 ?_) | fail)
          refine VQ_retc2 T (H2 := ints A1 c1 (potIn k far) :: ints A2 c2 (potOut k far) :: H) rfl rfl rfl (by (focus repeat (first | with_reducible exact List.mem_cons_self | with_reducible apply List.mem_cons_of_mem | assumption))) rfl rfl (by (intro w hw; refine hw.perm ?_; focus repeat (first | with_reducible exact Perm.refl _ | (with_reducible apply perm_take; focus ((repeat (first | with_reducible exact rem_here | with_reducible apply rem_there)); done)) | with_reducible apply Perm.dropK))) ?_
          exact ⟨A1, c1, A2, c2, rfl, ⟨by omega, by omega⟩, rfl⟩
end Go.Proofs.YtleldppdflgmgaaGreat

/- An engine for walks, part 22: append of so many zeros to nothing; cap. -/
namespace Go.Eng
open Go.RowKit
section
variable {P : Program} {m : Mode} {n B : Nat} {w0 : World} {ops : Array Oper} {Q : Exit → Act → World → Prop} {rest : List Oper} {env : Env} {H : List HP} {d : Nat} {ty : TypeId} {pos : String} {after : Array Edge} {x y u : Operand}
def isIntT (P : Program) (t : TypeId) : Bool := match P.underlying t with | some (.int _) => true | _ => false
theorem isIntT_spec {t : TypeId} (h : isIntT P t = true) : ∃ k, P.underlying t = some (.int k) := by
  unfold isIntT at h
  split at h
  · rename_i k hk; exact ⟨k, hk⟩
  · cases h
/-- append(nil, make(.., k)...): a row of one's own, of which nothing is looked at. -/
theorem VL_appendZ (T : Tab P) {t tn e bytes k : Nat} (hx : evo env x = some (.slice none 0 0)) (hy : evo env y = some (.int .i64 (k : Int))) (ht : look T.sl t = some (e, 1, bytes)) (htn : isIntT P tn = true) (hn : Nat.ble (d + 1) n = true) (hb : Nat.ble bytes 1000 = true) (hk : 0 < k ∧ k ≤ 1000000)
    (h : ∀ g c, k ≤ c → VL P none n B w0 ops Q rest ((d, .slice (some ⟨g, 0, none⟩) k c) :: env) (sl e 1 (some ⟨g, 0, none⟩) 0 c [] :: H)) : VL P none n B w0 ops Q (⟨some d, .call ⟨.builtin .append, #[x, y], #[t, tn]⟩, ty, pos, after, none⟩ :: rest) env H := by
  obtain ⟨hu, i, z, hi, hz, hzs, hsi, hbi, _, _⟩ := sliceT_spec (T.slic ht)
  obtain ⟨kn, hkn⟩ := isIntT_spec htn
  have hb' := Nat.le_of_ble_eq_true hb
  refine VL_opE (fun v K => ∃ g c, v = .slice (some ⟨g, 0, none⟩) k c ∧ K = sl e 1 (some ⟨g, 0, none⟩) 0 c [] :: H ∧ k ≤ c) rfl rfl hn (fun a w ha hw => ?_) (by rintro _ _ ⟨g, c, rfl, rfl, hc⟩; exact h g c hc)
  have hbytes : k * i.bytes ≤ 281474976710656 := by
    have : k * i.bytes ≤ k * 1000 := Nat.mul_le_mul_left _ (by omega)
    omega
  have hrun := Lib.run_append_nil_zeros (P := P) w t tn ty e i z .i64 kn hu hkn hi hz k hk.1 (by omega) (by omega) hbytes
  have hge := grownCap_ge w k 0 e
  have hcm : grownCap w k 0 e ≤ maxLen := grownCap_le_maxLen w k 0 e (by simp only [maxLen]; omega)
  refine ⟨_, _, _, by simp only [execOp, resolve, invoke, builtin, ha.eval hx, ha.eval hy, List.map_toArray, List.map_cons, List.map_nil, Sem.run_bind, Sem.run_pure, hrun, Result.andThen_ok]; rfl, ?_, w.heap.size, grownCap w k 0 e, rfl, rfl, hge⟩
  have h2 := hw.drew.alloc (.cells (Builtin.zeroCells z.cells k ++ Builtin.zeroCells z.cells (grownCap w k 0 e - k)) e)
  refine h2.upd (Upd.here _) rfl rfl rfl (Nat.le_refl _) fun S1 ⟨h3, h4⟩ => ⟨⟨⟨by simp, .inr ⟨w.heap.size, grownCap w k 0 e, _, rfl, Nat.zero_le _, h4, Nat.zero_le _, hcm, ?_, by simp⟩⟩, fun a ha => by cases ha; exact h3⟩, fun _ _ _ => rfl⟩
  rw [Array.size_append, size_zeroCells, size_zeroCells, hzs]
  omega
theorem VL_capv (T : Tab P) {tx k c : Nat} {A : Option Addr} {es : Nat × Nat × Nat} (hx : evo env x = some (.slice A k c)) (ht : look T.sl tx = some es) (hn : Nat.ble (d + 1) n = true) (h : VL P m n B w0 ops Q rest ((d, .int .i64 c) :: env) H) :
    VL P m n B w0 ops Q (⟨some d, .call ⟨.builtin .cap, #[x], #[tx]⟩, ty, pos, after, none⟩ :: rest) env H := by
  obtain ⟨e, size, bytes⟩ := es
  obtain ⟨hu, _⟩ := sliceT_spec (T.slic ht)
  exact VL_pure rfl rfl hn rfl (fun a w ha _ => by simp [execOp, resolve, invoke, builtin, ha.eval hx, Builtin.cap_, run_underlying hu]; rfl) h
end
end Go.Eng

/- Walks: slices.Concat of two lists of numbers; Bound. -/
namespace Go.Proofs.YtleldppdflgmgaaGreat
open Go.RowKit Go.Eng Go.Nw Go.Rt

theorem grow_spec (k : Nat) (hk : k ≤ 1000000) {B : Nat} {w0 : World} {H : List HP} {w : World} (hw : St B w0 H w) :
    Calls Tryz.prog 58 [.slice none 0 0, .int .i64 k].toArray w (Post B w0 fun v K => ∃ A c, v = .slice A 0 c ∧ K = sl 3 1 A 0 c [] :: H) := by
  refine Calls_of_VC Tryz.func58 Tryz.ntmps58 rfl rfl hw ?_
  by_cases h0 : k = 0
  · subst h0
    repeat' (first | (apply VL_capv T; exact rfl; exact rfl; exact rfl) | apply (zs1 ?_) | apply (zs2 ?_) | (apply zg4; refine zs9 ?_) | (apply (zs17 ?_ ?_) <;> intro _ <;> try (exfalso; omega)) | (apply (zs19 ?_ ?_) <;> intro _ <;> try (exfalso; omega)) | (apply zg14; refine zs31 ?_) | apply (zs65 ?_) | apply (zs68 ?_) | apply (zs69 ?_) | apply (zs70 ?_) | (apply zg27; refine zs72 ?_) | apply (zs74 ?_) | apply (zs76 ?_) | fail)
    apply VQ_nilSlice 3 1
    apply VQ_ret1; exact rfl; exact rfl
    exact ⟨none, 0, rfl, rfl⟩
  · skip
    repeat' (first | (apply VL_capv T; exact rfl; exact rfl; exact rfl) | apply (zs1 ?_) | apply (zs2 ?_) | (apply zg4; refine zs9 ?_) | (apply (zs17 ?_ ?_) <;> intro _ <;> try (exfalso; omega)) | (apply (zs19 ?_ ?_) <;> intro _ <;> try (exfalso; omega)) | (apply zg14; refine zs31 ?_) | apply (zs65 ?_) | apply (zs68 ?_) | apply (zs69 ?_) | apply (zs70 ?_) | (apply zg27; first | refine zs71 ?_ | refine zs72 ?_) | apply (zs76 ?_) | fail)
    apply VL_slice_hi_rd T (l := ([] : List Int)) (n' := 0); exact rfl; exact rfl; exact rfl; exact rfl; exact ⟨Int.le_refl _, Int.le_refl _⟩; exact Nat.le_refl _; rfl
    rw [subA_nil, show ((k : Int) - ((0 : Nat) - (0 : Nat)) : Int) = (k : Int) by omega]
    iterate 1 (first | apply (zs1 ?_) | fail)
    apply VL_appendZ T (k := k); exact rfl; exact rfl; exact rfl; kernel_rfl; exact rfl; exact rfl; omega; intro g c hc
    repeat' (first | (apply VL_slice_hi_rd T (l := List.replicate k (0 : Int)) (n' := 0); (rw [List.length_replicate]; exact rfl); exact rfl; exact rfl; exact rfl; omega; (rw [List.length_replicate]; exact hc); omega) | apply (zs1 ?_) | apply (zs2 ?_) | (apply zg4; refine zs9 ?_) | apply (zs65 ?_) | apply (zs68 ?_) | apply (zs69 ?_) | apply (zs70 ?_) | apply (zs74 ?_) | fail)
    rw [subA_nil]
    repeat' (first | fail)
    apply VQ_ret1; exact rfl; exact rfl
    exact ⟨some ⟨g, 0, none⟩, c, rfl, rfl⟩

def catR (rs : List RowM) : List Int := rs.flatMap fun r => r.xs
theorem catR_snoc (rs : List RowM) (r : RowM) : catR (rs ++ [r]) = catR rs ++ r.xs := by simp [catR, List.flatMap_append]
theorem catR_le (rs : List RowM) (k : Nat) : (catR (rs.take k)).length ≤ (catR rs).length := by
  have e : catR rs = catR (rs.take k) ++ catR (rs.drop k) := by unfold catR; rw [← List.flatMap_append, List.take_append_drop]
  rw [e, List.length_append]; omega
structure Cz where
  k : Nat
  A : Option Addr
  cap : Nat
theorem concat_spec (rs : List RowM) (hrs : rs.length ≤ 1000) (hct : (catR rs).length ≤ 1000000) {A : Option Addr} {cap B : Nat} {w0 : World} {H : List HP} {w : World} (hr : Rd B w0 H A (rs.flatMap rowF)) (hrr : ∀ r ∈ rs, Rd B w0 H r.A (r.xs.flatMap numF)) (hw : St B w0 H w) :
    Calls Tryz.prog 30 [.slice A rs.length cap].toArray w (Post B w0 fun v K => ∃ A' c, v = .slice A' (catR rs).length c ∧ K = ints A' c (catR rs) :: H) := by
  refine Calls_of_VC Tryz.func30 Tryz.ntmps30 rfl rfl hw ?_
  repeat' (first | apply (zs1 ?_) | apply (zs2 ?_) | (apply zg4; refine zs9 ?_) | apply (zs65 ?_) | apply (zs68 ?_) | apply (zs69 ?_) | apply (zs70 ?_) | apply (zs73 ?_) | fail)
  refine VC_loop1 (fun (k : Nat) => [(11, .int .i64 k), (10, .int .i64 rs.length), (9, .slice A rs.length cap), (3, .int .i64 (catR (rs.take k)).length), (0, .slice A rs.length cap)]) (fun _ => H) (fun k => k ≤ rs.length) (fun k => rs.length - k) 0 (Nat.zero_le _) ?_ (fun w hw => hw) ?_
  · (repeat (first | exact sub_nil _ | (apply sub_cons; first | exact rfl | exact congrArg (fun z : Int => some (Value.int .i64 z)) (by omega))))
  intro k hk K hK
  by_cases hlt : k < rs.length
  · obtain ⟨r, hx⟩ : ∃ x, rs[k]? = some x := ⟨_, List.getElem?_eq_getElem hlt⟩
    have hst : catR (rs.take (k + 1)) = catR (rs.take k) ++ r.xs := by rw [List.take_add_one, hx]; exact catR_snoc _ _
    have h1 := catR_le rs (k + 1)
    rw [hst, List.length_append] at h1
    repeat' (first | apply (zs1 ?_) | apply (zs2 ?_) | (apply zg3; refine zs60 ?_) | (apply zg4; refine zs9 ?_) | (apply zg5; refine zs57 ?_) | (apply (zs17 ?_ ?_) <;> intro _ <;> try (exfalso; omega)) | (apply zg13; refine zs30 ?_) | apply (zs65 ?_) | apply (zs68 ?_) | apply (zs69 ?_) | apply (zs70 ?_) | (apply zg27; first | refine zs71 ?_ | refine zs72 ?_) | apply (zs73 ?_) | apply (zs76 ?_) | apply (zs79 ?_) | fail)
    apply hK (k + 1)
    · omega
    · omega
    · rw [hst, List.length_append, Int.natCast_add]; (repeat (first | exact sub_nil _ | (apply sub_cons; first | exact rfl | exact congrArg (fun z : Int => some (Value.int .i64 z)) (by omega))))
    · exact fun w hw => hw
  · obtain rfl : k = rs.length := by omega
    clear hK
    rw [List.take_length]
    repeat' (first | apply (zs1 ?_) | (apply (zs17 ?_ ?_) <;> intro _ <;> try (exfalso; omega)) | apply (zs65 ?_) | apply (zs68 ?_) | apply (zs69 ?_) | apply (zs70 ?_) | (apply zg27; refine zs72 ?_) | apply (zs75 ?_) | apply (zs80 ?_) | apply (zs81 ?_) | fail)
    apply VL_call _ en58
    (repeat (first | exact args_nil | (apply args_cons; exact rfl)))
    exact rfl
    exact fun _ hw => (grow_spec (catR rs).length (by omega) (hw))
    rintro _ _ ⟨A0, c0, rfl, rfl⟩
    repeat' (first | apply (zs1 ?_) | apply (zs2 ?_) | (apply zg4; refine zs9 ?_) | apply (zs65 ?_) | apply (zs68 ?_) | apply (zs69 ?_) | apply (zs70 ?_) | apply (zs73 ?_) | fail)
    refine VC_loop1 (fun (z : Cz) => [(27, .int .i64 z.k), (26, .int .i64 rs.length), (25, .slice A rs.length cap), (6, .slice z.A (catR (rs.take z.k)).length z.cap)]) (fun z => ints z.A z.cap (catR (rs.take z.k)) :: H) (fun z => z.k ≤ rs.length) (fun z => rs.length - z.k) ⟨0, A0, c0⟩ (Nat.zero_le _) ?_ (fun w hw => hw) ?_
    · (repeat (first | exact sub_nil _ | (apply sub_cons; first | exact rfl | exact congrArg (fun z : Int => some (Value.int .i64 z)) (by omega))))
    rintro ⟨k, A1, c1⟩ hk K hK
    simp only at hk ⊢
    by_cases hlt : k < rs.length
    · obtain ⟨r, hx⟩ : ∃ x, rs[k]? = some x := ⟨_, List.getElem?_eq_getElem hlt⟩
      have hst : catR (rs.take (k + 1)) = catR (rs.take k) ++ r.xs := by rw [List.take_add_one, hx]; exact catR_snoc _ _
      have h1 := catR_le rs (k + 1)
      rw [hst, List.length_append] at h1
      have hrx := hrr r (List.mem_of_getElem? hx)
      obtain ⟨C, hC⟩ : ∃ C, catR (rs.take k) = C := ⟨_, rfl⟩
      rw [hC] at hst h1 ⊢
      repeat' (first | apply (zs1 ?_) | apply (zs2 ?_) | (apply zg3; refine zs60 ?_) | (apply zg5; refine zs57 ?_) | (apply (zs17 ?_ ?_) <;> intro _ <;> try (exfalso; omega)) | apply (zs65 ?_) | apply (zs68 ?_) | apply (zs69 ?_) | apply (zs70 ?_) | (apply zg27; refine zs71 ?_) | apply (zs73 ?_) | apply (zs76 ?_) | fail)
      apply VL_append_rd T (f := numF) (l2 := r.xs) (e := 3) (size := 1) (xs := C.flatMap numF); exact rfl; exact rfl; exact rfl; exact hrx.cons; exact (fun _ => rfl); exact (fun _ => rfl); exact rfl; (intro _ _; (repeat (first | with_reducible exact Upd.here _ | with_reducible apply Upd.there))); omega; intro A' cap'
      repeat' (first | apply (zs1 ?_) | apply (zs2 ?_) | (apply zg13; refine zs30 ?_) | apply (zs65 ?_) | apply (zs68 ?_) | apply (zs70 ?_) | apply (zs79 ?_) | fail)
      apply hK ⟨k + 1, A', cap'⟩
      · simp only; omega
      · simp only; omega
      · dsimp only
        rw [hst, List.length_append]; (repeat (first | exact sub_nil _ | (apply sub_cons; first | exact rfl | exact congrArg (fun z : Int => some (Value.int .i64 z)) (by omega))))
      · dsimp only
        unfold ints
        rw [hst, List.length_append, List.flatMap_append]
        exact fun w hw => hw
    · obtain rfl : k = rs.length := by omega
      clear hK
      rw [List.take_length]
      repeat' (first | apply (zs1 ?_) | apply (zs2 ?_) | (apply (zs17 ?_ ?_) <;> intro _ <;> try (exfalso; omega)) | apply (zs65 ?_) | apply (zs68 ?_) | apply (zs69 ?_) | apply (zs70 ?_) | (apply zg27; refine zs72 ?_) | apply (zs74 ?_) | apply (zs75 ?_) | apply (zs80 ?_) | apply (zs81 ?_) | fail)
      apply VQ_ret1; exact rfl; exact rfl
      exact ⟨A1, c1, rfl, rfl⟩
end Go.Proofs.YtleldppdflgmgaaGreat

/- Routes, plain: distances in a graph with rooms come to an end, and what they are then. -/
namespace Go.Rt
open Go.Nw

/-! ### Sums over a list of numbers -/
def sumW (w : Int → Nat) (far : List Int) : Nat := (far.map w).sum
theorem sumW_set {w : Int → Nat} {x : Int} : ∀ {far : List Int} {i : Nat}, i < far.length → sumW w (far.set i x) + w (far.getD i 0) = sumW w far + w x
  | [], _, h => by simp at h
  | a :: l, 0, _ => by
    simp only [sumW, List.set_cons_zero, List.map_cons, List.sum_cons, List.getD_cons_zero]; omega
  | a :: l, i + 1, h => by
    have := sumW_set (w := w) (x := x) (far := l) (i := i) (by simpa using h)
    simp only [sumW, List.set_cons_succ, List.map_cons, List.sum_cons, List.getD_cons_succ] at this ⊢
    omega
theorem sumW_le {w : Int → Nat} {K : Nat} (h : ∀ x, w x ≤ K) : ∀ far : List Int, sumW w far ≤ far.length * K
  | [] => by simp [sumW]
  | a :: l => by
    have h1 := sumW_le h l
    have h2 := h a
    have e : (a :: l).length * K = l.length * K + K := by rw [List.length_cons, Nat.add_mul, Nat.one_mul]
    rw [e]
    simp only [sumW, List.map_cons, List.sum_cons] at h1 ⊢
    omega
def fin1 (x : Int) : Nat := if x < noneC then 1 else 0
def cnt (far : List Int) : Nat := sumW fin1 far
theorem cnt_le (far : List Int) : cnt far ≤ far.length := by
  have := sumW_le (w := fin1) (K := 1) (fun x => by unfold fin1; split <;> omega) far
  unfold cnt; omega
theorem noneC_eq : noneC = 1073741824 := rfl

/-- Edges of a graph with so many sides, with small costs. -/
def Ed8 (sides : Nat) (es : List Ed) : Prop := ∀ e ∈ es, (0 ≤ e.f ∧ e.f < sides) ∧ (0 ≤ e.t ∧ e.t < sides) ∧ (-8 ≤ e.c ∧ e.c ≤ 8)
/-- Numbers that no edge makes less. -/
def PotE (es : List Ed) (π : Int → Int) : Prop := ∀ e ∈ es, 0 < e.r → π e.t ≤ π e.f + e.c
def Imp (e : Ed) (far : List Int) : Prop := 0 < e.r ∧ farAt far e.f < noneC ∧ farAt far e.f + e.c < farAt far e.t

structure RelG (sides : Nat) (lo : Int → Int) (st : RelSt) : Prop where
  l1 : st.1.length = sides
  l2 : st.2.1.length = sides
  lo_ : ∀ v : Int, 0 ≤ v → v < sides → lo v ≤ farAt st.1 v
  hi : ∀ v : Int, 0 ≤ v → v < sides → farAt st.1 v < noneC → farAt st.1 v ≤ 8 * (cnt st.1 : Int)
  top : ∀ v : Int, 0 ≤ v → v < sides → farAt st.1 v ≤ noneC
def clipW (sides : Nat) (L x : Int) : Nat := (min x (8 * (sides : Int) + 1) - L).toNat
def mes (sides : Nat) (L : Int) (far : List Int) : Nat := sumW (clipW sides L) far

theorem relG_step {sides : Nat} {es : List Ed} {lo : Int → Int} {L : Int} {st : RelSt} {e : Ed} (i : Nat) (hs : sides ≤ 1000) (hes : Ed8 sides es) (hp : PotE es lo) (hL : ∀ v : Int, 0 ≤ v → v < sides → L ≤ lo v) (he : e ∈ es) (h : RelG sides lo st) :
    RelG sides lo (relStep i e st) ∧ ((relStep i e st = st ∧ ¬ Imp e st.1) ∨ ((relStep i e st).2.2 = true ∧ mes sides L (relStep i e st).1 + 1 ≤ mes sides L st.1)) := by
  obtain ⟨⟨e1, e2⟩, ⟨e3, e4⟩, ⟨e5, e6⟩⟩ := hes e he
  have hn := noneC_eq
  unfold relStep
  split
  · rename_i hc
    obtain ⟨c1, c2, c3⟩ := hc
    obtain ⟨far, by_, ag⟩ := st
    obtain ⟨l1, l2, hlo, hhi, htop⟩ := h
    simp only at *
    have hlt : e.t.toNat < far.length := by omega
    have hself := farAt_self (far := far) (i := e.t) (x := farAt far e.f + e.c) hlt
    have hoth : ∀ v : Int, 0 ≤ v → v ≠ e.t → farAt (far.set e.t.toNat (farAt far e.f + e.c)) v = farAt far v := fun v hv hne => farAt_ne (by omega)
    have hf1 := hlo e.f e1 e2
    have hf2 := hhi e.f e1 e2 c2
    have ht1 := htop e.t e3 e4
    have hpe := hp e he c1
    have hLt := hL e.t e3 e4
    have hcs := sumW_set (w := fin1) (x := farAt far e.f + e.c) hlt
    have hms := sumW_set (w := clipW sides L) (x := farAt far e.f + e.c) hlt
    have hgd : far.getD e.t.toNat 0 = farAt far e.t := rfl
    rw [hgd] at hcs hms
    have hcl := cnt_le far
    have hcl2 := cnt_le (far.set e.t.toNat (farAt far e.f + e.c))
    rw [List.length_set] at hcl2
    have hx : fin1 (farAt far e.f + e.c) = 1 := by unfold fin1; rw [if_pos (by omega)]
    rw [hx] at hcs
    have hcs' : cnt (far.set e.t.toNat (farAt far e.f + e.c)) + fin1 (farAt far e.t) = cnt far + 1 := hcs
    have hnew : farAt far e.f + e.c ≤ 8 * (cnt (far.set e.t.toNat (farAt far e.f + e.c)) : Int) ∧ cnt far ≤ cnt (far.set e.t.toNat (farAt far e.f + e.c)) := by
      by_cases hfin : farAt far e.t < noneC
      · have := hhi e.t e3 e4 hfin
        have h1 : fin1 (farAt far e.t) = 1 := by unfold fin1; rw [if_pos hfin]
        rw [h1] at hcs'
        omega
      · have h1 : fin1 (farAt far e.t) = 0 := by unfold fin1; rw [if_neg hfin]
        rw [h1] at hcs'
        omega
    have hdown : clipW sides L (farAt far e.f + e.c) + 1 ≤ clipW sides L (farAt far e.t) := by
      unfold clipW
      by_cases hfin : farAt far e.t < noneC
      · have := hhi e.t e3 e4 hfin
        rw [Int.min_eq_left (by omega), Int.min_eq_left (by omega)]
        omega
      · rw [Int.min_eq_left (by omega), Int.min_eq_right (by omega)]
        omega
    refine ⟨⟨by rw [List.length_set]; exact l1, by rw [List.length_set]; exact l2, ?_, ?_, ?_⟩, .inr ⟨trivial, by unfold mes; omega⟩⟩
    · intro v h0 h1
      by_cases hv : v = e.t
      · subst hv; simp only; rw [hself]; omega
      · simp only; rw [hoth v h0 hv]; exact hlo v h0 h1
    · intro v h0 h1
      by_cases hv : v = e.t
      · subst hv; simp only; rw [hself]; exact fun _ => hnew.1
      · simp only; rw [hoth v h0 hv]; intro h2; have := hhi v h0 h1 h2; omega
    · intro v h0 h1
      by_cases hv : v = e.t
      · subst hv; simp only; rw [hself]; omega
      · simp only; rw [hoth v h0 hv]; exact htop v h0 h1
  · rename_i hc
    exact ⟨h, .inl ⟨rfl, fun hi => hc hi⟩⟩

theorem relPass_true : ∀ (l : List Ed) (i : Nat) (st : RelSt), st.2.2 = true → (relPass i l st).2.2 = true
  | [], _, _, h => h
  | e :: l, i, st, h => by
    refine relPass_true l (i + 1) _ ?_
    unfold relStep
    split
    · rfl
    · exact h
theorem relPass_main {sides : Nat} {es : List Ed} {lo : Int → Int} {L : Int} (hs : sides ≤ 1000) (hes : Ed8 sides es) (hp : PotE es lo) (hL : ∀ v : Int, 0 ≤ v → v < sides → L ≤ lo v) : ∀ (l : List Ed) (i : Nat) (st : RelSt), (∀ e ∈ l, e ∈ es) → RelG sides lo st →
    RelG sides lo (relPass i l st) ∧ mes sides L (relPass i l st).1 ≤ mes sides L st.1 ∧ ((relPass i l st).2.2 = false → relPass i l st = st ∧ ∀ e ∈ l, ¬ Imp e st.1) ∧ (st.2.2 = false → (relPass i l st).2.2 = true → mes sides L (relPass i l st).1 + 1 ≤ mes sides L st.1)
  | [], _, st, _, h => ⟨h, Nat.le_refl _, fun _ => ⟨rfl, fun e he => by cases he⟩, fun h1 h2 => by rw [show relPass _ [] st = st from rfl, h1] at h2; cases h2⟩
  | e :: l, i, st, hl, h => by
    obtain ⟨h1, h2⟩ := relG_step i hs hes hp hL (hl e List.mem_cons_self) h
    obtain ⟨g1, g2, g3, g4⟩ := relPass_main hs hes hp hL l (i + 1) (relStep i e st) (fun x hx => hl x (List.mem_cons_of_mem _ hx)) h1
    refine ⟨g1, ?_, ?_, ?_⟩
    · show mes sides L (relPass (i + 1) l (relStep i e st)).1 ≤ _
      rcases h2 with ⟨h2, _⟩ | ⟨_, h2⟩
      · rw [h2] at g2 ⊢; exact g2
      · omega
    · intro hf
      have hf' : (relPass (i + 1) l (relStep i e st)).2.2 = false := hf
      rcases h2 with ⟨h2, h3⟩ | ⟨h2, _⟩
      · obtain ⟨g5, g6⟩ := g3 hf'
        rw [h2] at g5 g6
        refine ⟨?_, fun x hx => ?_⟩
        · show relPass (i + 1) l (relStep i e st) = st
          rw [h2]; exact g5
        · rcases List.mem_cons.1 hx with rfl | hx
          · exact h3
          · exact g6 x hx
      · rw [relPass_true l (i + 1) _ h2] at hf'; cases hf'
    · intro hst hf
      have hf' : (relPass (i + 1) l (relStep i e st)).2.2 = true := hf
      show mes sides L (relPass (i + 1) l (relStep i e st)).1 + 1 ≤ _
      rcases h2 with ⟨h2, _⟩ | ⟨_, h2⟩
      · rw [h2] at g4 hf' ⊢
        exact g4 hst hf'
      · omega

/-- Distances come to an end; I is whatever each edge keeps. -/
theorem relax_end {sides : Nat} {es : List Ed} {lo : Int → Int} {L : Int} (hs : sides ≤ 1000) (hes : Ed8 sides es) (hp : PotE es lo) (hL : ∀ v : Int, 0 ≤ v → v < sides → L ≤ lo v)
    (I : List Int → List Int → Prop) (hI : ∀ i e st, es[i]? = some e → RelG sides lo st → I st.1 st.2.1 → I (relStep i e st).1 (relStep i e st).2.1) : ∀ (k : Nat) (far by_ : List Int), RelG sides lo (far, by_, false) → I far by_ → mes sides L far < k →
    ∃ r, relaxF k es far by_ = some r ∧ RelG sides lo (r.1, r.2, false) ∧ I r.1 r.2 ∧ ∀ e ∈ es, ¬ Imp e r.1
  | 0, _, _, _, _, h => by omega
  | k + 1, far, by_, hG, hi, hk => by
    have hpI : ∀ (l : List Ed) (i : Nat) (st : RelSt), (∀ j e, l[j]? = some e → es[i + j]? = some e) → RelG sides lo st → I st.1 st.2.1 → I (relPass i l st).1 (relPass i l st).2.1 := by
      intro l
      induction l with
      | nil => exact fun _ _ _ _ h => h
      | cons e l ih =>
        intro i st hj hG hi
        have h0 : es[i]? = some e := hj 0 e rfl
        refine ih (i + 1) _ (fun j x hx => ?_) (relG_step i hs hes hp hL (List.mem_of_getElem? h0) hG).1 (hI i e st h0 hG hi)
        have := hj (j + 1) x hx
        rw [show i + 1 + j = i + (j + 1) by omega]; exact this
    obtain ⟨g1, g2, g3, g4⟩ := relPass_main hs hes hp hL es 0 (far, by_, false) (fun _ h => h) hG
    have g5 := hpI es 0 (far, by_, false) (fun j e h => by rw [Nat.zero_add]; exact h) hG hi
    unfold relaxF
    obtain ⟨⟨f2, b2, ag⟩, hst⟩ : ∃ st, relPass 0 es (far, by_, false) = st := ⟨_, rfl⟩
    rw [hst] at g1 g2 g3 g4 g5 ⊢
    simp only at g1 g2 g3 g4 g5 ⊢
    cases ag with
    | true =>
      rw [if_pos rfl]
      have := g4 trivial rfl
      exact relax_end hs hes hp hL I hI k f2 b2 ⟨g1.l1, g1.l2, g1.lo_, g1.hi, g1.top⟩ g5 (by omega)
    | false =>
      rw [if_neg (by decide)]
      obtain ⟨e1, e2⟩ := g3 rfl
      refine ⟨(f2, b2), rfl, g1, g5, ?_⟩
      obtain ⟨rfl, _⟩ := Prod.mk.inj e1
      exact e2

theorem mes_le {sides : Nat} {L : Int} {far : List Int} (hl : far.length = sides) (hL : L ≤ 0) : mes sides L far ≤ sides * (8 * sides + 1 + L.natAbs) := by
  have := sumW_le (w := clipW sides L) (K := 8 * sides + 1 + L.natAbs) (fun x => by unfold clipW; omega) far
  rw [hl] at this
  exact this

/-! ### Chains of edges, back to the start -/
inductive Chain (es : List Ed) (by_ : List Int) (s : Int) (T : Ed → Prop) : Int → Nat → Prop
  | here : Chain es by_ s T s 0
  | step {v : Int} {n : Nat} {e : Ed} (hne : v ≠ s) (h0 : 0 ≤ farAt by_ v) (hi : es[(farAt by_ v).toNat]? = some e) (ht : e.t = v) (hr : 0 < e.r) (hT : T e) (h : Chain es by_ s T e.f n) : Chain es by_ s T v (n + 1)

theorem Chain.imp {es : List Ed} {by_ : List Int} {s : Int} {T T' : Ed → Prop} (hT : ∀ e ∈ es, 0 < e.r → T e → T' e) {v : Int} {n : Nat} (h : Chain es by_ s T v n) : Chain es by_ s T' v n := by
  induction h with
  | here => exact .here
  | step hne h0 hi ht hr hTe _ ih => exact .step hne h0 hi ht hr (hT _ (List.mem_of_getElem? hi) hr hTe) ih
theorem Chain.uniq {es : List Ed} {by_ : List Int} {s : Int} {T : Ed → Prop} {v : Int} {n m : Nat} (h : Chain es by_ s T v n) (h' : Chain es by_ s T v m) : n = m := by
  induction h generalizing m with
  | here =>
    cases h' with
    | here => rfl
    | step hne => exact absurd rfl hne
  | step hne h0 hi ht hr hT _ ih =>
    cases h' with
    | here => exact absurd rfl hne
    | step hne' h0' hi' ht' hr' hT' h' =>
      rw [hi] at hi'
      obtain rfl := Option.some.inj hi'
      rw [ih h']
theorem Chain.nodes {es : List Ed} {by_ : List Int} {s : Int} {T : Ed → Prop} {v : Int} {n : Nat} (h : Chain es by_ s T v n) : ∃ L : List Int, L.length = n ∧ L.Nodup ∧ ∀ x ∈ L, (∃ e ∈ es, e.t = x) ∧ ∃ m, m ≤ n ∧ Chain es by_ s T x m := by
  induction h with
  | here => exact ⟨[], rfl, List.nodup_nil, fun x hx => by cases hx⟩
  | @step v n e hne h0 hi ht hr hT h ih =>
    obtain ⟨L, h1, h2, h3⟩ := ih
    refine ⟨v :: L, by simp [h1], List.nodup_cons.2 ⟨fun hv => ?_, h2⟩, fun x hx => ?_⟩
    · obtain ⟨_, m, hm, hc⟩ := h3 v hv
      have := Chain.uniq hc (.step hne h0 hi ht hr hT h)
      omega
    · rcases List.mem_cons.1 hx with rfl | hx
      · exact ⟨⟨e, List.mem_of_getElem? hi, ht⟩, n + 1, Nat.le_refl _, .step hne h0 hi ht hr hT h⟩
      · obtain ⟨h4, m, hm, hc⟩ := h3 x hx
        exact ⟨h4, m, by omega, hc⟩
theorem nodup_len : ∀ (k : Nat) (L : List Int), L.Nodup → (∀ x ∈ L, 0 ≤ x ∧ x < k) → L.length ≤ k
  | 0, L, _, h => by
    cases L with
    | nil => exact Nat.le_refl _
    | cons a l => have := h a List.mem_cons_self; omega
  | k + 1, L, hn, h => by
    have h1 := nodup_len k (L.erase (k : Int)) (hn.erase _) fun x hx => by
      obtain ⟨h2, h3⟩ := (List.Nodup.mem_erase_iff hn).1 hx
      have := h x h3
      omega
    have h2 := List.length_erase (a := (k : Int)) (l := L)
    split at h2 <;> omega
theorem Chain.len {sides : Nat} {es : List Ed} (hes : Ed8 sides es) {by_ : List Int} {s : Int} {T : Ed → Prop} {v : Int} {n : Nat} (h : Chain es by_ s T v n) : n ≤ sides := by
  obtain ⟨L, h1, h2, h3⟩ := h.nodes
  rw [← h1]
  refine nodup_len sides L h2 fun x hx => ?_
  obtain ⟨⟨e, he, rfl⟩, _⟩ := h3 x hx
  exact (hes e he).2.1

/-- Of what a chain consists, while the distances are still on the way. -/
def Tle (far : List Int) (e : Ed) : Prop := farAt far e.f < noneC ∧ farAt far e.f + e.c ≤ farAt far e.t
structure RelC (sides : Nat) (es : List Ed) (s : Int) (far by_ : List Int) : Prop where
  s0 : farAt far s = 0
  ch : ∀ v : Int, 0 ≤ v → v < sides → farAt far v < noneC → ∃ n, Chain es by_ s (Tle far) v n

theorem chain_keep {sides : Nat} {es : List Ed} {lo : Int → Int} (hes : Ed8 sides es) (hp : PotE es lo) {far by_ : List Int} {s v x i : Int} (hv0 : 0 ≤ v) (hlt : v.toNat < far.length) (hx : x ≤ farAt far v) {w : Int} {n : Nat} (h : Chain es by_ s (Tle far) w n) (hd : farAt far w - lo w < farAt far v - lo v) : Chain es (by_.set v.toNat i) s (Tle (far.set v.toNat x)) w n := by
  induction h with
  | here => exact .here
  | @step w n e hne h0 hi ht hr hT h ih =>
    obtain ⟨⟨e1, e2⟩, ⟨e3, e4⟩, _⟩ := hes e (List.mem_of_getElem? hi)
    have hwv : w ≠ v := fun e => by rw [e] at hd; omega
    rw [← ht] at hd hwv
    have hpe := hp e (List.mem_of_getElem? hi) hr
    obtain ⟨t1, t2⟩ := hT
    have hby : farAt (by_.set v.toNat i) e.t = farAt by_ e.t := farAt_ne (by omega)
    have hft : farAt (far.set v.toNat x) e.t = farAt far e.t := farAt_ne (by omega)
    have hff : farAt (far.set v.toNat x) e.f ≤ farAt far e.f := by
      by_cases hfv : e.f = v
      · rw [hfv, farAt_self hlt]; exact hx
      · rw [farAt_ne (by omega)]; exact Int.le_refl _
    subst ht
    exact .step hne (by rw [hby]; exact h0) (by rw [hby]; exact hi) rfl hr ⟨by omega, by omega⟩ (ih (by omega))
theorem chain_new {sides : Nat} {es : List Ed} (hes : Ed8 sides es) {far by_ : List Int} {s v x i : Int} (hv0 : 0 ≤ v) (hlt : v.toNat < far.length) (hx : x ≤ farAt far v) (hnew : ∃ k, Chain es (by_.set v.toNat i) s (Tle (far.set v.toNat x)) v k) {w : Int} {n : Nat} (h : Chain es by_ s (Tle far) w n) : ∃ k, Chain es (by_.set v.toNat i) s (Tle (far.set v.toNat x)) w k := by
  induction h with
  | here => exact ⟨0, .here⟩
  | @step w n e hne h0 hi ht hr hT h ih =>
    by_cases hwv : w = v
    · rw [hwv]; exact hnew
    obtain ⟨⟨e1, e2⟩, ⟨e3, e4⟩, _⟩ := hes e (List.mem_of_getElem? hi)
    obtain ⟨k, hk⟩ := ih
    rw [← ht] at hwv
    obtain ⟨t1, t2⟩ := hT
    have hby : farAt (by_.set v.toNat i) e.t = farAt by_ e.t := farAt_ne (by omega)
    have hft : farAt (far.set v.toNat x) e.t = farAt far e.t := farAt_ne (by omega)
    have hff : farAt (far.set v.toNat x) e.f ≤ farAt far e.f := by
      by_cases hfv : e.f = v
      · rw [hfv, farAt_self hlt]; exact hx
      · rw [farAt_ne (by omega)]; exact Int.le_refl _
    subst ht
    exact ⟨k + 1, .step hne (by rw [hby]; exact h0) (by rw [hby]; exact hi) rfl hr ⟨by omega, by omega⟩ hk⟩
theorem relC_step {sides : Nat} {es : List Ed} {lo : Int → Int} (hes : Ed8 sides es) (hp : PotE es lo) {s : Int} (hs : 0 ≤ s ∧ s < sides) (hlo : lo s = 0) (i : Nat) (e : Ed) (st : RelSt) (hi : es[i]? = some e) (hG : RelG sides lo st) (h : RelC sides es s st.1 st.2.1) : RelC sides es s (relStep i e st).1 (relStep i e st).2.1 := by
  have he := List.mem_of_getElem? hi
  obtain ⟨⟨e1, e2⟩, ⟨e3, e4⟩, ⟨e5, e6⟩⟩ := hes e he
  unfold relStep
  split
  · rename_i hc
    obtain ⟨c1, c2, c3⟩ := hc
    obtain ⟨far, by_, ag⟩ := st
    simp only at *
    have hl1 : far.length = sides := hG.l1
    have hl2 : by_.length = sides := hG.l2
    have hlt : e.t.toNat < far.length := by omega
    have hlt2 : e.t.toNat < by_.length := by omega
    have hpe := hp e he c1
    have hff := hG.lo_ e.f e1 e2
    simp only at hff
    have hts : e.t ≠ s := fun h1 => by
      have := h.s0
      rw [h1] at c3 hpe
      omega
    have hself := farAt_self (far := far) (i := e.t) (x := farAt far e.f + e.c) hlt
    have hef : e.f ≠ e.t := fun h1 => by rw [h1] at hpe c3; omega
    have hfo : farAt (far.set e.t.toNat (farAt far e.f + e.c)) e.f = farAt far e.f := farAt_ne (by omega)
    obtain ⟨n, hn⟩ := h.ch e.f e1 e2 c2
    have hk := chain_keep (i := (i : Int)) hes hp e3 hlt (x := farAt far e.f + e.c) (by omega) hn (by omega)
    have hbs : farAt (by_.set e.t.toNat (i : Int)) e.t = i := farAt_self hlt2
    have hnew : Chain es (by_.set e.t.toNat (i : Int)) s (Tle (far.set e.t.toNat (farAt far e.f + e.c))) e.t (n + 1) :=
      .step hts (by rw [hbs]; omega) (by rw [hbs, Int.toNat_natCast]; exact hi) rfl c1 ⟨by rw [hfo]; exact c2, by rw [hfo, hself]; exact Int.le_refl _⟩ hk
    refine ⟨?_, fun v h0 h1 h2 => ?_⟩
    · rw [farAt_ne (by omega)]; exact h.s0
    · by_cases hv : v = e.t
      · rw [hv]; exact ⟨n + 1, hnew⟩
      · rw [farAt_ne (by omega)] at h2
        obtain ⟨m, hm⟩ := h.ch v h0 h1 h2
        exact chain_new hes e3 hlt (by omega) ⟨n + 1, hnew⟩ hm
  · exact h
end Go.Rt

/- Routes, plain: one unit more goes the cheapest way, and the flow stays a cheapest one. -/
namespace Go.Rt
open Go.Nw

/-- A pair of edges: from, to, cost, and whether a unit goes through it. -/
structure FA where
  f : Int
  t : Int
  c : Int
  u : Bool
def fwd (x : FA) : Ed := ⟨x.f, x.t, x.c, if x.u = true then 0 else 1⟩
def rev (x : FA) : Ed := ⟨x.t, x.f, -x.c, if x.u = true then 1 else 0⟩
def flat2 : List FA → List Ed
  | [] => []
  | x :: l => fwd x :: rev x :: flat2 l
def flipA (x : FA) : FA := ⟨x.f, x.t, x.c, !x.u⟩
theorem flat2_len : ∀ l : List FA, (flat2 l).length = 2 * l.length
  | [] => rfl
  | x :: l => by simp only [flat2, List.length_cons, flat2_len l]; omega
theorem flat2_get0 : ∀ (l : List FA) (j : Nat), (flat2 l)[2 * j]? = (l[j]?).map fwd
  | [], _ => rfl
  | x :: l, 0 => rfl
  | x :: l, j + 1 => by
    rw [show 2 * (j + 1) = 2 * j + 1 + 1 by omega]
    simp only [flat2, List.getElem?_cons_succ, flat2_get0 l j]
theorem flat2_get1 : ∀ (l : List FA) (j : Nat), (flat2 l)[2 * j + 1]? = (l[j]?).map rev
  | [], _ => rfl
  | x :: l, 0 => rfl
  | x :: l, j + 1 => by
    rw [show 2 * (j + 1) + 1 = 2 * j + 1 + 1 + 1 by omega]
    simp only [flat2, List.getElem?_cons_succ, flat2_get1 l j]
theorem flat2_set : ∀ (l : List FA) (j : Nat) (y : FA), ((flat2 l).set (2 * j) (fwd y)).set (2 * j + 1) (rev y) = flat2 (l.set j y)
  | [], _, _ => rfl
  | x :: l, 0, y => rfl
  | x :: l, j + 1, y => by
    rw [show 2 * (j + 1) + 1 = 2 * j + 1 + 1 + 1 by omega, show 2 * (j + 1) = 2 * j + 1 + 1 by omega]
    simp only [flat2, List.set_cons_succ, flat2_set l j y]
theorem mem_flat2 {e : Ed} : ∀ {l : List FA}, e ∈ flat2 l → ∃ x ∈ l, e = fwd x ∨ e = rev x
  | x :: l, h => by
    simp only [flat2, List.mem_cons] at h
    rcases h with h | h | h
    · exact ⟨x, List.mem_cons_self, .inl h⟩
    · exact ⟨x, List.mem_cons_self, .inr h⟩
    · obtain ⟨y, hy, h⟩ := mem_flat2 h
      exact ⟨y, List.mem_cons_of_mem _ hy, h⟩
theorem flat2_mem {x : FA} : ∀ {l : List FA}, x ∈ l → fwd x ∈ flat2 l ∧ rev x ∈ flat2 l
  | y :: l, h => by
    simp only [flat2, List.mem_cons]
    rcases List.mem_cons.1 h with rfl | h
    · exact ⟨.inl rfl, .inr (.inl rfl)⟩
    · obtain ⟨h1, h2⟩ := flat2_mem h
      exact ⟨.inr (.inr h1), .inr (.inr h2)⟩
def sumI {α : Type} (g : α → Int) (l : List α) : Int := (l.map g).sum
theorem sumI_cons {α : Type} (g : α → Int) (a : α) (l : List α) : sumI g (a :: l) = g a + sumI g l := by simp [sumI]
theorem sumI_nil {α : Type} (g : α → Int) : sumI g [] = 0 := rfl
theorem sumI_append {α : Type} (g : α → Int) (l m : List α) : sumI g (l ++ m) = sumI g l + sumI g m := by
  induction l with
  | nil => simp [sumI]
  | cons a l ih => rw [List.cons_append, sumI_cons, sumI_cons, ih]; omega
theorem sumI_perm {α : Type} (g : α → Int) {l m : List α} (h : l.Perm m) : sumI g l = sumI g m := by
  induction h with
  | nil => rfl
  | cons a _ ih => rw [sumI_cons, sumI_cons, ih]
  | swap a b l => rw [sumI_cons, sumI_cons, sumI_cons, sumI_cons]; omega
  | trans _ _ h1 h2 => rw [h1, h2]
theorem sumI_set {α : Type} (g : α → Int) {x y : α} : ∀ {l : List α} {j : Nat}, l[j]? = some x → sumI g (l.set j y) = sumI g l - g x + g y
  | [], _, h => by simp at h
  | a :: l, 0, h => by
    obtain rfl : a = x := by simpa using h
    rw [List.set_cons_zero, sumI_cons, sumI_cons]; omega
  | a :: l, j + 1, h => by
    have := sumI_set g (y := y) (l := l) (j := j) (by simpa using h)
    rw [List.set_cons_succ, sumI_cons, sumI_cons, this]; omega
theorem sumI_nonneg {α : Type} {g : α → Int} : ∀ {l : List α}, (∀ x ∈ l, 0 ≤ g x) → 0 ≤ sumI g l
  | [], _ => Int.le_refl _
  | a :: l, h => by
    have h1 := h a List.mem_cons_self
    have h2 := sumI_nonneg (l := l) fun x hx => h x (List.mem_cons_of_mem _ hx)
    rw [sumI_cons]; omega
theorem sumI_le {α : Type} {g g' : α → Int} : ∀ {l : List α}, (∀ x ∈ l, g x ≤ g' x) → sumI g l ≤ sumI g' l
  | [], _ => Int.le_refl _
  | a :: l, h => by
    have h1 := h a List.mem_cons_self
    have h2 := sumI_le (l := l) fun x hx => h x (List.mem_cons_of_mem _ hx)
    rw [sumI_cons, sumI_cons]; omega
theorem sumI_congr {α : Type} {g g' : α → Int} {l : List α} (h : ∀ x ∈ l, g x = g' x) : sumI g l = sumI g' l := by
  have h1 := sumI_le (l := l) fun x hx => Int.le_of_eq (h x hx)
  have h2 := sumI_le (l := l) fun x hx => Int.le_of_eq (h x hx).symm
  omega
theorem sumI_map {α β : Type} (g : β → Int) (f : α → β) (l : List α) : sumI g (l.map f) = sumI (fun x => g (f x)) l := by
  simp [sumI, List.map_map, Function.comp_def]

abbrev E3 := Int × Int × Int
def endsF (L : List FA) : List E3 := L.map fun x => (x.f, x.t, x.c)
def balG (p : Int → Int) (x : FA) : Int := if x.u = true then p x.t - p x.f else 0
def bal (L : List FA) (p : Int → Int) : Int := sumI (balG p) L
def costG (x : FA) : Int := if x.u = true then x.c else 0
def costF (L : List FA) : Int := sumI costG L

theorem move_ok {L : List FA} {i : Nat} {e : Ed} (hi : (flat2 L)[i]? = some e) (hr : 0 < e.r) : ∃ j x, L[j]? = some x ∧ i / 2 = j ∧ twin i < (flat2 L).length ∧ moveE (moveE (flat2 L) i (-1)) (twin i) 1 = flat2 (L.set j (flipA x)) ∧ ((i = 2 * j ∧ x.u = false ∧ e = fwd x) ∨ (i = 2 * j + 1 ∧ x.u = true ∧ e = rev x)) := by
  have hlt := (List.getElem?_eq_some_iff.1 hi).1
  have hlen := flat2_len L
  rcases Nat.mod_two_eq_zero_or_one i with h | h
  · obtain ⟨j, rfl⟩ : ∃ j, i = 2 * j := ⟨i / 2, by omega⟩
    have ht : twin (2 * j) = 2 * j + 1 := by unfold twin; rw [if_pos h]
    rw [flat2_get0] at hi
    cases hx : L[j]? with
    | none => rw [hx] at hi; cases hi
    | some x =>
      rw [hx] at hi
      obtain rfl : fwd x = e := Option.some.inj hi
      have hu : x.u = false := by
        cases hu : x.u with
        | false => rfl
        | true => unfold fwd at hr; rw [hu] at hr; simp at hr
      refine ⟨j, x, hx, by omega, by rw [ht]; omega, ?_, .inl ⟨rfl, hu, rfl⟩⟩
      rw [ht]
      have h1 : moveE (flat2 L) (2 * j) (-1) = (flat2 L).set (2 * j) (fwd (flipA x)) := by
        unfold moveE; rw [flat2_get0, hx]; simp [fwd, flipA, hu]
      have h2 : ((flat2 L).set (2 * j) (fwd (flipA x)))[2 * j + 1]? = some (rev x) := by
        rw [List.getElem?_set_ne (by omega), flat2_get1, hx]; rfl
      rw [h1]
      unfold moveE
      rw [h2]
      simp only
      rw [← flat2_set]
      congr 1
      simp [rev, flipA, hu]
  · obtain ⟨j, rfl⟩ : ∃ j, i = 2 * j + 1 := ⟨i / 2, by omega⟩
    have ht : twin (2 * j + 1) = 2 * j := by unfold twin; rw [if_neg (by omega)]; omega
    rw [flat2_get1] at hi
    cases hx : L[j]? with
    | none => rw [hx] at hi; cases hi
    | some x =>
      rw [hx] at hi
      obtain rfl : rev x = e := Option.some.inj hi
      have hu : x.u = true := by
        cases hu : x.u with
        | true => rfl
        | false => unfold rev at hr; rw [hu] at hr; simp at hr
      refine ⟨j, x, hx, by omega, by rw [ht]; omega, ?_, .inr ⟨rfl, hu, rfl⟩⟩
      rw [ht]
      have h1 : moveE (flat2 L) (2 * j + 1) (-1) = (flat2 L).set (2 * j + 1) (rev (flipA x)) := by
        unfold moveE; rw [flat2_get1, hx]; simp [rev, flipA, hu]
      have h2 : ((flat2 L).set (2 * j + 1) (rev (flipA x)))[2 * j]? = some (fwd x) := by
        rw [List.getElem?_set_ne (by omega), flat2_get0, hx]; rfl
      rw [h1]
      unfold moveE
      rw [h2]
      simp only
      rw [← flat2_set, List.set_comm _ _ (by omega)]
      congr 2
      simp [fwd, flipA, hu]
theorem endsF_set {L : List FA} {j : Nat} {x : FA} (hx : L[j]? = some x) : endsF (L.set j (flipA x)) = endsF L := by
  unfold endsF
  rw [List.map_set]
  apply List.ext_getElem?
  intro i
  by_cases h : j = i
  · subst h
    have hj := (List.getElem?_eq_some_iff.1 hx).1
    rw [List.getElem?_set_self (by rw [List.length_map]; exact hj), List.getElem?_map, hx]; rfl
  · rw [List.getElem?_set_ne h]
theorem pot_move {L : List FA} {j : Nat} {x : FA} {e : Ed} {π : Int → Int} (_hx : L[j]? = some x) (he : (x.u = false ∧ e = fwd x) ∨ (x.u = true ∧ e = rev x)) (hp : PotE (flat2 L) π) (ht : π e.f + e.c = π e.t) : PotE (flat2 (L.set j (flipA x))) π := by
  intro e' he' hr'
  obtain ⟨y, hy, h⟩ := mem_flat2 he'
  rcases List.mem_or_eq_of_mem_set hy with hy | rfl
  · obtain ⟨h1, h2⟩ := flat2_mem hy
    rcases h with rfl | rfl
    · exact hp _ h1 hr'
    · exact hp _ h2 hr'
  · rcases he with ⟨hu, rfl⟩ | ⟨hu, rfl⟩
    · rcases h with rfl | rfl
      · simp [fwd, flipA, hu] at hr'
      · simp only [fwd, rev, flipA] at ht ⊢; omega
    · rcases h with rfl | rfl
      · simp only [fwd, rev, flipA] at ht ⊢; omega
      · simp [rev, flipA, hu] at hr'

theorem flat2_get_set {L : List FA} {j m : Nat} {y : FA} (h : m / 2 ≠ j) : (flat2 (L.set j y))[m]? = (flat2 L)[m]? := by
  rcases Nat.mod_two_eq_zero_or_one m with hm | hm
  · obtain ⟨k, rfl⟩ : ∃ k, m = 2 * k := ⟨m / 2, by omega⟩
    rw [flat2_get0, flat2_get0, List.getElem?_set_ne (by omega)]
  · obtain ⟨k, rfl⟩ : ∃ k, m = 2 * k + 1 := ⟨m / 2, by omega⟩
    rw [flat2_get1, flat2_get1, List.getElem?_set_ne (by omega)]
theorem Chain.other {L : List FA} {by_ : List Int} {s v : Int} {T : Ed → Prop} {n j : Nat} {x : FA} {e : Ed} (hv : Chain (flat2 L) by_ s T v (n + 1)) (hi : (flat2 L)[(farAt by_ v).toNat]? = some e) (het : e.t = v) (hx : L[j]? = some x) (_hj : (farAt by_ v).toNat / 2 = j) (hex : ((farAt by_ v).toNat = 2 * j ∧ e = fwd x) ∨ ((farAt by_ v).toNat = 2 * j + 1 ∧ e = rev x)) {w : Int} {m : Nat} (h : Chain (flat2 L) by_ s T w m) (hm : m ≤ n) : Chain (flat2 (L.set j (flipA x))) by_ s T w m := by
  induction h with
  | here => exact .here
  | @step w m e' hne h0 hi' ht hr hT h ih =>
    refine .step hne h0 ?_ ht hr hT (ih (by omega))
    rw [flat2_get_set]; exact hi'
    intro hjj
    have hfull : Chain (flat2 L) by_ s T w (m + 1) := .step hne h0 hi' ht hr hT h
    have hwv : w ≠ v := fun e => by rw [e] at hfull; have := Chain.uniq hfull hv; omega
    by_cases hsame : (farAt by_ w).toNat = (farAt by_ v).toNat
    · rw [hsame, hi] at hi'
      obtain rfl := Option.some.inj hi'
      exact hwv (ht.symm.trans het)
    · rcases hex with ⟨h1, rfl⟩ | ⟨h1, rfl⟩
      · have h2 : (farAt by_ w).toNat = 2 * j + 1 := by omega
        rw [h2, flat2_get1, hx] at hi'
        obtain rfl : rev x = e' := Option.some.inj hi'
        have : (rev x).f = v := het
        rw [this] at h
        have := Chain.uniq h hv
        omega
      · have h2 : (farAt by_ w).toNat = 2 * j := by omega
        rw [h2, flat2_get0, hx] at hi'
        obtain rfl : fwd x = e' := Option.some.inj hi'
        have : (fwd x).f = v := het
        rw [this] at h
        have := Chain.uniq h hv
        omega

theorem back_ok {by_ far : List Int} {s : Int} {T : Ed → Prop} {π : Int → Int} (hT : ∀ e, T e → π e.f + e.c = π e.t ∧ farAt far e.f + e.c = farAt far e.t) : ∀ (n k : Nat) (v : Int) (L : List FA), Chain (flat2 L) by_ s T v n → n < k → PotE (flat2 L) π →
    ∃ L', backF k (flat2 L) by_ s v = some (flat2 L') ∧ endsF L' = endsF L ∧ (∀ p, bal L' p = bal L p + (p v - p s)) ∧ costF L' = costF L + (farAt far v - farAt far s) ∧ PotE (flat2 L') π
  | _, 0, _, _, _, h, _ => by omega
  | 0, k + 1, v, L, h, _, hp => by
    cases h
    refine ⟨L, by unfold backF; rw [if_pos rfl], rfl, fun p => by omega, by omega, hp⟩
  | n + 1, k + 1, v, L, h, hk, hp => by
    cases id h with
    | @step _ _ e hne h0 hi ht hr hTe h' =>
      obtain ⟨j, x, hx, hj, htw, hmv, hcase⟩ := move_ok hi hr
      obtain ⟨t1, t2⟩ := hT e hTe
      have hcase2 : (x.u = false ∧ e = fwd x) ∨ (x.u = true ∧ e = rev x) := by
        rcases hcase with ⟨_, h1, h2⟩ | ⟨_, h1, h2⟩
        · exact .inl ⟨h1, h2⟩
        · exact .inr ⟨h1, h2⟩
      have hex : ((farAt by_ v).toNat = 2 * j ∧ e = fwd x) ∨ ((farAt by_ v).toNat = 2 * j + 1 ∧ e = rev x) := by
        rcases hcase with ⟨h1, _, h2⟩ | ⟨h1, _, h2⟩
        · exact .inl ⟨h1, h2⟩
        · exact .inr ⟨h1, h2⟩
      obtain ⟨L', b1, b2, b3, b4, b5⟩ := back_ok hT n k e.f (L.set j (flipA x)) (Chain.other h hi ht hx hj hex h' (Nat.le_refl _)) (by omega) (pot_move hx hcase2 hp t1)
      refine ⟨L', ?_, by rw [b2, endsF_set hx], fun p => ?_, ?_, b5⟩
      · unfold backF
        rw [if_neg hne, if_neg (by omega), hi]
        simp only
        rw [if_neg (by omega), hmv]
        exact b1
      · rw [b3 p]
        have : bal (L.set j (flipA x)) p = bal L p + (p e.t - p e.f) := by
          unfold bal
          rw [sumI_set (balG p) hx]
          rcases hcase2 with ⟨hu, rfl⟩ | ⟨hu, rfl⟩
          · simp only [balG, flipA, fwd, hu]; simp
          · simp only [balG, flipA, rev, hu]; simp; omega
        rw [this, ht]
        omega
      · rw [b4]
        have : costF (L.set j (flipA x)) = costF L + e.c := by
          unfold costF
          rw [sumI_set costG hx]
          rcases hcase2 with ⟨hu, rfl⟩ | ⟨hu, rfl⟩
          · simp only [costG, flipA, fwd, hu]; simp
          · simp only [costG, flipA, rev, hu]; simp; omega
        rw [this, ← ht]
        omega

theorem chain_low {sides : Nat} {es : List Ed} {π : Int → Int} (hp : PotE es π) {far by_ : List Int} {s D w : Int} {n : Nat} (_hs : sides ≤ 1000) (h : Chain es by_ s (Tle far) w n) (hd : farAt far w - π w ≤ D) : Chain es by_ s (fun e => Tle far e ∧ farAt far e.t - π e.t ≤ D ∧ farAt far e.f - π e.f ≤ D) w n := by
  induction h with
  | here => exact .here
  | @step w n e hne h0 hi ht hr hT h ih =>
    have hpe := hp e (List.mem_of_getElem? hi) hr
    obtain ⟨t1, t2⟩ := id hT
    subst ht
    exact .step hne h0 hi rfl hr ⟨hT, hd, by omega⟩ (ih (by omega))

theorem startF_len {sides : Nat} {s : Int} : (startF sides s).length = sides := by unfold startF; rw [List.length_set, List.length_replicate]
theorem startF_at {sides : Nat} {s v : Int} (hs : 0 ≤ s ∧ s < sides) (hv : 0 ≤ v ∧ v < sides) : farAt (startF sides s) v = if v = s then 0 else noneC := by
  have hl : s.toNat < (List.replicate sides noneC).length := by rw [List.length_replicate]; omega
  unfold startF
  split
  · rename_i h
    rw [h, farAt_self hl]
  · rename_i h
    rw [farAt_ne (by omega)]
    unfold farAt
    rw [List.getD_eq_getElem?_getD, List.getElem?_replicate, if_pos (by omega), Option.getD_some]

/-- What a unit that was sent has done, or why none could be. -/
structure PushYes (sides : Nat) (L : List FA) (s t x W : Int) (es' : List Ed) (L' : List FA) (π' : Int → Int) : Prop where
  es : es' = flat2 L'
  ends : endsF L' = endsF L
  bal_ : ∀ p, bal L' p = bal L p + (p t - p s)
  cost : costF L' = costF L + x
  pot : PotE (flat2 L') π'
  bd : ∀ v : Int, 0 ≤ v → v < sides → -W ≤ π' v ∧ π' v ≤ 3 * W + 8 * sides
structure PushNo (L : List FA) (s t x : Int) (es' : List Ed) (R : Int → Bool) : Prop where
  es : es' = flat2 L
  x0 : x = 0
  rs : R s = true
  rt : R t = false
  cl : ∀ e ∈ flat2 L, 0 < e.r → R e.f = true → R e.t = true

theorem push_ok {sides fuel : Nat} {L : List FA} {s t W : Int} {π : Int → Int} (hs : sides ≤ 100) (hes : Ed8 sides (flat2 L)) (hp : PotE (flat2 L) π) (hW : 0 ≤ W ∧ W ≤ 100000) (hb : ∀ v : Int, 0 ≤ v → v < sides → -W ≤ π v ∧ π v ≤ W) (hs0 : 0 ≤ s ∧ s < sides) (ht0 : 0 ≤ t ∧ t < sides) (hf : sides * (8 * sides + 1 + (2 * W).natAbs) < fuel) (hf2 : sides < fuel) :
    ∃ r, pushF fuel sides (flat2 L) s t = some r ∧ ((r.2.1 = false ∧ ∃ R, PushNo L s t r.1 r.2.2 R) ∨ (r.2.1 = true ∧ ∃ L' π', PushYes sides L s t r.1 W r.2.2 L' π')) := by
  have hn := noneC_eq
  have hps := hb s hs0.1 hs0.2
  have hplo : PotE (flat2 L) (fun v => π v - π s) := fun e he hr => by have := hp e he hr; simp only; omega
  have hL : ∀ v : Int, 0 ≤ v → v < sides → -(2 * W) ≤ (fun v => π v - π s) v := fun v h0 h1 => by have := hb v h0 h1; simp only; omega
  have hG : RelG sides (fun v => π v - π s) (startF sides s, List.replicate sides (-1), false) := by
    refine ⟨startF_len, List.length_replicate, fun v h0 h1 => ?_, fun v h0 h1 => ?_, fun v h0 h1 => ?_⟩
    · simp only
      rw [startF_at hs0 ⟨h0, h1⟩]
      have := hb v h0 h1
      split
      · rename_i h; rw [h]; omega
      · omega
    · simp only
      rw [startF_at hs0 ⟨h0, h1⟩]
      split
      · intro _; omega
      · intro h; exact absurd h (Int.lt_irrefl _)
    · simp only
      rw [startF_at hs0 ⟨h0, h1⟩]
      split <;> omega
  have hC : RelC sides (flat2 L) s (startF sides s) (List.replicate sides (-1)) := by
    refine ⟨by rw [startF_at hs0 hs0, if_pos rfl], fun v h0 h1 h2 => ?_⟩
    rw [startF_at hs0 ⟨h0, h1⟩] at h2
    by_cases h : v = s
    · rw [h]; exact ⟨0, .here⟩
    · rw [if_neg h] at h2; exact absurd h2 (Int.lt_irrefl _)
  have hm := mes_le (sides := sides) (L := -(2 * W)) (far := startF sides s) startF_len (by omega)
  rw [Int.natAbs_neg] at hm
  obtain ⟨⟨far, by_⟩, hr, hG2, hC2, hcl⟩ := relax_end (by omega) hes hplo hL (RelC sides (flat2 L) s) (fun i e st hi hG h => relC_step hes hplo hs0 (Int.sub_self _) i e st hi hG h) fuel _ _ hG hC (by omega)
  simp only at hG2 hC2 hcl
  unfold pushF
  rw [hr]
  simp only
  obtain ⟨l1, l2, hlo, hhi, htop⟩ := hG2
  simp only at l1 l2 hlo hhi htop
  have hcn := cnt_le far
  have hfin : ∀ v : Int, 0 ≤ v → v < sides → farAt far v < noneC → farAt far v ≤ 8 * sides := fun v h0 h1 h2 => by
    have := hhi v h0 h1 h2; omega
  have hclosed : ∀ e ∈ flat2 L, 0 < e.r → farAt far e.f < noneC → farAt far e.t ≤ farAt far e.f + e.c ∧ farAt far e.t < noneC := by
    intro e he hr hf
    obtain ⟨⟨e1, e2⟩, ⟨e3, e4⟩, ⟨e5, e6⟩⟩ := hes e he
    have h1 := hfin e.f e1 e2 hf
    have h2 : farAt far e.t ≤ farAt far e.f + e.c := by
      rcases Int.lt_or_le (farAt far e.f + e.c) (farAt far e.t) with h | h
      · exact absurd ⟨hr, hf, h⟩ (hcl e he)
      · exact h
    exact ⟨h2, by omega⟩
  by_cases hno : noneC ≤ farAt far t
  · rw [if_pos hno]
    refine ⟨_, rfl, .inl ⟨rfl, fun v => decide (farAt far v < noneC), rfl, rfl, ?_, ?_, ?_⟩⟩
    · exact decide_eq_true (by rw [hC2.s0]; decide)
    · exact decide_eq_false (by omega)
    · intro e he hr hf
      exact decide_eq_true (hclosed e he hr (of_decide_eq_true hf)).2
  · rw [if_neg hno]
    have hto : farAt far t < noneC := by omega
    obtain ⟨n, hn'⟩ := hC2.ch t ht0.1 ht0.2 hto
    have hlt := hlo t ht0.1 ht0.2
    have hft := hfin t ht0.1 ht0.2 hto
    have hpt := hb t ht0.1 ht0.2
    obtain ⟨D, hD⟩ : ∃ D, farAt far t - π t = D := ⟨_, rfl⟩
    have hlow := chain_low (sides := sides) hp (by omega) hn' (Int.le_of_eq hD)
    -- the new numbers
    let π' : Int → Int := fun v => if farAt far v < noneC ∧ farAt far v - π v ≤ D then farAt far v + π s else π v + D + π s
    have hlowv : ∀ v, farAt far v < noneC → farAt far v - π v ≤ D → π' v = farAt far v + π s := fun v h1 h2 => if_pos ⟨h1, h2⟩
    have hhiv : ∀ v, ¬ (farAt far v < noneC ∧ farAt far v - π v ≤ D) → π' v = π v + D + π s := fun v h => if_neg h
    have hpot : PotE (flat2 L) π' := by
      intro e he hr
      have hpe := hp e he hr
      by_cases hf : farAt far e.f < noneC ∧ farAt far e.f - π e.f ≤ D
      · obtain ⟨c1, c2⟩ := hclosed e he hr hf.1
        rw [hlowv e.f hf.1 hf.2]
        by_cases ht : farAt far e.t < noneC ∧ farAt far e.t - π e.t ≤ D
        · rw [hlowv e.t ht.1 ht.2]; omega
        · rw [hhiv e.t ht]; omega
      · rw [hhiv e.f hf]
        by_cases ht : farAt far e.t < noneC ∧ farAt far e.t - π e.t ≤ D
        · rw [hlowv e.t ht.1 ht.2]; omega
        · rw [hhiv e.t ht]; omega
    have hch : Chain (flat2 L) by_ s (fun e => π' e.f + e.c = π' e.t ∧ farAt far e.f + e.c = farAt far e.t) t n := by
      refine hlow.imp fun e he hr ⟨⟨h1, h2⟩, h3, h4⟩ => ?_
      obtain ⟨c1, c2⟩ := hclosed e he hr h1
      rw [hlowv e.f h1 h4, hlowv e.t c2 h3]
      omega
    have hnl := hn'.len hes
    obtain ⟨L', b1, b2, b3, b4, b5⟩ := back_ok (fun _ h => h) n fuel t L hch (by omega) hpot
    rw [b1]
    refine ⟨_, rfl, .inr ⟨rfl, L', π', rfl, b2, b3, ?_, b5, ?_⟩⟩
    · rw [b4, hC2.s0]; omega
    · intro v h0 h1
      have hv := hb v h0 h1
      have hlv := hlo v h0 h1
      by_cases h : farAt far v < noneC ∧ farAt far v - π v ≤ D
      · rw [hlowv v h.1 h.2]
        have := hfin v h0 h1 h.1
        omega
      · rw [hhiv v h]
        omega
end Go.Rt

/- Walk: Bound. -/
namespace Go.Proofs.YtleldppdflgmgaaGreat
open Go.RowKit Go.Eng Go.Nw Go.Rt

def bigB (x : Int) : Bool := decide (x < 0 ∨ 1048576 < x)
def slackA (pin pout : List Int) (a : Lk) : Int := max 0 (farAt pin a.2.1 - farAt pout a.1 - a.2.2)
def slackN (s t : Int) (pin pout : List Int) (v : Nat) : Int := if (v : Int) ≠ s ∧ (v : Int) ≠ t then max 0 (farAt pout v - farAt pin v) else 0
def boundV (nodes : Nat) (L : List Lk) (s t : Int) (pin pout : List Int) : Int := 2 * (farAt pin t - farAt pout s) - sumI (slackA pin pout) L - sumI (slackN s t pin pout) (List.range nodes)
def boundE (n : Net) (s t : Int) (pin pout : List Int) : Int × Int :=
  if endsE n s t ≠ 0 then (0, endsE n s t) else if (pin.length : Int) ≠ n.nodes ∨ (pout.length : Int) ≠ n.nodes then (0, 1) else
    if (pin ++ pout).any bigB = true then (0, 2) else (boundV n.nodes.toNat (arcsE n) s t pin pout, 0)

theorem bound1_spec (x : Int) {B : Nat} {w0 : World} {H : List HP} {w : World} (hw : St B w0 H w) :
    Calls Tryz.prog 31 ([Value.int .i64 x] ++ []).toArray w (Post B w0 fun v K => v = .bool (bigB x) ∧ K = H) := by
  refine Calls_of_VC Tryz.func31 Tryz.ntmps31 rfl rfl hw ?_
  unfold bigB
  by_cases h : x < 0 ∨ 1048576 < x
  · rw [decide_eq_true h]
    repeat' (first | apply (zs1 ?_) | apply (zs2 ?_) | (apply zg1; first | refine zs3 ?_ | refine zs4 ?_) | (apply zg6; first | refine zs11 ?_ | refine zs12 ?_) | (apply (zs17 ?_ ?_) <;> intro _ <;> try (exfalso; omega)) | (apply (zs19 ?_ ?_) <;> intro _ <;> try (exfalso; omega)) | apply (zs65 ?_) | apply (zs68 ?_) | apply (zs69 ?_) | apply (zs70 ?_) | apply (zs74 ?_) | fail)
    all_goals (apply VQ_ret1; exact rfl; exact rfl; exact ⟨rfl, rfl⟩)
  · rw [decide_eq_false h]
    repeat' (first | apply (zs1 ?_) | apply (zs2 ?_) | (apply zg1; refine zs4 ?_) | (apply zg6; refine zs12 ?_) | (apply (zs17 ?_ ?_) <;> intro _ <;> try (exfalso; omega)) | (apply (zs19 ?_ ?_) <;> intro _ <;> try (exfalso; omega)) | apply (zs65 ?_) | apply (zs68 ?_) | apply (zs69 ?_) | apply (zs70 ?_) | apply (zs74 ?_) | fail)
    all_goals (apply VQ_ret1; exact rfl; exact rfl; exact ⟨rfl, rfl⟩)
theorem sumI_snoc {α : Type} (g : α → Int) (l : List α) (a : α) : sumI g (l ++ [a]) = sumI g l + g a := by rw [sumI_append, sumI_cons, sumI_nil, Int.add_zero]

set_option maxRecDepth 10000 in
set_option maxHeartbeats 2000000 in
theorem bound_spec (n : NetM) (s t : Int) (pin pout : List Int) (_hli : pin.length ≤ 500000) (_hlo : pout.length ≤ 500000) {A1 A2 : Option Addr} {c1 c2 : Nat} {B : Nat} {w0 : World} {H : List HP} {w : World} (hin : n.In B w0 H) (hri : Rd B w0 H A1 (pin.flatMap numF)) (hro : Rd B w0 H A2 (pout.flatMap numF)) (hw : St B w0 H w) :
    Calls Tryz.prog 13 [n.val, .int .i64 s, .int .i64 t, .agg #[.slice A1 pin.length c1, .slice A2 pout.length c2]].toArray w (Post B w0 fun v K => v = .tuple #[.int .i64 (boundE n.net s t pin pout).1, .int .i64 (boundE n.net s t pin pout).2] ∧ K = H) := by
  refine Calls_of_VC Tryz.func13 Tryz.ntmps13 rfl rfl hw ?_
  (apply VC_seq; apply VC_region; apply VL_box_agg; exact rfl; exact rfl; intro g)
  unfold boundE
  by_cases he : endsE n.net s t = 0
  rotate_left
  · rw [if_pos he]
    repeat' (first | ((first | apply VL_callt en20 | apply VL_callq en20); (repeat (first | exact args_nil | (apply args_cons; exact rfl))); exact rfl; exact fun _ hw => (ends_spec n s t hin.cons.cons hw)) | apply (zs1 ?_) | apply (zs2 ?_) | (apply zg3; refine zs8 ?_) | (apply zg8; (refine zs16 ?_ ?_ <;> intro _ <;> try (exfalso; omega))) | (apply zg23; (refine zs52 ?_; intro _)) | apply (zs65 ?_) | apply (zs68 ?_) | apply (zs69 ?_) | apply (zs70 ?_) | (apply zg27; refine zs71 ?_) | apply (zs74 ?_) | apply (zs77 ?_) | fail)
    (repeat apply VQ_tail)
    apply VQ_ret2; exact rfl; exact rfl; exact rfl
    exact ⟨rfl, rfl⟩
  rw [if_neg (fun h => h he)]
  obtain ⟨hck, ⟨s0, s1⟩, ⟨t0, t1⟩, hst⟩ := ends_ok he
  have hen := fun {H : List HP} {w : World} (hin : n.In B w0 H) (hw : St B w0 H w) => ends_spec n s t hin hw
  rw [he] at hen
  have hok := check_ok hck
  have hn0 := hok.n0
  have hn1 := hok.n1
  obtain ⟨nodes, hnd⟩ : ∃ k, n.net.nodes.toNat = k := ⟨_, rfl⟩
  have hnn : n.nodes = (nodes : Int) := by have : n.net.nodes = n.nodes := rfl; omega
  have hnn1 : n.net.nodes = (nodes : Int) := by omega
  have hal : (arcsE n.net).length ≤ 128 := Nat.le_trans (arcsTo_len _ _) hok.k0
  have hLo := arcs_ok hok (nodes := nodes) hnn1
  obtain ⟨L, hL⟩ : ∃ L, arcsE n.net = L := ⟨_, rfl⟩
  have hspecA := fun {H : List HP} {w : World} (hin : n.In B w0 H) (hw : St B w0 H w) => arcs_spec n hin hck hw
  rw [hL] at hal hLo hspecA
  rw [hnn1]
  by_cases h1 : (pin.length : Int) ≠ nodes ∨ (pout.length : Int) ≠ nodes
  · rw [if_pos h1]
    rcases Decidable.em ((pin.length : Int) = nodes) with h2 | h2
    · have h3 : (pout.length : Int) ≠ nodes := by omega
      repeat' (first | ((first | apply VL_callt en20 | apply VL_callq en20); (repeat (first | exact args_nil | (apply args_cons; exact rfl))); exact rfl; exact fun _ hw => (hen hin.cons.cons hw)) | apply (zs1 ?_) | apply (zs2 ?_) | (apply zg1; refine zs4 ?_) | (apply zg2; refine zs6 ?_) | (apply zg3; first | refine zs7 ?_ | refine zs8 ?_) | (apply zg4; refine zs9 ?_) | (apply zg6; refine zs12 ?_) | (apply zg8; (refine zs16 ?_ ?_ <;> intro _ <;> try (exfalso; omega))) | (apply zg23; (refine zs52 ?_; intro _)) | apply (zs65 ?_) | apply (zs68 ?_) | apply (zs69 ?_) | apply (zs70 ?_) | (apply zg27; first | refine zs71 ?_ | refine zs72 ?_) | apply (zs74 ?_) | apply (zs76 ?_) | apply (zs77 ?_) | fail)
      (repeat apply VQ_tail)
      apply VQ_ret2; exact rfl; exact rfl; exact rfl
      exact ⟨rfl, rfl⟩
    · skip
      repeat' (first | ((first | apply VL_callt en20 | apply VL_callq en20); (repeat (first | exact args_nil | (apply args_cons; exact rfl))); exact rfl; exact fun _ hw => (hen hin.cons.cons hw)) | apply (zs1 ?_) | apply (zs2 ?_) | (apply zg1; refine zs3 ?_) | (apply zg2; refine zs6 ?_) | (apply zg3; first | refine zs7 ?_ | refine zs8 ?_) | (apply zg4; refine zs9 ?_) | (apply zg6; refine zs11 ?_) | (apply zg8; (refine zs16 ?_ ?_ <;> intro _ <;> try (exfalso; omega))) | (apply zg23; (refine zs52 ?_; intro _)) | apply (zs65 ?_) | apply (zs68 ?_) | apply (zs69 ?_) | apply (zs70 ?_) | (apply zg27; first | refine zs71 ?_ | refine zs72 ?_) | apply (zs74 ?_) | apply (zs76 ?_) | apply (zs77 ?_) | fail)
      (repeat apply VQ_tail)
      apply VQ_ret2; exact rfl; exact rfl; exact rfl
      exact ⟨rfl, rfl⟩
  rw [if_neg h1]
  have h2 : (pin.length : Int) = nodes := by omega
  have h3 : (pout.length : Int) = nodes := by omega
  repeat' (first | ((first | apply VL_callt en20 | apply VL_callq en20); (repeat (first | exact args_nil | (apply args_cons; exact rfl))); exact rfl; exact fun _ hw => (hen hin.cons.cons hw)) | apply (zs1 ?_) | apply (zs2 ?_) | (apply zg1; refine zs4 ?_) | (apply zg2; refine zs6 ?_) | (apply zg3; first | refine zs7 ?_ | refine zs8 ?_) | (apply zg4; refine zs9 ?_) | (apply zg6; refine zs12 ?_) | (apply zg8; (refine zs16 ?_ ?_ <;> intro _ <;> try (exfalso; omega))) | (apply zg23; (refine zs52 ?_; intro _)) | (apply zg26; (refine zs56 ?_; intro _)) | apply (zs65 ?_) | apply (zs68 ?_) | apply (zs69 ?_) | apply (zs70 ?_) | (apply zg27; refine zs72 ?_) | apply (zs76 ?_) | fail)
  rename_i gp _ _ _ gb
  have hcat : catR [⟨A1, c1, pin⟩, ⟨A2, c2, pout⟩] = pin ++ pout := by simp [catR]
  have hcon := fun {H : List HP} {w : World} (hr : blk gb (.cells #[.slice A1 pin.length c1, .slice A2 pout.length c2] 24 (0, 0)) ∈ H) (h1 : Rd B w0 H A1 (pin.flatMap numF)) (h2 : Rd B w0 H A2 (pout.flatMap numF)) (hw : St B w0 H w) => concat_spec [⟨A1, c1, pin⟩, ⟨A2, c2, pout⟩] (cap := 2) (by simp) (by rw [hcat, List.length_append]; omega) (Rd.blk hr) (fun r hr => by
    simp only [List.mem_cons, List.not_mem_nil, or_false] at hr
    rcases hr with rfl | rfl
    · exact h1
    · exact h2) hw
  rw [hcat] at hcon
  apply VL_call _ en30
  (repeat (first | exact args_nil | (apply args_cons; exact rfl)))
  exact rfl
  exact fun _ hw => (hcon (by (focus repeat (first | with_reducible exact List.mem_cons_self | with_reducible apply List.mem_cons_of_mem | assumption))) hri.cons.cons.cons hro.cons.cons.cons (hw))
  rintro _ _ ⟨A3, c3, rfl, rfl⟩
  have hcf := fun {A : Option Addr} {c : Nat} {H : List HP} {w : World} (hr : Rd B w0 H A ((pin ++ pout).flatMap numF)) (hw : St B w0 H w) => containsFuncInts (fun a : Int => Value.int .i64 a) bigB (pin ++ pout) 31 [] en31 (cap := c) (by rw [List.length_append]; omega) hr (fun a _ w hw => bound1_spec a hw) hw
  obtain ⟨bb, hbb⟩ : ∃ b, (pin ++ pout).any bigB = b := ⟨_, rfl⟩
  rw [hbb] at hcf ⊢
  cases bb with
  | true =>
    rw [if_pos rfl]
    repeat' (first | ((first | apply VL_callt en29 | apply VL_callq en29); (repeat (first | exact args_nil | (apply args_cons; exact rfl))); exact rfl; exact fun _ hw => (hcf (.sl (by (focus repeat (first | with_reducible exact List.mem_cons_self | with_reducible apply List.mem_cons_of_mem | assumption)))) hw)) | apply (zs2 ?_) | apply (zs65 ?_) | apply (zs68 ?_) | apply (zs69 ?_) | apply (zs70 ?_) | (apply zg27; refine zs71 ?_) | apply (zs74 ?_) | apply (zs77 ?_) | fail)
    apply VQ_st H
    · exact fun w hw => hw.tail.tail.tail.tail
    apply VQ_ret2; exact rfl; exact rfl; exact rfl
    exact ⟨rfl, rfl⟩
  | false =>
    rw [if_neg (by decide)]
    have hsm : ∀ x, x ∈ pin ∨ x ∈ pout → 0 ≤ x ∧ x ≤ 1048576 := fun x hx => by
      have h := List.any_eq_false.1 hbb x (List.mem_append.2 hx)
      unfold bigB at h
      simp only [decide_eq_true_eq] at h
      omega
    have hgi : ∀ v : Int, 0 ≤ v → v < nodes → pin[v.toNat]? = some (farAt pin v) ∧ 0 ≤ farAt pin v ∧ farAt pin v ≤ 1048576 := fun v h4 h5 => by
      have h6 := farAt_get (far := pin) (i := v) (by omega)
      exact ⟨h6, hsm _ (.inl (List.mem_of_getElem? h6))⟩
    have hgo : ∀ v : Int, 0 ≤ v → v < nodes → pout[v.toNat]? = some (farAt pout v) ∧ 0 ≤ farAt pout v ∧ farAt pout v ≤ 1048576 := fun v h4 h5 => by
      have h6 := farAt_get (far := pout) (i := v) (by omega)
      exact ⟨h6, hsm _ (.inr (List.mem_of_getElem? h6))⟩
    have hriT : Rd B w0 [many H] A1 (pin.flatMap numF) := hri.manyT List.mem_cons_self
    have hroT : Rd B w0 [many H] A2 (pout.flatMap numF) := hro.manyT List.mem_cons_self
    obtain ⟨ht1, ht2⟩ := hgi t t0 (by omega)
    obtain ⟨hs1, hs2⟩ := hgo s s0 (by omega)
    repeat' (first | ((first | apply VL_callt en29 | apply VL_callq en29); (repeat (first | exact args_nil | (apply args_cons; exact rfl))); exact rfl; exact fun _ hw => (hcf (.sl (by (focus repeat (first | with_reducible exact List.mem_cons_self | with_reducible apply List.mem_cons_of_mem | assumption)))) hw)) | apply (zs1 ?_) | apply (zs2 ?_) | (apply zg2; refine zs6 ?_) | (apply zg3; first | refine zs7 ?_ | refine zs8 ?_ | refine zs60 ?_) | (apply zg5; refine zs57 ?_) | (apply zg14; refine zs31 ?_) | (apply zg15; refine zs32 ?_) | apply (zs65 ?_) | apply (zs66 ?_) | apply (zs68 ?_) | apply (zs69 ?_) | apply (zs70 ?_) | (apply zg27; refine zs72 ?_) | apply (zs76 ?_) | (apply zg28; refine zs83 ?_) | fail)
    apply VL_st (blk gp (.cells #[.slice A1 pin.length c1, .slice A2 pout.length c2] 45 (0, 0)) :: netB g n :: H)
    · (intro w hw; refine hw.perm ?_; focus repeat (first | with_reducible exact Perm.refl _ | (with_reducible apply perm_take; focus ((repeat (first | with_reducible exact rem_here | with_reducible apply rem_there)); done)) | with_reducible apply Perm.dropK))
    apply VL_call _ en21
    (repeat (first | exact args_nil | (apply args_cons; exact rfl)))
    exact rfl
    exact fun _ hw => (hspecA hin.cons.cons (hw))
    rintro _ _ ⟨A, cap, rfl, rfl⟩
    repeat' (first | apply (zs1 ?_) | (apply zg4; refine zs9 ?_) | apply (zs65 ?_) | apply (zs68 ?_) | apply (zs73 ?_) | fail)
    have hri3 : ∀ {X1 X2 X3 : HP}, Rd B w0 (X1 :: X2 :: X3 :: H) A1 (pin.flatMap numF) := hri.cons.cons.cons
    have hro3 : ∀ {X1 X2 X3 : HP}, Rd B w0 (X1 :: X2 :: X3 :: H) A2 (pout.flatMap numF) := hro.cons.cons.cons
    obtain ⟨o0, ho0⟩ : ∃ x, 2 * (farAt pin t - farAt pout s) = x := ⟨_, rfl⟩
    have ho1 : -4194304 ≤ o0 ∧ o0 ≤ 4194304 := by omega
    unfold boundV
    rw [Int.toNat_natCast, ho0, hL]
    refine VC_loop1 (fun (k : Nat) => [(58, .int .i64 k), (57, .int .i64 L.length), (56, .slice A L.length cap), (11, .int .i64 (o0 - sumI (slackA pin pout) (L.take k))), (4, .pointer (some ⟨g, 0, none⟩)), (7, .pointer (some ⟨gp, 0, none⟩)), (1, .int .i64 s), (2, .int .i64 t)]) (fun _ => arcsP A cap L :: blk gp (.cells #[.slice A1 pin.length c1, .slice A2 pout.length c2] 45 (0, 0)) :: netB g n :: H) (fun k => k ≤ L.length ∧ 0 ≤ sumI (slackA pin pout) (L.take k) ∧ sumI (slackA pin pout) (L.take k) ≤ 1048576 * (k : Int)) (fun k => L.length - k) 0 ⟨Nat.zero_le _, Int.le_refl _, Int.le_refl _⟩ ?_ (fun w hw => hw) ?_
    · rw [List.take_zero, sumI_nil, Int.sub_zero]; (repeat (first | exact sub_nil _ | (apply sub_cons; first | exact rfl | exact congrArg (fun z : Int => some (Value.int .i64 z)) (by omega))))
    rintro k ⟨hk, hs3, hs4⟩ K hK
    by_cases hlt : k < L.length
    · obtain ⟨a, ha⟩ : ∃ a, L[k]? = some a := ⟨_, List.getElem?_eq_getElem hlt⟩
      obtain ⟨⟨a1, a2⟩, ⟨a3, a4⟩, ⟨a5, a6⟩⟩ := hLo a (List.mem_of_getElem? ha)
      have hsum : sumI (slackA pin pout) (L.take (k + 1)) = sumI (slackA pin pout) (L.take k) + slackA pin pout a := by rw [List.take_add_one, ha]; exact sumI_snoc _ _ _
      obtain ⟨hi1, hi2, hi3⟩ := hgi a.2.1 a3 a4
      obtain ⟨hj1, hj2, hj3⟩ := hgo a.1 a1 a2
      obtain ⟨S, hS⟩ : ∃ x, sumI (slackA pin pout) (L.take k) = x := ⟨_, rfl⟩
      rw [hS] at hs3 hs4 hsum ⊢
      have hsl : slackA pin pout a = max 0 (farAt pin a.2.1 - farAt pout a.1 - a.2.2) := rfl
      obtain ⟨x1, hx1⟩ : ∃ x, farAt pin a.2.1 = x := ⟨_, rfl⟩
      obtain ⟨x2, hx2⟩ : ∃ x, farAt pout a.1 = x := ⟨_, rfl⟩
      rw [hx1] at hi1 hi2 hi3 hsl
      rw [hx2] at hj1 hj2 hj3 hsl
      have hri4 := hri.cons (X := netB g n)
      repeat' (first | apply (zs1 ?_) | apply (zs2 ?_) | (apply zg2; refine zs6 ?_) | (apply zg3; first | refine zs7 ?_ | refine zs60 ?_ | refine zs61 ?_) | (apply zg5; first | refine zs10 ?_ | refine zs57 ?_) | (apply (zs17 ?_ ?_) <;> intro _ <;> try (exfalso; omega)) | (apply zg13; refine zs30 ?_) | (apply zg14; refine zs31 ?_) | (apply zg22; refine zs51 ?_) | (apply zg24; (refine zs54 ?_; intro _)) | (apply (zs62 ?_ ?_) <;> intro _ <;> try (exfalso; omega)) | apply (zs65 ?_) | apply (zs66 ?_) | apply (zs68 ?_) | apply (zs69 ?_) | apply (zs70 ?_) | (apply zg27; refine zs71 ?_) | apply (zs73 ?_) | apply (zs76 ?_) | apply (zs79 ?_) | (apply zg28; refine zs83 ?_) | fail)
      all_goals (
        apply hK (k + 1)
        · refine ⟨by omega, ?_, ?_⟩
          · rw [hsum, hsl]; omega
          · rw [hsum, hsl]; omega
        · omega
        · rw [hsum, hsl]; (repeat (first | exact sub_nil _ | (apply sub_cons; first | exact rfl | exact congrArg (fun z : Int => some (Value.int .i64 z)) (by omega))))
        · exact fun w hw => hw.tail)
    · obtain rfl : k = L.length := by omega
      clear hK
      rw [List.take_length] at hs3 hs4 ⊢
      obtain ⟨S, hS⟩ : ∃ x, sumI (slackA pin pout) L = x := ⟨_, rfl⟩
      rw [hS] at hs3 hs4 ⊢
      repeat' (first | apply (zs1 ?_) | (apply zg2; refine zs6 ?_) | (apply zg3; refine zs7 ?_) | (apply (zs17 ?_ ?_) <;> intro _ <;> try (exfalso; omega)) | apply (zs65 ?_) | apply (zs68 ?_) | apply (zs69 ?_) | apply (zs70 ?_) | (apply zg27; refine zs72 ?_) | apply (zs73 ?_) | apply (zs75 ?_) | apply (zs80 ?_) | apply (zs81 ?_) | fail)
      rw [hnn]
      refine VC_loop1 (fun (k : Nat) => [(84, .int .i64 k), (83, .int .i64 (nodes : Int)), (11, .int .i64 (o0 - S - sumI (slackN s t pin pout) (List.range k))), (7, .pointer (some ⟨gp, 0, none⟩)), (1, .int .i64 s), (2, .int .i64 t)]) (fun _ => blk gp (.cells #[.slice A1 pin.length c1, .slice A2 pout.length c2] 45 (0, 0)) :: H) (fun k => k ≤ nodes ∧ 0 ≤ sumI (slackN s t pin pout) (List.range k) ∧ sumI (slackN s t pin pout) (List.range k) ≤ 1048576 * (k : Int)) (fun k => nodes - k) 0 ⟨Nat.zero_le _, Int.le_refl _, Int.le_refl _⟩ ?_ ?_ ?_
      · rw [List.range_zero, sumI_nil, Int.sub_zero]; (repeat (first | exact sub_nil _ | (apply sub_cons; first | exact rfl | exact congrArg (fun z : Int => some (Value.int .i64 z)) (by omega))))
      · (intro w hw; refine hw.perm ?_; focus repeat (first | with_reducible exact Perm.refl _ | (with_reducible apply perm_take; focus ((repeat (first | with_reducible exact rem_here | with_reducible apply rem_there)); done)) | with_reducible apply Perm.dropK))
      rintro k ⟨hk, hs5, hs6⟩ K hK
      by_cases hlt : k < nodes
      · have hsum : sumI (slackN s t pin pout) (List.range (k + 1)) = sumI (slackN s t pin pout) (List.range k) + slackN s t pin pout k := by rw [List.range_succ]; exact sumI_snoc _ _ _
        obtain ⟨hi1, hi2, hi3⟩ := hgi (k : Int) (by omega) (by omega)
        obtain ⟨hj1, hj2, hj3⟩ := hgo (k : Int) (by omega) (by omega)
        obtain ⟨S2, hS2⟩ : ∃ x, sumI (slackN s t pin pout) (List.range k) = x := ⟨_, rfl⟩
        rw [hS2] at hs5 hs6 hsum ⊢
        have hsl : slackN s t pin pout k = if (k : Int) ≠ s ∧ (k : Int) ≠ t then max 0 (farAt pout k - farAt pin k) else 0 := rfl
        obtain ⟨x1, hx1⟩ : ∃ x, farAt pin (k : Int) = x := ⟨_, rfl⟩
        obtain ⟨x2, hx2⟩ : ∃ x, farAt pout (k : Int) = x := ⟨_, rfl⟩
        rw [hx1] at hi1 hi2 hi3 hsl
        rw [hx2] at hj1 hj2 hj3 hsl
        have hri1 := hri.cons (X := blk gp (.cells #[.slice A1 pin.length c1, .slice A2 pout.length c2] 45 (0, 0)))
        have hro1 := hro.cons (X := blk gp (.cells #[.slice A1 pin.length c1, .slice A2 pout.length c2] 45 (0, 0)))
        by_cases hin2 : (k : Int) ≠ s ∧ (k : Int) ≠ t
        · rw [if_pos hin2] at hsl
          repeat' (first | apply (zs1 ?_) | apply (zs2 ?_) | (apply zg1; refine zs4 ?_) | (apply zg2; refine zs6 ?_) | (apply zg3; first | refine zs7 ?_ | refine zs60 ?_) | (apply zg5; refine zs57 ?_) | (apply zg6; refine zs11 ?_) | (apply zg8; (refine zs16 ?_ ?_ <;> intro _ <;> try (exfalso; omega))) | (apply (zs17 ?_ ?_) <;> intro _ <;> try (exfalso; omega)) | (apply zg13; refine zs30 ?_) | (apply zg14; refine zs31 ?_) | (apply (zs62 ?_ ?_) <;> intro _ <;> try (exfalso; omega)) | apply (zs65 ?_) | apply (zs66 ?_) | apply (zs68 ?_) | apply (zs69 ?_) | apply (zs70 ?_) | (apply zg27; refine zs71 ?_) | apply (zs73 ?_) | apply (zs76 ?_) | apply (zs79 ?_) | (apply zg28; refine zs83 ?_) | fail)
          all_goals (
            apply hK (k + 1)
            · refine ⟨by omega, ?_, ?_⟩
              · rw [hsum, hsl]; omega
              · rw [hsum, hsl]; omega
            · omega
            · rw [hsum, hsl]; (repeat (first | exact sub_nil _ | (apply sub_cons; first | exact rfl | exact congrArg (fun z : Int => some (Value.int .i64 z)) (by omega))))
            · exact fun w hw => hw)
        · rw [if_neg hin2] at hsl
          repeat' (first | apply (zs1 ?_) | apply (zs2 ?_) | (apply zg1; first | refine zs3 ?_ | refine zs4 ?_) | (apply zg6; first | refine zs11 ?_ | refine zs12 ?_) | (apply zg8; (refine zs16 ?_ ?_ <;> intro _ <;> try (exfalso; omega))) | (apply (zs17 ?_ ?_) <;> intro _ <;> try (exfalso; omega)) | (apply zg13; refine zs30 ?_) | apply (zs65 ?_) | apply (zs68 ?_) | apply (zs69 ?_) | apply (zs70 ?_) | (apply zg27; first | refine zs71 ?_ | refine zs72 ?_) | apply (zs73 ?_) | apply (zs76 ?_) | apply (zs79 ?_) | fail)
          all_goals (
            apply hK (k + 1)
            · refine ⟨by omega, ?_, ?_⟩
              · rw [hsum, hsl]; omega
              · rw [hsum, hsl]; omega
            · omega
            · rw [hsum, hsl]; (repeat (first | exact sub_nil _ | (apply sub_cons; first | exact rfl | exact congrArg (fun z : Int => some (Value.int .i64 z)) (by omega))))
            · exact fun w hw => hw)
      · obtain rfl : k = nodes := by omega
        clear hK
        repeat' (first | apply (zs1 ?_) | apply (zs2 ?_) | (apply (zs17 ?_ ?_) <;> intro _ <;> try (exfalso; omega)) | apply (zs65 ?_) | apply (zs68 ?_) | apply (zs69 ?_) | apply (zs70 ?_) | (apply zg27; refine zs72 ?_) | apply (zs74 ?_) | apply (zs75 ?_) | apply (zs80 ?_) | apply (zs81 ?_) | fail)
        apply VQ_tail
        apply VQ_ret2; exact rfl; exact rfl; exact rfl
        exact ⟨rfl, rfl⟩
end Go.Proofs.YtleldppdflgmgaaGreat

/- Walk: Disjoint. -/
namespace Go.Proofs.YtleldppdflgmgaaGreat
open Go.RowKit Go.Eng Go.Nw Go.Rt

theorem any_false2 {p : Nat → Bool} {k : Nat} (h : (List.range k).any p = false) (h2 : p k = false) : (List.range (k + 1)).any p = false := by
  rw [any_range_step, h, h2]; rfl
set_option maxRecDepth 10000 in
set_option maxHeartbeats 1000000 in
theorem disjoint_spec (a b : List Int) (hla : a.length ≤ 1000000000000) (hlb : b.length ≤ 1000000000000) {A1 A2 : Option Addr} {c1 c2 B : Nat} {w0 : World} {H : List HP} {w : World} (hr1 : Rd B w0 H A1 (a.flatMap numF)) (hr2 : Rd B w0 H A2 (b.flatMap numF)) (hw : St B w0 H w) :
    Calls Tryz.prog 17 [.slice A1 a.length c1, .slice A2 b.length c2].toArray w (Post B w0 fun v K => v = .bool (disjE a b) ∧ K = H) := by
  refine Calls_of_VC Tryz.func17 Tryz.ntmps17 rfl rfl hw ?_
  have heq := fun {w : World} (hw : St B w0 H w) => equal_route a b (by omega) (by omega) (cap := c1) (cap2 := c2) hr1 hr2 hw
  by_cases h1 : a.length < 2
  · have hd : disjE a b = false := by unfold disjE; rw [decide_eq_false (by omega)]; rfl
    rw [hd]
    repeat' (first | apply (zs1 ?_) | apply (zs2 ?_) | (apply zg1; refine zs3 ?_) | (apply zg4; refine zs9 ?_) | (apply zg6; refine zs11 ?_) | (apply (zs17 ?_ ?_) <;> intro _ <;> try (exfalso; omega)) | apply (zs65 ?_) | apply (zs66 ?_) | apply (zs68 ?_) | apply (zs69 ?_) | apply (zs70 ?_) | (apply zg27; refine zs71 ?_) | apply (zs74 ?_) | apply (zs77 ?_) | (apply zg28; refine zs84 ?_) | fail)
    apply VQ_ret1; exact rfl; exact rfl; exact ⟨rfl, rfl⟩
  by_cases h2 : b.length < 2
  · have hd : disjE a b = false := by unfold disjE; rw [decide_eq_false (by omega)]; rfl
    rw [hd]
    repeat' (first | apply (zs1 ?_) | apply (zs2 ?_) | (apply zg1; first | refine zs3 ?_ | refine zs4 ?_) | (apply zg4; refine zs9 ?_) | (apply zg6; first | refine zs11 ?_ | refine zs12 ?_) | (apply (zs17 ?_ ?_) <;> intro _ <;> try (exfalso; omega)) | apply (zs65 ?_) | apply (zs66 ?_) | apply (zs68 ?_) | apply (zs69 ?_) | apply (zs70 ?_) | (apply zg27; refine zs71 ?_) | apply (zs74 ?_) | apply (zs77 ?_) | (apply zg28; refine zs84 ?_) | fail)
    apply VQ_ret1; exact rfl; exact rfl; exact ⟨rfl, rfl⟩
  by_cases h3 : a = b
  · have hd : disjE a b = false := by unfold disjE; rw [decide_eq_false (fun h => h.2.2.1 h3)]; rfl
    rw [hd]
    rw [decide_eq_true h3] at heq
    repeat' (first | ((first | apply VL_callt en15 | apply VL_callq en15); (repeat (first | exact args_nil | (apply args_cons; exact rfl))); exact rfl; exact fun _ hw => (heq hw)) | apply (zs1 ?_) | apply (zs2 ?_) | (apply zg1; first | refine zs3 ?_ | refine zs4 ?_) | (apply zg4; refine zs9 ?_) | (apply zg6; first | refine zs11 ?_ | refine zs12 ?_) | (apply (zs17 ?_ ?_) <;> intro _ <;> try (exfalso; omega)) | apply (zs65 ?_) | apply (zs66 ?_) | apply (zs68 ?_) | apply (zs69 ?_) | apply (zs70 ?_) | (apply zg27; refine zs71 ?_) | apply (zs74 ?_) | apply (zs77 ?_) | (apply zg28; refine zs84 ?_) | fail)
    apply VQ_ret1; exact rfl; exact rfl; exact ⟨rfl, rfl⟩
  rw [decide_eq_false h3] at heq
  have ga0 := getD_get (l := a) (i := 0) (by omega)
  have gb0 := getD_get (l := b) (i := 0) (by omega)
  have ga1 := getD_get (l := a) (i := a.length - 1) (by omega)
  have gb1 := getD_get (l := b) (i := b.length - 1) (by omega)
  have ea1 : ((a.length : Int) - 1).toNat = a.length - 1 := by omega
  have eb1 : ((b.length : Int) - 1).toNat = b.length - 1 := by omega
  by_cases h4 : a.getD 0 0 ≠ b.getD 0 0
  · have hd : disjE a b = false := by unfold disjE; rw [decide_eq_false (fun h => h4 h.2.2.2.1)]; rfl
    rw [hd]
    repeat' (first | ((first | apply VL_callt en15 | apply VL_callq en15); (repeat (first | exact args_nil | (apply args_cons; exact rfl))); exact rfl; exact fun _ hw => (heq hw)) | apply (zs1 ?_) | apply (zs2 ?_) | (apply zg1; first | refine zs3 ?_ | refine zs4 ?_) | (apply zg3; refine zs60 ?_) | (apply zg4; refine zs9 ?_) | (apply zg5; refine zs57 ?_) | (apply zg6; first | refine zs11 ?_ | refine zs12 ?_) | (apply zg8; (refine zs16 ?_ ?_ <;> intro _ <;> try (exfalso; omega))) | (apply (zs17 ?_ ?_) <;> intro _ <;> try (exfalso; omega)) | apply (zs65 ?_) | apply (zs66 ?_) | apply (zs68 ?_) | apply (zs69 ?_) | apply (zs70 ?_) | (apply zg27; refine zs71 ?_) | apply (zs74 ?_) | apply (zs77 ?_) | (apply zg28; refine zs84 ?_) | fail)
    apply VQ_ret1; exact rfl; exact rfl; exact ⟨rfl, rfl⟩
  by_cases h5 : a.getD (a.length - 1) 0 ≠ b.getD (b.length - 1) 0
  · have hd : disjE a b = false := by unfold disjE; rw [decide_eq_false (fun h => h5 h.2.2.2.2)]; rfl
    rw [hd]
    rw [← ea1] at ga1 h5
    rw [← eb1] at gb1 h5
    repeat' (first | ((first | apply VL_callt en15 | apply VL_callq en15); (repeat (first | exact args_nil | (apply args_cons; exact rfl))); exact rfl; exact fun _ hw => (heq hw)) | apply (zs1 ?_) | apply (zs2 ?_) | (apply zg1; refine zs4 ?_) | (apply zg3; refine zs60 ?_) | (apply zg4; refine zs9 ?_) | (apply zg5; refine zs57 ?_) | (apply zg6; refine zs12 ?_) | (apply zg8; (refine zs16 ?_ ?_ <;> intro _ <;> try (exfalso; omega))) | (apply (zs17 ?_ ?_) <;> intro _ <;> try (exfalso; omega)) | (apply zg14; refine zs31 ?_) | apply (zs65 ?_) | apply (zs66 ?_) | apply (zs68 ?_) | apply (zs69 ?_) | apply (zs70 ?_) | (apply zg27; refine zs71 ?_) | apply (zs74 ?_) | apply (zs77 ?_) | (apply zg28; refine zs84 ?_) | fail)
    apply VQ_ret1; exact rfl; exact rfl; exact ⟨rfl, rfl⟩
  have hd : disjE a b = !(List.range a.length).any fun i => (List.range b.length).any fun k => meetAt a b i k := by
    unfold disjE; rw [decide_eq_true ⟨by omega, by omega, h3, by omega, by omega⟩]; rfl
  rw [hd]
  rw [← ea1] at ga1 h5
  rw [← eb1] at gb1 h5
  repeat' (first | ((first | apply VL_callt en15 | apply VL_callq en15); (repeat (first | exact args_nil | (apply args_cons; exact rfl))); exact rfl; exact fun _ hw => (heq hw)) | apply (zs1 ?_) | apply (zs2 ?_) | (apply zg1; refine zs4 ?_) | (apply zg3; refine zs60 ?_) | (apply zg4; refine zs9 ?_) | (apply zg5; refine zs57 ?_) | (apply zg6; refine zs12 ?_) | (apply zg8; (refine zs16 ?_ ?_ <;> intro _ <;> try (exfalso; omega))) | (apply (zs17 ?_ ?_) <;> intro _ <;> try (exfalso; omega)) | (apply zg14; refine zs31 ?_) | apply (zs65 ?_) | apply (zs66 ?_) | apply (zs68 ?_) | apply (zs69 ?_) | apply (zs70 ?_) | (apply zg27; refine zs72 ?_) | apply (zs73 ?_) | apply (zs76 ?_) | (apply zg28; refine zs84 ?_) | fail)
  clear ga0 gb0 ga1 gb1 h4 h5 hd heq
  refine VC_loop1 (fun (i : Nat) => [(49, .int .i64 i), (48, .int .i64 a.length), (47, .slice A1 a.length c1), (0, .slice A1 a.length c1), (1, .slice A2 b.length c2)]) (fun _ => H) (fun i => i ≤ a.length ∧ ((List.range i).any fun i => (List.range b.length).any fun k => meetAt a b i k) = false) (fun i => a.length - i) 0 ⟨Nat.zero_le _, rfl⟩ ?_ (fun w hw => hw) ?_
  · (repeat (first | exact sub_nil _ | (apply sub_cons; first | exact rfl | exact congrArg (fun z : Int => some (Value.int .i64 z)) (by omega))))
  rintro i ⟨hi, hiv⟩ K hK
  by_cases hlt : i < a.length
  · have hgi := getD_get (l := a) (i := i) hlt
    obtain ⟨x, hx⟩ : ∃ x, a.getD i 0 = x := ⟨_, rfl⟩
    rw [hx] at hgi
    repeat' (first | apply (zs1 ?_) | apply (zs2 ?_) | (apply zg3; refine zs60 ?_) | (apply zg4; refine zs9 ?_) | (apply zg5; refine zs57 ?_) | (apply (zs17 ?_ ?_) <;> intro _ <;> try (exfalso; omega)) | apply (zs65 ?_) | apply (zs68 ?_) | apply (zs69 ?_) | apply (zs70 ?_) | (apply zg27; refine zs71 ?_) | apply (zs73 ?_) | apply (zs76 ?_) | fail)
    refine VC_loop1 (fun (k : Nat) => [(56, .int .i64 k), (55, .int .i64 b.length), (54, .slice A2 b.length c2), (5, .int .i64 i), (6, .int .i64 x), (49, .int .i64 i), (48, .int .i64 a.length), (47, .slice A1 a.length c1), (0, .slice A1 a.length c1), (1, .slice A2 b.length c2)]) (fun _ => H) (fun k => k ≤ b.length ∧ ((List.range k).any fun k => meetAt a b i k) = false) (fun k => b.length - k) 0 ⟨Nat.zero_le _, rfl⟩ ?_ (fun w hw => hw) ?_
    · (repeat (first | exact sub_nil _ | (apply sub_cons; first | exact rfl | exact congrArg (fun z : Int => some (Value.int .i64 z)) (by omega))))
    rintro k ⟨hk, hkv⟩ K2 hK2
    by_cases hlt2 : k < b.length
    · have hgk := getD_get (l := b) (i := k) hlt2
      obtain ⟨y, hy⟩ : ∃ y, b.getD k 0 = y := ⟨_, rfl⟩
      rw [hy] at hgk
      by_cases hm : x = y ∧ ¬ ((i = 0 ∧ k = 0) ∨ (i + 1 = a.length ∧ k + 1 = b.length))
      · have hmt : meetAt a b i k = true := by unfold meetAt; rw [hx, hy]; exact decide_eq_true hm
        have hall : ((List.range a.length).any fun i => (List.range b.length).any fun k => meetAt a b i k) = true := any_true (p := fun i => (List.range b.length).any fun k => meetAt a b i k) hlt (any_true (p := fun k => meetAt a b i k) hlt2 hmt)
        rw [hall]
        clear hK hK2
        repeat' (first | apply (zs1 ?_) | apply (zs2 ?_) | (apply zg1; first | refine zs3 ?_ | refine zs4 ?_) | (apply zg3; refine zs60 ?_) | (apply zg4; refine zs9 ?_) | (apply zg5; refine zs57 ?_) | (apply zg6; first | refine zs11 ?_ | refine zs12 ?_) | (apply zg7; (refine zs15 ?_ ?_ <;> intro _ <;> try (exfalso; omega))) | (apply (zs17 ?_ ?_) <;> intro _ <;> try (exfalso; omega)) | (apply zg14; refine zs31 ?_) | (apply zg20; refine zs48 ?_) | apply (zs65 ?_) | apply (zs68 ?_) | apply (zs69 ?_) | apply (zs70 ?_) | (apply zg27; refine zs71 ?_) | apply (zs73 ?_) | apply (zs74 ?_) | apply (zs76 ?_) | apply (zs77 ?_) | apply (zs78 ?_) | fail)
        all_goals (apply VQ_ret1; exact rfl; exact rfl; exact ⟨rfl, rfl⟩)
      · have hmt : meetAt a b i k = false := by unfold meetAt; rw [hx, hy]; exact decide_eq_false hm
        repeat' (first | apply (zs1 ?_) | apply (zs2 ?_) | (apply zg1; first | refine zs3 ?_ | refine zs4 ?_) | (apply zg3; refine zs60 ?_) | (apply zg4; refine zs9 ?_) | (apply zg5; refine zs57 ?_) | (apply zg6; first | refine zs11 ?_ | refine zs12 ?_) | (apply zg7; (refine zs15 ?_ ?_ <;> intro _ <;> try (exfalso; omega))) | (apply (zs17 ?_ ?_) <;> intro _ <;> try (exfalso; omega)) | (apply zg13; refine zs30 ?_) | (apply zg14; refine zs31 ?_) | (apply zg20; refine zs47 ?_) | apply (zs65 ?_) | apply (zs68 ?_) | apply (zs69 ?_) | apply (zs70 ?_) | (apply zg27; first | refine zs71 ?_ | refine zs72 ?_) | apply (zs73 ?_) | apply (zs76 ?_) | apply (zs79 ?_) | fail)
        all_goals (
          apply hK2 (k + 1)
          · exact ⟨by omega, any_false2 hkv hmt⟩
          · omega
          · (repeat (first | exact sub_nil _ | (apply sub_cons; first | exact rfl | exact congrArg (fun z : Int => some (Value.int .i64 z)) (by omega))))
          · exact fun w hw => hw)
    · obtain rfl : k = b.length := by omega
      clear hK2
      repeat' (first | apply (zs1 ?_) | (apply (zs17 ?_ ?_) <;> intro _ <;> try (exfalso; omega)) | (apply zg13; refine zs30 ?_) | apply (zs65 ?_) | apply (zs68 ?_) | apply (zs69 ?_) | apply (zs70 ?_) | (apply zg27; refine zs72 ?_) | apply (zs75 ?_) | apply (zs79 ?_) | apply (zs80 ?_) | apply (zs81 ?_) | fail)
      apply hK (i + 1)
      · exact ⟨by omega, any_false2 hiv hkv⟩
      · omega
      · (repeat (first | exact sub_nil _ | (apply sub_cons; first | exact rfl | exact congrArg (fun z : Int => some (Value.int .i64 z)) (by omega))))
      · exact fun w hw => hw
  · obtain rfl : i = a.length := by omega
    clear hK
    rw [hiv]
    repeat' (first | apply (zs2 ?_) | (apply (zs17 ?_ ?_) <;> intro _ <;> try (exfalso; omega)) | apply (zs65 ?_) | apply (zs68 ?_) | apply (zs69 ?_) | apply (zs70 ?_) | (apply zg27; refine zs72 ?_) | apply (zs74 ?_) | apply (zs75 ?_) | apply (zs80 ?_) | apply (zs81 ?_) | fail)
    apply VQ_ret1; exact rfl; exact rfl; exact ⟨rfl, rfl⟩
end Go.Proofs.YtleldppdflgmgaaGreat

/- Walks: equal lists of routes; the chapter's example. -/
namespace Go.Proofs.YtleldppdflgmgaaGreat
open Go.RowKit Go.Eng Go.Nw Go.Rt

theorem sameIntsB_spec (l m : List Int) (hlen : l.length ≤ 1000000000000) (_hlen2 : m.length ≤ 1000000000000) {A A2 : Option Addr} {cap cap2 B : Nat} {w0 : World} {H : List HP} {w : World} (hr : Rd B w0 H A (l.flatMap numF)) (hr2 : Rd B w0 H A2 (m.flatMap numF)) (hw : St B w0 H w) :
    Calls Tryz.prog 35 [.slice A l.length cap, .slice A2 m.length cap2].toArray w (Post B w0 fun u K => u = .bool (decide (l = m)) ∧ K = H) := by
  refine Calls_of_VC Tryz.func35 Tryz.ntmps35 rfl rfl hw ?_
  by_cases hll : l.length = m.length
  rotate_left
  · repeat' (first | apply (zs1 ?_) | apply (zs2 ?_) | (apply zg4; refine zs9 ?_) | (apply zg8; (refine zs16 ?_ ?_ <;> intro _ <;> try (exfalso; omega))) | apply (zs65 ?_) | apply (zs68 ?_) | apply (zs69 ?_) | apply (zs70 ?_) | (apply zg27; refine zs71 ?_) | apply (zs74 ?_) | apply (zs77 ?_) | fail)
    apply VQ_ret1; exact rfl; exact rfl
    exact ⟨by rw [decide_eq_false fun e => hll (by rw [e])], rfl⟩
  repeat' (first | apply (zs1 ?_) | apply (zs2 ?_) | (apply zg4; refine zs9 ?_) | (apply zg8; (refine zs16 ?_ ?_ <;> intro _ <;> try (exfalso; omega))) | apply (zs65 ?_) | apply (zs68 ?_) | apply (zs69 ?_) | apply (zs70 ?_) | (apply zg27; refine zs72 ?_) | apply (zs73 ?_) | apply (zs76 ?_) | fail)
  refine VC_loop1 (fun (k : Nat) => [(5, .int .i64 k), (0, .slice A l.length cap), (1, .slice A2 m.length cap2)]) (fun _ => H) (fun k => k ≤ l.length ∧ l.take k = m.take k) (fun k => l.length - k) 0 ⟨Nat.zero_le _, by simp⟩ ?_ (fun w hw => hw) ?_
  · (repeat (first | exact sub_nil _ | (apply sub_cons; first | exact rfl | exact congrArg (fun z : Int => some (Value.int .i64 z)) (by omega))))
  rintro k ⟨hk, hi⟩ K hK
  by_cases hlt : k < l.length
  · obtain ⟨a, ha⟩ : ∃ a, l[k]? = some a := ⟨_, List.getElem?_eq_getElem hlt⟩
    obtain ⟨b, hb⟩ : ∃ b, m[k]? = some b := ⟨_, List.getElem?_eq_getElem (by omega)⟩
    by_cases hab : a = b
    · repeat' (first | apply (zs1 ?_) | apply (zs2 ?_) | (apply zg3; refine zs60 ?_) | (apply zg4; refine zs9 ?_) | (apply zg5; refine zs57 ?_) | (apply zg8; (refine zs16 ?_ ?_ <;> intro _ <;> try (exfalso; omega))) | (apply (zs17 ?_ ?_) <;> intro _ <;> try (exfalso; omega)) | (apply zg13; refine zs30 ?_) | apply (zs65 ?_) | apply (zs66 ?_) | apply (zs68 ?_) | apply (zs69 ?_) | apply (zs70 ?_) | (apply zg27; first | refine zs71 ?_ | refine zs72 ?_) | apply (zs73 ?_) | apply (zs76 ?_) | apply (zs79 ?_) | (apply zg28; refine zs83 ?_) | fail)
      apply hK (k + 1)
      · exact ⟨by omega, by rw [take_snoc ha, take_snoc hb, hi, hab]⟩
      · omega
      · (repeat (first | exact sub_nil _ | (apply sub_cons; first | exact rfl | exact congrArg (fun z : Int => some (Value.int .i64 z)) (by omega))))
      · exact fun w hw => hw
    · repeat' (first | apply (zs1 ?_) | apply (zs2 ?_) | (apply zg3; refine zs60 ?_) | (apply zg4; refine zs9 ?_) | (apply zg5; refine zs57 ?_) | (apply zg8; (refine zs16 ?_ ?_ <;> intro _ <;> try (exfalso; omega))) | (apply (zs17 ?_ ?_) <;> intro _ <;> try (exfalso; omega)) | apply (zs65 ?_) | apply (zs66 ?_) | apply (zs68 ?_) | apply (zs69 ?_) | apply (zs70 ?_) | (apply zg27; refine zs71 ?_) | apply (zs73 ?_) | apply (zs74 ?_) | apply (zs76 ?_) | apply (zs77 ?_) | apply (zs78 ?_) | (apply zg28; refine zs83 ?_) | fail)
      apply VQ_ret1; exact rfl; exact rfl
      exact ⟨by rw [decide_eq_false fun e => by rw [e, hb] at ha; exact hab (Option.some.inj ha).symm], rfl⟩
  · repeat' (first | apply (zs1 ?_) | apply (zs2 ?_) | (apply zg4; refine zs9 ?_) | (apply (zs17 ?_ ?_) <;> intro _ <;> try (exfalso; omega)) | apply (zs65 ?_) | apply (zs68 ?_) | apply (zs69 ?_) | apply (zs70 ?_) | (apply zg27; refine zs72 ?_) | apply (zs74 ?_) | apply (zs75 ?_) | apply (zs80 ?_) | apply (zs81 ?_) | fail)
    apply VQ_ret1; exact rfl; exact rfl
    rw [List.take_of_length_le (by omega), List.take_of_length_le (by omega)] at hi
    exact ⟨by rw [decide_eq_true hi], rfl⟩
/-- Lists of routes in memory. -/
theorem sameRoutes_spec (l m : List RowM) (hlen : l.length ≤ 1000000000000) (_hlen2 : m.length ≤ 1000000000000) (hl2 : ∀ r ∈ l, r.xs.length ≤ 1000000000000) (hm2 : ∀ r ∈ m, r.xs.length ≤ 1000000000000) {A A2 : Option Addr} {cap cap2 B : Nat} {w0 : World} {H : List HP} {w : World} (hr : Rd B w0 H A (l.flatMap rowF)) (hr2 : Rd B w0 H A2 (m.flatMap rowF)) (hrl : ∀ r ∈ l, Rd B w0 H r.A (r.xs.flatMap numF)) (hrm : ∀ r ∈ m, Rd B w0 H r.A (r.xs.flatMap numF)) (hw : St B w0 H w) :
    Calls Tryz.prog 16 [.slice A l.length cap, .slice A2 m.length cap2].toArray w (Post B w0 fun u K => u = .bool (decide (l.map (·.xs) = m.map (·.xs))) ∧ K = H) := by
  refine Calls_of_VC Tryz.func16 Tryz.ntmps16 rfl rfl hw ?_
  by_cases hll : l.length = m.length
  rotate_left
  · repeat' (first | apply (zs1 ?_) | apply (zs2 ?_) | (apply zg4; refine zs9 ?_) | (apply zg8; (refine zs16 ?_ ?_ <;> intro _ <;> try (exfalso; omega))) | apply (zs65 ?_) | apply (zs68 ?_) | apply (zs69 ?_) | apply (zs70 ?_) | (apply zg27; refine zs71 ?_) | apply (zs74 ?_) | apply (zs77 ?_) | fail)
    apply VQ_ret1; exact rfl; exact rfl
    exact ⟨by rw [decide_eq_false fun e => hll (by have := congrArg List.length e; simpa using this)], rfl⟩
  repeat' (first | apply (zs1 ?_) | apply (zs2 ?_) | (apply zg4; refine zs9 ?_) | (apply zg8; (refine zs16 ?_ ?_ <;> intro _ <;> try (exfalso; omega))) | apply (zs65 ?_) | apply (zs68 ?_) | apply (zs69 ?_) | apply (zs70 ?_) | (apply zg27; refine zs72 ?_) | apply (zs73 ?_) | apply (zs76 ?_) | fail)
  refine VC_loop1 (fun (k : Nat) => [(5, .int .i64 k), (0, .slice A l.length cap), (1, .slice A2 m.length cap2)]) (fun _ => H) (fun k => k ≤ l.length ∧ (l.take k).map (·.xs) = (m.take k).map (·.xs)) (fun k => l.length - k) 0 ⟨Nat.zero_le _, by simp⟩ ?_ (fun w hw => hw) ?_
  · (repeat (first | exact sub_nil _ | (apply sub_cons; first | exact rfl | exact congrArg (fun z : Int => some (Value.int .i64 z)) (by omega))))
  rintro k ⟨hk, hi⟩ K hK
  by_cases hlt : k < l.length
  · obtain ⟨a, ha⟩ : ∃ a, l[k]? = some a := ⟨_, List.getElem?_eq_getElem hlt⟩
    obtain ⟨b, hb⟩ : ∃ b, m[k]? = some b := ⟨_, List.getElem?_eq_getElem (by omega)⟩
    have ham := List.mem_of_getElem? ha
    have hbm := List.mem_of_getElem? hb
    have hss := fun {w : World} (hw : St B w0 H w) => sameIntsB_spec a.xs b.xs (cap := a.cap) (cap2 := b.cap) (hl2 a ham) (hm2 b hbm) (hrl a ham) (hrm b hbm) hw
    by_cases hab : a.xs = b.xs
    · rw [decide_eq_true hab] at hss
      repeat' (first | ((first | apply VL_callt en35 | apply VL_callq en35); (repeat (first | exact args_nil | (apply args_cons; exact rfl))); exact rfl; exact fun _ hw => (hss hw)) | apply (zs1 ?_) | apply (zs2 ?_) | (apply zg3; refine zs60 ?_) | (apply zg4; refine zs9 ?_) | (apply zg5; refine zs57 ?_) | (apply (zs17 ?_ ?_) <;> intro _ <;> try (exfalso; omega)) | (apply zg13; refine zs30 ?_) | (apply zg20; refine zs47 ?_) | apply (zs65 ?_) | apply (zs66 ?_) | apply (zs68 ?_) | apply (zs69 ?_) | apply (zs70 ?_) | (apply zg27; first | refine zs71 ?_ | refine zs72 ?_) | apply (zs73 ?_) | apply (zs76 ?_) | apply (zs79 ?_) | (apply zg28; refine zs84 ?_) | fail)
      apply hK (k + 1)
      · exact ⟨by omega, by rw [List.take_add_one, List.take_add_one, ha, hb, List.map_append, List.map_append, hi]; simp [hab]⟩
      · omega
      · (repeat (first | exact sub_nil _ | (apply sub_cons; first | exact rfl | exact congrArg (fun z : Int => some (Value.int .i64 z)) (by omega))))
      · exact fun w hw => hw
    · rw [decide_eq_false hab] at hss
      repeat' (first | ((first | apply VL_callt en35 | apply VL_callq en35); (repeat (first | exact args_nil | (apply args_cons; exact rfl))); exact rfl; exact fun _ hw => (hss hw)) | apply (zs1 ?_) | apply (zs2 ?_) | (apply zg3; refine zs60 ?_) | (apply zg4; refine zs9 ?_) | (apply zg5; refine zs57 ?_) | (apply (zs17 ?_ ?_) <;> intro _ <;> try (exfalso; omega)) | (apply zg20; refine zs48 ?_) | apply (zs65 ?_) | apply (zs66 ?_) | apply (zs68 ?_) | apply (zs69 ?_) | apply (zs70 ?_) | (apply zg27; refine zs71 ?_) | apply (zs73 ?_) | apply (zs74 ?_) | apply (zs76 ?_) | apply (zs77 ?_) | apply (zs78 ?_) | (apply zg28; refine zs84 ?_) | fail)
      apply VQ_ret1; exact rfl; exact rfl
      have hne : ¬ (l.map (·.xs) = m.map (·.xs)) := fun e => by
        have h1 : (l.map (·.xs))[k]? = (m.map (·.xs))[k]? := by rw [e]
        rw [List.getElem?_map, List.getElem?_map, ha, hb] at h1
        exact hab (Option.some.inj h1)
      exact ⟨by rw [decide_eq_false hne], rfl⟩
  · repeat' (first | apply (zs1 ?_) | apply (zs2 ?_) | (apply zg4; refine zs9 ?_) | (apply (zs17 ?_ ?_) <;> intro _ <;> try (exfalso; omega)) | apply (zs65 ?_) | apply (zs68 ?_) | apply (zs69 ?_) | apply (zs70 ?_) | (apply zg27; refine zs72 ?_) | apply (zs74 ?_) | apply (zs75 ?_) | apply (zs80 ?_) | apply (zs81 ?_) | fail)
    apply VQ_ret1; exact rfl; exact rfl
    rw [List.take_of_length_le (by omega), List.take_of_length_le (by omega)] at hi
    exact ⟨by rw [decide_eq_true hi], rfl⟩

/-! ### The example -/
theorem bld3 (x y z : Int) (w : World) : (Instr.build 60 [(0, .int .i64 x), (1, .int .i64 y), (2, .int .i64 z)].toArray).run Tryz.prog w = .ok (.agg #[.int .i64 x, .int .i64 y, .int .i64 z]) w := by kernel_rfl
def exL : List Lk := [(0, 1, 0), (0, 2, 1), (1, 0, 0), (1, 3, 0), (2, 0, 1), (2, 3, 0), (3, 1, 0), (3, 2, 0)]
def exR : Net := ⟨4, [[9, 9, 9, 9], [9, 9, 9, 9], [9, 9, 9, 9], [9, 9, 9, 9]], 1, 1000, exL, [9, 9, 9, 9, 9, 9, 9, 9]⟩
def rowQ (r : RowM) : HP := ints r.A r.cap r.xs
structure Ez1 where
  k : Nat
  rs : List RowM
  A : Option Addr
  cap : Nat
structure Ez2 where
  k : Nat
  A : Option Addr
  cap : Nat
  A2 : Option Addr
  c2 : Nat
abbrev netC (g : Nat) (pA : Option Addr) (pk pc : Nat) (lA : Option Addr) (lk lc : Nat) (mA : Option Addr) (mk mc : Nat) : HP := blk g (.cells #[.int .i64 4, .slice pA pk pc, .int .i64 1, .int .i64 1000, .slice lA lk lc, .slice mA mk mc] 26 (0, 0))
set_option maxRecDepth 10000 in
set_option maxHeartbeats 2000000 in
theorem exampleR_spec {B : Nat} {w0 : World} {H : List HP} {w : World} (hw : St B w0 H w) :
    Calls Tryz.prog 11 [].toArray w (Post B w0 fun v K => ∃ n : NetM, v = n.val ∧ n.net = exR ∧ n.In B w0 K ∧ ∀ w, St B w0 K w → St B w0 H w) := by
  refine Calls_of_VC Tryz.func11 Tryz.ntmps11 rfl rfl hw ?_
  repeat' (first | apply (zs1 ?_) | (apply zg22; refine zs51 ?_) | (apply zg24; (refine zs54 ?_; intro _)) | (apply zg25; refine zs55 ?_) | apply (zs65 ?_) | apply (zs68 ?_) | apply (zs69 ?_) | apply (zs70 ?_) | apply (zs73 ?_) | fail)
  rename_i g0 g1
  refine VC_loop1 (fun (z : Ez1) => [(5, .int .i64 z.k), (1, .pointer (some ⟨g1, 0, none⟩)), (0, .pointer (some ⟨g0, 0, none⟩))]) (fun z => netC g1 z.A z.rs.length z.cap none 0 0 none 0 0 :: sl 24 1 z.A z.rs.length z.cap (z.rs.flatMap rowF) :: many (z.rs.map rowQ) :: blk g0 (.cells #[.int .i64 0, .slice none 0 0, .int .i64 0, .int .i64 0, .slice none 0 0, .slice none 0 0] 26 (0, 0)) :: H) (fun z => z.k ≤ 4 ∧ z.rs.length = z.k ∧ ∀ r ∈ z.rs, r.xs = [9, 9, 9, 9]) (fun z => 4 - z.k) ⟨0, [], none, 0⟩ ⟨by simp, rfl, fun r hr => by cases hr⟩ ?_ ?_ ?_
  · (repeat (first | exact sub_nil _ | (apply sub_cons; first | exact rfl | exact congrArg (fun z : Int => some (Value.int .i64 z)) (by omega))))
  · intro w hw
    have h5 : St B w0 (blk g1 (.cells #[.int .i64 4, .slice none 0 0, .int .i64 1, .int .i64 1000, .slice none 0 0, .slice none 0 0] 26 (0, 0)) :: blk g0 (.cells #[.int .i64 0, .slice none 0 0, .int .i64 0, .int .i64 0, .slice none 0 0, .slice none 0 0] 26 (0, 0)) :: H) w := hw
    have h6 := (h5.perm (.noMany _)).nilSlice 24 1
    revert h6
    clear h5 hw
    revert w
    dsimp only
    show ∀ w, St B w0 (sl 24 1 none 0 0 [] :: many [] :: blk g1 (.cells #[.int .i64 4, .slice none 0 0, .int .i64 1, .int .i64 1000, .slice none 0 0, .slice none 0 0] 26 (0, 0)) :: blk g0 (.cells #[.int .i64 0, .slice none 0 0, .int .i64 0, .int .i64 0, .slice none 0 0, .slice none 0 0] 26 (0, 0)) :: H) w → St B w0 (blk g1 (.cells #[.int .i64 4, .slice none 0 0, .int .i64 1, .int .i64 1000, .slice none 0 0, .slice none 0 0] 26 (0, 0)) :: sl 24 1 none 0 0 [] :: many [] :: blk g0 (.cells #[.int .i64 0, .slice none 0 0, .int .i64 0, .int .i64 0, .slice none 0 0, .slice none 0 0] 26 (0, 0)) :: H) w
    (intro w hw; refine hw.perm ?_; focus repeat (first | with_reducible exact Perm.refl _ | (with_reducible apply perm_take; focus ((repeat (first | with_reducible exact rem_here | with_reducible apply rem_there)); done)) | with_reducible apply Perm.dropK))
  rintro ⟨k, rs, A, cap⟩ ⟨hk, hrl, hrx⟩ K hK
  simp only at hk hrl hrx ⊢
  by_cases hlt : k < 4
  · repeat' (first | apply (zs1 ?_) | (apply zg2; refine zs6 ?_) | (apply zg3; refine zs7 ?_) | (apply (zs17 ?_ ?_) <;> intro _ <;> try (exfalso; omega)) | (apply zg13; refine zs30 ?_) | (apply zg21; (refine zs49 ?_; intro _ _)) | (apply zg22; refine zs50 ?_) | (apply zg26; (refine zs56 ?_; intro _)) | apply (zs65 ?_) | apply (zs68 ?_) | apply (zs69 ?_) | apply (zs70 ?_) | (apply zg27; refine zs71 ?_) | apply (zs73 ?_) | apply (zs76 ?_) | apply (zs79 ?_) | fail)
    rename_i gr gq A3 cap3
    apply hK ⟨k + 1, rs ++ [⟨some ⟨gr, 0, none⟩, 4, [9, 9, 9, 9]⟩], A3, cap3⟩
    · refine ⟨by simp only; omega, by simp [hrl], fun r hr => ?_⟩
      rcases List.mem_append.1 hr with hr | hr
      · exact hrx r hr
      · obtain rfl := List.mem_singleton.1 hr; rfl
    · simp only; omega
    · (repeat (first | exact sub_nil _ | (apply sub_cons; first | exact rfl | exact congrArg (fun z : Int => some (Value.int .i64 z)) (by omega))))
    · dsimp only
      rw [List.length_append, List.length_singleton, List.map_append, List.flatMap_append, List.map_singleton]
      intro w hw
      have h5 : St B w0 (blk gr (.cells #[.int .i64 9, .int .i64 9, .int .i64 9, .int .i64 9] 3 (0, 0)) :: many (rs.map rowQ) :: netC g1 A3 (rs.length + 1) cap3 none 0 0 none 0 0 :: sl 24 1 A3 (rs.length + 1) cap3 (rs.flatMap rowF ++ [(⟨some ⟨gr, 0, none⟩, 4, [9, 9, 9, 9]⟩ : RowM)].flatMap rowF) :: blk g0 (.cells #[.int .i64 0, .slice none 0 0, .int .i64 0, .int .i64 0, .slice none 0 0, .slice none 0 0] 26 (0, 0)) :: H) w := by
        revert w
        (intro w hw; refine hw.perm ?_; focus repeat (first | exact Perm.refl _ | (apply perm_take; focus ((repeat (first | exact rem_here | apply rem_there)); done)) | apply Perm.dropK))
      have h6 : St B w0 (rowQ ⟨some ⟨gr, 0, none⟩, 4, [9, 9, 9, 9]⟩ :: _) w := h5.blk_sl (cs := [.int .i64 9, .int .i64 9, .int .i64 9, .int .i64 9]) (len := 4) (size := 1) rfl (by omega)
      rw [← List.append_nil (rs.map rowQ)] at h6
      have h7 := h6.perm (.push _ _ [] _)
      clear hw h5 h6
      revert w
      (intro w hw; refine hw.perm ?_; focus repeat (first | with_reducible exact Perm.refl _ | (with_reducible apply perm_take; focus ((repeat (first | with_reducible exact rem_here | with_reducible apply rem_there)); done)) | with_reducible apply Perm.dropK))
  · obtain rfl : k = 4 := by omega
    clear hK
    repeat' (first | (apply VL_build; (repeat (first | exact parts_nil | (apply parts_cons; exact rfl))); exact bld3 _ _ _; exact rfl) | apply (zs1 ?_) | (apply zg4; refine zs9 ?_) | (apply (zs17 ?_ ?_) <;> intro _ <;> try (exfalso; omega)) | (apply zg26; (refine zs56 ?_; intro _)) | apply (zs65 ?_) | apply (zs68 ?_) | apply (zs69 ?_) | apply (zs70 ?_) | (apply zg27; refine zs72 ?_) | apply (zs73 ?_) | apply (zs75 ?_) | apply (zs80 ?_) | apply (zs81 ?_) | fail)
    rename_i _ gS
    refine VC_loop1 (fun (z : Ez2) => [(24, .int .i64 z.k), (23, .int .i64 8), (22, .slice (some ⟨gS, 0, none⟩) 8 8), (1, .pointer (some ⟨g1, 0, none⟩)), (0, .pointer (some ⟨g0, 0, none⟩))]) (fun z => netC g1 A rs.length cap z.A z.k z.cap z.A2 z.k z.c2 :: sl 63 3 z.A z.k z.cap ((exL.take z.k).flatMap lkF) :: sl 3 1 z.A2 z.k z.c2 ((List.replicate z.k (9 : Int)).flatMap numF) :: sl 24 1 A rs.length cap (rs.flatMap rowF) :: many (rs.map rowQ) :: blk gS (.cells (exL.flatMap lkF).toArray 60 (0, 0)) :: blk g0 (.cells #[.int .i64 0, .slice none 0 0, .int .i64 0, .int .i64 0, .slice none 0 0, .slice none 0 0] 26 (0, 0)) :: H) (fun z => z.k ≤ 8) (fun z => 8 - z.k) ⟨0, none, 0, none, 0⟩ (Nat.zero_le _) ?_ ?_ ?_
    · (repeat (first | exact sub_nil _ | (apply sub_cons; first | exact rfl | exact congrArg (fun z : Int => some (Value.int .i64 z)) (by omega))))
    · intro w hw
      have h5 : St B w0 (netC g1 A rs.length cap none 0 0 none 0 0 :: sl 24 1 A rs.length cap (rs.flatMap rowF) :: many (rs.map rowQ) :: blk gS (.cells (exL.flatMap lkF).toArray 60 (0, 0)) :: blk g0 (.cells #[.int .i64 0, .slice none 0 0, .int .i64 0, .int .i64 0, .slice none 0 0, .slice none 0 0] 26 (0, 0)) :: H) w := by
        revert w
        (intro w hw; refine hw.perm ?_; focus repeat (first | exact Perm.refl _ | (apply perm_take; focus ((repeat (first | exact rem_here | apply rem_there)); done)) | apply Perm.dropK))
      have h6 := (h5.nilSlice 63 3).nilSlice 3 1
      clear hw h5
      revert w
      (intro w hw; refine hw.perm ?_; focus repeat (first | exact Perm.refl _ | (apply perm_take; focus ((repeat (first | exact rem_here | apply rem_there)); done)) | apply Perm.dropK))
    rintro ⟨k, A1, c1, A2, c2⟩ hk2 K hK
    simp only at hk2 ⊢
    have hexl : exL.length = 8 := rfl
    by_cases hlt2 : k < 8
    · obtain ⟨a, ha⟩ : ∃ a, exL[k]? = some a := ⟨_, List.getElem?_eq_getElem (by omega)⟩
      have hst : exL.take (k + 1) = exL.take k ++ [a] := by rw [List.take_add_one, ha]; rfl
      obtain ⟨E, hE⟩ : ∃ E, exL = E := ⟨_, rfl⟩
      rw [hE] at ha hst hexl ⊢
      have hrs0 : ∀ {L : List HP}, blk gS (.cells (E.flatMap lkF).toArray 60 (0, 0)) ∈ L → Rd B w0 L (some ⟨gS, 0, none⟩) (E.flatMap lkF) := fun h => Rd.blk h
      have hrs : ∀ {X1 X2 X3 X4 X5 : HP}, Rd B w0 (X1 :: X2 :: X3 :: X4 :: X5 :: blk gS (.cells (E.flatMap lkF).toArray 60 (0, 0)) :: blk g0 (.cells #[.int .i64 0, .slice none 0 0, .int .i64 0, .int .i64 0, .slice none 0 0, .slice none 0 0] 26 (0, 0)) :: H) (some ⟨gS, 0, none⟩) (E.flatMap lkF) := hrs0 (by (focus repeat (first | with_reducible exact List.mem_cons_self | with_reducible apply List.mem_cons_of_mem | assumption)))
      have hrs8 : Value.slice (some ⟨gS, 0, none⟩) 8 8 = .slice (some ⟨gS, 0, none⟩) E.length 8 := by rw [hexl]
      rw [hrs8]
      repeat' (first | (apply VL_index_arr T; exact rfl; exact rfl; exact rfl; exact rfl; decide) | (apply VL_index_rd T (f := lkF) (l := E); exact rfl; exact rfl; exact hrs; exact rfl; exact fun _ => rfl; exact rfl; exact rfl; omega) | (apply VL_load_agg_rd T (f := lkF) (l := E); exact rfl; exact hrs; exact ha; exact fun _ => rfl; exact rfl; exact rfl; exact rfl) | apply (zs1 ?_) | (apply zg2; refine zs6 ?_) | (apply zg3; refine zs7 ?_) | (apply (zs17 ?_ ?_) <;> intro _ <;> try (exfalso; omega)) | (apply zg13; refine zs30 ?_) | (apply zg21; (refine zs49 ?_; intro _ _)) | (apply zg22; first | refine zs50 ?_ | refine zs51 ?_) | (apply zg24; (refine zs54 ?_; intro _)) | (apply zg25; refine zs55 ?_) | (apply zg26; (refine zs56 ?_; intro _)) | apply (zs65 ?_) | apply (zs68 ?_) | apply (zs69 ?_) | apply (zs70 ?_) | (apply zg27; refine zs71 ?_) | apply (zs73 ?_) | apply (zs76 ?_) | apply (zs79 ?_) | fail)
      rename_i _ _ Al cl _ Am cm
      apply hK ⟨k + 1, Al, cl, Am, cm⟩
      · simp only; omega
      · simp only; omega
      · dsimp only
        rw [hrs8]
        (repeat (first | exact sub_nil _ | (apply sub_cons; first | exact rfl | exact congrArg (fun z : Int => some (Value.int .i64 z)) (by omega))))
      · dsimp only
        rw [hE, hst, List.flatMap_append, List.replicate_succ', List.flatMap_append]
        (intro w hw; refine hw.perm ?_; focus repeat (first | exact Perm.refl _ | (apply perm_take; focus ((repeat (first | exact rem_here | apply rem_there)); done)) | apply Perm.dropK))
    · obtain rfl : k = 8 := by omega
      clear hK
      rw [show exL.take 8 = exL from rfl]
      have hmap : rs.map (·.xs) = [[9, 9, 9, 9], [9, 9, 9, 9], [9, 9, 9, 9], [9, 9, 9, 9]] := by
        have h1 : rs.map (·.xs) = List.replicate 4 [9, 9, 9, 9] := List.eq_replicate_iff.2 ⟨by rw [List.length_map]; exact hrl, fun x hx => by
          obtain ⟨r, hr, rfl⟩ := List.mem_map.1 hx
          exact hrx r hr⟩
        rw [h1]; rfl
      have hk8 : (exL.length : Nat) = 8 := rfl
      repeat' (first | (apply zg3; refine zs8 ?_) | (apply (zs17 ?_ ?_) <;> intro _ <;> try (exfalso; omega)) | (apply zg22; refine zs51 ?_) | apply (zs65 ?_) | apply (zs68 ?_) | apply (zs69 ?_) | apply (zs70 ?_) | (apply zg27; refine zs72 ?_) | apply (zs74 ?_) | apply (zs75 ?_) | apply (zs80 ?_) | apply (zs81 ?_) | fail)
      refine VQ_retc1 T (H2 := sl 24 1 A rs.length cap (rs.flatMap rowF) :: many (rs.map rowQ) :: sl 63 3 A1 8 c1 (exL.flatMap lkF) :: sl 3 1 A2 8 c2 ((List.replicate 8 (9 : Int)).flatMap numF) :: H) rfl rfl (by (focus repeat (first | with_reducible exact List.mem_cons_self | with_reducible apply List.mem_cons_of_mem | assumption))) rfl rfl (by (intro w hw; refine hw.perm ?_; focus repeat (first | exact Perm.refl _ | (apply perm_take; focus ((repeat (first | exact rem_here | apply rem_there)); done)) | apply Perm.dropK))) ?_
      refine ⟨⟨4, A, cap, rs, 1, 1000, A1, c1, exL, A2, c2, List.replicate 8 9⟩, rfl, ?_, ⟨.sl (by (focus repeat (first | with_reducible exact List.mem_cons_self | with_reducible apply List.mem_cons_of_mem | assumption))), fun r hr => ?_, .sl (e := 63) (size := 3) (k := 8) (cap := c1) (by (focus repeat (first | with_reducible exact List.mem_cons_self | with_reducible apply List.mem_cons_of_mem | assumption))), .sl (e := 3) (size := 1) (k := 8) (cap := c2) (by (focus repeat (first | with_reducible exact List.mem_cons_self | with_reducible apply List.mem_cons_of_mem | assumption))), ?_, fun r hr => ?_, ?_, ?_⟩, fun w hw => hw.tail.tail.tail.tail⟩
      · simp only [NetM.net, hmap, exR]; rfl
      · exact Rd.manyT (H := rs.map rowQ) (.sl (e := 3) (size := 1) (k := r.xs.length) (cap := r.cap) (List.mem_map.2 ⟨r, hr, rfl⟩)) (by (focus repeat (first | with_reducible exact List.mem_cons_self | with_reducible apply List.mem_cons_of_mem | assumption)))
      · simp only; omega
      · rw [hrx r hr]; simp
      · simp only; omega
      · simp
end Go.Proofs.YtleldppdflgmgaaGreat

/- Walks: the reference's Check and Cost of routes. -/
namespace Go.Proofs.YtleldppdflgmgaaGreat
open Go.RowKit Go.Eng Go.Nw Go.Rt

theorem contains_step {r : List Int} {k : Nat} {x y : Int} (h : r[k]? = some x) : (r.take (k + 1)).contains y = ((r.take k).contains y || decide (y = x)) := by
  rw [List.take_add_one, h, Bool.eq_iff_iff]
  simp
end Go.Proofs.YtleldppdflgmgaaGreat

/- Routes, plain: all routes in their order; the first of the cheapest ones is the program's way. -/
namespace Go.Rt
open Go.Nw

/-! ### The first of the least -/
def FirstMin {α : Type} (key : α → Int) (l : List α) (x : α) : Prop := ∃ l1 l2, l = l1 ++ x :: l2 ∧ (∀ y ∈ l1, key x < key y) ∧ ∀ y ∈ l2, key x ≤ key y
theorem FirstMin.mem {α : Type} {key : α → Int} {l : List α} {x : α} (h : FirstMin key l x) : x ∈ l := by
  obtain ⟨l1, l2, rfl, _⟩ := h
  exact List.mem_append_right _ List.mem_cons_self
theorem FirstMin.le {α : Type} {key : α → Int} {l : List α} {x y : α} (h : FirstMin key l x) (hy : y ∈ l) : key x ≤ key y := by
  obtain ⟨l1, l2, rfl, h1, h2⟩ := h
  rcases List.mem_append.1 hy with hy | hy
  · exact Int.le_of_lt (h1 y hy)
  · rcases List.mem_cons.1 hy with rfl | hy
    · exact Int.le_refl _
    · exact h2 y hy
theorem FirstMin.uniq {α : Type} {key : α → Int} : ∀ {l : List α} {x y : α}, FirstMin key l x → FirstMin key l y → x = y := by
  intro l x y hx hy
  have h1 := hx.le hy.mem
  have h2 := hy.le hx.mem
  obtain ⟨a1, a2, e1, p1, p2⟩ := hx
  obtain ⟨b1, b2, e2, q1, q2⟩ := hy
  rw [e1] at e2
  rcases List.append_eq_append_iff.1 e2 with ⟨c, h3, h4⟩ | ⟨c, h3, h4⟩
  · cases c with
    | nil => simp at h4; exact h4.1
    | cons z c =>
      rw [List.cons_append] at h4
      obtain ⟨rfl, _⟩ := List.cons.inj h4
      have := q1 x (by rw [h3]; simp)
      omega
  · cases c with
    | nil => simp at h4; exact h4.1.symm
    | cons z c =>
      rw [List.cons_append] at h4
      obtain ⟨rfl, _⟩ := List.cons.inj h4
      have := p1 y (by rw [h3]; simp)
      omega
theorem FirstMin.one {α : Type} (key : α → Int) (x : α) : FirstMin key [x] x := ⟨[], [], rfl, (fun _ hy => absurd hy (List.not_mem_nil)), (fun _ hy => absurd hy (List.not_mem_nil))⟩
theorem FirstMin.mid {α : Type} {key : α → Int} {l a b : List α} {x : α} (h : FirstMin key l x) (h1 : ∀ y ∈ a, key x < key y) (h2 : ∀ y ∈ b, key x ≤ key y) : FirstMin key (a ++ l ++ b) x := by
  obtain ⟨l1, l2, rfl, p1, p2⟩ := h
  refine ⟨a ++ l1, l2 ++ b, by simp, fun y hy => ?_, fun y hy => ?_⟩
  · rcases List.mem_append.1 hy with h | h
    · exact h1 y h
    · exact p1 y h
  · rcases List.mem_append.1 hy with h | h
    · exact p2 y h
    · exact h2 y h
theorem FirstMin.snoc {α : Type} {key : α → Int} {l : List α} {x y : α} (h : FirstMin key l x) : FirstMin key (l ++ [y]) (if key y < key x then y else x) := by
  split
  · rename_i hlt
    refine ⟨l, [], rfl, fun z hz => ?_, fun z hz => by cases hz⟩
    have := h.le hz
    omega
  · rename_i hge
    have := h.mid (a := []) (b := [y]) (fun z hz => by cases hz) (fun z hz => by obtain rfl := List.mem_singleton.1 hz; omega)
    simpa using this

/-! ### All routes -/
def lastOf (r : List Int) : Int := r.getD (r.length - 1) 0
theorem last_snoc (r : List Int) (b : Int) : lastOf (r ++ [b]) = b := by
  unfold lastOf
  rw [List.getD_eq_getElem?_getD, List.length_append, List.length_singleton, Nat.add_sub_cancel, List.getElem?_append_right (Nat.le_refl _), Nat.sub_self]; rfl
section
variable (st : Int → Int → Bool) (w : Int → Int → Int) (nodes : Nat) (to : Int)
def walkG : Nat → List Int → List (List Int)
  | 0, r => if lastOf r = to then [r] else []
  | f + 1, r => if lastOf r = to then [r] else (List.range nodes).flatMap fun b : Nat => if st (lastOf r) b = true ∧ (b : Int) ∉ r then walkG f (r ++ [(b : Int)]) else []
/-- What a list of nodes costs. -/
def keyG : List Int → Int
  | [] => 0
  | [_] => 0
  | u :: v :: r => w u v + keyG (v :: r)
/-- A way from a node on. -/
inductive PathG : Int → List Int → Prop
  | done : PathG to []
  | step {u v : Int} {r : List Int} (hu : u ≠ to) (hs : st u v = true) (hv : 0 ≤ v ∧ v < nodes) (h : PathG v r) : PathG u (v :: r)
end
theorem keyG_append {w : Int → Int → Int} : ∀ (r : List Int) (v : Int) (q : List Int), keyG w (r ++ v :: q) = keyG w (r ++ [v]) + keyG w (v :: q)
  | [], v, q => by simp [keyG]
  | [u], v, q => by simp [keyG]
  | u :: x :: r, v, q => by
    have := keyG_append (w := w) (x :: r) v q
    simp only [List.cons_append, keyG] at this ⊢
    rw [this]; omega
theorem keyG_last {w : Int → Int → Int} {r q : List Int} (hr : r ≠ []) : keyG w (r ++ q) = keyG w r + keyG w (lastOf r :: q) := by
  rcases List.eq_nil_or_concat r with rfl | ⟨r', v, rfl⟩
  · exact absurd rfl hr
  · rw [List.concat_eq_append, last_snoc, List.append_assoc, List.singleton_append, keyG_append]
section
variable {st : Int → Int → Bool} {w : Int → Int → Int} {nodes : Nat} {to : Int}
theorem walk_mem : ∀ (f : Nat) (r q : List Int), q ∈ walkG st nodes to f r → ∃ p, q = r ++ p ∧ PathG st nodes to (lastOf r) p
  | 0, r, q, h => by
    unfold walkG at h
    split at h
    · rename_i he
      obtain rfl := List.mem_singleton.1 h
      exact ⟨[], by simp, he ▸ .done⟩
    · cases h
  | f + 1, r, q, h => by
    unfold walkG at h
    split at h
    · rename_i he
      obtain rfl := List.mem_singleton.1 h
      exact ⟨[], by simp, he ▸ .done⟩
    · rename_i he
      obtain ⟨b, hb, h⟩ := List.mem_flatMap.1 h
      split at h
      · rename_i hc
        obtain ⟨p, rfl, hp⟩ := walk_mem f _ q h
        rw [last_snoc] at hp
        exact ⟨(b : Int) :: p, by simp, .step he hc.1 ⟨by omega, by have := List.mem_range.1 hb; omega⟩ hp⟩
      · cases h
theorem walk_nodup : ∀ (f : Nat) (r q : List Int), r.Nodup → q ∈ walkG st nodes to f r → q.Nodup
  | 0, r, q, hn, h => by
    unfold walkG at h
    split at h
    · obtain rfl := List.mem_singleton.1 h; exact hn
    · cases h
  | f + 1, r, q, hn, h => by
    unfold walkG at h
    split at h
    · obtain rfl := List.mem_singleton.1 h; exact hn
    · obtain ⟨b, hb, h⟩ := List.mem_flatMap.1 h
      split at h
      · rename_i hc
        refine walk_nodup f _ q ?_ h
        refine List.nodup_append.2 ⟨hn, by simp, fun a ha c hc2 => ?_⟩
        obtain rfl := List.mem_singleton.1 hc2
        exact fun e => hc.2 (e ▸ ha)
      · cases h
/-- Every simple way is among them. -/
theorem walk_all : ∀ (f : Nat) (r p : List Int), PathG st nodes to (lastOf r) p → (r ++ p).Nodup → p.length ≤ f → r ++ p ∈ walkG st nodes to f r
  | f, r, [], h, _, _ => by
    generalize hl : lastOf r = u at h
    cases h
    cases f <;> (unfold walkG; rw [if_pos hl]; simp)
  | 0, r, v :: p, _, _, h => by simp at h
  | f + 1, r, v :: p, h, hn, hf => by
    generalize hl : lastOf r = u at h
    cases h with
    | step hu hs hv h =>
      unfold walkG
      rw [hl, if_neg hu]
      refine List.mem_flatMap.2 ⟨v.toNat, List.mem_range.2 (by omega), ?_⟩
      have hvv : ((v.toNat : Nat) : Int) = v := by omega
      have hnr : v ∉ r := fun hm => by
        have := (List.nodup_append.1 hn).2.2 v hm v List.mem_cons_self
        exact this rfl
      rw [hvv, if_pos ⟨hs, hnr⟩]
      have := walk_all f (r ++ [v]) p (by rw [last_snoc]; exact h) (by rw [List.append_assoc]; exact hn) (by simp only [List.length_cons] at hf; omega)
      rw [List.append_assoc] at this
      exact this

theorem path_mem {u : Int} {p : List Int} (h : PathG st nodes to u p) : ∀ x ∈ p, 0 ≤ x ∧ x < nodes := by
  induction h with
  | done => exact fun x hx => absurd hx List.not_mem_nil
  | step _ _ hv _ ih =>
    intro x hx
    rcases List.mem_cons.1 hx with rfl | hx
    · exact hv
    · exact ih x hx

/-! ### Ways and least costs -/
structure Net3 (st : Int → Int → Bool) (w : Int → Int → Int) (l : List Lk) : Prop where
  iff : ∀ u v c : Int, (u, v, c) ∈ l ↔ st u v = true ∧ c = w u v
  pos : ∀ u v : Int, st u v = true → 1 ≤ w u v ∧ w u v ≤ 1000
theorem path_key {u : Int} {p : List Int} (hw : ∀ u v : Int, st u v = true → 1 ≤ w u v ∧ w u v ≤ 1000) (h : PathG st nodes to u p) : 0 ≤ keyG w (u :: p) ∧ keyG w (u :: p) ≤ 1000 * (p.length : Int) := by
  induction h with
  | done => simp [keyG]
  | step hu hs hv h ih =>
    have := hw _ _ hs
    simp only [keyG, List.length_cons]
    omega
theorem path_far {l : List Lk} {far : List Int} (hnet : Net3 st w l) (hd : Dist nodes l to far) {u : Int} {p : List Int} (h : PathG st nodes to u p) (hp : p.length ≤ 100000) : farAt far u ≤ keyG w (u :: p) ∧ farAt far u < noneC := by
  induction h with
  | done => rw [hd.to0]; exact ⟨Int.le_refl _, by decide⟩
  | @step u v r hu hs hv h ih =>
    have hn := noneC_eq
    obtain ⟨h1, h2⟩ := ih (by simp only [List.length_cons] at hp; omega)
    have h3 := hd.least (u, v, w u v) ((hnet.iff _ _ _).2 ⟨hs, rfl⟩) h2
    have h4 := hnet.pos _ _ hs
    obtain ⟨h5, h6⟩ := path_key hnet.pos h
    simp only [List.length_cons] at hp
    simp only [keyG] at h3 ⊢
    omega
theorem best_min {far : List Int} {at_ : Int} : ∀ (l : List Lk) (b0 : Int), (∀ a ∈ l, 0 ≤ a.2.1) → (0 ≤ b0 → l.foldl (bestStep far at_) b0 ≤ b0) ∧ ∀ a ∈ l, a.1 = at_ → a.2.2 + farAt far a.2.1 = farAt far at_ → l.foldl (bestStep far at_) b0 ≤ a.2.1
  | [], b0, _ => ⟨fun _ => Int.le_refl _, fun a ha => by cases ha⟩
  | a :: m, b0, hp => by
    obtain ⟨h1, h2⟩ := best_min (far := far) (at_ := at_) m (bestStep far at_ b0 a) fun c hc => hp c (List.mem_cons_of_mem _ hc)
    rw [List.foldl_cons]
    have ha0 := hp a List.mem_cons_self
    refine ⟨fun hb => ?_, fun c hc he ht => ?_⟩
    · have h5 : 0 ≤ bestStep far at_ b0 a ∧ bestStep far at_ b0 a ≤ b0 := by
        unfold bestStep
        split
        · rename_i h; omega
        · omega
      have := h1 h5.1
      omega
    · rcases List.mem_cons.1 hc with rfl | hc
      · have h5 : 0 ≤ bestStep far at_ b0 c ∧ bestStep far at_ b0 c ≤ c.2.1 := by
          unfold bestStep
          by_cases h6 : b0 < 0 ∨ c.2.1 < b0
          · rw [if_pos ⟨he, ht, h6⟩]; omega
          · rw [if_neg (fun h => h6 h.2.2)]; omega
        have := h1 h5.1
        omega
      · exact h2 c hc he ht
theorem range_split {nodes b : Nat} (h : b < nodes) : ∃ l2, List.range nodes = List.range b ++ b :: l2 := by
  refine ⟨(List.range nodes).drop (b + 1), ?_⟩
  apply List.ext_getElem?
  intro i
  rcases Nat.lt_trichotomy i b with hi | hi | hi
  · rw [List.getElem?_append_left (by simpa using hi), List.getElem?_range (by omega), List.getElem?_range hi]
  · subst hi
    rw [List.getElem?_append_right (by simp), List.length_range, Nat.sub_self, List.getElem?_range (by omega)]; rfl
  · rw [List.getElem?_append_right (by simp; omega), List.length_range]
    obtain ⟨j, hj⟩ : ∃ j, i - b = j + 1 := ⟨i - b - 1, by omega⟩
    rw [hj, List.getElem?_cons_succ, List.getElem?_drop]
    congr 1
    omega
/-- The program's way is the first of the cheapest ones. -/
theorem way_first {l : List Lk} {far : List Int} (hnet : Net3 st w l) (hok : ArcsOk nodes l) (hd : Dist nodes l to far) (hto : 0 ≤ to ∧ to < nodes) (_hst : ∀ u v, st u v = true → 0 ≤ v ∧ v < nodes) (hnn : nodes ≤ 40) : ∀ (k f : Nat) (r : List Int) (v : Int), r ≠ [] → r.Nodup → lastOf r = v → 0 ≤ v → v < nodes → farAt far v < noneC → (farAt far v).toNat ≤ k → (∀ x ∈ r, (0 ≤ x ∧ x < nodes) ∧ farAt far v ≤ farAt far x) → nodes ≤ r.length + f →
    FirstMin (keyG w) (walkG st nodes to f r) (r ++ followF l far to k v) ∧ keyG w (r ++ followF l far to k v) = keyG w r + farAt far v := by
  intro k
  induction k with
  | zero =>
    intro f r v hr hn hl h0 h1 hlt hk hx hf
    have hvt : v = to := Decidable.byContradiction fun h => by
      have := best_next hok hd h0 h1 h hlt
      omega
    have hfo : followF l far to 0 v = [] := rfl
    rw [hfo, List.append_nil]
    subst hvt
    refine ⟨?_, by rw [hd.to0]; omega⟩
    cases f <;> (unfold walkG; rw [if_pos hl]; exact .one _ _)
  | succ k ih =>
    intro f r v hr hn hl h0 h1 hlt hk hx hf
    by_cases hvt : v = to
    · have hfo : followF l far to (k + 1) v = [] := by unfold followF; rw [if_pos hvt]
      rw [hfo, List.append_nil]
      subst hvt
      refine ⟨?_, by rw [hd.to0]; omega⟩
      cases f <;> (unfold walkG; rw [if_pos hl]; exact .one _ _)
    · obtain ⟨b1, b2, b3, a, ha, ha1, ha2, ha3⟩ := best_next hok hd h0 h1 hvt hlt
      have hbm := (best_min (far := far) (at_ := v) l (-1) fun a ha => (hok a ha).2.1.1).2
      obtain ⟨b, hb⟩ : ∃ b, bestOf l far v = b := ⟨_, rfl⟩
      have hfo : followF l far to (k + 1) v = b :: followF l far to k b := by
        rw [show followF l far to (k + 1) v = if v = to then [] else bestOf l far v :: followF l far to k (bestOf l far v) from rfl, if_neg hvt, hb]
      rw [show l.foldl (bestStep far v) (-1) = bestOf l far v from rfl, hb] at hbm
      rw [hb] at b1 b2 b3 ha2 ha3
      obtain ⟨a1, a2, a3⟩ := a
      simp only at ha1 ha2 ha3
      subst ha1 ha2
      obtain ⟨hs, hc⟩ := (hnet.iff _ _ _).1 ha
      have hbr : a2 ∉ r := fun hm => by have := (hx a2 hm).2; omega
      have hnb : (r ++ [a2]).Nodup := List.nodup_append.2 ⟨hn, by simp, fun x hx2 y hy => by
        obtain rfl := List.mem_singleton.1 hy
        exact fun e => hbr (e ▸ hx2)⟩
      have hlen : (r ++ [a2]).length ≤ nodes := nodup_len nodes _ hnb fun x hx2 => by
        rcases List.mem_append.1 hx2 with h | h
        · exact (hx x h).1
        · obtain rfl := List.mem_singleton.1 h; exact b1
      rw [List.length_append, List.length_singleton] at hlen
      cases f with
      | zero => omega
      | succ f =>
        obtain ⟨i1, i2⟩ := ih f (r ++ [a2]) a2 (by simp) hnb (last_snoc _ _) b1.1 b1.2 (by omega) (by omega) (fun x hx2 => by
          rcases List.mem_append.1 hx2 with h | h
          · have := hx x h; exact ⟨this.1, by omega⟩
          · obtain rfl := List.mem_singleton.1 h; exact ⟨b1, Int.le_refl _⟩) (by rw [List.length_append, List.length_singleton]; omega)
        have hkr : ∀ x : Int, keyG w (r ++ [x]) = keyG w r + w a1 x := fun x => by
          rw [keyG_last hr, hl]; simp [keyG]
        rw [hfo]
        have e0 : r ++ a2 :: followF l far to k a2 = r ++ [a2] ++ followF l far to k a2 := by simp
        rw [e0]
        have hkey : keyG w (r ++ [a2] ++ followF l far to k a2) = keyG w r + farAt far a1 := by rw [i2, hkr]; omega
        refine ⟨?_, hkey⟩
        -- what other nodes give
        have hoth : ∀ (c : Nat) (q : List Int), c < nodes → q ∈ (if st a1 c = true ∧ (c : Int) ∉ r then walkG st nodes to f (r ++ [(c : Int)]) else []) → keyG w r + farAt far a1 ≤ keyG w q ∧ ((c : Int) < a2 → keyG w r + farAt far a1 < keyG w q) := by
          intro c q hc hq
          split at hq
          · rename_i hsc
            obtain ⟨p, rfl, hp⟩ := walk_mem f _ q hq
            have hnq := walk_nodup f _ _ (by
              refine List.nodup_append.2 ⟨hn, by simp, fun x hx2 y hy => ?_⟩
              obtain rfl := List.mem_singleton.1 hy
              exact fun e => hsc.2 (e ▸ hx2)) hq
            rw [last_snoc] at hp
            have hpl : p.length ≤ 100000 := by
              have hm : ∀ x ∈ r ++ [(c : Int)] ++ p, 0 ≤ x ∧ x < nodes := fun x hx2 => by
                rcases List.mem_append.1 hx2 with h | h
                · rcases List.mem_append.1 h with h | h
                  · exact (hx x h).1
                  · obtain rfl := List.mem_singleton.1 h; omega
                · exact path_mem hp x h
              have := nodup_len nodes _ hnq hm
              rw [List.length_append] at this
              omega
            obtain ⟨f1, f2⟩ := path_far hnet hd hp hpl
            have hlst := hd.least (a1, (c : Int), w a1 c) ((hnet.iff _ _ _).2 ⟨hsc.1, rfl⟩) f2
            simp only at hlst
            have e1 : keyG w (r ++ [(c : Int)] ++ p) = keyG w r + w a1 c + keyG w ((c : Int) :: p) := by
              rw [keyG_last (by simp), last_snoc, hkr]
            rw [e1]
            refine ⟨by omega, fun hlt2 => ?_⟩
            by_cases htt : w a1 c + farAt far c = farAt far a1
            · have := hbm (a1, (c : Int), w a1 c) ((hnet.iff _ _ _).2 ⟨hsc.1, rfl⟩) rfl htt
              simp only at this
              omega
            · omega
          · cases hq
        unfold walkG
        rw [hl, if_neg hvt]
        obtain ⟨l2, hsp⟩ := range_split (nodes := nodes) (b := a2.toNat) (by omega)
        have hbb : ((a2.toNat : Nat) : Int) = a2 := by omega
        have hmem : ∀ c ∈ l2, c < nodes := fun c hc => List.mem_range.1 (by rw [hsp]; exact List.mem_append_right _ (List.mem_cons_of_mem _ hc))
        rw [hsp, List.flatMap_append, List.flatMap_cons, hbb, if_pos ⟨hs, hbr⟩, ← List.append_assoc]
        refine i1.mid (fun q hq => ?_) (fun q hq => ?_)
        · obtain ⟨c, hc, hq⟩ := List.mem_flatMap.1 hq
          have hc := List.mem_range.1 hc
          rw [hkey]
          exact (hoth c q (by omega) hq).2 (by omega)
        · obtain ⟨c, hc, hq⟩ := List.mem_flatMap.1 hq
          rw [hkey]
          exact (hoth c q (hmem c hc) hq).1
end
end Go.Rt

/- Walks: the reference's has, walk, All. -/
namespace Go.Proofs.YtleldppdflgmgaaGreat
open Go.RowKit Go.Eng Go.Nw Go.Rt

/-- A list of routes in memory. -/
def rtes (A : Option Addr) (cap : Nat) (rs : List RowM) (H : List HP) : List HP := sl 31 1 A rs.length cap (rs.flatMap rowF) :: many (rs.map rowQ) :: H
def goodB (n : Net) (u v : Int) : Bool := goodE n u v
abbrev walkN (n : Net) (nodes : Nat) (to : Int) (f : Nat) (r : List Int) : List (List Int) := walkG (goodE n) nodes to f r
def subW (n : Net) (nodes : Nat) (to : Int) (f : Nat) (r : List Int) (b : Nat) : List (List Int) := if goodE n (lastOf r) b = true ∧ (b : Int) ∉ r then walkN n nodes to (f - 1) (r ++ [(b : Int)]) else []
theorem walkN_eq {n : Net} {nodes : Nat} {to : Int} {f : Nat} {r : List Int} (hl : lastOf r ≠ to) (hn : r.Nodup) (hm : ∀ x ∈ r, 0 ≤ x ∧ x < nodes) (hf : r.length + f = nodes) : walkN n nodes to f r = (List.range nodes).flatMap (subW n nodes to f r) := by
  cases f with
  | succ f => unfold walkN walkG; rw [if_neg hl]; rfl
  | zero =>
    unfold walkN walkG
    rw [if_neg hl]
    symm
    rw [List.flatMap_eq_nil_iff]
    intro b hb
    have hb := List.mem_range.1 hb
    unfold subW
    rw [if_neg]
    rintro ⟨_, hnb⟩
    have hnd : (r ++ [(b : Int)]).Nodup := List.nodup_append.2 ⟨hn, by simp, fun x hx y hy => by
      obtain rfl := List.mem_singleton.1 hy
      exact fun e => hnb (e ▸ hx)⟩
    have := Rt.nodup_len nodes _ hnd fun x hx => by
      rcases List.mem_append.1 hx with h | h
      · exact hm x h
      · obtain rfl := List.mem_singleton.1 h; omega
    rw [List.length_append, List.length_singleton] at this
    omega
structure Wz where
  k : Nat
  rs : List RowM
  A : Option Addr
  cap : Nat
theorem take_len_le {α : Type} (g : Nat → List α) (k n : Nat) (h : k ≤ n) : ((List.range k).flatMap g).length ≤ ((List.range n).flatMap g).length := by
  obtain ⟨d, rfl⟩ : ∃ d, n = k + d := ⟨n - k, by omega⟩
  induction d with
  | zero => exact Nat.le_refl _
  | succ d ih =>
    have := ih (by omega)
    rw [← Nat.add_assoc, List.range_succ, List.flatMap_append, List.length_append]
    omega

end Go.Proofs.YtleldppdflgmgaaGreat

/- Routes: what the program computes of the example. -/
namespace Go.Rt
open Go.Nw
/-- Whether numbers are the least costs, looked through. -/
def distB (nodes : Nat) (l : List Lk) (to : Int) (far : List Int) : Bool :=
  decide (far.length = nodes) && decide (farAt far to = 0) && ((List.range nodes).all fun v : Nat => decide (0 ≤ farAt far v ∧ farAt far v ≤ noneC)) &&
  ((List.range nodes).all fun v : Nat => decide ((v : Int) = to) || decide (¬ farAt far v < noneC) || l.any fun a => decide (a.1 = v ∧ farAt far a.2.1 + a.2.2 ≤ farAt far v)) &&
  l.all fun a => decide (¬ farAt far a.2.1 < noneC) || decide (farAt far a.1 ≤ farAt far a.2.1 + a.2.2)
theorem dist_ofB {nodes : Nat} {l : List Lk} {to : Int} {far : List Int} (h : distB nodes l to far = true) : Dist nodes l to far := by
  unfold distB at h
  simp only [Bool.and_eq_true, List.all_eq_true, Bool.or_eq_true, decide_eq_true_eq, List.any_eq_true, List.mem_range] at h
  obtain ⟨⟨⟨⟨h1, h2⟩, h3⟩, h4⟩, h5⟩ := h
  refine ⟨h1, h2, fun v h0 hn => ?_, fun v h0 hn hne hlt => ?_, fun a ha hlt => ?_⟩
  · have := h3 v.toNat (by omega)
    rwa [show ((v.toNat : Nat) : Int) = v by omega] at this
  · have := h4 v.toNat (by omega)
    rw [show ((v.toNat : Nat) : Int) = v by omega] at this
    rcases this with (h | h) | h
    · exact absurd h hne
    · exact absurd hlt h
    · exact h
  · rcases h5 a ha with h | h
    · exact absurd hlt h
    · exact h
def arcsB (nodes : Nat) (l : List Lk) : Bool := l.all fun a => decide ((0 ≤ a.1 ∧ a.1 < nodes) ∧ (0 ≤ a.2.1 ∧ a.2.1 < nodes) ∧ (1 ≤ a.2.2 ∧ a.2.2 ≤ 1000000))
theorem arcs_ofB {nodes : Nat} {l : List Lk} (h : arcsB nodes l = true) : ArcsOk nodes l := fun a ha => by
  have := List.all_eq_true.1 h a ha
  exact of_decide_eq_true this
theorem distC_ofB {nodes : Nat} {l : List Lk} {to : Int} {far : List Int} (h1 : arcsB nodes l = true) (h : distB nodes l to far = true) : distC nodes l to = far := distC_eq (arcs_ofB h1) (dist_ofB h)
end Go.Rt
namespace Go.Proofs.YtleldppdflgmgaaGreat
open Go.RowKit Go.Eng Go.Nw Go.Rt

def exA : List Lk := [(0, 1, 1), (0, 2, 2), (1, 0, 1), (1, 3, 1), (2, 0, 2), (2, 3, 1), (3, 1, 1), (3, 2, 1)]
theorem ex_arcs : arcsE exR = exA := by decide
theorem ex_ends : endsE exR 0 3 = 0 := by decide
theorem ex_chk : checkE exR = 0 := by decide
theorem ex_bound1 : boundE exR 0 3 [0, 1, 1, 3] [0, 1, 1, 2] = (4, 0) := by decide
theorem ex_bound2 : boundE exR 0 3 [3, 2, 2, 3] [0, 2, 2, 3] = (5, 0) := by decide
theorem ex_prove : proveE 30 exR 0 3 = some (([3, 2, 2, 3], [0, 2, 2, 3]), 0) := by decide
theorem ex_disj : disjE [0, 1, 3] [0, 2, 3] = true := by decide
theorem ex_short : shortE exR 0 3 = ([0, 1, 3], 0) := by
  have hr : shortR exR 0 3 = [0, 1, 3] := by
    unfold shortR
    rw [ex_arcs, show exR.nodes.toNat = 4 from rfl, distC_ofB (far := [68, 34, 34, 0]) (by decide) (by decide)]
    decide
  unfold shortE
  rw [ex_ends, hr]
  decide
theorem ex_rest1 : restF 30 4 exA [0, 1] 3 = some (4, true) := by
  unfold restF
  rw [if_neg (by decide)]
  decide
theorem ex_rest2 : restF 30 4 exA [0, 1, 3] 3 = some (3, true) := by
  unfold restF
  rw [if_pos (by decide), distC_ofB (far := [3, 1073741824, 1, 0]) (by decide) (by decide)]
  decide
set_option maxRecDepth 100000 in
theorem ex_both : ∃ es, bothF 30 4 exA 0 0 3 (fun _ => false) = some (5, true, es) := by
  have h : (bothF 30 4 exA 0 0 3 (fun _ => false)).map (fun r => (r.1, r.2.1)) = some (5, true) := by decide
  cases hb : bothF 30 4 exA 0 0 3 (fun _ => false) with
  | none => rw [hb] at h; cases h
  | some r =>
    rw [hb] at h
    obtain ⟨x, ok, es⟩ := r
    simp only [Option.map_some, Option.some.injEq, Prod.mk.injEq] at h
    obtain ⟨rfl, rfl⟩ := h
    exact ⟨es, rfl⟩
theorem scan_skip {fuel nodes : Nat} {L m : List Lk} {to total spent at_ : Int} {r : List Int} {st : Int × Int} {a : Lk} (h : a.1 ≠ at_ ∨ a.2.1 ∈ r ∨ (0 ≤ st.1 ∧ st.1 < a.2.1)) : pairScan fuel nodes L to total r spent at_ (a :: m) st = pairScan fuel nodes L to total r spent at_ m st := by
  rw [pairScan, pairStep, if_pos h]
theorem scan_rest {fuel nodes : Nat} {L m : List Lk} {to total spent at_ : Int} {r : List Int} {st : Int × Int} {a : Lk} {s : Int × Bool} (h : ¬ (a.1 ≠ at_ ∨ a.2.1 ∈ r ∨ (0 ≤ st.1 ∧ st.1 < a.2.1))) (hr : restF fuel nodes L (r ++ [a.2.1]) to = some s) : pairScan fuel nodes L to total r spent at_ (a :: m) st = pairScan fuel nodes L to total r spent at_ m (if s.2 = true ∧ spent + a.2.2 + s.1 = total then (a.2.1, a.2.2) else st) := by
  rw [pairScan, pairStep, if_neg h, hr]
  simp only
  split
  · rename_i st2 h2
    split at h2 <;> cases h2
  · rename_i st2 h2
    split at h2 <;> cases h2 <;> simp [*]
theorem ex_loop : pairLoop 30 4 exA 3 5 400 [0] 0 0 = some [0, 1, 3] := by
  have s1 : pairScan 30 4 exA 3 5 [0] 0 0 exA (-1, 0) = some (1, 1) := by
    show pairScan 30 4 exA 3 5 [0] 0 0 [(0, 1, 1), (0, 2, 2), (1, 0, 1), (1, 3, 1), (2, 0, 2), (2, 3, 1), (3, 1, 1), (3, 2, 1)] (-1, 0) = some (1, 1)
    rw [scan_rest (by decide) ex_rest1, if_pos (by decide), scan_skip (by decide), scan_skip (by decide), scan_skip (by decide), scan_skip (by decide), scan_skip (by decide), scan_skip (by decide), scan_skip (by decide)]
    rfl
  have s2 : pairScan 30 4 exA 3 5 [0, 1] 1 1 exA (-1, 0) = some (3, 1) := by
    show pairScan 30 4 exA 3 5 [0, 1] 1 1 [(0, 1, 1), (0, 2, 2), (1, 0, 1), (1, 3, 1), (2, 0, 2), (2, 3, 1), (3, 1, 1), (3, 2, 1)] (-1, 0) = some (3, 1)
    rw [scan_skip (by decide), scan_skip (by decide), scan_skip (by decide), scan_rest (by decide) ex_rest2, if_pos (by decide), scan_skip (by decide), scan_skip (by decide), scan_skip (by decide), scan_skip (by decide)]
    rfl
  rw [pairLoop, if_neg (by decide), s1]
  simp only
  rw [if_neg (by decide), pairLoop, if_neg (by decide)]
  rw [show ([0] ++ [1] : List Int) = [0, 1] from rfl, show (0 + 1 : Int) = 1 from rfl, s2]
  simp only
  rw [if_neg (by decide), pairLoop, if_pos rfl]
  rfl
theorem ex_pair : PairE 30 exR 0 3 = some (some ([0, 1, 3], [0, 2, 3]), 0) := by
  obtain ⟨es, hb⟩ := ex_both
  have ho : otherP 4 exA 0 3 [0, 1, 3] = [0, 2, 3] := by
    unfold otherP
    rw [distC_ofB (far := [3, 1073741824, 1, 0]) (by decide) (by decide)]
    decide
  have hp : pairF 30 4 exA 0 3 = some (some ([0, 1, 3], [0, 2, 3])) := by
    unfold pairF
    rw [hb]
    simp only
    rw [if_neg (by decide), ex_loop]
    simp only
    rw [ho]
  unfold PairE
  rw [if_neg (by rw [ex_ends]; decide), ex_arcs, show exR.nodes.toNat = 4 from rfl, hp]
  rfl
end Go.Proofs.YtleldppdflgmgaaGreat

/- Walk: awake. -/
namespace Go.Proofs.YtleldppdflgmgaaGreat
open Go.RowKit Go.Eng Go.Nw Go.Rt

set_option maxRecDepth 10000 in
set_option maxHeartbeats 2000000 in
theorem awakeR_spec {B : Nat} {w0 : World} {H : List HP} {w : World} (hw : St B w0 H w) :
    Calls Tryz.prog 4 [].toArray w (Post B w0 fun v K => v = .bool true ∧ K = H) := by
  refine Calls_of_VC Tryz.func4 Tryz.ntmps4 rfl rfl hw ?_
  repeat' (first | apply (zs2 ?_) | apply (zs65 ?_) | apply (zs68 ?_) | apply (zs69 ?_) | apply (zs70 ?_) | fail)
  apply VL_call _ en11
  (repeat (first | exact args_nil | (apply args_cons; exact rfl)))
  exact rfl
  exact fun _ hw => (exampleR_spec (hw))
  rintro _ K ⟨n, rfl, hN, hin, hK⟩
  have hsh := fun {H : List HP} {w : World} (hin : n.In B w0 H) (hw : St B w0 H w) => shortest_spec n 0 3 hin hw
  rw [hN, ex_short] at hsh
  have hpa := fun {H : List HP} {w : World} (hin : n.In B w0 H) (hw : St B w0 H w) => Pair_spec n 0 3 30 _ (by omega) (by rw [hN]; exact ex_pair) hin hw
  have hpr := fun {H : List HP} {w : World} (hin : n.In B w0 H) (hw : St B w0 H w) => prove_spec n 0 3 30 _ (by omega) (by rw [hN]; exact ex_prove) hin hw
  have hb1 := fun {A1 A2 : Option Addr} {c1 c2 : Nat} {H : List HP} {w : World} (hin : n.In B w0 H) (h1 : Rd B w0 H A1 (([0, 1, 1, 3] : List Int).flatMap numF)) (h2 : Rd B w0 H A2 (([0, 1, 1, 2] : List Int).flatMap numF)) (hw : St B w0 H w) => bound_spec n 0 3 [0, 1, 1, 3] [0, 1, 1, 2] (c1 := c1) (c2 := c2) (by simp) (by simp) hin h1 h2 hw
  rw [hN, ex_bound1] at hb1
  have hb2 := fun {A1 A2 : Option Addr} {c1 c2 : Nat} {H : List HP} {w : World} (hin : n.In B w0 H) (h1 : Rd B w0 H A1 (([3, 2, 2, 3] : List Int).flatMap numF)) (h2 : Rd B w0 H A2 (([0, 2, 2, 3] : List Int).flatMap numF)) (hw : St B w0 H w) => bound_spec n 0 3 [3, 2, 2, 3] [0, 2, 2, 3] (c1 := c1) (c2 := c2) (by simp) (by simp) hin h1 h2 hw
  rw [hN, ex_bound2] at hb2
  dsimp only at hsh hpa hpr hb1 hb2
  clear hN
  repeat' (first | (apply zg3; refine zs8 ?_) | (apply zg22; refine zs51 ?_) | (apply zg24; (refine zs54 ?_; intro _)) | apply (zs65 ?_) | apply (zs68 ?_) | apply (zs69 ?_) | apply (zs70 ?_) | fail)
  apply VL_call _ en7
  (repeat (first | exact args_nil | (apply args_cons; exact rfl)))
  exact rfl
  exact fun _ hw => (hsh hin.cons (hw))
  rintro _ _ ⟨Ar, cr, rfl, _, _, rfl⟩
  repeat' (first | apply (zs1 ?_) | apply (zs2 ?_) | (apply zg3; refine zs8 ?_) | apply (zs13 ?_) | apply (zs65 ?_) | apply (zs68 ?_) | apply (zs69 ?_) | apply (zs70 ?_) | fail)
  apply VL_call _ en12
  (repeat (first | exact args_nil | (apply args_cons; exact rfl)))
  exact rfl
  exact fun _ hw => (hpa hin.cons.cons (hw))
  rintro _ _ ⟨gL, A1, c1, A2, c2, rfl, _, _, rfl⟩
  repeat' (first | apply (zs1 ?_) | apply (zs2 ?_) | (apply zg3; refine zs8 ?_) | apply (zs13 ?_) | (apply zg25; refine zs55 ?_) | (apply zg26; (refine zs56 ?_; intro _)) | apply (zs65 ?_) | apply (zs68 ?_) | apply (zs69 ?_) | apply (zs70 ?_) | fail)
  rename_i g25 g26
  apply VL_call _ en13
  (repeat (first | exact args_nil | (apply args_cons; exact rfl)))
  exact rfl
  exact fun _ hw => (hb1 (A1 := some ⟨g25, 0, none⟩) (A2 := some ⟨g26, 0, none⟩) (c1 := 4) (c2 := 4) hin.cons.cons.cons.cons.cons.cons.cons (Rd.blk (cs := #[.int .i64 0, .int .i64 1, .int .i64 1, .int .i64 3]) (by (focus repeat (first | with_reducible exact List.mem_cons_self | with_reducible apply List.mem_cons_of_mem | assumption)))) (Rd.blk (cs := #[.int .i64 0, .int .i64 1, .int .i64 1, .int .i64 2]) (by (focus repeat (first | with_reducible exact List.mem_cons_self | with_reducible apply List.mem_cons_of_mem | assumption)))) (hw))
  rintro _ _ ⟨rfl, rfl⟩
  repeat' (first | apply (zs1 ?_) | apply (zs2 ?_) | (apply zg3; refine zs8 ?_) | apply (zs13 ?_) | apply (zs65 ?_) | apply (zs68 ?_) | apply (zs69 ?_) | apply (zs70 ?_) | fail)
  apply VL_call _ en14
  (repeat (first | exact args_nil | (apply args_cons; exact rfl)))
  exact rfl
  exact fun _ hw => (hpr hin.cons.cons.cons.cons.cons.cons.cons (hw))
  rintro _ _ ⟨A3, c3, A4, c4, rfl, _, rfl⟩
  repeat' (first | apply (zs1 ?_) | apply (zs2 ?_) | (apply zg3; refine zs8 ?_) | apply (zs13 ?_) | (apply zg22; refine zs51 ?_) | (apply zg24; (refine zs54 ?_; intro _)) | apply (zs65 ?_) | apply (zs68 ?_) | apply (zs69 ?_) | apply (zs70 ?_) | fail)
  apply VL_call _ en13
  (repeat (first | exact args_nil | (apply args_cons; exact rfl)))
  exact rfl
  exact fun _ hw => (hb2 (A1 := A3) (A2 := A4) (c1 := c3) (c2 := c4) hin.cons.cons.cons.cons.cons.cons.cons.cons.cons.cons (.sl (by (focus repeat (first | with_reducible exact List.mem_cons_self | with_reducible apply List.mem_cons_of_mem | assumption)))) (.sl (by (focus repeat (first | with_reducible exact List.mem_cons_self | with_reducible apply List.mem_cons_of_mem | assumption)))) (hw))
  rintro _ _ ⟨rfl, rfl⟩
  repeat' (first | apply (zs1 ?_) | apply (zs2 ?_) | apply (zs13 ?_) | apply (zs65 ?_) | apply (zs68 ?_) | apply (zs69 ?_) | fail)
  refine VC_st (sl 31 1 (some ⟨gL, 0, none⟩) 2 2 ([(⟨A1, c1, [0, 1, 3]⟩ : RowM), ⟨A2, c2, [0, 2, 3]⟩].flatMap rowF) :: ints A1 c1 [0, 1, 3] :: ints A2 c2 [0, 2, 3] :: ints Ar cr [0, 1, 3] :: K) (by (intro w hw; refine hw.perm ?_; focus repeat (first | exact Perm.refl _ | (apply perm_take; focus ((repeat (first | exact rem_here | apply rem_there)); done)) | apply Perm.dropK))) ?_
  refine VC_sub [(2, .slice Ar 3 cr), (3, .int .i64 0), (4, .slice (some ⟨gL, 0, none⟩) 2 2), (5, .int .i64 0), (6, .int .i64 4), (7, .int .i64 0), (9, .int .i64 0), (10, .int .i64 5), (11, .int .i64 0)] ?_ ?_
  · (repeat (first | exact sub_nil _ | (apply sub_cons; first | exact rfl | exact congrArg (fun z : Int => some (Value.int .i64 z)) (by omega))))
  have hx0 : [(⟨A1, c1, [0, 1, 3]⟩ : RowM), ⟨A2, c2, [0, 2, 3]⟩][(0 : Int).toNat]? = some ⟨A1, c1, [0, 1, 3]⟩ := rfl
  have hx1 : [(⟨A1, c1, [0, 1, 3]⟩ : RowM), ⟨A2, c2, [0, 2, 3]⟩][(1 : Int).toNat]? = some ⟨A2, c2, [0, 2, 3]⟩ := rfl
  have heq := fun {g : Nat} {H : List HP} {w : World} (h1 : Rd B w0 H Ar (([0, 1, 3] : List Int).flatMap numF)) (h2 : blk g (.cells #[.int .i64 0, .int .i64 1, .int .i64 3] 3 (0, 0)) ∈ H) (hw : St B w0 H w) => equal_route [0, 1, 3] [0, 1, 3] (by simp) (by simp) (cap := cr) (cap2 := 3) h1 (Rd.blk h2) hw
  rw [decide_eq_true (rfl : ([0, 1, 3] : List Int) = [0, 1, 3])] at heq
  have hdj := fun {H : List HP} {w : World} (h1 : Rd B w0 H A1 (([0, 1, 3] : List Int).flatMap numF)) (h2 : Rd B w0 H A2 (([0, 2, 3] : List Int).flatMap numF)) (hw : St B w0 H w) => disjoint_spec [0, 1, 3] [0, 2, 3] (by simp) (by simp) (c1 := c1) (c2 := c2) h1 h2 hw
  rw [ex_disj] at hdj
  have hsm := fun {g g5 g6 : Nat} {H : List HP} {w : World} (hl : sl 31 1 (some ⟨gL, 0, none⟩) 2 2 ([(⟨A1, c1, [0, 1, 3]⟩ : RowM), ⟨A2, c2, [0, 2, 3]⟩].flatMap rowF) ∈ H) (h1 : Rd B w0 H A1 (([0, 1, 3] : List Int).flatMap numF)) (h2 : Rd B w0 H A2 (([0, 2, 3] : List Int).flatMap numF)) (h3 : blk g (.cells #[.slice (some ⟨g5, 0, none⟩) 3 3, .slice (some ⟨g6, 0, none⟩) 3 3] 31 (0, 0)) ∈ H) (h4 : blk g5 (.cells #[.int .i64 0, .int .i64 1, .int .i64 3] 3 (0, 0)) ∈ H) (h5 : blk g6 (.cells #[.int .i64 0, .int .i64 2, .int .i64 3] 3 (0, 0)) ∈ H) (hw : St B w0 H w) => calls_val (congrArg Value.bool (decide_eq_true rfl)) (fun _ hw => sameRoutes_spec [⟨A1, c1, [0, 1, 3]⟩, ⟨A2, c2, [0, 2, 3]⟩] [⟨some ⟨g5, 0, none⟩, 3, [0, 1, 3]⟩, ⟨some ⟨g6, 0, none⟩, 3, [0, 2, 3]⟩] (cap := 2) (cap2 := 2) (A := some ⟨gL, 0, none⟩) (A2 := some ⟨g, 0, none⟩) (by simp) (by simp) (by simp) (by simp) (.sl hl) (Rd.blk h3) (fun r hr => by
    simp only [List.mem_cons, List.not_mem_nil, or_false] at hr
    rcases hr with rfl | rfl
    · exact h1
    · exact h2) (fun r hr => by
    simp only [List.mem_cons, List.not_mem_nil, or_false] at hr
    rcases hr with rfl | rfl
    · exact Rd.blk h4
    · exact Rd.blk h5) hw) hw
  apply VC_tree (.n1 0 (.n1 1 (.n1 2 (.n1 3 (.n1 4 (.n1 5 (.n1 6 (.n1 7 (.n1 8 (.n1 9 (.n1 10 (.n1 11 (.n1 12 (.n2 13 (.n1 14 (.n1 15 (.n1 16 (.n1 17 (.n1 18 (.n1 19 (.n1 20 (.n1 21 (.n1 22 (.n1 23 (.n1 24 (.n1 25 (.n1 26 (.n1 27 (.n1 28 (.n1 29 (.n1 30 (.n1 31 (.n1 32 (.n1 33 (.n1 34 (.n1 35 (.n1 36 (.n1 37 (.n1 38 (.n1 39 (.n1 40 (.n1 41 (.n1 42 (.n1 43 (.n1 44 (.n1 45 (.n1 46 (.n1 47 .done)))))))))))))))))))))))))))))))))) 14 (.n1 13 (.n1 15 (.n1 16 (.n1 17 (.n1 18 (.n1 19 (.n1 20 (.n1 21 (.n1 22 (.n1 23 (.n1 24 (.n1 25 (.n1 26 (.n1 27 (.n1 28 (.n1 29 (.n1 30 (.n1 31 (.n1 32 (.n1 33 (.n1 34 (.n1 35 (.n1 36 (.n1 37 (.n1 38 (.n1 39 (.n1 40 (.n1 41 (.n1 42 (.n1 43 (.n1 44 (.n1 45 (.n1 46 (.n1 47 .done)))))))))))))))))))))))))))))))))))))))))))))))) [] [true, true, true, true]
  kernel_rfl
  kernel_rfl
  (repeat (first | with_reducible exact split_nil | with_reducible apply split_t | with_reducible apply split_f))
  exact rfl
  repeat' (first | apply (zs1 ?_) | (apply zg1; refine zs4 ?_) | (apply zg7; (refine zs15 ?_ ?_ <;> intro _ <;> try (exfalso; omega))) | (apply zg26; (refine zs56 ?_; intro _)) | apply (zs65 ?_) | (apply VL_nilh; (repeat (first | with_reducible exact app_nil | with_reducible apply app_cons))) | apply (zs87 ?_) | (apply VQ_heldq; (repeat (first | with_reducible exact pull_nil | (with_reducible apply pull_cons; (repeat (first | with_reducible exact rem_here | with_reducible apply rem_there)))))) | apply (zs90 ?_) | (apply VQ_treeq; (repeat (first | with_reducible exact pull_nil | (with_reducible apply pull_cons; (repeat (first | with_reducible exact rem_here | with_reducible apply rem_there)))))) | fail)
  · skip
    first | apply VL_callt en15 | apply VL_callq en15
    (repeat (first | exact args_nil | (apply args_cons; exact rfl)))
    exact rfl
    exact fun _ hw => (heq (.sl (by (focus repeat (first | with_reducible exact List.mem_cons_self | with_reducible apply List.mem_cons_of_mem | assumption)))) (by (focus repeat (first | with_reducible exact List.mem_cons_self | with_reducible apply List.mem_cons_of_mem | assumption))) hw)
    repeat' (first | apply (zs1 ?_) | (apply zg1; refine zs4 ?_) | (apply zg6; refine zs11 ?_) | (apply zg7; (refine zs15 ?_ ?_ <;> intro _ <;> try (exfalso; omega))) | (apply zg26; (refine zs56 ?_; intro _)) | apply (zs65 ?_) | (apply VL_nilh; (repeat (first | with_reducible exact app_nil | with_reducible apply app_cons))) | apply (zs87 ?_) | (apply VQ_heldq; (repeat (first | with_reducible exact pull_nil | (with_reducible apply pull_cons; (repeat (first | with_reducible exact rem_here | with_reducible apply rem_there)))))) | apply (zs90 ?_) | apply (zs91 ?_ ?_) | (apply VQ_treeq; (repeat (first | with_reducible exact pull_nil | (with_reducible apply pull_cons; (repeat (first | with_reducible exact rem_here | with_reducible apply rem_there)))))) | fail)
    all_goals (
      first | apply VL_callt en16 | apply VL_callq en16
      (repeat (first | exact args_nil | (apply args_cons; exact rfl)))
      exact rfl
      exact fun _ hw => (hsm (by (focus repeat (first | with_reducible exact List.mem_cons_self | with_reducible apply List.mem_cons_of_mem | assumption))) (.sl (by (focus repeat (first | with_reducible exact List.mem_cons_self | with_reducible apply List.mem_cons_of_mem | assumption)))) (.sl (by (focus repeat (first | with_reducible exact List.mem_cons_self | with_reducible apply List.mem_cons_of_mem | assumption)))) (by (focus repeat (first | with_reducible exact List.mem_cons_self | with_reducible apply List.mem_cons_of_mem | assumption))) (by (focus repeat (first | with_reducible exact List.mem_cons_self | with_reducible apply List.mem_cons_of_mem | assumption))) (by (focus repeat (first | with_reducible exact List.mem_cons_self | with_reducible apply List.mem_cons_of_mem | assumption))) hw)
      repeat' (first | (apply VL_index_rd T (f := rowF) (l := [(⟨A1, c1, [0, 1, 3]⟩ : RowM), ⟨A2, c2, [0, 2, 3]⟩]); exact rfl; exact rfl; exact .sl (by (focus repeat (first | with_reducible exact List.mem_cons_self | with_reducible apply List.mem_cons_of_mem | assumption))); exact rfl; exact fun _ => rfl; exact rfl; exact rfl; (simp only [List.length_cons, List.length_nil]; omega)) | (apply VL_load_rd0 T (f := rowF) (l := [(⟨A1, c1, [0, 1, 3]⟩ : RowM), ⟨A2, c2, [0, 2, 3]⟩]); exact rfl; exact .sl (by (focus repeat (first | with_reducible exact List.mem_cons_self | with_reducible apply List.mem_cons_of_mem | assumption))); (first | exact hx0 | exact hx1); exact fun _ => rfl; exact rfl; exact rfl; exact rfl; exact rfl) | apply (zs1 ?_) | (apply zg1; refine zs4 ?_) | (apply zg6; refine zs11 ?_) | (apply zg7; (refine zs15 ?_ ?_ <;> intro _ <;> try (exfalso; omega))) | apply (zs65 ?_) | (apply VL_nilh; (repeat (first | with_reducible exact app_nil | with_reducible apply app_cons))) | apply (zs87 ?_) | (apply VQ_heldq; (repeat (first | with_reducible exact pull_nil | (with_reducible apply pull_cons; (repeat (first | with_reducible exact rem_here | with_reducible apply rem_there)))))) | apply (zs90 ?_) | (apply VQ_treeq; (repeat (first | with_reducible exact pull_nil | (with_reducible apply pull_cons; (repeat (first | with_reducible exact rem_here | with_reducible apply rem_there)))))) | fail)
      first | apply VL_callt en17 | apply VL_callq en17
      (repeat (first | exact args_nil | (apply args_cons; exact rfl)))
      exact rfl
      exact fun _ hw => (hdj (.sl (by (focus repeat (first | with_reducible exact List.mem_cons_self | with_reducible apply List.mem_cons_of_mem | assumption)))) (.sl (by (focus repeat (first | with_reducible exact List.mem_cons_self | with_reducible apply List.mem_cons_of_mem | assumption)))) hw)
      repeat' (first | apply (zs2 ?_) | (apply zg6; refine zs11 ?_) | apply (zs65 ?_) | (apply VL_nilh; (repeat (first | with_reducible exact app_nil | with_reducible apply app_cons))) | apply (zs68 ?_) | apply (zs74 ?_) | (apply VQ_heldq; (repeat (first | with_reducible exact pull_nil | (with_reducible apply pull_cons; (repeat (first | with_reducible exact rem_here | with_reducible apply rem_there)))))) | (apply VT_done; (repeat (first | with_reducible exact app_nil | with_reducible apply app_cons))) | apply (zs90 ?_) | (apply VQ_treeq; (repeat (first | with_reducible exact pull_nil | (with_reducible apply pull_cons; (repeat (first | with_reducible exact rem_here | with_reducible apply rem_there)))))) | apply (zs93 ?_) | apply (zs94 ?_) | fail)
      apply VQ_st H
      · intro w hw
        refine hK w ?_
        revert w
        (intro w hw; refine hw.perm ?_; focus repeat (first | with_reducible exact Perm.refl _ | (with_reducible apply perm_take; focus ((repeat (first | with_reducible exact rem_here | with_reducible apply rem_there)); done)) | with_reducible apply Perm.dropK))
      apply VQ_ret1; exact rfl; exact rfl
      exact ⟨rfl, rfl⟩)
end Go.Proofs.YtleldppdflgmgaaGreat

/- Walks: the reference's Loss, Sum, Cost, Check; the law RouteChecks. -/
namespace Go.Proofs.YtleldppdflgmgaaGreat
open Go.RowKit Go.Eng Go.Nw Go.Rt

end Go.Proofs.YtleldppdflgmgaaGreat

/- Walks: the reference's Shortest; the law RouteShortest. -/
namespace Go.Proofs.YtleldppdflgmgaaGreat
open Go.RowKit Go.Eng Go.Nw Go.Rt

/-! ### Arcs of a network -/
def dearW (n : Net) (u v : Int) : Int := (lossE n u v + 1) * 33 + 1
theorem mem_arcsE {n : Net} (h : Ok n) {u v c : Int} : (u, v, c) ∈ arcsE n ↔ goodE n u v = true ∧ c = lossE n u v + 1 := by
  unfold arcsE
  rw [mem_arcs]
  constructor
  · rintro ⟨i, hi, hu, he⟩
    unfold arcAt at he
    simp only [Prod.mk.injEq] at he
    obtain ⟨rfl, rfl, rfl⟩ := he
    rw [usable_good h hi] at hu
    refine ⟨hu, ?_⟩
    unfold lossE
    rw [find_self h hi, Int.toNat_natCast]
  · rintro ⟨hg, rfl⟩
    have hf := good_find hg
    have hl := find_lt hf
    obtain ⟨e1, e2⟩ := find_key hf
    refine ⟨(findE n u v).toNat, hl, ?_, ?_⟩
    · rw [usable_good h hl, e1, e2]; exact hg
    · unfold arcAt lossE; rw [e1, e2]
theorem dear_net {n : Net} (h : Ok n) : Net3 (goodE n) (dearW n) ((arcsE n).map dear) := by
  refine ⟨fun u v c => ?_, fun u v _ => ?_⟩
  · constructor
    · intro hm
      obtain ⟨⟨a1, a2, a3⟩, ha, he⟩ := List.mem_map.1 hm
      unfold dear at he
      simp only [Prod.mk.injEq] at he
      obtain ⟨rfl, rfl, rfl⟩ := he
      obtain ⟨hg, rfl⟩ := (mem_arcsE h).1 ha
      exact ⟨hg, rfl⟩
    · rintro ⟨hg, rfl⟩
      exact List.mem_map.2 ⟨(u, v, lossE n u v + 1), (mem_arcsE h).2 ⟨hg, rfl⟩, rfl⟩
  · have := loss_bd h u v
    unfold dearW
    omega
theorem good_range {n : Net} (h : Ok n) {u v : Int} (hg : goodE n u v = true) : (0 ≤ u ∧ u < n.nodes) ∧ (0 ≤ v ∧ v < n.nodes) := by
  have hf := good_find hg
  obtain ⟨e1, e2⟩ := find_key hf
  have hl := h.lk _ (find_lt hf)
  have h1 := hl.f0; have h2 := hl.f1; have h3 := hl.t0; have h4 := hl.t1
  rw [e1] at h1 h2
  rw [e2] at h3 h4
  omega

/-! ### Costs, once more -/
theorem costTo_cons (n : Net) (u : Int) (r : List Int) : ∀ k, costTo n (u :: r) (k + 1) = (lossE n u (r.getD 0 0) + 1) + costTo n r k
  | 0 => by simp [costTo]
  | k + 1 => by
    have := costTo_cons n u r k
    rw [costTo, this]
    simp only [costTo, List.getD_cons_succ]
    omega
theorem costE_key (n : Net) : ∀ r : List Int, costE n r = keyG (fun u v => lossE n u v + 1) r
  | [] => rfl
  | [_] => rfl
  | u :: v :: r => by
    have h1 := costE_key n (v :: r)
    have h2 := costTo_cons n u (v :: r) r.length
    unfold costE at h1 ⊢
    simp only [List.length_cons, Nat.add_sub_cancel] at h1 ⊢
    rw [h2, keyG, ← h1]
    rfl
theorem dear_key (n : Net) : ∀ r : List Int, r ≠ [] → keyG (dearW n) r = 33 * costE n r + ((r.length : Int) - 1)
  | [], h => absurd rfl h
  | [_], _ => by simp [keyG, costE, costTo]
  | u :: v :: r, _ => by
    have h1 := dear_key n (v :: r) (by simp)
    rw [costE_key] at h1 ⊢
    simp only [keyG, List.length_cons] at h1 ⊢
    rw [h1]
    unfold dearW
    omega

/-! ### All routes -/
def allE (n : Net) (s t : Int) : List (List Int) := walkN n n.nodes.toNat t (n.nodes.toNat - 1) [s]
theorem walk_count {st : Int → Int → Bool} {nodes : Nat} {to : Int} : ∀ (f : Nat) (r : List Int), (walkG st nodes to f r).length ≤ (nodes + 1) ^ f
  | 0, r => by
    unfold walkG
    split <;> simp
  | f + 1, r => by
    unfold walkG
    split
    · rw [List.length_singleton]
      exact Nat.one_le_pow _ _ (by omega)
    · have : ∀ k, ((List.range k).flatMap fun b : Nat => if st (lastOf r) b = true ∧ (b : Int) ∉ r then walkG st nodes to f (r ++ [(b : Int)]) else []).length ≤ k * (nodes + 1) ^ f := by
        intro k
        induction k with
        | zero => simp
        | succ k ih =>
          have h1 : (if st (lastOf r) k = true ∧ (k : Int) ∉ r then walkG st nodes to f (r ++ [(k : Int)]) else []).length ≤ (nodes + 1) ^ f := by
            split
            · exact walk_count f _
            · exact Nat.zero_le _
          rw [List.range_succ, List.flatMap_append, List.length_append, Nat.add_mul, Nat.one_mul]
          have h2 : ([k].flatMap fun b : Nat => if st (lastOf r) b = true ∧ (b : Int) ∉ r then walkG st nodes to f (r ++ [(b : Int)]) else []).length ≤ (nodes + 1) ^ f := by
            simpa using h1
          omega
      have h3 := this nodes
      have h4 : nodes * (nodes + 1) ^ f ≤ (nodes + 1) ^ f * (nodes + 1) := by rw [Nat.mul_comm]; exact Nat.mul_le_mul_left _ (by omega)
      rw [Nat.pow_succ]
      omega
theorem all_count {n : Net} (h8 : n.nodes ≤ 8) (s t : Int) : (allE n s t).length ≤ 4782969 := by
  unfold allE walkN
  have h1 := walk_count (st := goodE n) (nodes := n.nodes.toNat) (to := t) (n.nodes.toNat - 1) [s]
  have h2 : (n.nodes.toNat + 1) ^ (n.nodes.toNat - 1) ≤ 9 ^ 7 := Nat.le_trans (Nat.pow_le_pow_left (by omega) _) (Nat.pow_le_pow_right (by omega) (by omega))
  have h3 : 9 ^ 7 = 4782969 := by decide
  omega
theorem path_good {n : Net} {nodes : Nat} {to u : Int} {p : List Int} (h : PathG (goodE n) nodes to u p) : ∀ i, i < p.length → goodE n ((u :: p).getD i 0) ((u :: p).getD (i + 1) 0) = true := by
  induction h with
  | done => intro i hi; simp at hi
  | step hu hs hv h ih =>
    intro i hi
    cases i with
    | zero => exact hs
    | succ i => exact ih i (by simpa using hi)
theorem path_last {n : Net} {nodes : Nat} {to u : Int} {p : List Int} (h : PathG (goodE n) nodes to u p) : (u :: p).getD p.length 0 = to := by
  induction h with
  | done => rfl
  | step hu hs hv h ih => exact ih
/-- What a route of the list is. -/
theorem all_ok {n : Net} (hok : Ok n) {s t : Int} (hs : 0 ≤ s ∧ s < n.nodes) {q : List Int} (hq : q ∈ allE n s t) : ∃ p, q = s :: p ∧ PathG (goodE n) n.nodes.toNat t s p ∧ q.Nodup ∧ (∀ x ∈ q, 0 ≤ x ∧ x < n.nodes) ∧ brokenE n q = false ∧ 1 ≤ q.length ∧ q.length ≤ n.nodes.toNat := by
  unfold allE at hq
  obtain ⟨p, rfl, hp⟩ := walk_mem _ _ _ hq
  have hnd := walk_nodup _ _ _ (by simp) hq
  have hp : PathG (goodE n) n.nodes.toNat t s p := hp
  have hm : ∀ x ∈ [s] ++ p, 0 ≤ x ∧ x < n.nodes := fun x hx => by
    have hn0 := hok.n0
    rcases List.mem_append.1 hx with h | h
    · obtain rfl := List.mem_singleton.1 h; exact hs
    · have := path_mem hp x h; omega
  have hl := Rt.nodup_len n.nodes.toNat _ hnd fun x hx => by have := hm x hx; omega
  refine ⟨p, rfl, hp, hnd, hm, ?_, by simp, hl⟩
  unfold brokenE
  rw [List.any_eq_false]
  intro i hi
  have hi := List.mem_range.1 hi
  show ¬ (!goodE n ((s :: p).getD i 0) ((s :: p).getD (i + 1) 0)) = true
  rw [path_good hp i (by simpa using hi)]
  simp
theorem all_short {n : Net} (hok : Ok n) {s t : Int} (hs : 0 ≤ s ∧ s < n.nodes) (ht : 0 ≤ t ∧ t < n.nodes) (hd : Dist n.nodes.toNat ((arcsE n).map dear) t (distC n.nodes.toNat ((arcsE n).map dear) t)) : (shortR n s t = [] ∧ allE n s t = []) ∨ (shortR n s t ≠ [] ∧ FirstMin (keyG (dearW n)) (allE n s t) (shortR n s t)) := by
  have hn0 := hok.n0
  have hn1 := hok.n1
  unfold shortR wayF
  by_cases hfar : noneC ≤ farAt (distC n.nodes.toNat ((arcsE n).map dear) t) s
  · left
    rw [if_pos hfar]
    refine ⟨rfl, List.eq_nil_iff_forall_not_mem.2 fun q hq => ?_⟩
    obtain ⟨p, rfl, hp, hnd, hm, _, _, hl⟩ := all_ok hok hs hq
    have := (path_far (dear_net hok) hd hp (by simp only [List.length_cons] at hl; omega)).2
    omega
  · right
    rw [if_neg hfar]
    refine ⟨by simp, ?_⟩
    have := (way_first (dear_net hok) (dear_ok hok) hd ⟨ht.1, by omega⟩ (fun u v hg => by have := (good_range hok hg).2; omega) (by omega) (farAt (distC n.nodes.toNat ((arcsE n).map dear) t) s).toNat (n.nodes.toNat - 1) [s] s (by simp) (by simp) rfl hs.1 (by omega) (by omega) (Nat.le_refl _) (fun x hx => by obtain rfl := List.mem_singleton.1 hx; exact ⟨⟨hs.1, by omega⟩, Int.le_refl _⟩) (by simp only [List.length_singleton]; omega)).1
    exact this

structure Bz2 where
  k : Nat
  b : RowM
end Go.Proofs.YtleldppdflgmgaaGreat

/- Routes, plain: two ways that have nothing in common, at least cost. -/
namespace Go.Rt
open Go.Nw

/-! ### Duality -/
def balE (E : List E3) (p : Int → Int) : Int := sumI (fun e => p e.2.1 - p e.1) E
def costE3 (E : List E3) : Int := sumI (fun e : E3 => e.2.2) E
theorem dual {L : List FA} {q : Int → Int} {κ : E3 → Int} (h1 : ∀ x ∈ L, x.u = true → 0 ≤ q x.t - q x.f - κ (x.f, x.t, x.c)) (h0 : ∀ x ∈ L, x.u = false → q x.t - q x.f - κ (x.f, x.t, x.c) ≤ 0) {E R : List E3} (hE : (endsF L).Perm (E ++ R)) : balE E q - sumI κ E ≤ bal L q - sumI (fun x : FA => if x.u = true then κ (x.f, x.t, x.c) else 0) L := by
  have e1 : sumI (fun e : E3 => max 0 (q e.2.1 - q e.1 - κ e)) (endsF L) = bal L q - sumI (fun x : FA => if x.u = true then κ (x.f, x.t, x.c) else 0) L := by
    unfold endsF bal
    rw [sumI_map]
    clear hE
    induction L with
    | nil => rfl
    | cons x L ih =>
      rw [sumI_cons, sumI_cons, sumI_cons, ih (fun y hy => h1 y (List.mem_cons_of_mem _ hy)) (fun y hy => h0 y (List.mem_cons_of_mem _ hy))]
      have a1 := h1 x List.mem_cons_self
      have a0 := h0 x List.mem_cons_self
      unfold balG
      cases hu : x.u with
      | true =>
        have := a1 hu
        simp only [if_pos]
        omega
      | false =>
        have := a0 hu
        simp only [Bool.false_eq_true, if_false]
        omega
  rw [sumI_perm _ hE, sumI_append] at e1
  have h2 : 0 ≤ sumI (fun e : E3 => max 0 (q e.2.1 - q e.1 - κ e)) R := sumI_nonneg fun e _ => by omega
  have h3 : balE E q - sumI κ E ≤ sumI (fun e : E3 => max 0 (q e.2.1 - q e.1 - κ e)) E := by
    clear hE e1 h2
    unfold balE
    induction E with
    | nil => exact Int.le_refl _
    | cons e E ih => rw [sumI_cons, sumI_cons, sumI_cons]; omega
  omega
theorem dual_cost {L : List FA} {π : Int → Int} (hp : PotE (flat2 L) π) {E R : List E3} (hE : (endsF L).Perm (E ++ R)) (hb : balE E π = bal L π) : costF L ≤ costE3 E := by
  have h := dual (q := π) (κ := fun e => e.2.2) (L := L) (fun x hx hu => ?_) (fun x hx hu => ?_) hE
  · rw [hb] at h
    unfold costF costE3
    have e : sumI costG L = sumI (fun x : FA => if x.u = true then (x.f, x.t, x.c).snd.snd else 0) L := rfl
    rw [e]
    omega
  · have := hp _ (flat2_mem hx).2 (by unfold rev; simp [hu])
    simp only [rev] at this ⊢
    omega
  · have := hp _ (flat2_mem hx).1 (by unfold fwd; simp [hu])
    simp only [fwd] at this ⊢
    omega
theorem cut {L : List FA} {s t x : Int} {es' : List Ed} {R : Int → Bool} (h : PushNo L s t x es' R) {E R' : List E3} (hE : (endsF L).Perm (E ++ R')) : balE E (fun v => if R v = true then 0 else 1) ≤ bal L (fun v => if R v = true then 0 else 1) := by
  have hd := dual (q := fun v => if R v = true then 0 else 1) (κ := fun _ => 0) (L := L) (fun x hx hu => ?_) (fun x hx hu => ?_) hE
  · have e1 : sumI (fun _ : E3 => (0 : Int)) E = 0 := by
      clear hd hE
      induction E with
      | nil => rfl
      | cons a E ih => rw [sumI_cons, ih]; rfl
    have e2 : sumI (fun x : FA => if x.u = true then (0 : Int) else 0) L = 0 := by
      clear hd hE h
      induction L with
      | nil => rfl
      | cons a E ih => rw [sumI_cons, ih]; simp
    rw [e1, e2] at hd
    omega
  · have := h.cl _ (flat2_mem hx).2 (by unfold rev; simp [hu])
    simp only [rev] at this
    by_cases h1 : R x.t = true
    · rw [if_pos h1, if_pos (this h1)]; decide
    · rw [if_neg h1]; split <;> decide
  · have := h.cl _ (flat2_mem hx).1 (by unfold fwd; simp [hu])
    simp only [fwd] at this
    by_cases h1 : R x.f = true
    · rw [if_pos h1, if_pos (this h1)]; decide
    · rw [if_neg h1]; split <;> decide

/-! ### The graph of links -/
def nodeFA (closed : Int → Bool) (k : Nat) : List FA := (List.range k).flatMap fun v : Nat => if closed (v : Int) = true then [] else [⟨2 * (v : Int), 2 * (v : Int) + 1, 0, false⟩]
def arcFA (l : List Lk) : List FA := l.map fun a => ⟨2 * a.1 + 1, 2 * a.2.1, a.2.2, false⟩
def splitFA (nodes : Nat) (l : List Lk) (closed : Int → Bool) : List FA := nodeFA closed nodes ++ arcFA l
theorem flat2_append : ∀ (l m : List FA), flat2 (l ++ m) = flat2 l ++ flat2 m
  | [], _ => rfl
  | x :: l, m => by simp only [List.cons_append, flat2, flat2_append l m]
theorem splitE_eq (nodes : Nat) (l : List Lk) (closed : Int → Bool) : splitE nodes l closed = flat2 (splitFA nodes l closed) := by
  unfold splitE splitFA
  rw [flat2_append]
  congr 1
  · unfold nodeEs nodeFA
    generalize List.range nodes = r
    induction r with
    | nil => rfl
    | cons v r ih =>
      rw [List.flatMap_cons, List.flatMap_cons, ih, flat2_append]
      congr 1
      split
      · rfl
      · rfl
  · unfold arcEs arcFA
    induction l with
    | nil => rfl
    | cons a l ih =>
      rw [List.flatMap_cons, List.map_cons, ih]
      rfl
def Arcs8 (nodes : Nat) (l : List Lk) : Prop := ∀ a ∈ l, (0 ≤ a.1 ∧ a.1 < nodes) ∧ (0 ≤ a.2.1 ∧ a.2.1 < nodes) ∧ (1 ≤ a.2.2 ∧ a.2.2 ≤ 8)
def arc3 (a : Lk) : E3 := (2 * a.1 + 1, 2 * a.2.1, a.2.2)
def node3 (v : Int) : E3 := (2 * v, 2 * v + 1, 0)
theorem mem_ends {nodes : Nat} {l : List Lk} {closed : Int → Bool} {e : E3} : e ∈ endsF (splitFA nodes l closed) ↔ (∃ v : Int, (0 ≤ v ∧ v < nodes) ∧ closed v = false ∧ e = node3 v) ∨ ∃ a ∈ l, e = arc3 a := by
  unfold endsF splitFA
  rw [List.map_append, List.mem_append]
  constructor
  · rintro (h | h)
    · obtain ⟨x, hx, rfl⟩ := List.mem_map.1 h
      obtain ⟨v, hv, h⟩ := List.mem_flatMap.1 hx
      have hv := List.mem_range.1 hv
      cases hc : closed (v : Int) with
      | true => rw [hc, if_pos rfl] at h; cases h
      | false =>
        rw [hc, if_neg (by decide)] at h
        obtain rfl := List.mem_singleton.1 h
        exact .inl ⟨(v : Int), by omega, hc, rfl⟩
    · obtain ⟨x, hx, rfl⟩ := List.mem_map.1 h
      obtain ⟨a, ha, rfl⟩ := List.mem_map.1 hx
      exact .inr ⟨a, ha, rfl⟩
  · rintro (⟨v, ⟨h0, h1⟩, hc, rfl⟩ | ⟨a, ha, rfl⟩)
    · left
      refine List.mem_map.2 ⟨⟨2 * v, 2 * v + 1, 0, false⟩, List.mem_flatMap.2 ⟨v.toNat, List.mem_range.2 (by omega), ?_⟩, rfl⟩
      rw [show ((v.toNat : Nat) : Int) = v by omega, hc, if_neg (by decide)]
      exact List.mem_singleton.2 rfl
    · right
      exact List.mem_map.2 ⟨⟨2 * a.1 + 1, 2 * a.2.1, a.2.2, false⟩, List.mem_map.2 ⟨a, ha, rfl⟩, rfl⟩
theorem nodup_map_inj {α β : Type} {f : α → β} (hf : ∀ a b, f a = f b → a = b) {l : List α} (h : l.Nodup) : (l.map f).Nodup :=
  List.pairwise_map.2 (List.Pairwise.imp (fun hne e => hne (hf _ _ e)) h)
theorem nodup_of_map {α β : Type} {f : α → β} {l : List α} (h : (l.map f).Nodup) : l.Nodup :=
  List.Pairwise.imp (fun hne e => hne (congrArg f e)) (List.pairwise_map.1 h)
theorem arc3_inj (a b : Lk) (h : arc3 a = arc3 b) : a = b := by
  obtain ⟨a1, a2, a3⟩ := a
  obtain ⟨b1, b2, b3⟩ := b
  simp only [arc3, Prod.mk.injEq] at h
  obtain ⟨h1, h2, h3⟩ := h
  rw [show a1 = b1 by omega, show a2 = b2 by omega, h3]
theorem node3_inj (a b : Int) (h : node3 a = node3 b) : a = b := by
  simp only [node3, Prod.mk.injEq] at h
  omega
theorem arc_node (a : Lk) (v : Int) : arc3 a ≠ node3 v := by
  intro h
  simp only [arc3, node3, Prod.mk.injEq] at h
  omega
theorem nodeFA_nodup (closed : Int → Bool) : ∀ k, ((nodeFA closed k).map fun x : FA => (x.f, x.t, x.c)).Nodup ∧ ∀ e ∈ (nodeFA closed k).map fun x : FA => (x.f, x.t, x.c), ∃ v : Int, v < k ∧ e = node3 v
  | 0 => ⟨List.nodup_nil, fun e he => by cases he⟩
  | k + 1 => by
    obtain ⟨h1, h2⟩ := nodeFA_nodup closed k
    have e : nodeFA closed (k + 1) = nodeFA closed k ++ (if closed (k : Int) = true then [] else [⟨2 * (k : Int), 2 * (k : Int) + 1, 0, false⟩]) := by
      unfold nodeFA
      rw [List.range_succ, List.flatMap_append]
      simp
    rw [e, List.map_append]
    by_cases hc : closed (k : Int) = true
    · rw [if_pos hc, List.map_nil, List.append_nil]
      exact ⟨h1, fun e he => by obtain ⟨v, hv, h⟩ := h2 e he; exact ⟨v, by omega, h⟩⟩
    · rw [if_neg hc]
      refine ⟨List.nodup_append.2 ⟨h1, by simp, fun a ha b hb => ?_⟩, fun e he => ?_⟩
      · obtain ⟨v, hv, rfl⟩ := h2 a ha
        have hb : b = node3 (k : Int) := by simpa [node3] using hb
        rw [hb]
        intro h
        have := node3_inj _ _ h
        omega
      · rcases List.mem_append.1 he with he | he
        · obtain ⟨v, hv, h⟩ := h2 e he; exact ⟨v, by omega, h⟩
        · exact ⟨(k : Int), by omega, by simpa [node3] using he⟩
theorem ends_nodup {nodes : Nat} {l : List Lk} {closed : Int → Bool} (hl : l.Nodup) : (endsF (splitFA nodes l closed)).Nodup := by
  unfold endsF splitFA
  rw [List.map_append]
  obtain ⟨h1, h2⟩ := nodeFA_nodup closed nodes
  have h3 : (arcFA l).map (fun x : FA => (x.f, x.t, x.c)) = l.map arc3 := by
    unfold arcFA; rw [List.map_map]; rfl
  rw [h3]
  refine List.nodup_append.2 ⟨h1, nodup_map_inj arc3_inj hl, fun a ha b hb => ?_⟩
  obtain ⟨v, _, rfl⟩ := h2 a ha
  obtain ⟨c, _, rfl⟩ := List.mem_map.1 hb
  exact (arc_node c v).symm
theorem ed8_of {sides : Nat} {L : List FA} (h : ∀ e ∈ endsF L, (0 ≤ e.1 ∧ e.1 < sides) ∧ (0 ≤ e.2.1 ∧ e.2.1 < sides) ∧ (-8 ≤ e.2.2 ∧ e.2.2 ≤ 8)) : Ed8 sides (flat2 L) := by
  intro e he
  obtain ⟨x, hx, h2⟩ := mem_flat2 he
  have h3 := h (x.f, x.t, x.c) (List.mem_map.2 ⟨x, hx, rfl⟩)
  simp only at h3
  rcases h2 with rfl | rfl
  · exact h3
  · simp only [rev]; omega
theorem split_ends8 {nodes : Nat} {l : List Lk} {closed : Int → Bool} (hl : Arcs8 nodes l) : ∀ e ∈ endsF (splitFA nodes l closed), (0 ≤ e.1 ∧ e.1 < (2 * nodes : Nat)) ∧ (0 ≤ e.2.1 ∧ e.2.1 < (2 * nodes : Nat)) ∧ (0 ≤ e.2.2 ∧ e.2.2 ≤ 8) := by
  intro e he
  rcases mem_ends.1 he with ⟨v, hv, _, rfl⟩ | ⟨a, ha, rfl⟩
  · simp only [node3]; omega
  · obtain ⟨h1, h2, h3⟩ := hl a ha
    simp only [arc3]; omega
theorem split_unused {nodes : Nat} {l : List Lk} {closed : Int → Bool} : ∀ x ∈ splitFA nodes l closed, x.u = false := by
  intro x hx
  rcases List.mem_append.1 hx with h | h
  · obtain ⟨v, _, h⟩ := List.mem_flatMap.1 h
    split at h
    · cases h
    · obtain rfl := List.mem_singleton.1 h; rfl
  · obtain ⟨a, _, rfl⟩ := List.mem_map.1 h; rfl

/-- Two units. -/
def want (a b to : Int) (p : Int → Int) : Int := (p (2 * to) - p (2 * a + 1)) + (p (2 * to) - p (2 * b + 1))
theorem bal_zero {L : List FA} (h : ∀ x ∈ L, x.u = false) (p : Int → Int) : bal L p = 0 := by
  unfold bal
  induction L with
  | nil => rfl
  | cons x L ih =>
    rw [sumI_cons, ih fun y hy => h y (List.mem_cons_of_mem _ hy)]
    unfold balG
    rw [h x List.mem_cons_self]; rfl
theorem cost_zero {L : List FA} (h : ∀ x ∈ L, x.u = false) : costF L = 0 := by
  unfold costF
  induction L with
  | nil => rfl
  | cons x L ih =>
    rw [sumI_cons, ih fun y hy => h y (List.mem_cons_of_mem _ hy)]
    unfold costG
    rw [h x List.mem_cons_self]; rfl
structure BothYes (nodes : Nat) (l : List Lk) (a b to x : Int) (sh : Int → Bool) (es : List Ed) (L : List FA) (π : Int → Int) : Prop where
  es : es = flat2 L
  ends : endsF L = endsF (splitFA nodes l sh)
  bal_ : ∀ p, bal L p = want a b to p
  cost : costF L = x
  pot : PotE (flat2 L) π
  bd : ∀ v : Int, 0 ≤ v → v < (2 * nodes : Nat) → -(16 * (nodes : Int)) ≤ π v ∧ π v ≤ 64 * (nodes : Int)
def BothNo (nodes : Nat) (l : List Lk) (a b to : Int) (sh : Int → Bool) : Prop := ∀ E R : List E3, (endsF (splitFA nodes l sh)).Perm (E ++ R) → (∀ p, balE E p = want a b to p) → False

theorem both_ok {fuel nodes : Nat} {l : List Lk} {a b to : Int} {closed : Int → Bool} (hn : 1 ≤ nodes ∧ nodes ≤ 50) (hl : Arcs8 nodes l) (ha : 0 ≤ a ∧ a < nodes) (hb : 0 ≤ b ∧ b < nodes) (ht : 0 ≤ to ∧ to < nodes) (hf : 2 * nodes * (48 * nodes + 1) < fuel) :
    ∃ r, bothF fuel nodes l a b to closed = some r ∧ ((r.2.1 = true ∧ ∃ L π, BothYes nodes l a b to r.1 (shutB a b to closed) r.2.2 L π) ∨ (r.2.1 = false ∧ BothNo nodes l a b to (shutB a b to closed))) := by
  have hs : 2 * nodes ≤ 100 := by omega
  have hen := split_ends8 (closed := shutB a b to closed) hl
  have hun := split_unused (nodes := nodes) (l := l) (closed := shutB a b to closed)
  have h8 : ∀ {L : List FA}, endsF L = endsF (splitFA nodes l (shutB a b to closed)) → Ed8 (2 * nodes) (flat2 L) := fun {L} he => ed8_of fun e h => by
    have := hen e (by rw [← he]; exact h)
    omega
  have hp0 : PotE (flat2 (splitFA nodes l (shutB a b to closed))) (fun _ => 0) := by
    intro e he hr
    obtain ⟨x, hx, h⟩ := mem_flat2 he
    have hu := hun x hx
    have hc := hen (x.f, x.t, x.c) (List.mem_map.2 ⟨x, hx, rfl⟩)
    rcases h with rfl | rfl
    · simp only [fwd] at hc ⊢; omega
    · simp [rev, hu] at hr
  have m1 : (2 * nodes) * (8 * (2 * nodes) + 1 + (2 * (0 : Int)).natAbs) ≤ 2 * nodes * (48 * nodes + 1) := Nat.mul_le_mul_left _ (by omega)
  have m2 : 2 * nodes ≤ 2 * nodes * (48 * nodes + 1) := Nat.le_mul_of_pos_right _ (by omega)
  have m3 : (2 * nodes) * (8 * (2 * nodes) + 1 + (2 * (16 * (nodes : Int))).natAbs) ≤ 2 * nodes * (48 * nodes + 1) := Nat.mul_le_mul_left _ (by omega)
  unfold bothF
  rw [splitE_eq]
  obtain ⟨⟨x, ok, es⟩, h1, h2⟩ := push_ok (fuel := fuel) (s := 2 * a + 1) (t := 2 * to) (W := 0) hs (h8 rfl) hp0 (by omega) (fun v _ _ => by omega) (by omega) (by omega) (by omega) (by omega)
  rw [h1]
  simp only at h2 ⊢
  rcases h2 with ⟨rfl, R, hR⟩ | ⟨rfl, L1, π1, hY⟩
  · obtain ⟨⟨y, is, es2⟩, h3, _⟩ := push_ok (fuel := fuel) (s := 2 * b + 1) (t := 2 * to) (W := 0) hs (h8 rfl) hp0 (by omega) (fun v _ _ => by omega) (by omega) (by omega) (by omega) (by omega)
    rw [hR.es, h3]
    refine ⟨_, rfl, .inr ⟨rfl, fun E R' hE hb2 => ?_⟩⟩
    have h4 := cut hR hE
    rw [hb2, bal_zero hun] at h4
    unfold want at h4
    dsimp only at h4
    rw [hR.rs, hR.rt, if_pos rfl, if_neg (by decide)] at h4
    split at h4 <;> omega
  · obtain ⟨⟨y, is, es2⟩, h3, h4⟩ := push_ok (fuel := fuel) (s := 2 * b + 1) (t := 2 * to) (W := 16 * nodes) hs (h8 hY.ends) hY.pot (by omega) (fun v h0 h1 => by have := hY.bd v h0 h1; omega) (by omega) (by omega) (by omega) (by omega)
    rw [hY.es, h3]
    simp only at h4 ⊢
    rcases h4 with ⟨rfl, R, hR⟩ | ⟨rfl, L2, π2, hZ⟩
    · refine ⟨_, rfl, .inr ⟨rfl, fun E R' hE hb2 => ?_⟩⟩
      have h4 := cut hR (by rw [hY.ends]; exact hE)
      rw [hb2, hY.bal_, bal_zero hun] at h4
      unfold want at h4
      dsimp only at h4
      rw [hR.rs, hR.rt, if_pos rfl, if_neg (by decide)] at h4
      split at h4 <;> omega
    · refine ⟨_, rfl, .inl ⟨rfl, L2, π2, hZ.es, hZ.ends.trans hY.ends, fun p => ?_, ?_, hZ.pot, fun v h0 h1 => ?_⟩⟩
      · rw [hZ.bal_, hY.bal_, bal_zero hun]
        unfold want
        omega
      · rw [hZ.cost, hY.cost, cost_zero hun]
        simp only
        omega
      · have := hZ.bd v h0 h1
        omega
end Go.Rt
