/- The law RouteBounds returns true at every input, and its arguments read behind the call as they read before: the statement Rows.RouteBoundsSaid. No condition. -/
import Derived.Deep.Slices
import Derived.Lib.SmallJoins
import Derived.OpenShut
import Derived.ProofKit
import Derived.Below
import Derived.ChangeSame
import Derived.Carry
import Derived.Test.YtleldppdflgmgaaRows
import Derived.Test.YtleldppdflgmgaaQ5

/- Walks: the reference's numbers and Bound; the law RouteBounds. -/
namespace Go.Proofs.Ytleldppdflgmgaa
open Go.RowKit Go.Eng Go.Nw Go.Rt

def numbersE (n : Net) (pin pout : List Int) : Int := if (pin.length : Int) ≠ n.nodes ∨ (pout.length : Int) ≠ n.nodes then 1 else if (pin ++ pout).any bigB = true then 2 else 0
theorem big_not {x : Int} (h : bigB x = false) : 0 ≤ x ∧ x ≤ 1048576 := by
  have := of_decide_eq_false h
  omega
set_option maxHeartbeats 1000000 in
theorem numbers_spec (n : NetM) (pin pout : List Int) (hli : pin.length ≤ 1000000000000) (hlo : pout.length ≤ 1000000000000) {A1 A2 : Option Addr} {c1 c2 : Nat} {B : Nat} {w0 : World} {H : List HP} {w : World} (hri : Rd B w0 H A1 (pin.flatMap numF)) (hro : Rd B w0 H A2 (pout.flatMap numF)) (hw : St B w0 H w) :
    Calls Try.prog 44 [n.val, .agg #[.slice A1 pin.length c1, .slice A2 pout.length c2]].toArray w (Post B w0 fun v K => v = .int .i64 (numbersE n.net pin pout) ∧ K = H) := by
  refine Calls_of_VC Try.func44 Try.ntmps44 rfl rfl hw ?_
  (apply VC_seq; apply VC_region; apply VL_box_agg; exact rfl; exact rfl; intro g)
  have e7 : n.net.nodes = n.nodes := rfl
  unfold numbersE
  rw [e7]
  by_cases h1 : (pin.length : Int) = n.nodes
  rotate_left
  · rw [if_pos (.inl h1)]
    repeat' (first | apply (zs1 ?_) | apply (zs2 ?_) | (apply zg1; refine zs3 ?_) | (apply zg2; refine zs6 ?_) | (apply zg3; refine zs7 ?_) | (apply zg4; refine zs9 ?_) | (apply zg6; refine zs11 ?_) | (apply zg8; (refine zs16 ?_ ?_ <;> intro _ <;> try (exfalso; omega))) | (apply zg23; (refine zs52 ?_; intro _)) | apply (zs65 ?_) | apply (zs68 ?_) | apply (zs69 ?_) | apply (zs70 ?_) | (apply zg27; refine zs71 ?_) | apply (zs74 ?_) | apply (zs77 ?_) | fail)
    (repeat apply VQ_tail); apply VQ_ret1; exact rfl; exact rfl; exact ⟨rfl, rfl⟩
  by_cases h2 : (pout.length : Int) = n.nodes
  rotate_left
  · rw [if_pos (.inr h2)]
    repeat' (first | apply (zs1 ?_) | apply (zs2 ?_) | (apply zg1; refine zs4 ?_) | (apply zg2; refine zs6 ?_) | (apply zg3; refine zs7 ?_) | (apply zg4; refine zs9 ?_) | (apply zg6; refine zs12 ?_) | (apply zg8; (refine zs16 ?_ ?_ <;> intro _ <;> try (exfalso; omega))) | (apply zg23; (refine zs52 ?_; intro _)) | apply (zs65 ?_) | apply (zs68 ?_) | apply (zs69 ?_) | apply (zs70 ?_) | (apply zg27; refine zs71 ?_) | apply (zs74 ?_) | apply (zs77 ?_) | fail)
    (repeat apply VQ_tail); apply VQ_ret1; exact rfl; exact rfl; exact ⟨rfl, rfl⟩
  rw [if_neg (by omega)]
  repeat' (first | apply (zs1 ?_) | apply (zs2 ?_) | (apply zg1; refine zs4 ?_) | (apply zg2; refine zs6 ?_) | (apply zg3; refine zs7 ?_) | (apply zg4; refine zs9 ?_) | (apply zg6; refine zs12 ?_) | (apply zg8; (refine zs16 ?_ ?_ <;> intro _ <;> try (exfalso; omega))) | (apply zg23; (refine zs52 ?_; intro _)) | apply (zs65 ?_) | apply (zs68 ?_) | apply (zs69 ?_) | apply (zs70 ?_) | (apply zg27; refine zs72 ?_) | apply (zs73 ?_) | apply (zs76 ?_) | fail)
  rename_i gp _ _
  refine VC_loop1 (fun (k : Nat) => [(5, .int .i64 k), (2, .pointer (some ⟨g, 0, none⟩)), (3, .pointer (some ⟨gp, 0, none⟩))]) (fun _ => blk gp (.cells #[.slice A1 pin.length c1, .slice A2 pout.length c2] 40 (0, 0)) :: netB g n :: H) (fun k => k ≤ pin.length ∧ ((pin.take k) ++ (pout.take k)).any bigB = false) (fun k => pin.length - k) 0 ⟨Nat.zero_le _, rfl⟩ ?_ (fun w hw => hw) ?_
  · (repeat (first | exact sub_nil _ | (apply sub_cons; first | exact rfl | exact congrArg (fun z : Int => some (Value.int .i64 z)) (by omega))))
  rintro k ⟨hk, hi⟩ K hK
  have hri1 : Rd B w0 (blk gp (.cells #[.slice A1 pin.length c1, .slice A2 pout.length c2] 40 (0, 0)) :: netB g n :: H) A1 (pin.flatMap numF) := hri.cons.cons
  have hro1 : Rd B w0 (blk gp (.cells #[.slice A1 pin.length c1, .slice A2 pout.length c2] 40 (0, 0)) :: netB g n :: H) A2 (pout.flatMap numF) := hro.cons.cons
  by_cases hlt : k < pin.length
  · obtain ⟨x, hx⟩ : ∃ x, pin[k]? = some x := ⟨_, List.getElem?_eq_getElem hlt⟩
    obtain ⟨y, hy⟩ : ∃ y, pout[k]? = some y := ⟨_, List.getElem?_eq_getElem (by omega)⟩
    by_cases hb : bigB x = true ∨ bigB y = true
    · have hany : (pin ++ pout).any bigB = true := by
        rcases hb with h | h
        · exact List.any_eq_true.2 ⟨x, List.mem_append_left _ (List.mem_of_getElem? hx), h⟩
        · exact List.any_eq_true.2 ⟨y, List.mem_append_right _ (List.mem_of_getElem? hy), h⟩
      rw [if_pos hany]
      clear hK
      have hb2 : (x < 0 ∨ 1048576 < x) ∨ (y < 0 ∨ 1048576 < y) := by
        rcases hb with h | h
        · exact .inl (of_decide_eq_true h)
        · exact .inr (of_decide_eq_true h)
      repeat' (first | apply (zs1 ?_) | apply (zs2 ?_) | (apply zg1; first | refine zs3 ?_ | refine zs4 ?_) | (apply zg2; refine zs6 ?_) | (apply zg3; first | refine zs7 ?_ | refine zs60 ?_) | (apply zg5; refine zs57 ?_) | (apply zg6; first | refine zs11 ?_ | refine zs12 ?_) | (apply (zs17 ?_ ?_) <;> intro _ <;> try (exfalso; omega)) | (apply (zs19 ?_ ?_) <;> intro _ <;> try (exfalso; omega)) | apply (zs65 ?_) | apply (zs68 ?_) | apply (zs69 ?_) | apply (zs70 ?_) | (apply zg27; refine zs71 ?_) | apply (zs73 ?_) | apply (zs74 ?_) | apply (zs76 ?_) | apply (zs77 ?_) | apply (zs78 ?_) | fail)
      all_goals ((repeat apply VQ_tail); apply VQ_ret1; exact rfl; exact rfl; exact ⟨rfl, rfl⟩)
    · have hbx : bigB x = false := by cases h : bigB x with | false => rfl | true => exact absurd (.inl h) hb
      have hby : bigB y = false := by cases h : bigB y with | false => rfl | true => exact absurd (.inr h) hb
      have hx2 := big_not hbx
      have hy2 := big_not hby
      repeat' (first | apply (zs1 ?_) | apply (zs2 ?_) | (apply zg1; refine zs4 ?_) | (apply zg2; refine zs6 ?_) | (apply zg3; first | refine zs7 ?_ | refine zs60 ?_) | (apply zg5; refine zs57 ?_) | (apply zg6; refine zs12 ?_) | (apply (zs17 ?_ ?_) <;> intro _ <;> try (exfalso; omega)) | (apply (zs19 ?_ ?_) <;> intro _ <;> try (exfalso; omega)) | (apply zg13; refine zs30 ?_) | apply (zs65 ?_) | apply (zs68 ?_) | apply (zs69 ?_) | apply (zs70 ?_) | (apply zg27; first | refine zs71 ?_ | refine zs72 ?_) | apply (zs73 ?_) | apply (zs76 ?_) | apply (zs79 ?_) | fail)
      apply hK (k + 1)
      · refine ⟨by omega, ?_⟩
        rw [List.any_append, any_take hx, any_take hy, hbx, hby, Bool.or_false, Bool.or_false, ← List.any_append]
        exact hi
      · omega
      · (repeat (first | exact sub_nil _ | (apply sub_cons; first | exact rfl | exact congrArg (fun z : Int => some (Value.int .i64 z)) (by omega))))
      · exact fun w hw => hw
  · obtain rfl : k = pin.length := by omega
    clear hK
    rw [List.take_length, List.take_of_length_le (by omega)] at hi
    rw [if_neg (by rw [hi]; decide)]
    repeat' (first | apply (zs1 ?_) | apply (zs2 ?_) | (apply zg2; refine zs6 ?_) | (apply zg3; refine zs7 ?_) | (apply (zs17 ?_ ?_) <;> intro _ <;> try (exfalso; omega)) | apply (zs65 ?_) | apply (zs68 ?_) | apply (zs69 ?_) | apply (zs70 ?_) | (apply zg27; refine zs72 ?_) | apply (zs74 ?_) | apply (zs75 ?_) | apply (zs80 ?_) | apply (zs81 ?_) | fail)
    (repeat apply VQ_tail); apply VQ_ret1; exact rfl; exact rfl; exact ⟨rfl, rfl⟩

theorem arcs_sum (n : Net) (pin pout : List Int) (k : Nat) : sumI (slackA pin pout) (arcsTo n (k + 1)) = sumI (slackA pin pout) (arcsTo n k) + if usableE n k = true then slackA pin pout (arcAt n k) else 0 := by
  cases h : usableE n k with
  | true => rw [arcsTo_yes h, sumI_snoc, if_pos rfl]
  | false => rw [arcsTo_no h, if_neg (by decide), Int.add_zero]

set_option maxRecDepth 10000 in
set_option maxHeartbeats 2000000 in
theorem rbound_spec (n : NetM) (s t : Int) (pin pout : List Int) (hli : pin.length ≤ 500000) (hlo : pout.length ≤ 500000) {A1 A2 : Option Addr} {c1 c2 : Nat} {B : Nat} {w0 : World} {H : List HP} {w : World} (hin : n.In B w0 H) (hri : Rd B w0 H A1 (pin.flatMap numF)) (hro : Rd B w0 H A2 (pout.flatMap numF)) (hw : St B w0 H w) :
    Calls Try.prog 21 [n.val, .int .i64 s, .int .i64 t, .agg #[.slice A1 pin.length c1, .slice A2 pout.length c2]].toArray w (Post B w0 fun v K => v = .tuple #[.int .i64 (boundE n.net s t pin pout).1, .int .i64 (boundE n.net s t pin pout).2] ∧ K = H) := by
  refine Calls_of_VC Try.func21 Try.ntmps21 rfl rfl hw ?_
  (apply VC_seq; apply VC_region; apply VL_box_agg; exact rfl; exact rfl; intro g)
  unfold boundE
  by_cases he : endsE n.net s t = 0
  rotate_left
  · rw [if_pos he]
    repeat' (first | ((first | apply VL_callt en36 | apply VL_callq en36); (repeat (first | exact args_nil | (apply args_cons; exact rfl))); exact rfl; exact fun _ hw => (rends_spec n s t hin.cons.cons hw)) | apply (zs1 ?_) | apply (zs2 ?_) | (apply zg3; refine zs8 ?_) | (apply zg8; (refine zs16 ?_ ?_ <;> intro _ <;> try (exfalso; omega))) | (apply zg23; (refine zs52 ?_; intro _)) | apply (zs65 ?_) | apply (zs68 ?_) | apply (zs69 ?_) | apply (zs70 ?_) | (apply zg27; refine zs71 ?_) | apply (zs74 ?_) | apply (zs77 ?_) | fail)
    (repeat apply VQ_tail)
    apply VQ_ret2; exact rfl; exact rfl; exact rfl
    exact ⟨rfl, rfl⟩
  rw [if_neg (fun h => h he)]
  obtain ⟨hck, ⟨s0, s1⟩, ⟨t0, t1⟩, hst⟩ := ends_ok he
  have hen := fun {H : List HP} {w : World} (hin : n.In B w0 H) (hw : St B w0 H w) => rends_spec n s t hin hw
  rw [he] at hen
  have hok := check_ok hck
  have hn0 := hok.n0
  have hn1 := hok.n1
  have hk0 : n.links.length ≤ 128 := hok.k0
  obtain ⟨hpw, hrw, hlk, hmg, hs1, hs2, hs3, hs4⟩ := id hin
  obtain ⟨nodes, hnd⟩ : ∃ k, n.net.nodes.toNat = k := ⟨_, rfl⟩
  have hnn : n.nodes = (nodes : Int) := by have : n.net.nodes = n.nodes := rfl; omega
  have hnn1 : n.net.nodes = (nodes : Int) := by omega
  have hnum := fun {H : List HP} {w : World} (hri : Rd B w0 H A1 (pin.flatMap numF)) (hro : Rd B w0 H A2 (pout.flatMap numF)) (hw : St B w0 H w) => numbers_spec n pin pout (c1 := c1) (c2 := c2) (by omega) (by omega) hri hro hw
  unfold numbersE at hnum
  rw [hnn1] at hnum ⊢
  by_cases h1 : (pin.length : Int) ≠ nodes ∨ (pout.length : Int) ≠ nodes
  · rw [if_pos h1] at hnum ⊢
    repeat' (first | ((first | apply VL_callt en36 | apply VL_callq en36); (repeat (first | exact args_nil | (apply args_cons; exact rfl))); exact rfl; exact fun _ hw => (hen hin.cons.cons hw)) | ((first | apply VL_callt en44 | apply VL_callq en44); (repeat (first | exact args_nil | (apply args_cons; exact rfl))); exact rfl; exact fun _ hw => (hnum hri.cons.cons hro.cons.cons hw)) | apply (zs1 ?_) | apply (zs2 ?_) | (apply zg3; refine zs8 ?_) | (apply zg8; (refine zs16 ?_ ?_ <;> intro _ <;> try (exfalso; omega))) | (apply zg23; (refine zs52 ?_; intro _)) | apply (zs65 ?_) | apply (zs68 ?_) | apply (zs69 ?_) | apply (zs70 ?_) | (apply zg27; first | refine zs71 ?_ | refine zs72 ?_) | apply (zs74 ?_) | apply (zs76 ?_) | apply (zs77 ?_) | fail)
    (repeat apply VQ_tail)
    apply VQ_ret2; exact rfl; exact rfl; exact rfl
    exact ⟨rfl, rfl⟩
  rw [if_neg h1] at hnum ⊢
  have h2 : (pin.length : Int) = nodes := by omega
  have h3 : (pout.length : Int) = nodes := by omega
  obtain ⟨bb, hbb⟩ : ∃ b, (pin ++ pout).any bigB = b := ⟨_, rfl⟩
  rw [hbb] at hnum ⊢
  cases bb with
  | true =>
    rw [if_pos rfl] at hnum ⊢
    repeat' (first | ((first | apply VL_callt en36 | apply VL_callq en36); (repeat (first | exact args_nil | (apply args_cons; exact rfl))); exact rfl; exact fun _ hw => (hen hin.cons.cons hw)) | ((first | apply VL_callt en44 | apply VL_callq en44); (repeat (first | exact args_nil | (apply args_cons; exact rfl))); exact rfl; exact fun _ hw => (hnum hri.cons.cons hro.cons.cons hw)) | apply (zs1 ?_) | apply (zs2 ?_) | (apply zg3; refine zs8 ?_) | (apply zg8; (refine zs16 ?_ ?_ <;> intro _ <;> try (exfalso; omega))) | (apply zg23; (refine zs52 ?_; intro _)) | apply (zs65 ?_) | apply (zs68 ?_) | apply (zs69 ?_) | apply (zs70 ?_) | (apply zg27; first | refine zs71 ?_ | refine zs72 ?_) | apply (zs74 ?_) | apply (zs76 ?_) | apply (zs77 ?_) | fail)
    (repeat apply VQ_tail)
    apply VQ_ret2; exact rfl; exact rfl; exact rfl
    exact ⟨rfl, rfl⟩
  | false =>
    rw [if_neg (by decide)] at hnum ⊢
    have hsm : ∀ x, x ∈ pin ∨ x ∈ pout → 0 ≤ x ∧ x ≤ 1048576 := fun x hx => by
      have h := List.any_eq_false.1 hbb x (List.mem_append.2 hx)
      exact big_not (by simpa using h)
    have hgi : ∀ v : Int, 0 ≤ v → v < nodes → pin[v.toNat]? = some (farAt pin v) ∧ 0 ≤ farAt pin v ∧ farAt pin v ≤ 1048576 := fun v h4 h5 => by
      have h6 := farAt_get (far := pin) (i := v) (by omega)
      exact ⟨h6, hsm _ (.inl (List.mem_of_getElem? h6))⟩
    have hgo : ∀ v : Int, 0 ≤ v → v < nodes → pout[v.toNat]? = some (farAt pout v) ∧ 0 ≤ farAt pout v ∧ farAt pout v ≤ 1048576 := fun v h4 h5 => by
      have h6 := farAt_get (far := pout) (i := v) (by omega)
      exact ⟨h6, hsm _ (.inr (List.mem_of_getElem? h6))⟩
    obtain ⟨ht1, ht2⟩ := hgi t t0 (by omega)
    obtain ⟨hs1', hs2'⟩ := hgo s s0 (by omega)
    obtain ⟨o0, ho0⟩ : ∃ x, 2 * (farAt pin t - farAt pout s) = x := ⟨_, rfl⟩
    have ho1 : -4194304 ≤ o0 ∧ o0 ≤ 4194304 := by omega
    repeat' (first | ((first | apply VL_callt en36 | apply VL_callq en36); (repeat (first | exact args_nil | (apply args_cons; exact rfl))); exact rfl; exact fun _ hw => (hen hin.cons.cons hw)) | ((first | apply VL_callt en44 | apply VL_callq en44); (repeat (first | exact args_nil | (apply args_cons; exact rfl))); exact rfl; exact fun _ hw => (hnum hri.cons.cons hro.cons.cons hw)) | apply (zs1 ?_) | apply (zs2 ?_) | (apply zg2; refine zs6 ?_) | (apply zg3; first | refine zs7 ?_ | refine zs8 ?_ | refine zs60 ?_) | (apply zg5; refine zs57 ?_) | (apply zg8; (refine zs16 ?_ ?_ <;> intro _ <;> try (exfalso; omega))) | (apply zg14; refine zs31 ?_) | (apply zg15; refine zs32 ?_) | (apply zg23; (refine zs52 ?_; intro _)) | apply (zs65 ?_) | apply (zs66 ?_) | apply (zs68 ?_) | apply (zs69 ?_) | apply (zs70 ?_) | (apply zg27; refine zs72 ?_) | apply (zs73 ?_) | apply (zs76 ?_) | (apply zg28; refine zs83 ?_) | fail)
    rename_i gp _ _
    unfold boundV
    rw [Int.toNat_natCast, ho0]
    have e8 : n.net.links = n.links := rfl
    refine VC_loop1 (fun (k : Nat) => [(12, .int .i64 k), (11, .int .i64 (o0 - sumI (slackA pin pout) (arcsTo n.net k))), (4, .pointer (some ⟨g, 0, none⟩)), (7, .pointer (some ⟨gp, 0, none⟩)), (1, .int .i64 s), (2, .int .i64 t)]) (fun _ => blk gp (.cells #[.slice A1 pin.length c1, .slice A2 pout.length c2] 40 (0, 0)) :: netB g n :: H) (fun k => k ≤ n.links.length ∧ 0 ≤ sumI (slackA pin pout) (arcsTo n.net k) ∧ sumI (slackA pin pout) (arcsTo n.net k) ≤ 1048576 * (k : Int)) (fun k => n.links.length - k) 0 ⟨Nat.zero_le _, Int.le_refl _, Int.le_refl _⟩ ?_ (fun w hw => hw) ?_
    · rw [show arcsTo n.net 0 = [] from rfl, sumI_nil, Int.sub_zero]; (repeat (first | exact sub_nil _ | (apply sub_cons; first | exact rfl | exact congrArg (fun z : Int => some (Value.int .i64 z)) (by omega))))
    rintro k ⟨hk, hs5, hs6⟩ K hK
    have hsum := arcs_sum n.net pin pout k
    by_cases hlt : k < n.links.length
    · have hlx : n.links[k]? = some (lnk n.net k) := lnk_some n.net hlt
      have hl := hok.lk k hlt
      obtain ⟨l0, l1, l2, l3, l4, l5⟩ := (⟨hl.f0, hl.f1, hl.t0, hl.t1, hl.l0, hl.l1⟩ : _ ∧ _ ∧ _ ∧ _ ∧ _ ∧ _)
      rw [usable_good hok hlt] at hsum
      have hsl : slackA pin pout (arcAt n.net k) = max 0 (farAt pin (lnk n.net k).2.1 - farAt pout (lnk n.net k).1 - ((lnk n.net k).2.2 + 1)) := rfl
      obtain ⟨hi1, hi2, hi3⟩ := hgi (lnk n.net k).2.1 l2 (by omega)
      obtain ⟨hj1, hj2, hj3⟩ := hgo (lnk n.net k).1 l0 (by omega)
      have hgd := fun {H : List HP} {w : World} (hin : n.In B w0 H) (hw : St B w0 H w) => good_spec n (lnk n.net k).1 (lnk n.net k).2.1 hin hok hw
      obtain ⟨S, hS⟩ : ∃ x, sumI (slackA pin pout) (arcsTo n.net k) = x := ⟨_, rfl⟩
      rw [hS] at hs5 hs6 hsum ⊢
      obtain ⟨lk, hlk2⟩ : ∃ x, lnk n.net k = x := ⟨_, rfl⟩
      rw [hlk2] at hlx hi1 hi2 hi3 hj1 hj2 hj3 hsl hsum hgd l0 l1 l2 l3 l4 l5
      obtain ⟨x1, hx1⟩ : ∃ x, farAt pin lk.2.1 = x := ⟨_, rfl⟩
      obtain ⟨x2, hx2⟩ : ∃ x, farAt pout lk.1 = x := ⟨_, rfl⟩
      rw [hx1] at hi1 hi2 hi3 hsl
      rw [hx2] at hj1 hj2 hj3 hsl
      have hlk3 : ∀ {X1 X2 : HP}, Rd B w0 (X1 :: X2 :: H) n.lA (n.links.flatMap lkF) := hlk.cons.cons
      obtain ⟨b, hb⟩ : ∃ b, goodE n.net lk.1 lk.2.1 = b := ⟨_, rfl⟩
      rw [hb] at hgd hsum
      cases b with
      | true =>
        rw [if_pos rfl, hsl] at hsum
        repeat' (first | ((first | apply VL_callt en45 | apply VL_callq en45); (repeat (first | exact args_nil | (apply args_cons; exact rfl))); exact rfl; exact fun _ hw => (hgd hin.cons.cons.cons hw)) | apply (zs1 ?_) | apply (zs2 ?_) | (apply zg2; refine zs6 ?_) | (apply zg3; first | refine zs7 ?_ | refine zs8 ?_ | refine zs60 ?_ | refine zs61 ?_) | (apply zg4; refine zs9 ?_) | (apply zg5; refine zs57 ?_) | (apply (zs17 ?_ ?_) <;> intro _ <;> try (exfalso; omega)) | (apply zg13; refine zs30 ?_) | (apply zg14; refine zs31 ?_) | (apply zg22; refine zs51 ?_) | (apply zg24; (refine zs54 ?_; intro _)) | (apply (zs62 ?_ ?_) <;> intro _ <;> try (exfalso; omega)) | apply (zs65 ?_) | apply (zs66 ?_) | apply (zs68 ?_) | apply (zs69 ?_) | apply (zs70 ?_) | (apply zg27; refine zs71 ?_) | apply (zs73 ?_) | apply (zs76 ?_) | apply (zs79 ?_) | (apply zg28; refine zs83 ?_) | fail)
        all_goals (
          apply hK (k + 1)
          · refine ⟨by omega, ?_, ?_⟩
            · rw [hsum]; omega
            · rw [hsum]; omega
          · omega
          · rw [hsum]; (repeat (first | exact sub_nil _ | (apply sub_cons; first | exact rfl | exact congrArg (fun z : Int => some (Value.int .i64 z)) (by omega))))
          · exact fun w hw => hw.tail)
      | false =>
        rw [if_neg (by decide), Int.add_zero] at hsum
        repeat' (first | ((first | apply VL_callt en45 | apply VL_callq en45); (repeat (first | exact args_nil | (apply args_cons; exact rfl))); exact rfl; exact fun _ hw => (hgd hin.cons.cons.cons hw)) | apply (zs1 ?_) | apply (zs2 ?_) | (apply zg2; refine zs6 ?_) | (apply zg3; first | refine zs7 ?_ | refine zs8 ?_ | refine zs61 ?_) | (apply zg4; refine zs9 ?_) | (apply zg5; refine zs57 ?_) | (apply (zs17 ?_ ?_) <;> intro _ <;> try (exfalso; omega)) | (apply zg13; refine zs30 ?_) | (apply zg22; refine zs51 ?_) | (apply zg24; (refine zs54 ?_; intro _)) | apply (zs65 ?_) | apply (zs68 ?_) | apply (zs69 ?_) | apply (zs70 ?_) | (apply zg27; first | refine zs71 ?_ | refine zs72 ?_) | apply (zs73 ?_) | apply (zs76 ?_) | apply (zs79 ?_) | fail)
        apply hK (k + 1)
        · refine ⟨by omega, ?_, ?_⟩
          · rw [hsum]; omega
          · rw [hsum]; omega
        · omega
        · rw [hsum]; (repeat (first | exact sub_nil _ | (apply sub_cons; first | exact rfl | exact congrArg (fun z : Int => some (Value.int .i64 z)) (by omega))))
        · exact fun w hw => hw.tail
    · obtain rfl : k = n.links.length := by omega
      clear hK hsum
      have hae : arcsE n.net = arcsTo n.net n.links.length := rfl
      rw [hae]
      obtain ⟨S, hS⟩ : ∃ x, sumI (slackA pin pout) (arcsTo n.net n.links.length) = x := ⟨_, rfl⟩
      rw [hS] at hs5 hs6 ⊢
      repeat' (first | apply (zs1 ?_) | apply (zs2 ?_) | (apply zg2; refine zs6 ?_) | (apply zg3; refine zs7 ?_) | (apply zg4; refine zs9 ?_) | (apply (zs17 ?_ ?_) <;> intro _ <;> try (exfalso; omega)) | apply (zs65 ?_) | apply (zs68 ?_) | apply (zs69 ?_) | apply (zs70 ?_) | (apply zg27; refine zs72 ?_) | apply (zs73 ?_) | apply (zs75 ?_) | apply (zs80 ?_) | apply (zs81 ?_) | fail)
      refine VC_loop1 (fun (k : Nat) => [(14, .int .i64 k), (11, .int .i64 (o0 - S - sumI (slackN s t pin pout) (List.range k))), (4, .pointer (some ⟨g, 0, none⟩)), (7, .pointer (some ⟨gp, 0, none⟩)), (1, .int .i64 s), (2, .int .i64 t)]) (fun _ => blk gp (.cells #[.slice A1 pin.length c1, .slice A2 pout.length c2] 40 (0, 0)) :: netB g n :: H) (fun k => k ≤ nodes ∧ 0 ≤ sumI (slackN s t pin pout) (List.range k) ∧ sumI (slackN s t pin pout) (List.range k) ≤ 1048576 * (k : Int)) (fun k => nodes - k) 0 ⟨Nat.zero_le _, Int.le_refl _, Int.le_refl _⟩ ?_ (fun w hw => hw) ?_
      · rw [List.range_zero, sumI_nil, Int.sub_zero]; (repeat (first | exact sub_nil _ | (apply sub_cons; first | exact rfl | exact congrArg (fun z : Int => some (Value.int .i64 z)) (by omega))))
      rintro k ⟨hk, hs7, hs8⟩ K hK
      by_cases hlt : k < nodes
      · have hsum : sumI (slackN s t pin pout) (List.range (k + 1)) = sumI (slackN s t pin pout) (List.range k) + slackN s t pin pout k := by rw [List.range_succ]; exact sumI_snoc _ _ _
        obtain ⟨hi1, hi2, hi3⟩ := hgi (k : Int) (by omega) (by omega)
        obtain ⟨hj1, hj2, hj3⟩ := hgo (k : Int) (by omega) (by omega)
        obtain ⟨S2, hS2⟩ : ∃ x, sumI (slackN s t pin pout) (List.range k) = x := ⟨_, rfl⟩
        rw [hS2] at hs7 hs8 hsum ⊢
        have hsl : slackN s t pin pout k = if (k : Int) ≠ s ∧ (k : Int) ≠ t then max 0 (farAt pout k - farAt pin k) else 0 := rfl
        obtain ⟨x1, hx1⟩ : ∃ x, farAt pin (k : Int) = x := ⟨_, rfl⟩
        obtain ⟨x2, hx2⟩ : ∃ x, farAt pout (k : Int) = x := ⟨_, rfl⟩
        rw [hx1] at hi1 hi2 hi3 hsl
        rw [hx2] at hj1 hj2 hj3 hsl
        have hri1 : ∀ {X1 X2 : HP}, Rd B w0 (X1 :: X2 :: H) A1 (pin.flatMap numF) := hri.cons.cons
        have hro1 : ∀ {X1 X2 : HP}, Rd B w0 (X1 :: X2 :: H) A2 (pout.flatMap numF) := hro.cons.cons
        by_cases hin2 : (k : Int) ≠ s ∧ (k : Int) ≠ t
        · rw [if_pos hin2] at hsl
          repeat' (first | apply (zs1 ?_) | apply (zs2 ?_) | (apply zg1; refine zs4 ?_) | (apply zg2; refine zs6 ?_) | (apply zg3; first | refine zs7 ?_ | refine zs60 ?_) | (apply zg5; refine zs57 ?_) | (apply zg6; refine zs11 ?_) | (apply zg8; (refine zs16 ?_ ?_ <;> intro _ <;> try (exfalso; omega))) | (apply (zs17 ?_ ?_) <;> intro _ <;> try (exfalso; omega)) | (apply zg13; refine zs30 ?_) | (apply zg14; refine zs31 ?_) | (apply (zs62 ?_ ?_) <;> intro _ <;> try (exfalso; omega)) | apply (zs65 ?_) | apply (zs66 ?_) | apply (zs68 ?_) | apply (zs69 ?_) | apply (zs70 ?_) | (apply zg27; refine zs71 ?_) | apply (zs73 ?_) | apply (zs76 ?_) | apply (zs79 ?_) | (apply zg28; refine zs83 ?_) | fail)
          all_goals (
            apply hK (k + 1)
            · refine ⟨by omega, ?_, ?_⟩
              · rw [hsum, hsl]; omega
              · rw [hsum, hsl]; omega
            · omega
            · rw [hsum, hsl]; (repeat (first | exact sub_nil _ | (apply sub_cons; first | exact rfl | exact congrArg (fun z : Int => some (Value.int .i64 z)) (by omega))))
            · exact fun w hw => hw)
        · rw [if_neg hin2] at hsl
          repeat' (first | apply (zs1 ?_) | apply (zs2 ?_) | (apply zg1; first | refine zs3 ?_ | refine zs4 ?_) | (apply zg2; refine zs6 ?_) | (apply zg3; refine zs7 ?_) | (apply zg6; first | refine zs11 ?_ | refine zs12 ?_) | (apply zg8; (refine zs16 ?_ ?_ <;> intro _ <;> try (exfalso; omega))) | (apply (zs17 ?_ ?_) <;> intro _ <;> try (exfalso; omega)) | (apply zg13; refine zs30 ?_) | apply (zs65 ?_) | apply (zs68 ?_) | apply (zs69 ?_) | apply (zs70 ?_) | (apply zg27; first | refine zs71 ?_ | refine zs72 ?_) | apply (zs73 ?_) | apply (zs76 ?_) | apply (zs79 ?_) | fail)
          all_goals (
            apply hK (k + 1)
            · refine ⟨by omega, ?_, ?_⟩
              · rw [hsum, hsl]; omega
              · rw [hsum, hsl]; omega
            · omega
            · rw [hsum, hsl]; (repeat (first | exact sub_nil _ | (apply sub_cons; first | exact rfl | exact congrArg (fun z : Int => some (Value.int .i64 z)) (by omega))))
            · exact fun w hw => hw)
      · obtain rfl : k = nodes := by omega
        clear hK
        repeat' (first | apply (zs1 ?_) | apply (zs2 ?_) | (apply zg2; refine zs6 ?_) | (apply zg3; refine zs7 ?_) | (apply (zs17 ?_ ?_) <;> intro _ <;> try (exfalso; omega)) | apply (zs65 ?_) | apply (zs68 ?_) | apply (zs69 ?_) | apply (zs70 ?_) | (apply zg27; refine zs72 ?_) | apply (zs74 ?_) | apply (zs75 ?_) | apply (zs80 ?_) | apply (zs81 ?_) | fail)
        (repeat apply VQ_tail)
        apply VQ_ret2; exact rfl; exact rfl; exact rfl
        exact ⟨rfl, rfl⟩

set_option maxHeartbeats 1000000 in
theorem law_boundsR (n : NetM) (s t : Int) (pin pout : List Int) (hli : pin.length ≤ 9223372036854775807) (hlo : pout.length ≤ 9223372036854775807) {A1 A2 : Option Addr} {c1 c2 : Nat} {B : Nat} {w0 : World} {H : List HP} {w : World} (hin : n.In B w0 H) (hri : Rd B w0 H A1 (pin.flatMap numF)) (hro : Rd B w0 H A2 (pout.flatMap numF)) (hw : St B w0 H w) :
    Calls Try.prog 6 [n.val, .int .i64 s, .int .i64 t, .agg #[.slice A1 pin.length c1, .slice A2 pout.length c2]].toArray w (Post B w0 fun v K => v = .bool true ∧ ∀ w, St B w0 K w → St B w0 H w) := by
  refine Calls_of_VC Try.func6 Try.ntmps6 rfl rfl hw ?_
  (apply VC_seq; apply VC_region; apply VL_box_agg; exact rfl; exact rfl; intro g)
  have hfe := fun {H : List HP} {w : World} (hin : n.In B w0 H) (hw : St B w0 H w) => few_spec n hin hw
  cases hfew : fewE n.net with
  | false =>
    rw [hfew] at hfe
    repeat' (first | ((first | apply VL_callt en10 | apply VL_callq en10); (repeat (first | exact args_nil | (apply args_cons; exact rfl))); exact rfl; exact fun _ hw => (awakeR_spec hw)) | ((first | apply VL_callt en13 | apply VL_callq en13); (repeat (first | exact args_nil | (apply args_cons; exact rfl))); exact rfl; exact fun _ hw => (hfe hin.cons.cons hw)) | apply (zs1 ?_) | apply (zs2 ?_) | (apply zg1; refine zs3 ?_) | (apply zg3; refine zs8 ?_) | (apply zg6; refine zs11 ?_) | (apply zg20; first | refine zs47 ?_ | refine zs48 ?_) | (apply zg23; (refine zs52 ?_; intro _)) | apply (zs65 ?_) | apply (zs68 ?_) | apply (zs69 ?_) | apply (zs70 ?_) | (apply zg27; first | refine zs71 ?_ | refine zs72 ?_) | apply (zs74 ?_) | apply (zs76 ?_) | apply (zs77 ?_) | fail)
    apply VQ_ret1; exact rfl; exact rfl
    exact ⟨rfl, fun w hw => hw.tail.tail⟩
  | true =>
    rw [hfew] at hfe
    by_cases hb1 : 40 < pin.length
    · skip
      repeat' (first | ((first | apply VL_callt en10 | apply VL_callq en10); (repeat (first | exact args_nil | (apply args_cons; exact rfl))); exact rfl; exact fun _ hw => (awakeR_spec hw)) | ((first | apply VL_callt en13 | apply VL_callq en13); (repeat (first | exact args_nil | (apply args_cons; exact rfl))); exact rfl; exact fun _ hw => (hfe hin.cons.cons hw)) | apply (zs1 ?_) | apply (zs2 ?_) | (apply zg1; first | refine zs3 ?_ | refine zs4 ?_) | (apply zg2; refine zs6 ?_) | (apply zg3; first | refine zs7 ?_ | refine zs8 ?_) | (apply zg4; refine zs9 ?_) | (apply zg6; first | refine zs11 ?_ | refine zs12 ?_) | (apply (zs19 ?_ ?_) <;> intro _ <;> try (exfalso; omega)) | (apply zg20; refine zs47 ?_) | (apply zg23; (refine zs52 ?_; intro _)) | apply (zs65 ?_) | apply (zs68 ?_) | apply (zs69 ?_) | apply (zs70 ?_) | (apply zg27; first | refine zs71 ?_ | refine zs72 ?_) | apply (zs74 ?_) | apply (zs76 ?_) | apply (zs77 ?_) | fail)
      apply VQ_ret1; exact rfl; exact rfl
      exact ⟨rfl, fun w hw => hw.tail.tail⟩
    by_cases hb2 : 40 < pout.length
    · skip
      repeat' (first | ((first | apply VL_callt en10 | apply VL_callq en10); (repeat (first | exact args_nil | (apply args_cons; exact rfl))); exact rfl; exact fun _ hw => (awakeR_spec hw)) | ((first | apply VL_callt en13 | apply VL_callq en13); (repeat (first | exact args_nil | (apply args_cons; exact rfl))); exact rfl; exact fun _ hw => (hfe hin.cons.cons hw)) | apply (zs1 ?_) | apply (zs2 ?_) | (apply zg1; refine zs4 ?_) | (apply zg2; refine zs6 ?_) | (apply zg3; first | refine zs7 ?_ | refine zs8 ?_) | (apply zg4; refine zs9 ?_) | (apply zg6; refine zs12 ?_) | (apply (zs19 ?_ ?_) <;> intro _ <;> try (exfalso; omega)) | (apply zg20; refine zs47 ?_) | (apply zg23; (refine zs52 ?_; intro _)) | apply (zs65 ?_) | apply (zs68 ?_) | apply (zs69 ?_) | apply (zs70 ?_) | (apply zg27; first | refine zs71 ?_ | refine zs72 ?_) | apply (zs74 ?_) | apply (zs76 ?_) | apply (zs77 ?_) | fail)
      apply VQ_ret1; exact rfl; exact rfl
      exact ⟨rfl, fun w hw => hw.tail.tail⟩
    repeat' (first | ((first | apply VL_callt en10 | apply VL_callq en10); (repeat (first | exact args_nil | (apply args_cons; exact rfl))); exact rfl; exact fun _ hw => (awakeR_spec hw)) | ((first | apply VL_callt en13 | apply VL_callq en13); (repeat (first | exact args_nil | (apply args_cons; exact rfl))); exact rfl; exact fun _ hw => (hfe hin.cons.cons hw)) | ((first | apply VL_callt en20 | apply VL_callq en20); (repeat (first | exact args_nil | (apply args_cons; exact rfl))); exact rfl; exact fun _ hw => (bound_spec n s t pin pout (by omega) (by omega) hin.cons.cons hri.cons.cons hro.cons.cons hw)) | ((first | apply VL_callt en21 | apply VL_callq en21); (repeat (first | exact args_nil | (apply args_cons; exact rfl))); exact rfl; exact fun _ hw => (rbound_spec n s t pin pout (by omega) (by omega) hin.cons.cons hri.cons.cons hro.cons.cons hw)) | apply (zs1 ?_) | apply (zs2 ?_) | (apply zg1; refine zs4 ?_) | (apply zg2; refine zs6 ?_) | (apply zg3; first | refine zs7 ?_ | refine zs8 ?_) | (apply zg4; refine zs9 ?_) | (apply zg6; first | refine zs11 ?_ | refine zs12 ?_) | apply (zs13 ?_) | (apply zg7; (refine zs15 ?_ ?_ <;> intro _ <;> try (exfalso; omega))) | (apply (zs19 ?_ ?_) <;> intro _ <;> try (exfalso; omega)) | (apply zg20; refine zs47 ?_) | (apply zg23; (refine zs52 ?_; intro _)) | apply (zs65 ?_) | apply (zs68 ?_) | apply (zs69 ?_) | apply (zs70 ?_) | (apply zg27; refine zs72 ?_) | apply (zs74 ?_) | apply (zs76 ?_) | fail)
    all_goals (
      apply VQ_ret1; exact rfl; exact rfl
      exact ⟨rfl, fun w hw => hw.tail.tail⟩)
end Go.Proofs.Ytleldppdflgmgaa

/- From arguments that came in to rows that are only read. -/
namespace Go.Eng
open Go.ChangeShapes Go.WideShapes Go.ChangeAt Go.RowKit Go.Deep

/-- In this world the cells xs lie from A on. -/
def Old (W : World) (A : Option Addr) (xs : List Value) : Prop := ∀ j v, xs[j]? = some v → ∃ g o, A = some ⟨g, o, none⟩ ∧ g < W.heap.size ∧ W.cell? ⟨g, o + j, none⟩ = some v
theorem Old.rd {W : World} {H : List HP} {A : Option Addr} {xs : List Value} (h : Old W A xs) : Rd W.heap.size W H A xs := Rd.old h

theorem cell_lt {W : World} {a : Addr} {v : Value} (h : W.cell? a = some v) : a.block < W.heap.size := by
  unfold World.cell? at h
  rcases Nat.lt_or_ge a.block W.heap.size with h1 | h1
  · exact h1
  · rw [Array.getElem?_eq_none h1] at h; cases h

section
variable {H : Type} {enc : TypeId × Value → H} {P : Program} {W : World} {held : Bool}

/-- A slice that came in: its elements, and where they lie; f: an element's cells; good: what is known of an element. -/
theorem open_rows {α : Type} {f : α → List Value} {good : α → Prop} {t e q : Nat} {fuel : Nat} {A : Option Addr} {len cap : Nat} {x : DataW H × List MemPlace} {spare : Nat → Bool} (ht : P.underlying t = some (.slice e)) (hc : P.cellsOf e = q) (h0 : 0 < q)
    (hel : ∀ n cs y, cs.length = q → DataW.trod enc P W 0 spare held n e cs = some y → ∃ a, cs = f a ∧ good a) (h : DataW.trod enc P W 0 spare held fuel t [.slice A len cap] = some x) :
    ∃ l : List α, l.length = len ∧ Old W A (l.flatMap f) ∧ (∀ a ∈ l, good a) ∧ len ≤ maxLen ∧ (∀ a ∈ l, (f a).length = q) := by
  rcases open_slice ht h with ⟨h1, _⟩ | ⟨a, len', cap', m, n, D, Pl, h1, _, hl, hm, hmm, hxx, hx⟩
  · injection h1 with h1 _
    injection h1 with h1 h2 h3
    subst h1 h2 h3
    exact ⟨[], rfl, (fun j v hv => by simp at hv), (fun a ha => by cases ha), Nat.zero_le _, (fun a ha => by cases ha)⟩
  · injection h1 with h1 _
    injection h1 with h1 h2 h3
    subst h1 h2 h3
    have hle : len ≤ m := by rw [hmm]; split <;> omega
    rw [hc] at hx
    have key : ∀ i, i < len → ∃ b : α, W.cells? 0 (a.add (i * q)) q = some (f b) ∧ good b := fun i hi => by
      obtain ⟨cs', h2, h3⟩ := hx i (by omega)
      obtain ⟨_, h5, _⟩ := World.cells?_some h2
      obtain ⟨b, rfl, hb⟩ := hel n cs' _ h5 h3
      exact ⟨b, h2, hb⟩
    obtain ⟨l, hlen, hl2⟩ : ∃ l : List α, l.length = len ∧ ∀ i b, l[i]? = some b → W.cells? 0 (a.add (i * q)) q = some (f b) ∧ good b := by
      clear hx hmm hle h hl hm hxx
      induction len with
      | zero => exact ⟨[], rfl, fun i b hb => by simp at hb⟩
      | succ k ih =>
        obtain ⟨l, h2, h3⟩ := ih (fun i hi => key i (by omega))
        obtain ⟨b, h4⟩ := key k (by omega)
        refine ⟨l ++ [b], by simp [h2], fun i c hc => ?_⟩
        by_cases hi : i < l.length
        · rw [List.getElem?_append_left hi] at hc; exact h3 i c hc
        · rw [List.getElem?_append_right (by omega)] at hc
          have hi2 : i - l.length = 0 := by
            have := (List.getElem?_eq_some_iff.1 hc).1
            simp at this; omega
          rw [hi2] at hc
          obtain rfl : b = c := by simpa using hc
          obtain rfl : i = k := by omega
          exact h4
    have hfq : ∀ b ∈ l, (f b).length = q := fun b hb => by
      obtain ⟨i, hi⟩ := List.getElem?_of_mem hb
      exact (World.cells?_some (hl2 i b hi).1).2.1
    refine ⟨l, hlen, fun j v hv => ?_, fun b hb => ?_, by omega, hfq⟩
    · have hspl : ∃ i b, l[i]? = some b ∧ ∃ r, j = i * q + r ∧ r < q ∧ (f b)[r]? = some v := by
        clear hlen hl2 key
        induction l generalizing j with
        | nil => simp at hv
        | cons b l ih =>
          rw [List.flatMap_cons] at hv
          have hb := hfq b (by simp)
          by_cases hj : j < q
          · rw [List.getElem?_append_left (by omega)] at hv
            exact ⟨0, b, rfl, j, by omega, hj, hv⟩
          · rw [List.getElem?_append_right (by omega), hb] at hv
            obtain ⟨i, b', h5, r, h6, h7, h8⟩ := ih (fun c hc => hfq c (by simp [hc])) (j - q) hv
            exact ⟨i + 1, b', by simpa using h5, r, by rw [Nat.add_mul]; omega, h7, h8⟩
      obtain ⟨i, b, h5, r, rfl, h7, h8⟩ := hspl
      have h9 := (World.cells?_some (hl2 i b h5).1).2.2 r h7
      rw [h8, add_add] at h9
      obtain ⟨ab, ao, spot⟩ := a
      have hs0 : spot = none := by
        have h10 := World.cell?_spot h9
        unfold Addr.add at h10
        split at h10
        · exact h10
        · rename_i hne
          have hi0 : i < len := by have := (List.getElem?_eq_some_iff.1 h5).1; omega
          have h11 := (World.cells?_some (hl2 0 l[0] (List.getElem?_eq_getElem (by omega))).1).2.2 0 h0
          rw [add_add, Nat.zero_mul, Nat.zero_add] at h11
          have hf0 : ((f l[0])[0]?).isSome = true := by
            rw [List.getElem?_eq_getElem (by rw [hfq _ (List.getElem_mem _)]; exact h0)]; rfl
          cases hf1 : (f l[0])[0]? with
          | none => rw [hf1] at hf0; cases hf0
          | some u =>
            rw [hf1] at h11
            exact World.cell?_spot h11
      subst hs0
      refine ⟨ab, ao, rfl, ?_, ?_⟩
      · have := cell_lt h9
        rw [Addr.add_lit] at this
        exact this
      · rw [Addr.add_lit] at h9
        exact h9
    · obtain ⟨i, hi⟩ := List.getElem?_of_mem hb
      exact (hl2 i b hi).2

/-- A slice of numbers that came in. -/
theorem open_nums {t e : Nat} {k : IntKind} {fuel : Nat} {A : Option Addr} {len cap : Nat} {x : DataW H × List MemPlace} {spare : Nat → Bool} (ht : P.underlying t = some (.slice e)) (he : P.underlying e = some (.int k)) (hc : P.cellsOf e = 1)
    (h : DataW.trod enc P W 0 spare held fuel t [.slice A len cap] = some x) :
    ∃ l : List Int, l.length = len ∧ Old W A (l.flatMap fun z => [Value.int k z]) ∧ (∀ z ∈ l, (Lit.int k z).wf = true) ∧ len ≤ maxLen := by
  obtain ⟨l, h1, h2, h3, h4, _⟩ := open_rows (f := fun z : Int => [Value.int k z]) (good := fun z => (Lit.int k z).wf = true) ht hc (by decide) (fun n cs y hl hy => by
    obtain ⟨m, rfl, rfl, hw⟩ := DataW.trod_int he hy
    exact ⟨m, rfl, hw⟩) h
  exact ⟨l, h1, h2, h3, h4⟩
end
end Go.Eng

/- From arguments that came in to what the walks speak of: openers, built up as types are. -/
namespace Go.Eng
open Go.ChangeShapes Go.WideShapes Go.ChangeAt Go.RowKit Go.Deep

/-- A slice: where it lies, its capacity, its elements. -/
structure SlM (α : Type) where
  A : Option Addr
  cap : Nat
  xs : List α
def SlM.val {α : Type} (s : SlM α) : Value := .slice s.A s.xs.length s.cap

section
variable {H : Type} {enc : TypeId × Value → H} {P : Program} {W : World} {spare : Nat → Bool} {held : Bool}

/-- Cells that are read as a value of type t are those of some a that is good. -/
def Opn (enc : TypeId × Value → H) (P : Program) (W : World) (spare : Nat → Bool) (held : Bool) (t : TypeId) {α : Type} (f : α → List Value) (good : α → Prop) : Prop :=
  ∀ fuel cs y, DataW.trod enc P W 0 spare held fuel t cs = some y → ∃ a, cs = f a ∧ good a

theorem op_map {t : TypeId} {α β : Type} {f : α → List Value} {good : α → Prop} {f' : β → List Value} {good' : β → Prop} (h : Opn enc P W spare held t f good) (g : α → β) (hf : ∀ a, f a = f' (g a)) (hg : ∀ a, good a → good' (g a)) : Opn enc P W spare held t f' good' := by
  intro fuel cs y hy
  obtain ⟨a, h1, h2⟩ := h fuel cs y hy
  exact ⟨g a, h1.trans (hf a), hg a h2⟩

theorem op_int {t : TypeId} {k : IntKind} (ht : P.underlying t = some (.int k)) : Opn enc P W spare held t (fun z : Int => [Value.int k z]) (fun z => (Lit.int k z).wf = true) := by
  intro fuel cs y hy
  obtain ⟨m, rfl, rfl, hw⟩ := DataW.trod_int ht hy
  exact ⟨m, rfl, hw⟩

/-- What is known of a slice that came in. -/
structure SlG {α : Type} (W : World) (f : α → List Value) (good : α → Prop) (s : SlM α) : Prop where
  old : Old W s.A (s.xs.flatMap f)
  good : ∀ a ∈ s.xs, good a
  len : s.xs.length ≤ maxLen
  cap : s.xs.length ≤ s.cap

theorem op_slice {t e q : TypeId} {α : Type} {f : α → List Value} {good : α → Prop} (ht : P.underlying t = some (.slice e)) (hc : P.cellsOf e = q) (h0 : 0 < q) (h : Opn enc P W spare held e f good) : Opn enc P W spare held t (fun s : SlM α => [s.val]) (SlG W f good) := by
  intro fuel cs y hy
  rcases open_slice ht hy with ⟨rfl, _⟩ | ⟨a, len, cap, m, n, D, Pl, rfl, _, hlc, _⟩
  · exact ⟨⟨none, 0, []⟩, rfl, ⟨(fun j v hv => by simp at hv), (fun a ha => by cases ha), Nat.zero_le _, Nat.zero_le _⟩⟩
  · obtain ⟨l, h1, h2, h3, h4, _⟩ := open_rows ht hc h0 (fun n cs y _ hy => h n cs y hy) hy
    subst h1
    exact ⟨⟨some a, cap, l⟩, rfl, h2, h3, h4, hlc⟩

/-- The same for the fields of a struct, one behind the other. -/
def FOpn (enc : TypeId × Value → H) (P : Program) (W : World) (spare : Nat → Bool) (held : Bool) (ts : List TypeId) {α : Type} (f : α → List Value) (good : α → Prop) : Prop :=
  ∀ (n : Nat) (cs : List Value), cs.length = (ts.map P.cellsOf).sum → (∀ i t, ts[i]? = some t → ∃ y, DataW.trod enc P W 0 spare held n t ((cs.drop ((ts.take i).map P.cellsOf).sum).take (P.cellsOf t)) = some y) → ∃ a, cs = f a ∧ good a

theorem fop_nil : FOpn enc P W spare held [] (fun _ : Unit => []) (fun _ => True) := fun n cs h _ => ⟨(), List.eq_nil_of_length_eq_zero (by simpa using h), trivial⟩
theorem fop_cons {t : TypeId} {ts : List TypeId} {α β : Type} {f : α → List Value} {good : α → Prop} {g : β → List Value} {good' : β → Prop} (h : Opn enc P W spare held t f good) (hs : FOpn enc P W spare held ts g good') :
    FOpn enc P W spare held (t :: ts) (fun x : α × β => f x.1 ++ g x.2) (fun x => good x.1 ∧ good' x.2) := by
  intro n cs hl hx
  simp only [List.map_cons, List.sum_cons] at hl
  obtain ⟨y, hy⟩ := hx 0 t rfl
  simp only [List.take_zero, List.map_nil, List.sum_nil, List.drop_zero] at hy
  obtain ⟨a, h1, h2⟩ := h n _ y hy
  obtain ⟨b, h3, h4⟩ := hs n (cs.drop (P.cellsOf t)) (by simp; omega) (fun i u hu => by
    obtain ⟨y, hy⟩ := hx (i + 1) u (by simpa using hu)
    refine ⟨y, ?_⟩
    rw [List.drop_drop]
    simpa using hy)
  exact ⟨(a, b), by show cs = f a ++ g b; rw [← h1, ← h3, List.take_append_drop], h2, h4⟩

def offs (P : Program) : List TypeId → Nat → List Nat
  | [], _ => []
  | t :: ts, o => o :: offs P ts (o + P.cellsOf t)
theorem offs_get (P : Program) : ∀ (ts : List TypeId) (o i : Nat), i < ts.length → (offs P ts o)[i]? = some (o + ((ts.take i).map P.cellsOf).sum)
  | [], _, _, h => by simp at h
  | t :: ts, o, 0, _ => by simp [offs]
  | t :: ts, o, i + 1, h => by
    rw [offs, List.getElem?_cons_succ, offs_get P ts _ i (by simpa using h)]
    simp [Nat.add_assoc]
/-- A struct whose fields have these types, one behind the other. -/
def structB (P : Program) (t : TypeId) (ts : List TypeId) : Bool :=
  match P.underlying t with
  | some (.struct fs) => (fs.toList.map (·.type) == ts) && (fs.toList.map (·.offset) == offs P ts 0) && (P.cellsOf t == (ts.map P.cellsOf).sum)
  | _ => false

theorem op_struct {t : TypeId} {ts : List TypeId} {α : Type} {f : α → List Value} {good : α → Prop} (hB : structB P t ts = true) (h : FOpn enc P W spare held ts f good) : Opn enc P W spare held t f good := by
  intro fuel cs y hy
  unfold structB at hB
  cases hu : P.underlying t with
  | none => rw [hu] at hB; cases hB
  | some d =>
    rw [hu] at hB
    cases d with
    | struct fs =>
      simp only [Bool.and_eq_true, beq_iff_eq] at hB
      obtain ⟨⟨h1, h2⟩, h3⟩ := hB
      obtain ⟨xs, n, _, _, hl, hn, hx⟩ := DataW.trod_struct hu hy
      refine h n cs (hl.trans h3) fun i u hi => ?_
      have hlt : i < ts.length := (List.getElem?_eq_some_iff.1 hi).1
      have hlf : i < fs.toList.length := by rw [← h1] at hlt; simpa using hlt
      have hf : fs[i]? = some (fs.toList[i]) := by rw [← Array.getElem?_toList, List.getElem?_eq_getElem hlf]
      have ht : (fs.toList[i]).type = u := by
        rw [← h1, List.getElem?_map, List.getElem?_eq_getElem hlf] at hi
        simpa using hi
      have ho : (fs.toList[i]).offset = ((ts.take i).map P.cellsOf).sum := by
        have h5 := offs_get P ts 0 i hlt
        rw [← h2, List.getElem?_map, List.getElem?_eq_getElem hlf] at h5
        simpa using h5
      have h6 := hx i _ hf
      rw [ht, ho] at h6
      have hlx : i < xs.length := by rw [hn]; simpa using hlf
      exact ⟨xs[i], by rw [h6, List.getElem?_eq_getElem hlx]⟩
    | _ => cases hB

theorem wf_i64 {z : Int} (h : (Lit.int .i64 z).wf = true) : -9223372036854775808 ≤ z ∧ z ≤ 9223372036854775807 := by
  simp only [Lit.wf, Bool.and_eq_true, decide_eq_true_eq] at h
  have e1 : IntKind.min .i64 = -9223372036854775808 := by decide
  have e2 : IntKind.max .i64 = 9223372036854775807 := by decide
  omega
end
end Go.Eng

/- A network that came in as an argument. -/
namespace Go.Proofs.Ytleldppdflgmgaa
open Go.ChangeShapes Go.WideShapes Go.ChangeAt Go.RowKit Go.Eng Go.Nw

section
variable {H : Type} {enc : TypeId × Value → H} {W : World} {spare : Nat → Bool} {held : Bool}
abbrev I64 (z : Int) : Prop := (Lit.int .i64 z).wf = true
theorem op_i : Opn enc Try.prog W spare held 3 numF I64 := op_int Try.underlying3
theorem op_ints : Opn enc Try.prog W spare held 22 (fun s : SlM Int => [s.val]) (SlG W numF I64) := op_slice (q := 1) Try.underlying22 (by kernel_rfl) (by decide) op_i
theorem op_rows : Opn enc Try.prog W spare held 26 (fun s : SlM (SlM Int) => [s.val]) (SlG W (fun s : SlM Int => [s.val]) (SlG W numF I64)) := op_slice (q := 1) Try.underlying26 (by kernel_rfl) (by decide) op_ints
theorem op_link : Opn enc Try.prog W spare held 68 lkF (fun l => I64 l.1 ∧ I64 l.2.1 ∧ I64 l.2.2) :=
  op_map (op_struct (ts := [3, 3, 3]) (by kernel_rfl) (fop_cons op_i (fop_cons op_i (fop_cons op_i fop_nil)))) (fun x => (x.1, x.2.1, x.2.2.1)) (fun _ => rfl) (fun _ h => ⟨h.1, h.2.1, h.2.2.1⟩)
theorem op_links : Opn enc Try.prog W spare held 27 (fun s : SlM Lk => [s.val]) (SlG W lkF fun l => I64 l.1 ∧ I64 l.2.1 ∧ I64 l.2.2) := op_slice (q := 3) Try.underlying27 (by kernel_rfl) (by decide) op_link

structure NetG (W : World) (n : NetM) : Prop where
  nodes : I64 n.nodes
  pw : Old W n.pA (n.rows.flatMap rowF)
  rw_ : ∀ r ∈ n.rows, Old W r.A (r.xs.flatMap numF)
  noise : I64 n.noise
  thr : I64 n.thr
  lk : Old W n.lA (n.links.flatMap lkF)
  mg : Old W n.mA (n.margin.flatMap numF)
  s1 : n.rows.length ≤ 9223372036854775807
  s2 : ∀ r ∈ n.rows, r.xs.length ≤ 9223372036854775807
  s3 : n.links.length ≤ 9223372036854775807
  s4 : n.margin.length ≤ 9223372036854775807
  w1 : ∀ r ∈ n.rows, ∀ z ∈ r.xs, I64 z
  w2 : ∀ l ∈ n.links, I64 l.1 ∧ I64 l.2.1 ∧ I64 l.2.2
  w3 : ∀ z ∈ n.margin, I64 z
  c3 : n.links.length ≤ n.lcap
  c4 : n.margin.length ≤ n.mcap
theorem NetG.In {n : NetM} {K : List HP} (h : NetG W n) : n.In W.heap.size W K := ⟨h.pw.rd, fun r hr => (h.rw_ r hr).rd, h.lk.rd, h.mg.rd, h.s1, h.s2, h.s3, h.s4⟩

def netF (n : NetM) : List Value := [.int .i64 n.nodes, .slice n.pA n.rows.length n.pcap, .int .i64 n.noise, .int .i64 n.thr, .slice n.lA n.links.length n.lcap, .slice n.mA n.margin.length n.mcap]
def rowOf (s : SlM Int) : RowM := ⟨s.A, s.cap, s.xs⟩
theorem flat_rowOf (l : List (SlM Int)) : (l.map rowOf).flatMap rowF = l.flatMap fun s => [s.val] := by rw [List.flatMap_map]; rfl
theorem maxL : maxLen ≤ 9223372036854775807 := by decide
theorem op_net : Opn enc Try.prog W spare held 29 netF (NetG W) :=
  op_map (op_struct (ts := [3, 26, 3, 3, 27, 22]) (by kernel_rfl) (fop_cons op_i (fop_cons op_rows (fop_cons op_i (fop_cons op_i (fop_cons op_links (fop_cons op_ints fop_nil)))))))
    (fun x => ⟨x.1, x.2.1.A, x.2.1.cap, x.2.1.xs.map rowOf, x.2.2.1, x.2.2.2.1, x.2.2.2.2.1.A, x.2.2.2.2.1.cap, x.2.2.2.2.1.xs, x.2.2.2.2.2.1.A, x.2.2.2.2.2.1.cap, x.2.2.2.2.2.1.xs⟩)
    (fun x => by simp [netF, numF, SlM.val])
    (fun x h => by
      obtain ⟨h1, h2, h3, h4, h5, h6, _⟩ := h
      have hm := maxL
      refine ⟨h1, ?_, ?_, h3, h4, h5.old, h6.old, ?_, ?_, Nat.le_trans h5.len hm, Nat.le_trans h6.len hm, ?_, h5.good, h6.good, h5.cap, h6.cap⟩
      · rw [flat_rowOf]; exact h2.old
      · intro r hr
        obtain ⟨s, hs, rfl⟩ := List.mem_map.1 hr
        exact (h2.good s hs).old
      · rw [List.length_map]; exact Nat.le_trans h2.len hm
      · intro r hr
        obtain ⟨s, hs, rfl⟩ := List.mem_map.1 hr
        exact Nat.le_trans (h2.good s hs).len hm
      · intro r hr
        obtain ⟨s, hs, rfl⟩ := List.mem_map.1 hr
        exact (h2.good s hs).good)

set_option maxRecDepth 100000 in
theorem open_net {r : Reach} {b0 : Nat} {v : Value} {d : DataW H} {p : List MemPlace} (hv : Value.okWide Try.prog W r b0 29 v) (h : DataW.Trod enc Try.prog W 0 spare held 29 v d p) : ∃ n : NetM, v = n.val ∧ NetG W n := by
  obtain ⟨cs, rfl, _⟩ := okWide_struct Try.underlying29 hv
  obtain ⟨fuel, hf⟩ := h
  obtain ⟨n, h1, h2⟩ := op_net fuel _ _ hf
  refine ⟨n, ?_, h2⟩
  have : cs = (netF n).toArray := by rw [← h1]; simp [Value.cells]
  rw [this]; rfl
end
end Go.Proofs.Ytleldppdflgmgaa

/- Routes and potentials that came in as arguments. -/
namespace Go.Proofs.Ytleldppdflgmgaa
open Go.ChangeShapes Go.WideShapes Go.ChangeAt Go.RowKit Go.Eng Go.Nw

section
variable {H : Type} {enc : TypeId × Value → H} {W : World} {spare : Nat → Bool} {held : Bool}
/-- A route as it came in. -/
structure RtG (W : World) (r : RowM) : Prop where
  old : Old W r.A (r.xs.flatMap numF)
  len : r.xs.length ≤ 9223372036854775807
  cap : r.xs.length ≤ r.cap
  good : ∀ z ∈ r.xs, I64 z
theorem op_route : Opn enc Try.prog W spare held 23 rowF (RtG W) :=
  op_map (op_slice (q := 1) Try.underlying23 (by kernel_rfl) (by decide) op_i) rowOf (fun _ => rfl) (fun _ h => ⟨h.old, Nat.le_trans h.len maxL, h.cap, h.good⟩)
theorem op_nums : Opn enc Try.prog W spare held 22 rowF (RtG W) :=
  op_map op_ints rowOf (fun _ => rfl) (fun _ h => ⟨h.old, Nat.le_trans h.len maxL, h.cap, h.good⟩)
set_option maxRecDepth 100000 in
theorem open_route {r : Reach} {b0 : Nat} {v : Value} {d : DataW H} {p : List MemPlace} (hv : Value.okWide Try.prog W r b0 23 v) (h : DataW.Trod enc Try.prog W 0 spare held 23 v d p) : ∃ n : RowM, v = .slice n.A n.xs.length n.cap ∧ RtG W n := by
  obtain ⟨A, len, cap, rfl⟩ := okWide_slice Try.underlying23 hv
  obtain ⟨fuel, hf⟩ := h
  obtain ⟨s, h1, h2⟩ := op_route fuel _ _ hf
  refine ⟨s, ?_, h2⟩
  injection h1
def potV (i o : RowM) : Value := .agg #[.slice i.A i.xs.length i.cap, .slice o.A o.xs.length o.cap]
theorem op_pot : Opn enc Try.prog W spare held 40 (fun p : RowM × RowM => rowF p.1 ++ rowF p.2) (fun p => RtG W p.1 ∧ RtG W p.2) :=
  op_map (op_struct (ts := [22, 22]) (by kernel_rfl) (fop_cons op_nums (fop_cons op_nums fop_nil))) (fun x => (x.1, x.2.1)) (fun x => by simp [rowF]) (fun x h => ⟨h.1, h.2.1⟩)
set_option maxRecDepth 100000 in
theorem open_pot {r : Reach} {b0 : Nat} {v : Value} {d : DataW H} {p : List MemPlace} (hv : Value.okWide Try.prog W r b0 40 v) (h : DataW.Trod enc Try.prog W 0 spare held 40 v d p) : ∃ n : RowM × RowM, v = potV n.1 n.2 ∧ (RtG W n.1 ∧ RtG W n.2) := by
  obtain ⟨cs, rfl, _⟩ := okWide_struct Try.underlying40 hv
  obtain ⟨fuel, hf⟩ := h
  obtain ⟨n, h1, h2⟩ := op_pot fuel _ _ hf
  refine ⟨n, ?_, h2⟩
  have h3 : cs.toList = rowF n.1 ++ rowF n.2 := h1
  have : cs = (rowF n.1 ++ rowF n.2).toArray := by rw [← h3]
  rw [this]; rfl
end
end Go.Proofs.Ytleldppdflgmgaa

/- From a walk to a row: a law that returns true and leaves memory below as it was. -/
namespace Go.Proofs.Ytleldppdflgmgaa
open Go.ChangeShapes Go.WideShapes Go.ChangeAt Go.RowKit

section
variable {H : Type} {enc : TypeId × Value → H} {P : Program}

theorem trodAll_keep (hl : laidOutB P = true) {W W' : World} {sp : Nat → Bool} : ∀ {ts : List TypeId} {vs : List Value} {ds : List (DataW H)} {ps : List MemPlace}, (ts.all fun t => P.readableRec t && decide (t < P.types.size)) = true →
    DataW.TrodAll enc P W 0 (fun _ => true) true ts vs ds ps → (∀ p ∈ ps, W.sameAt W' p) → (∀ p ∈ ps, sp p.block = true) → DataW.TrodAll enc P W' 0 sp true ts vs ds ps
  | [], [], [], _, _, h, _, _ => h
  | [], [], _ :: _, _, _, h, _, _ => h.elim
  | [], _ :: _, _, _, _, h, _, _ => h.elim
  | _ :: _, [], _, _, _, h, _, _ => h.elim
  | _ :: _, _ :: _, [], _, _, h, _, _ => h.elim
  | t :: ts, v :: vs, d :: ds, ps, hr, h, hs, hp => by
    obtain ⟨p, q, h1, h2, rfl⟩ := h
    simp only [List.all_cons, Bool.and_eq_true, decide_eq_true_eq] at hr
    exact ⟨p, q, WideElems.Trod_stays hl hr.1.1 hr.1.2 h1 (fun x hx => hs x (by simp [hx])) (fun x hx => hp x (by simp [hx])), trodAll_keep hl hr.2 h2 (fun x hx => hs x (by simp [hx])) (fun x hx => hp x (by simp [hx])), rfl⟩

/-- The call returned true, and below the heap's old end nothing is changed: what the row asks. -/
theorem post_true {f : Func} {s : ChangeSpec} {apart fresh handsOn again : Bool} {W W' : World} {args : Array Value} {ds gs : List (DataW H)} {before : List MemPlace} {tb : TypeId} (hl : laidOutB P = true)
    (hrd : (f.params.toList.all fun t => P.readableRec t && decide (t < P.types.size)) = true) (hv : s.vars = []) (hrt : f.resultTypes = #[tb]) (htb : P.underlying tb = some .bool)
    (hW : DataW.Whole enc P f.params.toList s.vars apart W args.toList ds gs before) (hb : Below W.heap.size W W')
    (hres : (s.fn H (ds ++ gs)).results = [.lit (.bool true)]) (hargs : (s.fn H (ds ++ gs)).args = ds) (hvars : (s.fn H (ds ++ gs)).vars = []) :
    s.post enc P f apart fresh handsOn again W args (.bool true) W' := by
  have hlt : ∀ p ∈ before, p.block < W.heap.size := fun p hp => hW.lt p hp
  have hW0 := hW
  obtain ⟨p, q, hA, hV, rfl, hz, hn⟩ := hW
  rw [hv] at hV
  have hq : gs = [] ∧ q = [] := by
    cases gs with
    | nil => exact ⟨rfl, hV⟩
    | cons _ _ => exact hV.elim
  obtain ⟨rfl, rfl⟩ := hq
  have hkeep : ∀ sp : Nat → Bool, (∀ x ∈ p ++ [], sp x.block = true) → DataW.TrodAll enc P W' 0 sp true f.params.toList args.toList ds p := fun sp hsp =>
    trodAll_keep hl hrd hA (fun x hx => hb.same (hlt x (by simpa using hx))) (fun x hx => hsp x (by simpa using hx))
  have hR : ∀ (b : Nat) (sp : Nat → Bool) (hd : Bool), DataW.TrodAll enc P W' b sp hd f.resultTypes.toList ((Value.bool true).resultList f.resultTypes.size) (s.fn H (ds ++ [])).results [] := by
    intro b sp hd
    rw [hres, hrt]
    exact trodAll_mk1 (shut_bool htb true)
  have hok := ok_one (P := P) (W' := W') (f := f) (v := .bool true) hrt rfl (okWide_bool_mk htb true)
  have hold : ∀ x ∈ p ++ [], (fun b => decide (b < W.heap.size)) x.block = true := fun x hx => by simpa using hlt x hx
  refine ⟨ds, [], p ++ [], [], p, [], hW0, hR _ _ _, by rw [hargs]; exact hkeep _ hold, by rw [hvars, hv]; rfl, World.keptBut_mono (fun x hx => ⟨hx, Or.inr (by simpa using hx)⟩) (hb.frame (· ∈ p ++ [])), fun _ => ?_⟩
  refine ⟨hok, _, _, ([] ++ p) ++ [], ⟨[] ++ p, [], trodAll_append (hkeep _ (fun _ _ => rfl)) (hR _ _ _), (show DataW.TrodVars enc P W' (fun _ => true) s.vars [] [] by rw [hv]; rfl), rfl, ?_, ?_⟩, ?_⟩
  · intro b off hp
    have hin : MemPlace.cell b off ∈ p ++ [] := by simpa using hp
    rw [hb.frozen (hlt _ hin)]
    exact hz b off hin
  · intro ha
    simpa using hn ha
  · intro x hx _
    simpa using hx
end
end Go.Proofs.Ytleldppdflgmgaa

/- From a walk to a row: more arguments; bounds of numbers. -/
namespace Go.Proofs.Ytleldppdflgmgaa
open Go.ChangeShapes Go.WideShapes Go.ChangeAt Go.RowKit
section
variable {H : Type} {enc : TypeId × Value → H} {P : Program} {w : World} {base : Nat} {spare : Nat → Bool} {held : Bool}
theorem trodAll_five {t t1 t2 t3 t4 : TypeId} {args : Array Value} {ds : List (DataW H)} {ps : List MemPlace} (h : DataW.TrodAll enc P w base spare held [t, t1, t2, t3, t4] args.toList ds ps) :
    ∃ v v1 v2 v3 v4 d d1 d2 d3 d4 p p1 p2 p3 p4, args = #[v, v1, v2, v3, v4] ∧ ds = [d, d1, d2, d3, d4] ∧ ps = p ++ p1 ++ p2 ++ p3 ++ p4 ∧ DataW.Trod enc P w base spare held t v d p ∧ DataW.Trod enc P w base spare held t1 v1 d1 p1 ∧ DataW.Trod enc P w base spare held t2 v2 d2 p2 ∧ DataW.Trod enc P w base spare held t3 v3 d3 p3 ∧ DataW.Trod enc P w base spare held t4 v4 d4 p4 := by
  obtain ⟨v, vs, d, ds', p, q, hargs, rfl, rfl, hd, hrest⟩ := trodAll_cons h
  obtain ⟨v1, vs1, d1, ds1, p1, q1, rfl, rfl, rfl, hd1, hrest1⟩ := trodAll_cons hrest
  obtain ⟨v2, vs2, d2, ds2, p2, q2, rfl, rfl, rfl, hd2, hrest2⟩ := trodAll_cons hrest1
  obtain ⟨v3, vs3, d3, ds3, p3, q3, rfl, rfl, rfl, hd3, hrest3⟩ := trodAll_cons hrest2
  obtain ⟨v4, vs4, d4, ds4, p4, q4, rfl, rfl, rfl, hd4, hrest4⟩ := trodAll_cons hrest3
  obtain ⟨rfl, rfl, rfl⟩ := trodAll_nil hrest4
  exact ⟨v, v1, v2, v3, v4, d, d1, d2, d3, d4, p, p1, p2, p3, p4, by cases args; simp_all, rfl, by simp, hd, hd1, hd2, hd3, hd4⟩
end
theorem wf_u32 {z : Int} (h : (Lit.int .u32 z).wf = true) : 0 ≤ z ∧ z ≤ 4294967295 := by
  simp only [Lit.wf, Bool.and_eq_true, decide_eq_true_eq] at h
  have e1 : IntKind.min .u32 = 0 := by decide
  have e2 : IntKind.max .u32 = 4294967295 := by decide
  omega
theorem wf_u8 {z : Int} (h : (Lit.int .u8 z).wf = true) : 0 ≤ z ∧ z ≤ 255 := by
  simp only [Lit.wf, Bool.and_eq_true, decide_eq_true_eq] at h
  have e1 : IntKind.min .u8 = 0 := by decide
  have e2 : IntKind.max .u8 = 255 := by decide
  omega
end Go.Proofs.Ytleldppdflgmgaa

/- The law RouteBounds returns true at every input, and its arguments read behind the call as they read before: the statement Rows.RouteBoundsSaid. No condition. -/
namespace Go.Proofs.Ytleldppdflgmgaa
open Go.ChangeShapes Go.WideShapes Go.ChangeAt Go.RowKit Go.Eng
open Go.ChangeMaps (open_string)

theorem Try.own : ownKnob Try.prog.godebug = none := by kernel_rfl
theorem Try.laidOut : laidOutB Try.prog = true := by kernel_rfl

set_option maxRecDepth 100000 in
theorem rboundsR_lifted (os : Os) (started : os.Started) (H : Type) (enc : TypeId × Value → H) :
    ReturnsInHanded {} Try.checked os 6 .any (Rows.routeBoundsSpec.pre6 enc Try.prog Try.f6 Rows.routeBoundsRow.domain false) (Rows.routeBoundsSpec.post enc Try.prog Try.f6 false true false false) := by
  refine returnsInHanded_of_change (C := Try.checked) Try.own started (by kernel_rfl) Try.func6
    (ChangeSpec.witness6 (enc := enc) (C := Try.checked) false ⟨#[], #[.agg #[.int .i64 0, .slice none 0 0, .int .i64 0, .int .i64 0, .slice none 0 0, .slice none 0 0], .int .i64 0, .int .i64 0, .agg #[.slice none 0 0, .slice none 0 0]], []⟩ 8 (by kernel_rfl) (by kernel_rfl) (by kernel_rfl) (by kernel_rfl)) ?_
  intro W base args ds gs before hval0 hW hcnd _
  have hval : ∀ (j : Nat) t v, Try.f6.params[j]? = some t → args[j]? = some v → Value.okWide Try.prog W .any base t v := hval0
  have hW' : DataW.Whole enc Try.prog Try.f6.params.toList Rows.routeBoundsSpec.vars false W args.toList ds gs before := hW
  obtain ⟨p, q, hA0, hV, rfl, hfz, hnd⟩ := hW
  have hA : DataW.TrodAll enc Try.prog W 0 (fun _ => true) true Try.f6.params.toList args.toList ds p := hA0
  obtain ⟨rfl, rfl⟩ := trodVars_none hV
  rw [Try.params6] at hA hval
  obtain ⟨v0, v1, v2, v3, d0, d1, d2, d3, p0, p1, p2, p3, rfl, rfl, rfl, h0, h1, h2, h3⟩ := trodAll_four hA
  obtain ⟨n, rfl, hn⟩ := open_net (hval 0 _ v0 rfl rfl) h0
  obtain ⟨s, rfl, -, -, hws⟩ := open_int Try.underlying3 (hval 1 _ v1 rfl rfl) h1
  have hs := wf_i64 hws
  obtain ⟨t, rfl, -, -, hwt⟩ := open_int Try.underlying3 (hval 2 _ v2 rfl rfl) h2
  have ht := wf_i64 hwt
  obtain ⟨p, rfl, hp⟩ := open_pot (hval 3 _ v3 rfl rfl) h3
  refine (law_boundsR n s t p.1.xs p.2.xs hp.1.len hp.2.len hn.In hp.1.old.rd hp.2.old.rd (St.start W)).mono ?_
  rintro e' W' ⟨v, K, rfl, hst, rfl, -⟩
  exact ⟨_, rfl, post_true Try.laidOut (by kernel_rfl) rfl rfl Try.underlying4 hW' hst.below rfl rfl rfl⟩

theorem rboundsR_holds : Rows.RouteBoundsSaid :=
  OpenClaim.holds_of_wide 6 Try.f6 rfl rfl rfl rfl rfl rfl rfl ⟨rfl, rfl, rfl, rfl, rfl⟩ rfl rfl rfl rfl rfl (by kernel_rfl) Try.func6 (by kernel_rfl)
    (of_decide_eq_true (by kernel_rfl)) (by unfold Func.isWrapper; first | (rw [if_pos (by decide +kernel)]; kernel_rfl) | (rw [if_neg (by decide +kernel)]; exact ⟨rfl, rfl⟩))
    (fun os started H enc _ => rboundsR_lifted os started H enc)
end Go.Proofs.Ytleldppdflgmgaa
