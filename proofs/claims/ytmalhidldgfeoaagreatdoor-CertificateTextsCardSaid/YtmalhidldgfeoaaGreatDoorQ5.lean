/- Lemmas for the claim, part 5. -/
import Derived.Test.YtmalhidldgfeoaaGreatDoorQ4

namespace Go.Eng
open Go.RowKit
section
variable {P : Program} {B : Nat} {w0 : World} {Q : Exit → Act → World → Prop} {env : Env} {H : List HP} {m : Mode} {n : Shp} {ops : Array Oper} {rest : List Oper} {d : Nat} {ty : TypeId} {pos : String} {after : Array Edge}
theorem Yv {t : Nat} {x y : Operand} {u v z : Value} (hx : evo env x = some u) (hy : evo env y = some v) (hn : Nat.ble (d + 1) n.k = true) (hr : ∀ w, (Instr.index t u v).run P w = .ok z w) (h : VL P m n B w0 ops Q rest ((d, z) :: env) H) :
    VL P m n B w0 ops Q (⟨some d, .index t x y, ty, pos, after, none⟩ :: rest) env H := by
  refine Yu rfl rfl hn rfl (fun a w ha hw => ?_) h
  simp [execOp, ha.eval hx, ha.eval hy, hr]
theorem Yy {t f : Nat} {x : Operand} {u z : Value} (hx : evo env x = some u) (hn : Nat.ble (d + 1) n.k = true) (hr : ∀ w, (Instr.field t u f).run P w = .ok z w) (h : VL P m n B w0 ops Q rest ((d, z) :: env) H) :
    VL P m n B w0 ops Q (⟨some d, .field t x f, ty, pos, after, none⟩ :: rest) env H := by
  refine Yu rfl rfl hn rfl (fun a w ha hw => ?_) h
  simp [execOp, ha.eval hx, hr]
end
end Go.Eng
namespace Go.Proofs.YtmalhidldgfeoaaGreatDoor
open Go.RowKit Go.Eng Go.Nw Go.Rt
def YgG (k : Nat) : Value := .agg #[strV (YU k), .int .i64 (Xi k : Nat), .int .i64 (X4 k : Nat), .int .i64 (YX k : Nat)]
def Jx : Value := .agg #[.string ⟨#[102, 108, 111, 119]⟩, .int .i64 1, .int .i64 1, .int .i64 3, .string ⟨#[114, 111, 117, 116, 101]⟩, .int .i64 2, .int .i64 9, .int .i64 0, .string ⟨#[98, 111, 117, 110, 100]⟩, .int .i64 2, .int .i64 2, .int .i64 1, .string ⟨#[115, 108, 111, 116, 115]⟩, .int .i64 1, .int .i64 64, .int .i64 2]
theorem W5 {B : Nat} {w0 : World} {H : List HP} {w : World} (hw : St B w0 H w) :
    Calls Tryz.prog 142 ([] : List Value).toArray w (Post B w0 fun v K => v = Jx ∧ K = H) := by
  refine Yd Tryz.func142 Tryz.ntmps142 rfl rfl hw ?_
  repeat' (first | (apply zg22; refine zs51 ?_) | (apply zg24; (refine zs54 ?_; intro _)) | (apply zg25; refine zs55 ?_) | apply (zs65 ?_) | apply (zs68 ?_) | apply (zs69 ?_) | apply (zs70 ?_) | apply (zs74 ?_) | fail)
  (apply Yb4 T (H2 := H); exact rfl; exact rfl; exact zm; exact rfl; exact rfl; exact zk; exact ⟨rfl, rfl⟩)
theorem Yfh (w : World) : (Instr.index 213 Jx (.int .i64 0)).run Tryz.prog w = .ok (.agg #[.string ⟨#[102, 108, 111, 119]⟩, .int .i64 1, .int .i64 1, .int .i64 3]) w := by kernel_rfl
theorem Yfi (w : World) : (Instr.index 213 Jx (.int .i64 1)).run Tryz.prog w = .ok (.agg #[.string ⟨#[114, 111, 117, 116, 101]⟩, .int .i64 2, .int .i64 9, .int .i64 0]) w := by kernel_rfl
theorem Yfj (w : World) : (Instr.index 213 Jx (.int .i64 2)).run Tryz.prog w = .ok (.agg #[.string ⟨#[98, 111, 117, 110, 100]⟩, .int .i64 2, .int .i64 2, .int .i64 1]) w := by kernel_rfl
theorem Yfk (w : World) : (Instr.index 213 Jx (.int .i64 3)).run Tryz.prog w = .ok (.agg #[.string ⟨#[115, 108, 111, 116, 115]⟩, .int .i64 1, .int .i64 64, .int .i64 2]) w := by kernel_rfl
theorem YW {k : Nat} (hk : k < 4) (w : World) : (Instr.index 213 Jx (.int .i64 (k : Nat))).run Tryz.prog w = .ok (YgG k) w := by
  match k, hk with
  | 0, _ => exact Yfh w
  | 1, _ => exact Yfi w
  | 2, _ => exact Yfj w
  | 3, _ => exact Yfk w
theorem Yaf (w : World) : (Instr.field 212 (.agg #[.string ⟨#[102, 108, 111, 119]⟩, .int .i64 1, .int .i64 1, .int .i64 3]) 3).run Tryz.prog w = .ok (.int .i64 3) w := by kernel_rfl
theorem Yag (w : World) : (Instr.field 212 (.agg #[.string ⟨#[114, 111, 117, 116, 101]⟩, .int .i64 2, .int .i64 9, .int .i64 0]) 3).run Tryz.prog w = .ok (.int .i64 0) w := by kernel_rfl
theorem Yah (w : World) : (Instr.field 212 (.agg #[.string ⟨#[98, 111, 117, 110, 100]⟩, .int .i64 2, .int .i64 2, .int .i64 1]) 3).run Tryz.prog w = .ok (.int .i64 1) w := by kernel_rfl
theorem Yai (w : World) : (Instr.field 212 (.agg #[.string ⟨#[115, 108, 111, 116, 115]⟩, .int .i64 1, .int .i64 64, .int .i64 2]) 3).run Tryz.prog w = .ok (.int .i64 2) w := by kernel_rfl
theorem Yz {k : Nat} (hk : k < 4) (w : World) : (Instr.field 212 (YgG k) 3).run Tryz.prog w = .ok (.int .i64 (YX k : Nat)) w := by
  match k, hk with
  | 0, _ => exact Yaf w
  | 1, _ => exact Yag w
  | 2, _ => exact Yah w
  | 3, _ => exact Yai w
abbrev rdrA (g : Nat) (A : Option Addr) (cap : Nat) (C : List ClM) (last : Nat) : HP := blk g (.cells #[.slice A C.length cap, .int .i64 (last : Nat)] 144 (0, 0))
set_option maxRecDepth 10000 in
set_option maxHeartbeats 4000000 in
theorem YeJ (g : Nat) (A : Option Addr) (cap : Nat) (C : List ClM) (last k : Nat) (hk : k < 4) (hl3 : last < 4) (hC : C.length ≤ 1000000) (hCr : ∀ c ∈ C, c.rs.length ≤ 1000000) {B : Nat} {w0 : World} {H : List HP} {w : World} (hm : rdrA g A cap C last ∈ H) (hr : Rd B w0 H A (C.flatMap clF)) (hw : St B w0 H w) :
    Calls Tryz.prog 144 [.pointer (some ⟨g, 0, none⟩), .int .i64 (k : Nat)].toArray w (Post B w0 fun v K => v = .bool (Zf ⟨C.map ClM.clm, last⟩ k) ∧ K = H) := by
  refine Yd Tryz.func144 Tryz.ntmps144 rfl rfl hw ?_
  have p1 := fun {w : World} (hw : St B w0 H w) => W5 hw
  obtain ⟨F, hF⟩ : ∃ F, Zf ⟨C.map ClM.clm, last⟩ k = F := ⟨_, rfl⟩
  rw [hF]
  have hFe : F = (decide (last = YX k) || (decide (k = 1) && decide (last = 3) && decide (0 < C.length) && decide ((Zx (C.map ClM.clm)).routes.length < 2))) := by
    rw [← hF]; unfold Zf; simp only [List.length_map]
  clear hF
  cases hsec : (decide (k = 1) && decide (last = 3) && decide (0 < C.length) && decide ((Zx (C.map ClM.clm)).routes.length < 2)) with
  | true =>
    rw [hsec, Bool.or_true] at hFe
    subst hFe
    simp only [Bool.and_eq_true, decide_eq_true_eq] at hsec
    obtain ⟨⟨⟨h1, h2⟩, h3⟩, h4⟩ := hsec
    obtain ⟨x, hx⟩ : ∃ x, C[C.length - 1]? = some x := ⟨_, List.getElem?_eq_getElem (by omega)⟩
    have hx2 : C[((C.length : Int) - 1).toNat]? = some x := by rw [show ((C.length : Int) - 1).toNat = C.length - 1 by omega]; exact hx
    have h5 : x.rs.length < 2 := by
      unfold Zx at h4
      rw [List.length_map, XL hx] at h4
      have : x.clm.routes.length = x.rs.length := by show (x.rs.map (·.xs)).length = _; rw [List.length_map]
      omega
    by_cases hb : last = YX k
    all_goals (
      repeat' (first | apply (zs1 ?_) | apply (zs2 ?_) | (apply zg1; refine zs4 ?_) | apply (zs5 ?_) | (apply zg2; first | refine zs6 ?_ | refine zs58 ?_) | (apply zg3; first | refine zs7 ?_ | refine zs59 ?_) | (apply zg4; refine zs9 ?_) | (apply zg5; refine zs57 ?_) | (apply zg6; refine zs11 ?_) | (apply zg7; (refine zs15 ?_ ?_ <;> intro _ <;> try (exfalso; omega))) | (apply (zs17 ?_ ?_) <;> intro _ <;> try (exfalso; omega)) | (apply (zs19 ?_ ?_) <;> intro _ <;> try (exfalso; omega)) | (apply zg14; refine zs31 ?_) | apply (zs65 ?_) | apply (zs66 ?_) | apply (zs68 ?_) | apply (zs69 ?_) | apply (zs70 ?_) | (apply zg28; refine zs83 ?_) | fail)
      apply YB [0, 1, 2, 3, 5, 4, 6, 7, 8, 9, 10, 11, 12] []
      kernel_rfl
      kernel_rfl
      (simp only [Yj, nthO]; rfl)
      exact rfl
      repeat' (first | apply (zs1 ?_) | apply (zs5 ?_) | (apply zg2; refine zs6 ?_) | (apply zg3; refine zs7 ?_) | apply (zs87 ?_) | fail)
      first | apply Ya ZI | apply Yb ZI
      exact za
      exact rfl
      exact fun _ hw => (p1 hw)
      repeat' (first | (apply Yv; exact rfl; exact rfl; exact rfl; exact YW hk) | (apply Yy; exact rfl; exact rfl; exact Yz hk) | apply (zs1 ?_) | apply (zs2 ?_) | (apply zg1; first | refine zs3 ?_ | refine zs4 ?_) | (apply zg6; first | refine zs11 ?_ | refine zs12 ?_) | (apply zg7; (refine zs15 ?_ ?_ <;> intro _ <;> try (exfalso; omega))) | apply (zs65 ?_) | (apply Yn; exact zp) | apply (zs68 ?_) | apply (zs74 ?_) | (apply Yl; (repeat (first | with_reducible exact Yh | (with_reducible apply Yg; (repeat (first | with_reducible exact Yf | with_reducible apply Ye)))))) | apply (zs93 ?_) | apply (zs94 ?_) | fail)
      · show Perm H (H ++ [])
        rw [List.append_nil]; exact Perm.refl _
      repeat' (first | (apply Yv; exact rfl; exact rfl; exact rfl; exact YW hk) | (apply Yy; exact rfl; exact rfl; exact Yz hk) | fail)
      apply Yc; exact rfl; exact rfl; exact ⟨rfl, rfl⟩)
  | false =>
    rw [hsec, Bool.or_false] at hFe
    by_cases h1 : k = 1
    rotate_left
    · by_cases hb : last = YX k
      · rw [decide_eq_true hb] at hFe
        subst hFe
        repeat' (first | apply (zs1 ?_) | apply (zs2 ?_) | (apply zg1; refine zs3 ?_) | (apply zg6; refine zs12 ?_) | (apply zg7; (refine zs15 ?_ ?_ <;> intro _ <;> try (exfalso; omega))) | apply (zs65 ?_) | apply (zs66 ?_) | apply (zs68 ?_) | apply (zs69 ?_) | apply (zs70 ?_) | (apply zg28; refine zs83 ?_) | fail)
        apply YB [0, 1, 2, 3, 5, 4, 6, 7, 8, 9, 10, 11, 12] []
        kernel_rfl
        kernel_rfl
        (simp only [Yj, nthO]; rfl)
        exact rfl
        repeat' (first | apply (zs1 ?_) | apply (zs5 ?_) | (apply zg2; refine zs6 ?_) | (apply zg3; refine zs7 ?_) | apply (zs87 ?_) | fail)
        first | apply Ya ZI | apply Yb ZI
        exact za
        exact rfl
        exact fun _ hw => (p1 hw)
        repeat' (first | (apply Yv; exact rfl; exact rfl; exact rfl; exact YW hk) | (apply Yy; exact rfl; exact rfl; exact Yz hk) | apply (zs1 ?_) | apply (zs2 ?_) | (apply zg1; refine zs3 ?_) | (apply zg6; refine zs11 ?_) | (apply zg7; (refine zs15 ?_ ?_ <;> intro _ <;> try (exfalso; omega))) | apply (zs65 ?_) | (apply Yn; exact zp) | apply (zs68 ?_) | apply (zs74 ?_) | (apply Yl; (repeat (first | with_reducible exact Yh | (with_reducible apply Yg; (repeat (first | with_reducible exact Yf | with_reducible apply Ye)))))) | apply (zs93 ?_) | apply (zs94 ?_) | fail)
        · show Perm H (H ++ [])
          rw [List.append_nil]; exact Perm.refl _
        repeat' (first | (apply Yv; exact rfl; exact rfl; exact rfl; exact YW hk) | (apply Yy; exact rfl; exact rfl; exact Yz hk) | fail)
        apply Yc; exact rfl; exact rfl; exact ⟨rfl, rfl⟩
      · rw [decide_eq_false hb] at hFe
        subst hFe
        repeat' (first | apply (zs1 ?_) | apply (zs2 ?_) | (apply zg1; refine zs3 ?_) | (apply zg6; refine zs12 ?_) | (apply zg7; (refine zs15 ?_ ?_ <;> intro _ <;> try (exfalso; omega))) | apply (zs65 ?_) | apply (zs66 ?_) | apply (zs68 ?_) | apply (zs69 ?_) | apply (zs70 ?_) | (apply zg28; refine zs83 ?_) | fail)
        apply YB [0, 1, 2, 3, 5, 4, 6, 7, 8, 9, 10, 11, 12] []
        kernel_rfl
        kernel_rfl
        (simp only [Yj, nthO]; rfl)
        exact rfl
        repeat' (first | apply (zs1 ?_) | apply (zs5 ?_) | (apply zg2; refine zs6 ?_) | (apply zg3; refine zs7 ?_) | apply (zs87 ?_) | fail)
        first | apply Ya ZI | apply Yb ZI
        exact za
        exact rfl
        exact fun _ hw => (p1 hw)
        repeat' (first | (apply Yv; exact rfl; exact rfl; exact rfl; exact YW hk) | (apply Yy; exact rfl; exact rfl; exact Yz hk) | apply (zs1 ?_) | apply (zs2 ?_) | (apply zg1; refine zs4 ?_) | (apply zg6; refine zs12 ?_) | (apply zg7; (refine zs15 ?_ ?_ <;> intro _ <;> try (exfalso; omega))) | apply (zs65 ?_) | (apply Yn; exact zp) | apply (zs68 ?_) | apply (zs74 ?_) | (apply Yl; (repeat (first | with_reducible exact Yh | (with_reducible apply Yg; (repeat (first | with_reducible exact Yf | with_reducible apply Ye)))))) | apply (zs93 ?_) | apply (zs94 ?_) | fail)
        · show Perm H (H ++ [])
          rw [List.append_nil]; exact Perm.refl _
        repeat' (first | (apply Yv; exact rfl; exact rfl; exact rfl; exact YW hk) | (apply Yy; exact rfl; exact rfl; exact Yz hk) | fail)
        apply Yc; exact rfl; exact rfl; exact ⟨rfl, rfl⟩
    by_cases h2 : last = 3
    rotate_left
    · by_cases hb : last = YX k
      · rw [decide_eq_true hb] at hFe
        subst hFe
        repeat' (first | apply (zs1 ?_) | apply (zs2 ?_) | (apply zg1; first | refine zs3 ?_ | refine zs4 ?_) | apply (zs5 ?_) | (apply zg2; refine zs6 ?_) | (apply zg3; refine zs7 ?_) | (apply zg6; first | refine zs11 ?_ | refine zs12 ?_) | (apply zg7; (refine zs15 ?_ ?_ <;> intro _ <;> try (exfalso; omega))) | apply (zs65 ?_) | apply (zs66 ?_) | apply (zs68 ?_) | apply (zs69 ?_) | apply (zs70 ?_) | (apply zg28; refine zs83 ?_) | fail)
        apply YB [0, 1, 2, 3, 5, 4, 6, 7, 8, 9, 10, 11, 12] []
        kernel_rfl
        kernel_rfl
        (simp only [Yj, nthO]; rfl)
        exact rfl
        repeat' (first | apply (zs1 ?_) | apply (zs5 ?_) | (apply zg2; refine zs6 ?_) | (apply zg3; refine zs7 ?_) | apply (zs87 ?_) | fail)
        first | apply Ya ZI | apply Yb ZI
        exact za
        exact rfl
        exact fun _ hw => (p1 hw)
        repeat' (first | (apply Yv; exact rfl; exact rfl; exact rfl; exact YW hk) | (apply Yy; exact rfl; exact rfl; exact Yz hk) | apply (zs1 ?_) | apply (zs2 ?_) | (apply zg1; refine zs3 ?_) | (apply zg6; refine zs11 ?_) | (apply zg7; (refine zs15 ?_ ?_ <;> intro _ <;> try (exfalso; omega))) | apply (zs65 ?_) | (apply Yn; exact zp) | apply (zs68 ?_) | apply (zs74 ?_) | (apply Yl; (repeat (first | with_reducible exact Yh | (with_reducible apply Yg; (repeat (first | with_reducible exact Yf | with_reducible apply Ye)))))) | apply (zs93 ?_) | apply (zs94 ?_) | fail)
        · show Perm H (H ++ [])
          rw [List.append_nil]; exact Perm.refl _
        repeat' (first | (apply Yv; exact rfl; exact rfl; exact rfl; exact YW hk) | (apply Yy; exact rfl; exact rfl; exact Yz hk) | fail)
        apply Yc; exact rfl; exact rfl; exact ⟨rfl, rfl⟩
      · rw [decide_eq_false hb] at hFe
        subst hFe
        repeat' (first | apply (zs1 ?_) | apply (zs2 ?_) | (apply zg1; first | refine zs3 ?_ | refine zs4 ?_) | apply (zs5 ?_) | (apply zg2; refine zs6 ?_) | (apply zg3; refine zs7 ?_) | (apply zg6; first | refine zs11 ?_ | refine zs12 ?_) | (apply zg7; (refine zs15 ?_ ?_ <;> intro _ <;> try (exfalso; omega))) | apply (zs65 ?_) | apply (zs66 ?_) | apply (zs68 ?_) | apply (zs69 ?_) | apply (zs70 ?_) | (apply zg28; refine zs83 ?_) | fail)
        apply YB [0, 1, 2, 3, 5, 4, 6, 7, 8, 9, 10, 11, 12] []
        kernel_rfl
        kernel_rfl
        (simp only [Yj, nthO]; rfl)
        exact rfl
        repeat' (first | apply (zs1 ?_) | apply (zs5 ?_) | (apply zg2; refine zs6 ?_) | (apply zg3; refine zs7 ?_) | apply (zs87 ?_) | fail)
        first | apply Ya ZI | apply Yb ZI
        exact za
        exact rfl
        exact fun _ hw => (p1 hw)
        repeat' (first | (apply Yv; exact rfl; exact rfl; exact rfl; exact YW hk) | (apply Yy; exact rfl; exact rfl; exact Yz hk) | apply (zs1 ?_) | apply (zs2 ?_) | (apply zg1; refine zs4 ?_) | (apply zg6; refine zs12 ?_) | (apply zg7; (refine zs15 ?_ ?_ <;> intro _ <;> try (exfalso; omega))) | apply (zs65 ?_) | (apply Yn; exact zp) | apply (zs68 ?_) | apply (zs74 ?_) | (apply Yl; (repeat (first | with_reducible exact Yh | (with_reducible apply Yg; (repeat (first | with_reducible exact Yf | with_reducible apply Ye)))))) | apply (zs93 ?_) | apply (zs94 ?_) | fail)
        · show Perm H (H ++ [])
          rw [List.append_nil]; exact Perm.refl _
        repeat' (first | (apply Yv; exact rfl; exact rfl; exact rfl; exact YW hk) | (apply Yy; exact rfl; exact rfl; exact Yz hk) | fail)
        apply Yc; exact rfl; exact rfl; exact ⟨rfl, rfl⟩
    have hb : ¬ last = YX k := by subst h1; subst h2; decide
    rw [decide_eq_false hb] at hFe
    subst hFe
    by_cases h3 : 0 < C.length
    rotate_left
    · repeat' (first | apply (zs1 ?_) | apply (zs2 ?_) | (apply zg1; first | refine zs3 ?_ | refine zs4 ?_) | apply (zs5 ?_) | (apply zg2; refine zs6 ?_) | (apply zg3; refine zs7 ?_) | (apply zg4; refine zs9 ?_) | (apply zg6; first | refine zs11 ?_ | refine zs12 ?_) | (apply zg7; (refine zs15 ?_ ?_ <;> intro _ <;> try (exfalso; omega))) | (apply (zs19 ?_ ?_) <;> intro _ <;> try (exfalso; omega)) | apply (zs65 ?_) | apply (zs66 ?_) | apply (zs68 ?_) | apply (zs69 ?_) | apply (zs70 ?_) | (apply zg28; refine zs83 ?_) | fail)
      apply YB [0, 1, 2, 3, 5, 4, 6, 7, 8, 9, 10, 11, 12] []
      kernel_rfl
      kernel_rfl
      (simp only [Yj, nthO]; rfl)
      exact rfl
      repeat' (first | apply (zs1 ?_) | apply (zs5 ?_) | (apply zg2; refine zs6 ?_) | (apply zg3; refine zs7 ?_) | apply (zs87 ?_) | fail)
      first | apply Ya ZI | apply Yb ZI
      exact za
      exact rfl
      exact fun _ hw => (p1 hw)
      repeat' (first | (apply Yv; exact rfl; exact rfl; exact rfl; exact YW hk) | (apply Yy; exact rfl; exact rfl; exact Yz hk) | apply (zs1 ?_) | apply (zs2 ?_) | (apply zg1; refine zs4 ?_) | (apply zg6; refine zs12 ?_) | (apply zg7; (refine zs15 ?_ ?_ <;> intro _ <;> try (exfalso; omega))) | apply (zs65 ?_) | (apply Yn; exact zp) | apply (zs68 ?_) | apply (zs74 ?_) | (apply Yl; (repeat (first | with_reducible exact Yh | (with_reducible apply Yg; (repeat (first | with_reducible exact Yf | with_reducible apply Ye)))))) | apply (zs93 ?_) | apply (zs94 ?_) | fail)
      · show Perm H (H ++ [])
        rw [List.append_nil]; exact Perm.refl _
      repeat' (first | (apply Yv; exact rfl; exact rfl; exact rfl; exact YW hk) | (apply Yy; exact rfl; exact rfl; exact Yz hk) | fail)
      apply Yc; exact rfl; exact rfl; exact ⟨rfl, rfl⟩
    obtain ⟨x, hx⟩ : ∃ x, C[C.length - 1]? = some x := ⟨_, List.getElem?_eq_getElem (by omega)⟩
    have hx2 : C[((C.length : Int) - 1).toNat]? = some x := by rw [show ((C.length : Int) - 1).toNat = C.length - 1 by omega]; exact hx
    rw [decide_eq_true h1, decide_eq_true h2, decide_eq_true h3, Bool.true_and, Bool.true_and, Bool.true_and] at hsec
    have h4 := of_decide_eq_false hsec
    have h5 : ¬ x.rs.length < 2 := by
      unfold Zx at h4
      rw [List.length_map, XL hx] at h4
      have : x.clm.routes.length = x.rs.length := by show (x.rs.map (·.xs)).length = _; rw [List.length_map]
      omega
    have h6 := hCr x (List.mem_of_getElem? hx)
    repeat' (first | apply (zs1 ?_) | apply (zs2 ?_) | (apply zg1; refine zs4 ?_) | apply (zs5 ?_) | (apply zg2; first | refine zs6 ?_ | refine zs58 ?_) | (apply zg3; first | refine zs7 ?_ | refine zs59 ?_) | (apply zg4; refine zs9 ?_) | (apply zg5; refine zs57 ?_) | (apply zg6; refine zs11 ?_) | (apply zg7; (refine zs15 ?_ ?_ <;> intro _ <;> try (exfalso; omega))) | (apply (zs17 ?_ ?_) <;> intro _ <;> try (exfalso; omega)) | (apply (zs19 ?_ ?_) <;> intro _ <;> try (exfalso; omega)) | (apply zg14; refine zs31 ?_) | apply (zs65 ?_) | apply (zs66 ?_) | apply (zs68 ?_) | apply (zs69 ?_) | apply (zs70 ?_) | (apply zg28; refine zs83 ?_) | fail)
    apply YB [0, 1, 2, 3, 5, 4, 6, 7, 8, 9, 10, 11, 12] []
    kernel_rfl
    kernel_rfl
    (simp only [Yj, nthO]; rfl)
    exact rfl
    repeat' (first | apply (zs1 ?_) | apply (zs5 ?_) | (apply zg2; refine zs6 ?_) | (apply zg3; refine zs7 ?_) | apply (zs87 ?_) | fail)
    first | apply Ya ZI | apply Yb ZI
    exact za
    exact rfl
    exact fun _ hw => (p1 hw)
    repeat' (first | (apply Yv; exact rfl; exact rfl; exact rfl; exact YW hk) | (apply Yy; exact rfl; exact rfl; exact Yz hk) | apply (zs1 ?_) | apply (zs2 ?_) | (apply zg1; refine zs4 ?_) | (apply zg6; refine zs12 ?_) | (apply zg7; (refine zs15 ?_ ?_ <;> intro _ <;> try (exfalso; omega))) | apply (zs65 ?_) | (apply Yn; exact zp) | apply (zs68 ?_) | apply (zs74 ?_) | (apply Yl; (repeat (first | with_reducible exact Yh | (with_reducible apply Yg; (repeat (first | with_reducible exact Yf | with_reducible apply Ye)))))) | apply (zs93 ?_) | apply (zs94 ?_) | fail)
    · show Perm H (H ++ [])
      rw [List.append_nil]; exact Perm.refl _
    repeat' (first | (apply Yv; exact rfl; exact rfl; exact rfl; exact YW hk) | (apply Yy; exact rfl; exact rfl; exact Yz hk) | fail)
    apply Yc; exact rfl; exact rfl; exact ⟨rfl, rfl⟩
end Go.Proofs.YtmalhidldgfeoaaGreatDoor
namespace Go.Eng
open Go.RowKit
inductive OW where
  | done
  | z (i : Nat) (t : OW)
  | s (i : Nat) (t : OW)
  | e1 (i : Nat) (t : OW)
  | e2 (i : Nat) (t : OW) (j : Nat) (u : OW)
section
variable {P : Program} {n : Shp} {B : Nat} {w0 : World} {Q : Exit → Act → World → Prop} {env : Env} {H : List HP} {ops : Array Oper}
def Jm (P : Program) (ops : Array Oper) (Q : Exit → Act → World → Prop) (T : Nat → World → Prop) : Nat → Array Bool → Act → World → Prop
  | 0, listed, a, w => Region.ready .any ops listed = [] ∧ Q .normal a w
  | fuel + 1, listed, a, w =>
    (Region.ready .any ops listed = [] → Q .normal a w) ∧
    ∀ i ∈ Region.ready .any ops listed, wpOp P ops Q i (fun a' w' => T i w' ∧ Jm P ops Q T fuel (listed.setIfInBounds i true) a' w') a w
theorem QT {T : Nat → World → Prop} : ∀ (fuel : Nat) (listed : Array Bool) (a : Act) (w : World), Jm P ops Q T fuel listed a w → wpAny P .any ops Q fuel listed a w
  | 0, _, _, _, h => h
  | fuel + 1, _, _, _, h => ⟨h.1, fun i hi => wpOp_mono (fun a' w' h' => QT fuel _ a' w' h'.2) (h.2 i hi)⟩
theorem U7 {S : World → Prop} {T : Nat → World → Prop} {i : Nat} {oi : Oper} {v : Value} (hi : ops[i]? = some oi) (hsel : ∀ (j : Nat) (o : Oper) cs b, ops[j]? = some o → o.op ≠ .select cs b)
    (hQ : ∀ c (a : Act) (w : World), ¬ Q (.panic c) a w) :
    ∀ (fuel : Nat) (listed : Array Bool) (a : Act) (w : World), Closed ops listed → (∀ j, (∀ w, T j w → S w) ∨ listed.getD j false = true ∨ ∃ f, ancB ops f j i = true) →
      (∀ j oj, ops[j]? = some oj → j ≠ i → listed.getD j true = false → (∀ e ∈ oj.after, Region.binds .any e = true → e.on ≠ i) → oi.apart ops oj = true) →
      i ∈ Region.ready .any ops listed → YieldsIf P ops S oi v a → S w → T i w → (∀ w j, S w → T j w → T i w) →
      Jm P ops Q T fuel (listed.setIfInBounds i true) (a.put oi.dst v) w → Jm P ops Q T (fuel + 1) listed a w := by
  intro fuel
  induction fuel with
  | zero =>
    intro listed a w _ _ _ hr hy hS hT _ H
    refine ⟨fun h => (by rw [h] at hr; cases hr), fun j hj => ?_⟩
    by_cases hji : j = i
    · subst hji; exact hy.wpOp hi hS ⟨hT, H⟩
    · have := ready_mono hj hji
      rw [H.1] at this
      cases this
  | succ fuel ih =>
    intro listed a w hcl hlast hfree hr hy hS hT hTT H
    refine ⟨fun h => (by rw [h] at hr; cases hr), fun j hj => ?_⟩
    by_cases hji : j = i
    · subst hji; exact hy.wpOp hi hS ⟨hT, H⟩
    · have h1 := H.2 j (ready_mono hj hji)
      obtain ⟨hjun, oj, hoj, hall⟩ := mem_ready.1 hj
      have hun := (mem_ready.1 hr).1
      have hun' : listed.getD i false = false := by
        rcases Nat.lt_or_ge i listed.size with h' | h'
        · simp [h'] at hun ⊢; exact hun
        · simp [Array.getElem?_eq_none h'] at hun
      have hTS : ∀ w, T j w → S w := by
        rcases hlast j with h4 | h4 | ⟨f, hf⟩
        · exact h4
        · have h5 : listed.getD j true = true := by
            rcases Nat.lt_or_ge j listed.size with h' | h'
            · simp [h'] at h4 ⊢; exact h4
            · simp [Array.getElem?_eq_none h']
          rw [h5] at hjun; cases hjun
        · have := Ui hcl f j i (fun ok hk e he hb => by
            obtain rfl : ok = oj := Option.some.inj (hk.symm.trans hoj)
            exact hall e he hb) hf
          rw [hun'] at this
          cases this
      have hnot : ∀ e ∈ oj.after, Region.binds .any e = true → e.on ≠ i := fun e he hb heq => by
        have h2 := hall e he hb
        rw [heq, hun'] at h2
        cases h2
      have h2 := wpOp_putIf hoj (hfree j oj hoj hji hjun hnot) (fun cs b => hsel i oi cs b hi) (fun cs b => hsel j oj cs b hoj) (fun c a w h => (hQ c _ w h).elim) hy h1
      have hfree' : ∀ k ok, ops[k]? = some ok → k ≠ i → (listed.setIfInBounds j true).getD k true = false →
          (∀ e ∈ ok.after, Region.binds .any e = true → e.on ≠ i) → oi.apart ops ok = true := fun k ok hk hki hu hno => by
        refine hfree k ok hk hki ?_ hno
        by_cases hjk : j = k
        · subst hjk; exact hjun
        · rw [getD_set_ne true hjk] at hu; exact hu
      refine wpOp_mono (fun a' w' h3 => ⟨h3.2.1, ih (listed.setIfInBounds j true) a' w' (hcl.set hj) (fun k => ?_) hfree' (ready_mono hr (Ne.symm hji)) h3.1 (hTS w' h3.2.1) (hTT w' j (hTS w' h3.2.1) h3.2.1) hTT ?_⟩) h2
      · rcases hlast k with h4 | h4 | h4
        · exact .inl h4
        · right; left
          by_cases hjk : j = k
          · subst hjk
            rcases Nat.lt_or_ge j listed.size with h' | h'
            · simp [h']
            · simp [Array.getElem?_eq_none h'] at hjun
          · rw [getD_set_ne false hjk]; exact h4
        · exact .inr (.inr h4)
      · rw [Array.setIfInBounds_comm _ _ hji]
        exact h3.2.2
theorem VK {T : Nat → World → Prop} (l : List Oper) (hl : ops = l.toArray) (hlo : ¬ LetsOut Q) :
    ∀ (o2 : List Nat) (listed : Array Bool) (a : Act) (w : World), (∀ j ∈ o2, (∃ o, ops[j]? = some o) ∧ ∀ w, T j w) → Zp ops o2 listed = true → wpList P ops Q (Yj l o2) a w → Jm P ops Q T o2.length listed a w
  | [], listed, a, w, _, hB, h => ⟨by simpa [Zp] using hB, h⟩
  | i :: rest, listed, a, w, hin, hB, h => by
    simp only [Zp, Bool.and_eq_true, decide_eq_true_eq] at hB
    obtain ⟨h1, h2⟩ := hB
    obtain ⟨⟨o, ho⟩, hT⟩ := hin i (by simp)
    have hget : nthO l i = o := YC hl ho
    simp only [Yj, hget] at h
    unfold wpList at h
    refine ⟨fun h0 => (by rw [h1] at h0; cases h0), fun k hk => ?_⟩
    rw [h1] at hk
    obtain rfl : k = i := by simpa using hk
    unfold wpOp
    simp only [ho]
    by_cases hw : Region.wanted o (yielded ops a.tmps) = true
    · rw [if_pos hw] at h ⊢
      rcases h with h | ⟨_, h⟩
      · exact .inl (Oper.wp_mono (fun a' w' h' => ⟨hT w', VK l hl hlo rest _ a' w' (fun j hj => hin j (by simp [hj])) h2 h'⟩) h)
      · exact (hlo h).elim
    · rw [if_neg hw] at h ⊢
      exact ⟨hT w, VK l hl hlo rest _ _ w (fun j hj => hin j (by simp [hj])) h2 h⟩
def QU (P : Program) (ops : Array Oper) (l : List Oper) (Q : Exit → Act → World → Prop) (S0 : World → Prop) : List Nat → Act → World → Prop
  | [], a, w => Q .normal a w
  | i :: r, a, w => wpD P ops (fun a w => S0 w ∧ QU P ops l Q S0 r a w) (nthO l i) a w
theorem YeH {T : Nat → World → Prop} {K : Act → World → Prop} {i k : Nat} {o : Oper} {listed : Array Bool} {a : Act} {w : World} (ho : ops[i]? = some o)
    (h : wpD P ops K o a w) (hk : ∀ a w, K a w → T i w ∧ Jm P ops Q T k (listed.setIfInBounds i true) a w) :
    wpOp P ops Q i (fun a' w' => T i w' ∧ Jm P ops Q T k (listed.setIfInBounds i true) a' w') a w := by
  unfold wpD at h
  unfold wpOp
  simp only [ho]
  by_cases hw : Region.wanted o (yielded ops a.tmps) = true
  · rw [if_pos hw] at h ⊢
    exact .inl (Oper.wp_mono_noQ (fun _ _ _ h => h) (by rintro ⟨_, _, h⟩; exact h) (Oper.wp_mono (fun a' w' h' => hk a' w' h') h))
  · rw [if_neg hw] at h ⊢
    exact hk _ w h
theorem Qu {S0 : World → Prop} {T : Nat → World → Prop} {tail : List Nat} (l : List Oper) (hl : ops = l.toArray) (hlo : ¬ LetsOut Q) (ht : ∀ j ∈ tail, (∃ o, ops[j]? = some o) ∧ ∀ w, T j w) :
    ∀ (mid : List Nat) (listed : Array Bool) (a : Act) (w : World), (∀ j ∈ mid, (∃ o, ops[j]? = some o) ∧ ∀ w, S0 w → T j w) → Zp ops (mid ++ tail) listed = true → QU P ops l (XH P ops Q (Yj l tail)) S0 mid a w → Jm P ops Q T (mid ++ tail).length listed a w
  | [], listed, a, w, _, hB, h => VK l hl hlo tail listed a w ht hB h
  | i :: rest, listed, a, w, hin, hB, h => by
    rw [List.cons_append] at hB
    simp only [Zp, Bool.and_eq_true, decide_eq_true_eq] at hB
    obtain ⟨h1, h2⟩ := hB
    obtain ⟨⟨o, ho⟩, hT⟩ := hin i (by simp)
    have hget : nthO l i = o := YC hl ho
    unfold QU at h
    rw [hget] at h
    refine ⟨fun h0 => (by rw [h1] at h0; cases h0), fun k hk => ?_⟩
    rw [h1] at hk
    obtain rfl : k = i := by simpa using hk
    exact YeH ho h fun a w hh => ⟨hT w hh.1, Qu l hl hlo ht rest _ a w (fun j hj => hin j (by simp [hj])) h2 hh.2⟩
def Y2 (P : Program) (ops : Array Oper) (l : List Oper) (Q : Exit → Act → World → Prop) (S0 S : World → Prop) (mid : List Nat) : OW → Act → World → Prop
  | .done, a, w => QU P ops l Q S0 mid a w
  | .z i t, a, w => Ys P ops (fun e a w => match e with | .normal => Y2 P ops l Q S0 S mid t a w | _ => False) S0 [nthO l i] a w
  | .s i t, a, w => Ys P ops (fun e a w => match e with | .normal => Y2 P ops l Q S0 S mid t a w | _ => False) S [nthO l i] a w
  | .e1 i t, a, w => Ys P ops (fun e a w => match e with | .normal => Y2 P ops l Q S0 S mid t a w | _ => False) S [nthO l i] a w
  | .e2 i t j u, a, w => Ys P ops (fun e a w => match e with | .normal => Y2 P ops l Q S0 S mid t a w | _ => False) S [nthO l i] a w ∧ Ys P ops (fun e a w => match e with | .normal => Y2 P ops l Q S0 S mid u a w | _ => False) S [nthO l j] a w
def YbD (ops : Array Oper) (listed : Array Bool) (i : Nat) : Bool := match ops[i]? with
  | some o => !eff o && ((Region.ready .any ops listed).contains i && Region.free .any ops listed i)
  | none => false
def Ji (ops : Array Oper) (zs mid tail : List Nat) : OW → Array Bool → Nat → Bool
  | .done, listed, 0 => Zp ops (mid ++ tail) listed
  | .z i t, listed, k + 1 => zs.contains i && (tail.all fun j => ancB ops ops.size j i) && YbD ops listed i && Ji ops zs mid tail t (listed.setIfInBounds i true) k
  | .s i t, listed, k + 1 => ((zs ++ (mid ++ tail)).all fun j => listed.getD j false || ancB ops ops.size j i) && YbD ops listed i && Ji ops zs mid tail t (listed.setIfInBounds i true) k
  | .e1 i t, listed, k + 1 => XZ ops i && decide (Region.ready .any ops listed = [i]) && Ji ops zs mid tail t (listed.setIfInBounds i true) k
  | .e2 i t j u, listed, k + 1 => XZ ops i && XZ ops j && ((Region.ready .any ops listed).all fun x => x == i || x == j) && !(Region.ready .any ops listed).isEmpty && Ji ops zs mid tail t (listed.setIfInBounds i true) k && Ji ops zs mid tail u (listed.setIfInBounds j true) k
  | _, _, _ => false
def TW (S0 S : World → Prop) (zs mid tail : List Nat) (j : Nat) (w : World) : Prop := (tail.contains j = false → S0 w) ∧ (zs.contains j = false → (mid ++ tail).contains j = false → S w)
theorem Wg {S : World → Prop} {T : Nat → World → Prop} {Q1 : Exit → Act → World → Prop} {i k : Nat} {o : Oper} {listed : Array Bool} {a : Act} {w : World} (ho : ops[i]? = some o) (he : eff o = true) (hT : ∀ w, S w → T i w)
    (hQ1 : ∀ e a w, e ≠ .normal → ¬ Q1 e a w) (hS : S w) (h : Ys P ops Q1 S [o] a w)
    (hk : ∀ a w, S w → Q1 .normal a w → Jm P ops Q T k (listed.setIfInBounds i true) a w) :
    wpOp P ops Q i (fun a' w' => T i w' ∧ Jm P ops Q T k (listed.setIfInBounds i true) a' w') a w := by
  unfold Ys at h
  rw [if_pos he] at h
  unfold wpOp
  simp only [ho]
  by_cases hw : Region.wanted o (yielded ops a.tmps) = true
  · rw [if_pos hw] at h ⊢
    refine .inl (Oper.wp_mono_noQ (fun c a w => hQ1 _ a w (by intro h; cases h)) (by rintro ⟨a, w, h⟩; exact hQ1 _ _ _ (by intro h; cases h) h) (Oper.wp_mono (fun a' w' h' => ?_) h))
    exact ⟨hT _ h'.1, hk a' w' h'.1 h'.2⟩
  · rw [if_neg hw] at h ⊢
    exact ⟨hT _ hS, hk _ w hS h⟩
theorem Qz {listed : Array Bool} {i : Nat} (h : YbD ops listed i = true) : ∃ o, ops[i]? = some o ∧ eff o = false ∧ i ∈ Region.ready .any ops listed ∧ Region.free .any ops listed i = true := by
  unfold YbD at h
  cases ho : ops[i]? with
  | none => rw [ho] at h; cases h
  | some o =>
    rw [ho] at h
    simp only [Bool.and_eq_true, Bool.not_eq_true'] at h
    exact ⟨o, rfl, h.1, by simpa using h.2.1, h.2.2⟩
theorem Un {i : Nat} (h : XZ ops i = true) : ∃ o, ops[i]? = some o ∧ eff o = true := by
  unfold XZ at h
  cases ho : ops[i]? with
  | none => rw [ho] at h; cases h
  | some o => rw [ho] at h; exact ⟨o, rfl, h⟩
theorem Qw {l : List Nat} {j : Nat} (h : j ∈ l) (h2 : l.contains j = false) : False := by
  rw [List.contains_iff_mem.2 h] at h2; cases h2
theorem XQ {S0 S : World → Prop} {zs mid tail : List Nat} (hss : ∀ w, S w → S0 w) (hs : Region.noSelect ops = true) (hQ : ∀ c (a : Act) (w : World), ¬ Q (.panic c) a w) (hlo : ¬ LetsOut Q) (l : List Oper) (hl : ops = l.toArray)
    (hin : ∀ j ∈ mid ++ tail, ∃ o, ops[j]? = some o) :
    ∀ (t : OW) (k : Nat) (listed : Array Bool) (a : Act) (w : World), Closed ops listed → Ji ops zs mid tail t listed k = true → S w → Y2 P ops l (XH P ops Q (Yj l tail)) S0 S mid t a w →
      Jm P ops Q (TW S0 S zs mid tail) (k + (mid ++ tail).length) listed a w
  | .done, 0, listed, a, w, _, hB, _, h => by
    rw [Nat.zero_add]
    exact Qu l hl hlo (fun j hj => ⟨hin j (List.mem_append_right _ hj), fun w => ⟨fun h => (Qw hj h).elim, fun _ h => (Qw (List.mem_append_right mid hj) h).elim⟩⟩) mid listed a w (fun j hj => ⟨hin j (List.mem_append_left _ hj), fun w h0 => ⟨fun _ => h0, fun _ h => (Qw (List.mem_append_left tail hj) h).elim⟩⟩) hB h
  | .done, _ + 1, _, _, _, _, hB, _, _ => by cases hB
  | .z _ _, 0, _, _, _, _, hB, _, _ => by cases hB
  | .s _ _, 0, _, _, _, _, hB, _, _ => by cases hB
  | .e1 _ _, 0, _, _, _, _, hB, _, _ => by cases hB
  | .e2 _ _ _ _, 0, _, _, _, _, hB, _, _ => by cases hB
  | .z i t, k + 1, listed, a, w, hcl, hB, hS, h => by
    simp only [Ji, Bool.and_eq_true] at hB
    obtain ⟨⟨⟨b1, b2⟩, b3⟩, b4⟩ := hB
    obtain ⟨o, ho, he, hr, hf⟩ := Qz b3
    unfold Y2 at h
    rw [YC hl ho] at h
    unfold Ys at h
    rw [if_neg (by rw [he]; simp)] at h
    obtain ⟨v, hy, h3⟩ := h
    rw [Nat.add_right_comm]
    refine U7 (S := S0) ho (Region.noSelect_spec hs) hQ _ listed a w hcl (fun j => ?_) (Region.free_spec ho hf) hr hy (hss w hS) ⟨fun _ => hss w hS, fun h => (by rw [b1] at h; cases h)⟩ (fun w j h0 _ => ⟨fun _ => h0, fun h => (by rw [b1] at h; cases h)⟩) (XQ hss hs hQ hlo l hl hin t k _ _ w (hcl.set hr) b4 hS h3)
    cases hj : tail.contains j with
    | false => exact .inl fun w hT => hT.1 hj
    | true => exact .inr (.inr ⟨_, List.all_eq_true.1 b2 j (List.contains_iff_mem.1 hj)⟩)
  | .s i t, k + 1, listed, a, w, hcl, hB, hS, h => by
    simp only [Ji, Bool.and_eq_true] at hB
    obtain ⟨⟨b2, b3⟩, b4⟩ := hB
    obtain ⟨o, ho, he, hr, hf⟩ := Qz b3
    unfold Y2 at h
    rw [YC hl ho] at h
    unfold Ys at h
    rw [if_neg (by rw [he]; simp)] at h
    obtain ⟨v, hy, h3⟩ := h
    rw [Nat.add_right_comm]
    refine U7 (S := S) ho (Region.noSelect_spec hs) hQ _ listed a w hcl (fun j => ?_) (Region.free_spec ho hf) hr hy hS ⟨fun _ => hss w hS, fun _ _ => hS⟩ (fun w j h0 _ => ⟨fun _ => hss w h0, fun _ _ => h0⟩) (XQ hss hs hQ hlo l hl hin t k _ _ w (hcl.set hr) b4 hS h3)
    have hmem : j ∈ zs ++ (mid ++ tail) → listed.getD j false = true ∨ ∃ f, ancB ops f j i = true := fun hj => by
      have := List.all_eq_true.1 b2 j hj
      rw [Bool.or_eq_true] at this
      rcases this with h | h
      · exact .inl h
      · exact .inr ⟨_, h⟩
    cases hj : zs.contains j with
    | true => exact .inr (hmem (List.mem_append_left _ (List.contains_iff_mem.1 hj)))
    | false =>
      cases hj2 : (mid ++ tail).contains j with
      | true => exact .inr (hmem (List.mem_append_right _ (List.contains_iff_mem.1 hj2)))
      | false => exact .inl fun w hT => hT.2 hj hj2
  | .e1 i t, k + 1, listed, a, w, hcl, hB, hS, h => by
    simp only [Ji, Bool.and_eq_true, decide_eq_true_eq] at hB
    obtain ⟨⟨b1, b2⟩, b3⟩ := hB
    obtain ⟨o, ho, he⟩ := Un b1
    unfold Y2 at h
    rw [YC hl ho] at h
    rw [Nat.add_right_comm]
    refine ⟨fun h0 => (by rw [b2] at h0; cases h0), fun j hj => ?_⟩
    have hj' := hj
    rw [b2] at hj
    obtain rfl : j = i := by simpa using hj
    exact Wg ho he (fun w h => ⟨fun _ => hss w h, fun _ _ => h⟩) (fun e a w hne => by cases e <;> simp_all) hS h fun a w hS' h' => XQ hss hs hQ hlo l hl hin t k _ a w (hcl.set hj') b3 hS' h'
  | .e2 i t j u, k + 1, listed, a, w, hcl, hB, hS, h => by
    simp only [Ji, Bool.and_eq_true] at hB
    obtain ⟨⟨⟨⟨⟨b1, b2⟩, b5⟩, b6⟩, b7⟩, b8⟩ := hB
    obtain ⟨o, ho, he⟩ := Un b1
    obtain ⟨o', ho', he'⟩ := Un b2
    unfold Y2 at h
    rw [YC hl ho, YC hl ho'] at h
    rw [Nat.add_right_comm]
    refine ⟨fun h0 => (by rw [h0] at b6; cases b6), fun x hx => ?_⟩
    have h5 := List.all_eq_true.1 b5 x hx
    simp only [Bool.or_eq_true, beq_iff_eq] at h5
    rcases h5 with rfl | rfl
    · exact Wg ho he (fun w h => ⟨fun _ => hss w h, fun _ _ => h⟩) (fun e a w hne => by cases e <;> simp_all) hS h.1 fun a w hS' h' => XQ hss hs hQ hlo l hl hin t k _ a w (hcl.set hx) b7 hS' h'
    · exact Wg ho' he' (fun w h => ⟨fun _ => hss w h, fun _ _ => h⟩) (fun e a w hne => by cases e <;> simp_all) hS h.2 fun a w hS' h' => XQ hss hs hQ hlo l hl hin u k _ a w (hcl.set hx) b8 hS' h'
structure VW (P : Program) (n : Shp) (B : Nat) (w0 : World) (ops : Array Oper) (l : List Oper) (Q : Exit → Act → World → Prop) (mid : List Nat) (t : OW) (env : Env) (Hz Hc F : List HP) : Prop where
  run : ∀ a, Fits n a env → ∀ w, St B w0 (Hc ++ F) w → Y2 P ops l Q (St B w0 Hz) (St B w0 Hc) mid t a w
structure VM (P : Program) (n : Shp) (B : Nat) (w0 : World) (ops : Array Oper) (l : List Oper) (Q : Exit → Act → World → Prop) (mid : List Nat) (env : Env) (Hz H : List HP) : Prop where
  run : ∀ a, Fits n a env → ∀ w, St B w0 H w → QU P ops l Q (St B w0 Hz) mid a w
def ZC (P : Program) (B : Nat) (w0 : World) (ops : Array Oper) (l : List Oper) (Q : Exit → Act → World → Prop) (mid : List Nat) (Hz Hc : List HP) (t : OW) : Exit → Act → World → Prop
  | .normal, a, w => Y2 P ops l Q (St B w0 Hz) (St B w0 Hc) mid t a w
  | _, _, _ => False
def MidQ (P : Program) (B : Nat) (w0 : World) (ops : Array Oper) (l : List Oper) (Q : Exit → Act → World → Prop) (mid : List Nat) (Hz : List HP) : Exit → Act → World → Prop
  | .normal, a, w => St B w0 Hz w ∧ QU P ops l Q (St B w0 Hz) mid a w
  | _, _, _ => False
theorem JR {l : List Oper} {mid : List Nat} {Hz Hc : List HP} {t : OW} : ZC P B w0 ops l Q mid Hz Hc t = fun e a w => match e with | .normal => Y2 P ops l Q (St B w0 Hz) (St B w0 Hc) mid t a w | _ => False := by
  funext e a w
  cases e <;> rfl
theorem VW_z {l : List Oper} {mid : List Nat} {Hz Hc F HF Fz : List HP} {i : Nat} {t : OW} {o : Oper} (ho : nthO l i = o) (happ : App Hc F HF) (hp : Pull Hz HF Fz) (h : VL P (some (some Fz)) n B w0 ops (ZC P B w0 ops l Q mid Hz Hc t) [o] env Hz) : VW P n B w0 ops l Q mid (.z i t) env Hz Hc F := by
  refine ⟨fun a ha w hw => ?_⟩
  rw [← JA happ] at hw
  have h1 : Ys P ops (ZC P B w0 ops l Q mid Hz Hc t) (St B w0 Hz) [o] a w := h.run a ha w (hw.perm hp)
  unfold Y2
  rw [ho, ← JR]
  exact h1
theorem VW_s {l : List Oper} {mid : List Nat} {Hz Hc F : List HP} {i : Nat} {t : OW} {o : Oper} (ho : nthO l i = o) (h : VL P (some (some F)) n B w0 ops (ZC P B w0 ops l Q mid Hz Hc t) [o] env Hc) : VW P n B w0 ops l Q mid (.s i t) env Hz Hc F := by
  refine ⟨fun a ha w hw => ?_⟩
  have h1 : Ys P ops (ZC P B w0 ops l Q mid Hz Hc t) (St B w0 Hc) [o] a w := h.run a ha w hw
  unfold Y2
  rw [ho, ← JR]
  exact h1
theorem YhC {l : List Oper} {mid : List Nat} {Hz Hc F : List HP} {i : Nat} {t : OW} {o : Oper} (ho : nthO l i = o) (h : VL P (some (some F)) n B w0 ops (ZC P B w0 ops l Q mid Hz Hc t) [o] env Hc) : VW P n B w0 ops l Q mid (.e1 i t) env Hz Hc F := by
  refine ⟨fun a ha w hw => ?_⟩
  have h1 : Ys P ops (ZC P B w0 ops l Q mid Hz Hc t) (St B w0 Hc) [o] a w := h.run a ha w hw
  unfold Y2
  rw [ho, ← JR]
  exact h1
theorem YhD {l : List Oper} {mid : List Nat} {Hz Hc F : List HP} {i j : Nat} {t u : OW} {o o' : Oper} (ho : nthO l i = o) (ho' : nthO l j = o') (h : VL P (some (some F)) n B w0 ops (ZC P B w0 ops l Q mid Hz Hc t) [o] env Hc)
    (h' : VL P (some (some F)) n B w0 ops (ZC P B w0 ops l Q mid Hz Hc u) [o'] env Hc) : VW P n B w0 ops l Q mid (.e2 i t j u) env Hz Hc F := by
  refine ⟨fun a ha w hw => ?_⟩
  have h1 : Ys P ops (ZC P B w0 ops l Q mid Hz Hc t) (St B w0 Hc) [o] a w := h.run a ha w hw
  have h2 : Ys P ops (ZC P B w0 ops l Q mid Hz Hc u) (St B w0 Hc) [o'] a w := h'.run a ha w hw
  unfold Y2
  rw [ho, ho', ← JR, ← JR]
  exact ⟨h1, h2⟩
theorem Yd0 {l : List Oper} {mid : List Nat} {Hz Hc F HF : List HP} (happ : App Hc F HF) (h : VM P n B w0 ops l Q mid env Hz HF) : VW P n B w0 ops l Q mid .done env Hz Hc F :=
  ⟨fun a ha w hw => by rw [← JA happ] at hw; exact h.run a ha w hw⟩
theorem Yb8 {l : List Oper} {mid : List Nat} {Hz Hc F H' : List HP} {t : OW} (hp : Pull Hc H' F) (h : VW P n B w0 ops l Q mid t env Hz Hc F) : VQ n B w0 (ZC P B w0 ops l Q mid Hz Hc t) .normal env H' :=
  ⟨fun a w ha hw => h.run a ha w (hw.perm hp)⟩
theorem Ybc {l : List Oper} {Hz : List HP} (h : VQ n B w0 Q .normal env H) : VM P n B w0 ops l Q [] env Hz H := ⟨fun a ha w hw => h.run a w ha hw⟩
theorem Oq {l : List Oper} {mid : List Nat} {Hz : List HP} {i : Nat} {o : Oper} (ho : nthO l i = o) (h : VL P none n B w0 ops (MidQ P B w0 ops l Q mid Hz) [o] env H) : VM P n B w0 ops l Q (i :: mid) env Hz H := by
  refine ⟨fun a ha w hw => ?_⟩
  have h1 : wpList P ops (MidQ P B w0 ops l Q mid Hz) [o] a w := h.run a ha w hw
  have hno : ¬ LetsOut (MidQ P B w0 ops l Q mid Hz) := by rintro ⟨_, _, h⟩; exact h
  unfold QU
  rw [ho]
  unfold wpList at h1
  unfold wpD
  by_cases hw : Region.wanted o (yielded ops a.tmps) = true
  · rw [if_pos hw] at h1 ⊢
    rcases h1 with h | ⟨_, h⟩
    · exact Oper.wp_mono_noQ (fun _ _ _ h => h) hno (Oper.wp_mono (fun a' w' h' => h') h)
    · exact (hno h).elim
  · rw [if_neg hw] at h1 ⊢
    exact h1
theorem Ybe {l : List Oper} {mid : List Nat} {Hz F H' : List HP} (hp : Pull Hz H' F) (h : VM P n B w0 ops l Q mid env Hz H') : VQ n B w0 (MidQ P B w0 ops l Q mid Hz) .normal env H' :=
  ⟨fun a w ha hw => ⟨(hw.perm hp).prefix_, h.run a ha w hw⟩⟩
theorem YbQ {id : Nat} {l : List Oper} (t : OW) (zs mid tail : List Nat) (mask maskz : List Bool) {Hc F Hz Fz : List HP} (hm : P.follows .mixedOrders = true)
    (hB : (Region.noSelect l.toArray && decide ((mid ++ tail).length ≤ l.toArray.size) && ((mid ++ tail).all fun j => decide (j < l.toArray.size)) && Ji l.toArray zs mid tail t (Array.replicate l.toArray.size false) (l.toArray.size - (mid ++ tail).length)) = true)
    (hsp : Split mask H Hc F) (hsz : Split maskz Hc Hz Fz) {l2 : List Oper} (hl2 : Yj l tail = l2) (h : VW P n B w0 l.toArray l (XH P l.toArray (Only Q) l2) mid t env Hz Hc F) : VC P n B w0 (.region id l.toArray true) Q env H := by
  simp only [Bool.and_eq_true, decide_eq_true_eq] at hB
  obtain ⟨⟨⟨h1, h2⟩, h3⟩, h5⟩ := hB
  refine ⟨fun a w ha hw => Ze (Q := Only Q) ?_ fun e a w h => by cases e <;> first | exact h | cases h⟩
  have hst : St B w0 (Hc ++ F) w.drew := (hw.perm (Y5 hsp)).drew
  have hr := h.run a ha w.drew hst
  rw [← hl2] at hr
  have := XQ (S0 := St B w0 Hz) (S := St B w0 Hc) (zs := zs) (fun w hw => (hw.perm (Y5 hsz)).prefix_) h1 (fun c a w h => h) (by rintro ⟨_, _, h⟩; exact h) l rfl (fun j hj => by
    have := List.all_eq_true.1 h3 j hj
    exact ⟨_, Array.getElem?_eq_getElem (of_decide_eq_true this)⟩) t _ _ a w.drew (Xq _ _) h5 hst.prefix_ hr
  rw [Nat.sub_add_cancel h2] at this
  exact Jz hm (QT _ _ _ _ this)
end
open Go.RowKit
theorem XA {P : Program} {m : Mode} {n : Shp} {B d : Nat} {w0 : World} {ops : Array Oper} {Q : Exit → Act → World → Prop} {rest : List Oper} {env : Env} {H : List HP} {ty : TypeId} {pos : String} {after : Array Edge} {x : Operand} {a : Addr} {j : Nat} (hx : evo env x = some (sptr (some a) j)) (hn : Nat.ble (d + 1) n.k = true) (h : VL P m n B w0 ops Q rest ((d, sptr (some a) j) :: env) H) :
    VL P m n B w0 ops Q (⟨some d, .nilCheck x, ty, pos, after, none⟩ :: rest) env H := WA hx hn h
end Go.Eng
namespace Go.Proofs.YtmalhidldgfeoaaGreatDoor
open Go.RowKit Go.Eng Go.Nw Go.Rt
set_option maxHeartbeats 2000000 in
theorem YdL (ga g6 g5 i cap : Nat) (C : List ClM) (x : ClM) (hx : C[i]? = some x) (hxl : x.rs.length ≤ 1000) (lA : Option Addr) (lcap : Nat) (l : List Int) {B : Nat} {w0 : World} {H : List HP} {w : World}
    (hw : St B w0 (blk g6 (.cells #[sptr (some ⟨ga, 0, none⟩) (i * 5)] 249 (0, 0)) :: blk g5 (.cells #[.slice lA l.length lcap] 24 (0, 0)) :: sl 61 5 (some ⟨ga, 0, none⟩) C.length cap (C.flatMap clF) :: sl 72 1 x.rA x.rs.length x.rcap (x.rs.flatMap rowF) :: H) w) :
    Calls Tryz.prog 201 [.pointer (some ⟨g6, 0, none⟩), .pointer (some ⟨g5, 0, none⟩)].toArray w (Post B w0 fun v K => v = .tuple #[] ∧ ∃ A' cap', K = blk g6 (.cells #[sptr (some ⟨ga, 0, none⟩) (i * 5)] 249 (0, 0)) :: blk g5 (.cells #[.slice lA l.length lcap] 24 (0, 0)) :: sl 61 5 (some ⟨ga, 0, none⟩) C.length cap ((C.set i { x with rA := A', rcap := cap', rs := x.rs ++ [⟨lA, lcap, l⟩] }).flatMap clF) :: sl 72 1 A' (x.rs ++ [(⟨lA, lcap, l⟩ : RowM)]).length cap' ((x.rs ++ [(⟨lA, lcap, l⟩ : RowM)]).flatMap rowF) :: H) := by
  refine Yd Tryz.func201 Tryz.ntmps201 rfl rfl hw ?_
  have hi := (List.getElem?_eq_some_iff.1 hx).1
  repeat' (first | fail)
  apply Vj [0, 1, 2, 3, 4, 5, 6, 7] [8, 9, 10] [true, true, true]
  kernel_rfl
  kernel_rfl
  exact zy
  (simp only [Yj, nthO]; rfl)
  (simp only [Yj, nthO]; rfl)
  repeat' (first | (apply XA; exact rfl; exact rfl) | (apply zg2; refine zs58 ?_) | (apply zg3; first | refine zs7 ?_ | refine zs59 ?_) | (apply zg21; (refine zs49 ?_; intro _ _)) | (apply zg26; (refine zs56 ?_; intro _)) | apply (zs65 ?_) | (apply Yn; exact zp) | apply (zs87 ?_) | (apply Yl; (repeat (first | with_reducible exact Yh | (with_reducible apply Yg; (repeat (first | with_reducible exact Yf | with_reducible apply Ye)))))) | apply (zs93 ?_) | fail)
  rename_i A' cap'
  apply YN T (f := clF) (l := C) (i := i) (q := 5) (o := 1) (b := x) (b' := { x with rA := A', rcap := cap', rs := x.rs ++ [⟨lA, lcap, l⟩] }); exact rfl; exact rfl; exact rfl; exact zd; exact hx; (simp [clF]); exact fun _ => rfl; exact rfl; exact rfl
  repeat' (first | apply (zs65 ?_) | apply (zs94 ?_) | fail)
  have q1 : sl 72 1 A' (x.rs.length + 1) cap' (x.rs.flatMap rowF ++ #[Value.slice lA l.length lcap].toList) = sl 72 1 A' (x.rs ++ [(⟨lA, lcap, l⟩ : RowM)]).length cap' ((x.rs ++ [(⟨lA, lcap, l⟩ : RowM)]).flatMap rowF) := JP _ _ _ _ ⟨lA, lcap, l⟩
  rw [q1]
  apply Yi (blk g6 (.cells #[sptr (some ⟨ga, 0, none⟩) (i * 5)] 249 (0, 0)) :: blk g5 (.cells #[.slice lA l.length lcap] 24 (0, 0)) :: sl 61 5 (some ⟨ga, 0, none⟩) C.length cap ((C.set i { x with rA := A', rcap := cap', rs := x.rs ++ [⟨lA, lcap, l⟩] }).flatMap clF) :: sl 72 1 A' (x.rs ++ [(⟨lA, lcap, l⟩ : RowM)]).length cap' ((x.rs ++ [(⟨lA, lcap, l⟩ : RowM)]).flatMap rowF) :: H)
  · clear q1
    exact zk
  apply Zs; exact rfl
  exact ⟨rfl, A', cap', rfl⟩
set_option maxHeartbeats 2000000 in
theorem YdN (ga g6 g5 i cap : Nat) (C : List ClM) (x : ClM) (hx : C[i]? = some x) (hxl : x.ss.length ≤ 1000) (lA : Option Addr) (lcap : Nat) (l : List Int) {B : Nat} {w0 : World} {H : List HP} {w : World}
    (hw : St B w0 (blk g6 (.cells #[sptr (some ⟨ga, 0, none⟩) (i * 5)] 249 (0, 0)) :: blk g5 (.cells #[.slice lA l.length lcap] 24 (0, 0)) :: sl 61 5 (some ⟨ga, 0, none⟩) C.length cap (C.flatMap clF) :: sl 24 1 x.sA x.ss.length x.scap (x.ss.flatMap rowF) :: H) w) :
    Calls Tryz.prog 203 [.pointer (some ⟨g6, 0, none⟩), .pointer (some ⟨g5, 0, none⟩)].toArray w (Post B w0 fun v K => v = .tuple #[] ∧ ∃ A' cap', K = blk g6 (.cells #[sptr (some ⟨ga, 0, none⟩) (i * 5)] 249 (0, 0)) :: blk g5 (.cells #[.slice lA l.length lcap] 24 (0, 0)) :: sl 61 5 (some ⟨ga, 0, none⟩) C.length cap ((C.set i { x with sA := A', scap := cap', ss := x.ss ++ [⟨lA, lcap, l⟩] }).flatMap clF) :: sl 24 1 A' (x.ss ++ [(⟨lA, lcap, l⟩ : RowM)]).length cap' ((x.ss ++ [(⟨lA, lcap, l⟩ : RowM)]).flatMap rowF) :: H) := by
  refine Yd Tryz.func203 Tryz.ntmps203 rfl rfl hw ?_
  have hi := (List.getElem?_eq_some_iff.1 hx).1
  repeat' (first | fail)
  apply Vj [0, 1, 2, 3, 4, 5, 6, 7] [8, 9, 10] [true, true, true]
  kernel_rfl
  kernel_rfl
  exact zy
  (simp only [Yj, nthO]; rfl)
  (simp only [Yj, nthO]; rfl)
  repeat' (first | (apply XA; exact rfl; exact rfl) | (apply zg2; refine zs58 ?_) | (apply zg3; first | refine zs7 ?_ | refine zs59 ?_) | (apply zg21; (refine zs49 ?_; intro _ _)) | (apply zg26; (refine zs56 ?_; intro _)) | apply (zs65 ?_) | (apply Yn; exact zp) | apply (zs87 ?_) | (apply Yl; (repeat (first | with_reducible exact Yh | (with_reducible apply Yg; (repeat (first | with_reducible exact Yf | with_reducible apply Ye)))))) | apply (zs93 ?_) | fail)
  rename_i A' cap'
  apply YN T (f := clF) (l := C) (i := i) (q := 5) (o := 4) (b := x) (b' := { x with sA := A', scap := cap', ss := x.ss ++ [⟨lA, lcap, l⟩] }); exact rfl; exact rfl; exact rfl; exact zd; exact hx; (simp [clF]); exact fun _ => rfl; exact rfl; exact rfl
  repeat' (first | apply (zs65 ?_) | apply (zs94 ?_) | fail)
  have q1 : sl 24 1 A' (x.ss.length + 1) cap' (x.ss.flatMap rowF ++ #[Value.slice lA l.length lcap].toList) = sl 24 1 A' (x.ss ++ [(⟨lA, lcap, l⟩ : RowM)]).length cap' ((x.ss ++ [(⟨lA, lcap, l⟩ : RowM)]).flatMap rowF) := JP _ _ _ _ ⟨lA, lcap, l⟩
  rw [q1]
  apply Yi (blk g6 (.cells #[sptr (some ⟨ga, 0, none⟩) (i * 5)] 249 (0, 0)) :: blk g5 (.cells #[.slice lA l.length lcap] 24 (0, 0)) :: sl 61 5 (some ⟨ga, 0, none⟩) C.length cap ((C.set i { x with sA := A', scap := cap', ss := x.ss ++ [⟨lA, lcap, l⟩] }).flatMap clF) :: sl 24 1 A' (x.ss ++ [(⟨lA, lcap, l⟩ : RowM)]).length cap' ((x.ss ++ [(⟨lA, lcap, l⟩ : RowM)]).flatMap rowF) :: H)
  · clear q1
    exact zk
  apply Zs; exact rfl
  exact ⟨rfl, A', cap', rfl⟩
set_option maxRecDepth 10000 in
set_option maxHeartbeats 4000000 in
theorem YdM (ga g6 g5 i cap : Nat) (C : List ClM) (x : ClM) (hx : C[i]? = some x) (hxl : x.bs.length ≤ 1000 ∧ x.ws.length ≤ 1000) (lA : Option Addr) (lcap : Nat) (l : List Int) (v0 v1 : Int) (h0 : l[0]? = some v0) (h1 : l[1]? = some v1) {B : Nat} {w0 : World} {H : List HP} {w : World}
    (hw : St B w0 (blk g6 (.cells #[sptr (some ⟨ga, 0, none⟩) (i * 5)] 249 (0, 0)) :: blk g5 (.cells #[.slice lA l.length lcap] 24 (0, 0)) :: sl 61 5 (some ⟨ga, 0, none⟩) C.length cap (C.flatMap clF) :: nrs x.bA x.bcap x.bs :: nrs x.wA x.wcap x.ws :: nrs lA lcap l :: H) w) :
    Calls Tryz.prog 202 [.pointer (some ⟨g6, 0, none⟩), .pointer (some ⟨g5, 0, none⟩)].toArray w (Post B w0 fun v K => v = .tuple #[] ∧ ∃ A1 c1 A2 c2, K = blk g6 (.cells #[sptr (some ⟨ga, 0, none⟩) (i * 5)] 249 (0, 0)) :: blk g5 (.cells #[.slice lA l.length lcap] 24 (0, 0)) :: sl 61 5 (some ⟨ga, 0, none⟩) C.length cap ((C.set i { x with bA := A1, bcap := c1, bs := x.bs ++ [v0], wA := A2, wcap := c2, ws := x.ws ++ [v1] }).flatMap clF) :: nrs A1 c1 (x.bs ++ [v0]) :: nrs A2 c2 (x.ws ++ [v1]) :: nrs lA lcap l :: H) := by
  refine Yd Tryz.func202 Tryz.ntmps202 rfl rfl hw ?_
  have hi := (List.getElem?_eq_some_iff.1 hx).1
  have hl := (List.getElem?_eq_some_iff.1 h1).1
  repeat' (first | fail)
  apply YbQ (.z 1 (.s 0 (.s 2 (.s 3 (.s 4 (.s 5 (.s 6 (.s 7 (.s 8 (.s 11 (.s 12 (.s 13 (.s 14 (.s 15 (.s 16 (.s 17 (.e2 9 (.e2 10 (.e1 18 (.e1 19 .done)) 18 (.e1 10 (.e1 19 .done))) 18 (.e1 9 (.e1 10 (.e1 19 .done)))))))))))))))))))) [1] [20, 21, 22] [23, 24, 25] [true, true, true, false, false, true] [true, true, false, true]
  kernel_rfl
  kernel_rfl
  exact zy
  exact zy
  (simp only [Yj, nthO]; rfl)
  repeat' (first | (apply XA; exact rfl; exact rfl) | (apply VW_z; (simp only [nthO]; rfl); exact zp; (repeat (first | with_reducible exact Yh | (with_reducible apply Yg; (repeat (first | with_reducible exact Yf | with_reducible apply Ye)))))) | (apply VW_s; (simp only [nthO]; rfl)) | (apply YhC; (simp only [nthO]; rfl)) | (apply YhD; (simp only [nthO]; rfl); (simp only [nthO]; rfl)) | (apply Yb8; (repeat (first | with_reducible exact Yh | (with_reducible apply Yg; (repeat (first | with_reducible exact Yf | with_reducible apply Ye)))))) | (apply Yd0; exact zp) | (apply Oq; (simp only [nthO]; rfl)) | (apply Ybe; (repeat (first | with_reducible exact Yh | (with_reducible apply Yg; (repeat (first | with_reducible exact Yf | with_reducible apply Ye)))))) | (apply Ybc) | (apply zg2; refine zs58 ?_) | (apply zg3; first | refine zs7 ?_ | refine zs59 ?_ | refine zs60 ?_) | (apply zg5; refine zs10 ?_) | (apply zg21; (refine zs49 ?_; intro _ _)) | (apply zg26; (refine zs56 ?_; intro _)) | apply (zs65 ?_) | (apply Yn; exact zp) | apply (zs87 ?_) | (apply Yl; (repeat (first | with_reducible exact Yh | (with_reducible apply Yg; (repeat (first | with_reducible exact Yf | with_reducible apply Ye)))))) | fail)
  all_goals (
    first
      | (rename_i A1 c1 g A2 c2; guard_hyp g : Nat; guard_hyp A1 : Option Addr)
      | (rename_i A1 c1 A2 c2; guard_hyp A1 : Option Addr)
    apply YN T (f := clF) (l := C) (i := i) (q := 5) (o := 2) (b := x) (b' := { x with bA := A1, bcap := c1, bs := x.bs ++ [v0] }); exact rfl; exact rfl; exact rfl; exact zd; exact hx; (simp [clF]); exact fun _ => rfl; exact rfl; exact rfl
    obtain ⟨C2, hC2⟩ : ∃ C2, C.set i { x with bA := A1, bcap := c1, bs := x.bs ++ [v0] } = C2 := ⟨_, rfl⟩
    have hl2 : C2.length = C.length := by rw [← hC2, List.length_set]
    have hx2 : C2[i]? = some { x with bA := A1, bcap := c1, bs := x.bs ++ [v0] } := by rw [← hC2, List.getElem?_set_self hi]
    rw [hC2]
    repeat' (first | (apply XA; exact rfl; exact rfl) | (apply Oq; (simp only [nthO]; rfl)) | (apply Ybe; (repeat (first | with_reducible exact Yh | (with_reducible apply Yg; (repeat (first | with_reducible exact Yf | with_reducible apply Ye)))))) | (apply Ybc) | (apply zg2; refine zs58 ?_) | apply (zs65 ?_) | apply (zs93 ?_) | fail)
    apply YN T (f := clF) (l := C2) (i := i) (q := 5) (o := 3) (b := { x with bA := A1, bcap := c1, bs := x.bs ++ [v0] }) (b' := { x with bA := A1, bcap := c1, bs := x.bs ++ [v0], wA := A2, wcap := c2, ws := x.ws ++ [v1] }); exact rfl; exact rfl; exact rfl; exact zd; exact hx2; (simp [clF]); exact fun _ => rfl; exact rfl; exact rfl
    repeat' (first | apply (zs65 ?_) | apply (zs94 ?_) | fail)
    rw [X5, X5, ← hC2, List.set_set]
    apply Yi (blk g6 (.cells #[sptr (some ⟨ga, 0, none⟩) (i * 5)] 249 (0, 0)) :: blk g5 (.cells #[.slice lA l.length lcap] 24 (0, 0)) :: sl 61 5 (some ⟨ga, 0, none⟩) C.length cap ((C.set i { x with bA := A1, bcap := c1, bs := x.bs ++ [v0], wA := A2, wcap := c2, ws := x.ws ++ [v1] }).flatMap clF) :: nrs A1 c1 (x.bs ++ [v0]) :: nrs A2 c2 (x.ws ++ [v1]) :: nrs lA lcap l :: H)
    · exact zk
    apply Zs; exact rfl
    exact ⟨rfl, A1, c1, A2, c2, rfl⟩)
open Go.RowKit Go.Eng Go.Nw Go.Rt
theorem XN {α : Type} (f : α → HP) (l : List α) (r : α) (H : List HP) : Perm (many ((l ++ [r]).map f) :: H) (f r :: many (l.map f) :: H) := by
  have := Perm.pull (f r) (l.map f) [] H
  rw [List.append_nil] at this
  rw [List.map_append]
  exact this
def Few2 (x : Clm) : Prop := x.routes.length ≤ 2 ∧ x.bounds.length ≤ 2 ∧ x.worst.length ≤ 2 ∧ x.slots.length ≤ 2
theorem Yem {p : Pst} (h : Rdr p) : ∀ x ∈ p.c, Few2 x := by
  intro x hx
  obtain ⟨i, hi⟩ := List.mem_iff_getElem?.1 hx
  have hl := (List.getElem?_eq_some_iff.1 hi).1
  by_cases hi2 : i + 1 < p.c.length
  · have := h.full i x hi hi2
    unfold Few2
    omega
  · obtain ⟨cs, y, hc⟩ := Jy (l := p.c) (fun e => by rw [e] at hl; simp at hl)
    have hcl : p.c.length = cs.length + 1 := by rw [hc]; simp
    have e : x = y := by
      rw [hc, List.getElem?_append_right (by omega), show i - cs.length = 0 by omega] at hi
      exact (Option.some.inj hi).symm
    subst e
    unfold Few2
    rcases h.at_ cs x hc with h | h | h | h
    · obtain ⟨_, h1, h2, h3, h4⟩ := h
      rw [h1, h2, h3, h4]
      simp
    · omega
    · omega
    · omega
theorem Yhi {p : Pst} (h : Rdr p) {k : Nat} (hk : k ≠ 0) (hk4 : k < 4) (hf : Zf p k = true) : p.c ≠ [] := by
  intro e
  have h3 := h.some_ e
  unfold Zf YX at hf
  rw [e, h3] at hf
  simp [hk] at hf
  omega
theorem YgN (k : Nat) (l : List Int) (c : List Clm) : (Zb k l c).length ≤ c.length + 1 := by
  unfold Zb OA
  split
  · simp
  · rw [List.length_append, List.length_take, List.length_singleton]; omega
theorem YcT : ∀ (ls : List (List UInt8)) {p p' : Pst}, runL ls p = some p' → p'.c.length ≤ p.c.length + ls.length
  | [], p, p', h => by cases h; simp
  | x :: ls, p, p', h => by
    unfold runL at h
    split at h
    · cases h
    rename_i q hq
    have h1 := YcT ls h
    obtain ⟨k, l, _, _, _, _, _, rfl⟩ := YaN hq
    have h2 := YgN k l p.c
    rw [List.length_cons]
    dsimp only at h1
    omega
theorem Ybw {k : Nat} : X4 k ≤ 64 := by unfold X4; split; omega; split; omega; split <;> omega
open Go.RowKit Go.Eng Go.Nw Go.Rt
theorem Ybo {C : List ClM} {last : Nat} (h : Rdr ⟨C.map ClM.clm, last⟩) : ∀ c ∈ C, c.rs.length ≤ 2 ∧ c.bs.length ≤ 2 ∧ c.ws.length ≤ 2 ∧ c.ss.length ≤ 2 := fun c hc => by
  have h1 := Yem h c.clm (List.mem_map_of_mem hc)
  unfold Few2 ClM.clm at h1
  simp only [List.length_map] at h1
  exact h1
def Xo (C : List ClM) : Prop := ∀ c ∈ C, (∀ r ∈ c.rs, r.xs.length ≤ 64) ∧ ∀ r ∈ c.ss, r.xs.length ≤ 64
def Uq (H : List HP) (g last k : Nat) (l : List Int) (C : List ClM) (v : Value) (K : List HP) : Prop := v = .tuple #[] ∧ ∃ A' cap' C', C'.map ClM.clm = Zb k l (C.map ClM.clm) ∧ Xo C' ∧ K = rdrA g A' cap' C' last :: clsP A' cap' C' :: many (C'.map clQ) :: H
theorem ZV (Cs : List ClM) (x y : ClM) : (Cs ++ [x]).set Cs.length y = Cs ++ [y] := by simp
theorem ZU {Cs : List ClM} {x : ClM} (h : Xo (Cs ++ [x])) (y : ClM) (hy : (∀ r ∈ y.rs, r.xs.length ≤ 64) ∧ ∀ r ∈ y.ss, r.xs.length ≤ 64) : Xo (Cs ++ [y]) := fun c hc => by
  rcases List.mem_append.1 hc with h1 | h1
  · exact h c (List.mem_append_left _ h1)
  · rw [List.mem_singleton.1 h1]; exact hy
theorem UY {l : List RowM} {r : RowM} (h : ∀ x ∈ l, x.xs.length ≤ 64) (hr : r.xs.length ≤ 64) : ∀ x ∈ l ++ [r], x.xs.length ≤ 64 := fun x hx => by
  rcases List.mem_append.1 hx with h1 | h1
  · exact h x h1
  · rw [List.mem_singleton.1 h1]; exact hr
theorem ZW {k : Nat} (hk : k ≠ 0) (l : List Int) (Cs : List ClM) (x y : ClM) (h : y.clm = YH k l x.clm) : (Cs ++ [y]).map ClM.clm = Zb k l ((Cs ++ [x]).map ClM.clm) := by
  unfold Zb
  rw [if_neg hk, List.map_append, List.map_append, List.map_singleton, List.map_singleton, (YL _ _).1, (YL _ _).2, h]
set_option maxHeartbeats 2000000 in
theorem YdK (g : Nat) (A : Option Addr) (cap : Nat) (C : List ClM) (last : Nat) (lA : Option Addr) (lcap : Nat) (l : List Int) (v0 : Int) (h0 : l[0]? = some v0) (hC : C.length ≤ 1000000) (hrow : Xo C) {B : Nat} {w0 : World} {H : List HP} {w : World}
    (hw : St B w0 (rdrA g A cap C last :: clsP A cap C :: many (C.map clQ) :: nrs lA lcap l :: H) w) :
    Calls Tryz.prog 145 [.pointer (some ⟨g, 0, none⟩), .int .i64 (0 : Nat), .slice lA l.length lcap].toArray w (Post B w0 (Uq H g last 0 l C)) := by
  refine Yd Tryz.func145 Tryz.ntmps145 rfl rfl hw ?_
  have hl1 := (List.getElem?_eq_some_iff.1 h0).1
  repeat' (first | apply (zs1 ?_) | (apply zg7; (refine zs15 ?_ ?_ <;> intro _ <;> try (exfalso; omega))) | (apply zg23; (refine zs53 ?_; intro _)) | apply (zs65 ?_) | apply (zs68 ?_) | apply (zs69 ?_) | apply (zs70 ?_) | (apply zg27; refine zs71 ?_) | fail)
  apply Vj [0, 1, 2, 3, 4, 5, 6, 7, 8, 9, 10] [11, 12, 13] [true, true, false, false, true]
  kernel_rfl
  kernel_rfl
  exact zy
  (simp only [Yj, nthO]; rfl)
  (simp only [Yj, nthO]; rfl)
  repeat' (first | (apply XA; exact rfl; exact rfl) | apply (zs1 ?_) | apply (zs5 ?_) | (apply zg2; refine zs6 ?_) | (apply zg3; first | refine zs7 ?_ | refine zs60 ?_) | (apply zg5; refine zs10 ?_) | (apply zg21; (refine zs49 ?_; intro _ _)) | (apply zg22; refine zs50 ?_) | (apply zg25; refine zs55 ?_) | (apply zg26; (refine zs56 ?_; intro _)) | apply (zs65 ?_) | (apply Yn; exact zp) | apply (zs68 ?_) | apply (zs74 ?_) | apply (zs77 ?_) | apply (zs87 ?_) | (apply Yl; (repeat (first | with_reducible exact Yh | (with_reducible apply Yg; (repeat (first | with_reducible exact Yf | with_reducible apply Ye)))))) | apply (zs93 ?_) | apply (zs94 ?_) | fail)
  rename_i A' cap'
  have q1 : sl 61 5 A' (C.length + 1) cap' (C.flatMap clF ++ #[Value.int .i64 v0, .slice none 0 0, .slice none 0 0, .slice none 0 0, .slice none 0 0].toList) = clsP A' cap' (C ++ [nilC v0]) := O0 _ _ _ (nilC v0)
  rw [q1, show C.length + 1 = (C ++ [nilC v0]).length by simp]
  apply Yi (rdrA g A' cap' (C ++ [nilC v0]) last :: clsP A' cap' (C ++ [nilC v0]) :: many ((C ++ [nilC v0]).map clQ) :: H)
  · clear q1
    intro w hw
    have h5 : St B w0 (many (C.map clQ) :: rdrA g A' cap' (C ++ [nilC v0]) last :: clsP A' cap' (C ++ [nilC v0]) :: H) w := by
      revert w
      exact zk
    have h6 := (UT v0 h5).perm (Xj clQ C (nilC v0) _)
    exact h6.perm ((Perm.swap _ _ _).trans (.cons _ (.swap _ _ _)))
  apply Ux; exact rfl
  refine ⟨rfl, A', cap', C ++ [nilC v0], ?_, ?_, rfl⟩
  · rw [List.map_append]
    unfold Zb
    rw [if_pos rfl, List.getD_eq_getElem?_getD, h0]
    rfl
  · intro c hc
    rcases List.mem_append.1 hc with h1 | h1
    · exact hrow c h1
    · rw [List.mem_singleton.1 h1]
      unfold nilC
      simp
set_option maxHeartbeats 4000000 in
theorem Yc4 (g : Nat) (A : Option Addr) (cap : Nat) (Cs : List ClM) (x : ClM) (last : Nat) (lA : Option Addr) (lcap : Nat) (l : List Int) (hC : (Cs ++ [x]).length ≤ 1000000) (hx : x.rs.length ≤ 1000) (hrow : Xo (Cs ++ [x])) (hl : l.length ≤ 64) {B : Nat} {w0 : World} {H : List HP} {w : World}
    (hw : St B w0 (rdrA g A cap (Cs ++ [x]) last :: clsP A cap (Cs ++ [x]) :: many ((Cs ++ [x]).map clQ) :: nrs lA lcap l :: H) w) :
    Calls Tryz.prog 145 [.pointer (some ⟨g, 0, none⟩), .int .i64 (1 : Nat), .slice lA l.length lcap].toArray w (Post B w0 (Uq H g last 1 l (Cs ++ [x]))) := by
  refine Yd Tryz.func145 Tryz.ntmps145 rfl rfl hw ?_
  refine Ya3 (e := 61) (size := 5) (A := A) (k := (Cs ++ [x]).length) (cap := cap) (xs := (Cs ++ [x]).flatMap clF) zm (by simp) ?_
  rintro ga rfl
  have hrx := hrow x (by simp)
  obtain ⟨C, hCe⟩ : ∃ C, Cs ++ [x] = C := ⟨_, rfl⟩
  have hn : C.length = Cs.length + 1 := by rw [← hCe]; simp
  have hxi : C[Cs.length]? = some x := by rw [← hCe]; simp
  rw [hCe] at hC ⊢
  repeat' (first | apply (zs1 ?_) | (apply zg7; (refine zs15 ?_ ?_ <;> intro _ <;> try (exfalso; omega))) | (apply zg23; (refine zs53 ?_; intro _)) | apply (zs65 ?_) | apply (zs68 ?_) | apply (zs69 ?_) | apply (zs70 ?_) | (apply zg27; refine zs72 ?_) | apply (zs76 ?_) | fail)
  apply ZL [0, 1, 2, 3, 4, 5, 6, 7, 8, 9, 10, 11] [12] [true, true, true, false, false]
  kernel_rfl
  kernel_rfl
  exact zy
  (simp only [Yj, nthO]; rfl)
  (simp only [Yj, nthO]; rfl)
  repeat' (first | (apply JU T; exact rfl; exact rfl; exact rfl; exact rfl; omega) | apply (zs1 ?_) | apply (zs5 ?_) | (apply zg2; refine zs6 ?_) | (apply zg3; refine zs7 ?_) | (apply zg4; refine zs9 ?_) | (apply zg5; refine zs10 ?_) | (apply zg14; refine zs31 ?_) | (apply zg22; first | refine zs50 ?_ | refine zs51 ?_) | (apply zg24; (refine zs54 ?_; intro _)) | (apply zg25; refine zs55 ?_) | apply (zs65 ?_) | (apply Yn; exact zp) | apply (zs68 ?_) | apply (zs69 ?_) | apply (zs70 ?_) | (apply zg29; (apply Yr; exact za ; exact rfl)) | apply (zs87 ?_) | (apply Yl; (repeat (first | with_reducible exact Yh | (with_reducible apply Yg; (repeat (first | with_reducible exact Yf | with_reducible apply Ye)))))) | apply (zs93 ?_) | apply (zs94 ?_) | fail)
  rename_i g5 _ g6 g7
  apply Ut _ (cs := [.pointer (some ⟨g6, 0, none⟩), .pointer (some ⟨g5, 0, none⟩)])
  exact rfl
  exact YiO
  exact za
  exact rfl
  · intro w hw
    have h5 : St B w0 (many (C.map clQ) :: blk g6 (.cells #[sptr (some ⟨ga, 0, none⟩) (Cs.length * 5)] 249 (0, 0)) :: blk g5 (.cells #[.slice lA l.length lcap] 24 (0, 0)) :: clsP (some ⟨ga, 0, none⟩) cap C :: rdrA g (some ⟨ga, 0, none⟩) cap C last :: nrs lA lcap l :: H) w := by
      rw [show ((C.length : Int) - 1).toNat = Cs.length by omega] at hw
      revert w
      exact zk
    have h6 : St B w0 (many (clP x) :: many (Cs.map clQ) :: blk g6 (.cells #[sptr (some ⟨ga, 0, none⟩) (Cs.length * 5)] 249 (0, 0)) :: blk g5 (.cells #[.slice lA l.length lcap] 24 (0, 0)) :: clsP (some ⟨ga, 0, none⟩) cap C :: rdrA g (some ⟨ga, 0, none⟩) cap C last :: nrs lA lcap l :: H) w := by
      rw [← hCe] at h5 ⊢
      exact h5.perm (XN clQ Cs x _)
    have h7 := h6.perm (.open_ (clP x) _)
    refine YdL ga g6 g5 Cs.length cap C x hxi hx lA lcap l (H := many (x.rs.map rowQ) :: nrs x.bA x.bcap x.bs :: nrs x.wA x.wcap x.ws :: sl 24 1 x.sA x.ss.length x.scap (x.ss.flatMap rowF) :: many (x.ss.map rowQ) :: many (Cs.map clQ) :: rdrA g (some ⟨ga, 0, none⟩) cap C last :: nrs lA lcap l :: H) ?_
    unfold clP at h7
    dsimp only [List.cons_append, List.nil_append] at h7
    clear h5 h6 hw
    revert w
    exact zk
  rintro _ _ ⟨rfl, A', cap', rfl⟩
  obtain ⟨x', hx'⟩ : ∃ x' : ClM, { x with rA := A', rcap := cap', rs := x.rs ++ [⟨lA, lcap, l⟩] } = x' := ⟨_, rfl⟩
  have hset : C.set Cs.length x' = Cs ++ [x'] := by rw [← hCe]; exact ZV _ _ _
  have hn' : C.length = (Cs ++ [x']).length := by rw [hn]; simp
  rw [hx', hset]
  repeat' (first | apply (zs65 ?_) | fail)
  apply Yi (rdrA g (some ⟨ga, 0, none⟩) cap (Cs ++ [x']) last :: clsP (some ⟨ga, 0, none⟩) cap (Cs ++ [x']) :: many ((Cs ++ [x']).map clQ) :: H)
  · intro w hw
    have h5 : St B w0 (sl 72 1 A' (x.rs ++ [(⟨lA, lcap, l⟩ : RowM)]).length cap' ((x.rs ++ [(⟨lA, lcap, l⟩ : RowM)]).flatMap rowF) :: nrs lA lcap l :: many (x.rs.map rowQ) :: nrs x.bA x.bcap x.bs :: nrs x.wA x.wcap x.ws :: sl 24 1 x.sA x.ss.length x.scap (x.ss.flatMap rowF) :: many (x.ss.map rowQ) :: many (Cs.map clQ) :: rdrA g (some ⟨ga, 0, none⟩) cap (Cs ++ [x']) last :: clsP (some ⟨ga, 0, none⟩) cap (Cs ++ [x']) :: H) w := by
      unfold rdrA clsP
      rw [← hn']
      clear hn' hset
      revert w
      exact zk
    have h6 := h5.perm (.cons _ (ZT rowQ x.rs ⟨lA, lcap, l⟩ _))
    have h7 : St B w0 (clQ x' :: many (Cs.map clQ) :: rdrA g (some ⟨ga, 0, none⟩) cap (Cs ++ [x']) last :: clsP (some ⟨ga, 0, none⟩) cap (Cs ++ [x']) :: H) w := by
      have h8 := h6.perm (.close [_, _, _, _, _, _] _)
      rw [← hx'] at h8 ⊢
      exact h8
    exact (h7.perm (Xj clQ Cs x' _)).perm ((Perm.swap _ _ _).trans (.cons _ (.swap _ _ _)))
  apply Zs; exact rfl
  rw [← hCe]
  exact ⟨rfl, _, _, Cs ++ [x'], ZW (by decide) l Cs x x' (by rw [← hx']; unfold ClM.clm YH; simp), ZU hrow x' (by rw [← hx']; exact ⟨UY hrx.1 hl, hrx.2⟩), rfl⟩
set_option maxHeartbeats 4000000 in
theorem Yc5 (g : Nat) (A : Option Addr) (cap : Nat) (Cs : List ClM) (x : ClM) (last : Nat) (lA : Option Addr) (lcap : Nat) (l : List Int) (hC : (Cs ++ [x]).length ≤ 1000000) (hx : x.bs.length ≤ 1000 ∧ x.ws.length ≤ 1000) (v0 v1 : Int) (h0 : l[0]? = some v0) (h1 : l[1]? = some v1) (hrow : Xo (Cs ++ [x])) (_hl : l.length ≤ 64) {B : Nat} {w0 : World} {H : List HP} {w : World}
    (hw : St B w0 (rdrA g A cap (Cs ++ [x]) last :: clsP A cap (Cs ++ [x]) :: many ((Cs ++ [x]).map clQ) :: nrs lA lcap l :: H) w) :
    Calls Tryz.prog 145 [.pointer (some ⟨g, 0, none⟩), .int .i64 (2 : Nat), .slice lA l.length lcap].toArray w (Post B w0 (Uq H g last 2 l (Cs ++ [x]))) := by
  refine Yd Tryz.func145 Tryz.ntmps145 rfl rfl hw ?_
  refine Ya3 (e := 61) (size := 5) (A := A) (k := (Cs ++ [x]).length) (cap := cap) (xs := (Cs ++ [x]).flatMap clF) zm (by simp) ?_
  rintro ga rfl
  have hrx := hrow x (by simp)
  obtain ⟨C, hCe⟩ : ∃ C, Cs ++ [x] = C := ⟨_, rfl⟩
  have hn : C.length = Cs.length + 1 := by rw [← hCe]; simp
  have hxi : C[Cs.length]? = some x := by rw [← hCe]; simp
  rw [hCe] at hC ⊢
  repeat' (first | apply (zs1 ?_) | (apply zg7; (refine zs15 ?_ ?_ <;> intro _ <;> try (exfalso; omega))) | (apply zg23; (refine zs53 ?_; intro _)) | apply (zs65 ?_) | apply (zs68 ?_) | apply (zs69 ?_) | apply (zs70 ?_) | (apply zg27; refine zs72 ?_) | apply (zs76 ?_) | fail)
  apply ZL [0, 1, 2, 3, 4, 5, 6, 7, 8, 9, 10, 11] [12] [true, true, true, false, false]
  kernel_rfl
  kernel_rfl
  exact zy
  (simp only [Yj, nthO]; rfl)
  (simp only [Yj, nthO]; rfl)
  repeat' (first | (apply JU T; exact rfl; exact rfl; exact rfl; exact rfl; omega) | apply (zs1 ?_) | apply (zs5 ?_) | (apply zg2; refine zs6 ?_) | (apply zg3; refine zs7 ?_) | (apply zg4; refine zs9 ?_) | (apply zg5; refine zs10 ?_) | (apply zg14; refine zs31 ?_) | (apply zg22; first | refine zs50 ?_ | refine zs51 ?_) | (apply zg24; (refine zs54 ?_; intro _)) | (apply zg25; refine zs55 ?_) | apply (zs65 ?_) | (apply Yn; exact zp) | apply (zs68 ?_) | apply (zs69 ?_) | apply (zs70 ?_) | (apply zg29; (apply Yr; exact za ; exact rfl)) | apply (zs87 ?_) | (apply Yl; (repeat (first | with_reducible exact Yh | (with_reducible apply Yg; (repeat (first | with_reducible exact Yf | with_reducible apply Ye)))))) | apply (zs93 ?_) | apply (zs94 ?_) | fail)
  rename_i g5 _ g6 g7
  apply Ut _ (cs := [.pointer (some ⟨g6, 0, none⟩), .pointer (some ⟨g5, 0, none⟩)])
  exact rfl
  exact YiP
  exact za
  exact rfl
  · intro w hw
    have h5 : St B w0 (many (C.map clQ) :: blk g6 (.cells #[sptr (some ⟨ga, 0, none⟩) (Cs.length * 5)] 249 (0, 0)) :: blk g5 (.cells #[.slice lA l.length lcap] 24 (0, 0)) :: clsP (some ⟨ga, 0, none⟩) cap C :: rdrA g (some ⟨ga, 0, none⟩) cap C last :: nrs lA lcap l :: H) w := by
      rw [show ((C.length : Int) - 1).toNat = Cs.length by omega] at hw
      revert w
      exact zk
    have h6 : St B w0 (many (clP x) :: many (Cs.map clQ) :: blk g6 (.cells #[sptr (some ⟨ga, 0, none⟩) (Cs.length * 5)] 249 (0, 0)) :: blk g5 (.cells #[.slice lA l.length lcap] 24 (0, 0)) :: clsP (some ⟨ga, 0, none⟩) cap C :: rdrA g (some ⟨ga, 0, none⟩) cap C last :: nrs lA lcap l :: H) w := by
      rw [← hCe] at h5 ⊢
      exact h5.perm (XN clQ Cs x _)
    have h7 := h6.perm (.open_ (clP x) _)
    refine YdM ga g6 g5 Cs.length cap C x hxi hx lA lcap l v0 v1 h0 h1 (H := sl 72 1 x.rA x.rs.length x.rcap (x.rs.flatMap rowF) :: many (x.rs.map rowQ) :: sl 24 1 x.sA x.ss.length x.scap (x.ss.flatMap rowF) :: many (x.ss.map rowQ) :: many (Cs.map clQ) :: rdrA g (some ⟨ga, 0, none⟩) cap C last :: H) ?_
    unfold clP at h7
    dsimp only [List.cons_append, List.nil_append] at h7
    clear h5 h6 hw
    revert w
    exact zk
  rintro _ _ ⟨rfl, A1, c1, A2, c2, rfl⟩
  obtain ⟨x', hx'⟩ : ∃ x' : ClM, { x with bA := A1, bcap := c1, bs := x.bs ++ [v0], wA := A2, wcap := c2, ws := x.ws ++ [v1] } = x' := ⟨_, rfl⟩
  have hset : C.set Cs.length x' = Cs ++ [x'] := by rw [← hCe]; exact ZV _ _ _
  have hn' : C.length = (Cs ++ [x']).length := by rw [hn]; simp
  rw [hx', hset]
  repeat' (first | apply (zs65 ?_) | fail)
  apply Yi (rdrA g (some ⟨ga, 0, none⟩) cap (Cs ++ [x']) last :: clsP (some ⟨ga, 0, none⟩) cap (Cs ++ [x']) :: many ((Cs ++ [x']).map clQ) :: H)
  · intro w hw
    have h5 : St B w0 (sl 72 1 x.rA x.rs.length x.rcap (x.rs.flatMap rowF) :: many (x.rs.map rowQ) :: nrs A1 c1 (x.bs ++ [v0]) :: nrs A2 c2 (x.ws ++ [v1]) :: sl 24 1 x.sA x.ss.length x.scap (x.ss.flatMap rowF) :: many (x.ss.map rowQ) :: many (Cs.map clQ) :: rdrA g (some ⟨ga, 0, none⟩) cap (Cs ++ [x']) last :: clsP (some ⟨ga, 0, none⟩) cap (Cs ++ [x']) :: H) w := by
      unfold rdrA clsP
      rw [← hn']
      clear hn' hset
      revert w
      exact zk
    have h6 := h5
    have h7 : St B w0 (clQ x' :: many (Cs.map clQ) :: rdrA g (some ⟨ga, 0, none⟩) cap (Cs ++ [x']) last :: clsP (some ⟨ga, 0, none⟩) cap (Cs ++ [x']) :: H) w := by
      have h8 := h6.perm (.close [_, _, _, _, _, _] _)
      rw [← hx'] at h8 ⊢
      exact h8
    exact (h7.perm (Xj clQ Cs x' _)).perm ((Perm.swap _ _ _).trans (.cons _ (.swap _ _ _)))
  apply Zs; exact rfl
  rw [← hCe]
  exact ⟨rfl, _, _, Cs ++ [x'], ZW (by decide) l Cs x x' (by rw [← hx']; unfold ClM.clm YH; simp [List.getD_eq_getElem?_getD, h0, h1]), ZU hrow x' (by rw [← hx']; exact hrx), rfl⟩
set_option maxHeartbeats 4000000 in
theorem Yc6 (g : Nat) (A : Option Addr) (cap : Nat) (Cs : List ClM) (x : ClM) (last : Nat) (lA : Option Addr) (lcap : Nat) (l : List Int) (hC : (Cs ++ [x]).length ≤ 1000000) (hx : x.ss.length ≤ 1000) (hrow : Xo (Cs ++ [x])) (hl : l.length ≤ 64) {B : Nat} {w0 : World} {H : List HP} {w : World}
    (hw : St B w0 (rdrA g A cap (Cs ++ [x]) last :: clsP A cap (Cs ++ [x]) :: many ((Cs ++ [x]).map clQ) :: nrs lA lcap l :: H) w) :
    Calls Tryz.prog 145 [.pointer (some ⟨g, 0, none⟩), .int .i64 (3 : Nat), .slice lA l.length lcap].toArray w (Post B w0 (Uq H g last 3 l (Cs ++ [x]))) := by
  refine Yd Tryz.func145 Tryz.ntmps145 rfl rfl hw ?_
  refine Ya3 (e := 61) (size := 5) (A := A) (k := (Cs ++ [x]).length) (cap := cap) (xs := (Cs ++ [x]).flatMap clF) zm (by simp) ?_
  rintro ga rfl
  have hrx := hrow x (by simp)
  obtain ⟨C, hCe⟩ : ∃ C, Cs ++ [x] = C := ⟨_, rfl⟩
  have hn : C.length = Cs.length + 1 := by rw [← hCe]; simp
  have hxi : C[Cs.length]? = some x := by rw [← hCe]; simp
  rw [hCe] at hC ⊢
  repeat' (first | apply (zs1 ?_) | (apply zg7; (refine zs15 ?_ ?_ <;> intro _ <;> try (exfalso; omega))) | (apply zg23; (refine zs53 ?_; intro _)) | apply (zs65 ?_) | apply (zs68 ?_) | apply (zs69 ?_) | apply (zs70 ?_) | (apply zg27; refine zs72 ?_) | apply (zs76 ?_) | fail)
  apply ZL [0, 1, 2, 3, 4, 5, 6, 7, 8, 9, 10, 11] [12] [true, true, true, false, false]
  kernel_rfl
  kernel_rfl
  exact zy
  (simp only [Yj, nthO]; rfl)
  (simp only [Yj, nthO]; rfl)
  repeat' (first | (apply JU T; exact rfl; exact rfl; exact rfl; exact rfl; omega) | apply (zs1 ?_) | apply (zs5 ?_) | (apply zg2; refine zs6 ?_) | (apply zg3; refine zs7 ?_) | (apply zg4; refine zs9 ?_) | (apply zg5; refine zs10 ?_) | (apply zg14; refine zs31 ?_) | (apply zg22; first | refine zs50 ?_ | refine zs51 ?_) | (apply zg24; (refine zs54 ?_; intro _)) | (apply zg25; refine zs55 ?_) | apply (zs65 ?_) | (apply Yn; exact zp) | apply (zs68 ?_) | apply (zs69 ?_) | apply (zs70 ?_) | (apply zg29; (apply Yr; exact za ; exact rfl)) | apply (zs87 ?_) | (apply Yl; (repeat (first | with_reducible exact Yh | (with_reducible apply Yg; (repeat (first | with_reducible exact Yf | with_reducible apply Ye)))))) | apply (zs93 ?_) | apply (zs94 ?_) | fail)
  rename_i g5 _ g6 g7
  apply Ut _ (cs := [.pointer (some ⟨g6, 0, none⟩), .pointer (some ⟨g5, 0, none⟩)])
  exact rfl
  exact YiQ
  exact za
  exact rfl
  · intro w hw
    have h5 : St B w0 (many (C.map clQ) :: blk g6 (.cells #[sptr (some ⟨ga, 0, none⟩) (Cs.length * 5)] 249 (0, 0)) :: blk g5 (.cells #[.slice lA l.length lcap] 24 (0, 0)) :: clsP (some ⟨ga, 0, none⟩) cap C :: rdrA g (some ⟨ga, 0, none⟩) cap C last :: nrs lA lcap l :: H) w := by
      rw [show ((C.length : Int) - 1).toNat = Cs.length by omega] at hw
      revert w
      exact zk
    have h6 : St B w0 (many (clP x) :: many (Cs.map clQ) :: blk g6 (.cells #[sptr (some ⟨ga, 0, none⟩) (Cs.length * 5)] 249 (0, 0)) :: blk g5 (.cells #[.slice lA l.length lcap] 24 (0, 0)) :: clsP (some ⟨ga, 0, none⟩) cap C :: rdrA g (some ⟨ga, 0, none⟩) cap C last :: nrs lA lcap l :: H) w := by
      rw [← hCe] at h5 ⊢
      exact h5.perm (XN clQ Cs x _)
    have h7 := h6.perm (.open_ (clP x) _)
    refine YdN ga g6 g5 Cs.length cap C x hxi hx lA lcap l (H := sl 72 1 x.rA x.rs.length x.rcap (x.rs.flatMap rowF) :: many (x.rs.map rowQ) :: nrs x.bA x.bcap x.bs :: nrs x.wA x.wcap x.ws :: many (x.ss.map rowQ) :: many (Cs.map clQ) :: rdrA g (some ⟨ga, 0, none⟩) cap C last :: nrs lA lcap l :: H) ?_
    unfold clP at h7
    dsimp only [List.cons_append, List.nil_append] at h7
    clear h5 h6 hw
    revert w
    exact zk
  rintro _ _ ⟨rfl, A', cap', rfl⟩
  obtain ⟨x', hx'⟩ : ∃ x' : ClM, { x with sA := A', scap := cap', ss := x.ss ++ [⟨lA, lcap, l⟩] } = x' := ⟨_, rfl⟩
  have hset : C.set Cs.length x' = Cs ++ [x'] := by rw [← hCe]; exact ZV _ _ _
  have hn' : C.length = (Cs ++ [x']).length := by rw [hn]; simp
  rw [hx', hset]
  repeat' (first | apply (zs65 ?_) | fail)
  apply Yi (rdrA g (some ⟨ga, 0, none⟩) cap (Cs ++ [x']) last :: clsP (some ⟨ga, 0, none⟩) cap (Cs ++ [x']) :: many ((Cs ++ [x']).map clQ) :: H)
  · intro w hw
    have h5 : St B w0 (sl 72 1 x.rA x.rs.length x.rcap (x.rs.flatMap rowF) :: many (x.rs.map rowQ) :: nrs x.bA x.bcap x.bs :: nrs x.wA x.wcap x.ws :: sl 24 1 A' (x.ss ++ [(⟨lA, lcap, l⟩ : RowM)]).length cap' ((x.ss ++ [(⟨lA, lcap, l⟩ : RowM)]).flatMap rowF) :: nrs lA lcap l :: many (x.ss.map rowQ) :: many (Cs.map clQ) :: rdrA g (some ⟨ga, 0, none⟩) cap (Cs ++ [x']) last :: clsP (some ⟨ga, 0, none⟩) cap (Cs ++ [x']) :: H) w := by
      unfold rdrA clsP
      rw [← hn']
      clear hn' hset
      revert w
      exact zk
    have h6 := h5.perm (.cons _ (.cons _ (.cons _ (.cons _ (.cons _ (ZT rowQ x.ss ⟨lA, lcap, l⟩ _))))))
    have h7 : St B w0 (clQ x' :: many (Cs.map clQ) :: rdrA g (some ⟨ga, 0, none⟩) cap (Cs ++ [x']) last :: clsP (some ⟨ga, 0, none⟩) cap (Cs ++ [x']) :: H) w := by
      have h8 := h6.perm (.close [_, _, _, _, _, _] _)
      rw [← hx'] at h8 ⊢
      exact h8
    exact (h7.perm (Xj clQ Cs x' _)).perm ((Perm.swap _ _ _).trans (.cons _ (.swap _ _ _)))
  apply Zs; exact rfl
  rw [← hCe]
  exact ⟨rfl, _, _, Cs ++ [x'], ZW (by decide) l Cs x x' (by rw [← hx']; unfold ClM.clm YH; simp), ZU hrow x' (by rw [← hx']; exact ⟨hrx.1, UY hrx.2 hl⟩), rfl⟩
theorem Yfs (g : Nat) (A : Option Addr) (cap : Nat) (C : List ClM) (last k : Nat) (hk : k < 4) (lA : Option Addr) (lcap : Nat) (l : List Int) (hC : C.length ≤ 1000000) (hf : ∀ c ∈ C, c.rs.length ≤ 2 ∧ c.bs.length ≤ 2 ∧ c.ws.length ≤ 2 ∧ c.ss.length ≤ 2) (hrow : Xo C) (hl1 : Xi k ≤ l.length) (hl : l.length ≤ 64) (hne : k ≠ 0 → C ≠ []) {B : Nat} {w0 : World} {H : List HP} {w : World}
    (hw : St B w0 (rdrA g A cap C last :: clsP A cap C :: many (C.map clQ) :: nrs lA lcap l :: H) w) :
    Calls Tryz.prog 145 [.pointer (some ⟨g, 0, none⟩), .int .i64 (k : Nat), .slice lA l.length lcap].toArray w (Post B w0 (Uq H g last k l C)) := by
  match k, hk, hl1, hne with
  | 0, _, hl1, _ =>
    have hl1 : 1 ≤ l.length := hl1
    exact YdK g A cap C last lA lcap l _ (List.getElem?_eq_getElem (by omega)) hC hrow hw
  | k + 1, hk, hl1, hne =>
    obtain ⟨Cs, x, rfl⟩ := Jy (hne (by omega))
    have hx := hf x (by simp)
    match k, hk, hl1 with
    | 0, _, _ => exact Yc4 g A cap Cs x last lA lcap l hC (by omega) hrow hl hw
    | 1, _, hl1 =>
      have hl1 : 2 ≤ l.length := hl1
      exact Yc5 g A cap Cs x last lA lcap l hC (by omega) _ _ (List.getElem?_eq_getElem (by omega)) (List.getElem?_eq_getElem (by omega)) hrow hl hw
    | 2, _, _ => exact Yc6 g A cap Cs x last lA lcap l hC (by omega) hrow hl hw
open Go.RowKit Go.Eng Go.Nw Go.Rt
theorem Yfl {k : Nat} (hk : k < 4) (w : World) : (Instr.index 213 Jx (.int .i64 (k : Nat))).run Tryz.prog w = .ok (.agg #[strV (YU k), .int .i64 (Xi k : Nat), .int .i64 (X4 k : Nat), .int .i64 (YX k : Nat)]) w := YW hk w
def Ol (H : List HP) (g last : Nat) (C : List ClM) (s : List UInt8) (v : Value) (K : List HP) : Prop :=
  match Xm ⟨C.map ClM.clm, last⟩ s with
  | none => v = .bool false ∧ K = H
  | some p => v = .bool true ∧ ∃ A' cap' C', C'.map ClM.clm = p.c ∧ Xo C' ∧ K = rdrA g A' cap' C' p.last :: clsP A' cap' C' :: many (C'.map clQ) :: H
theorem YeS {w : List UInt8} {k : Nat} (hk : k < 4) (h : w = YU k) : Ja w = some k := by rw [h]; exact (Jl hk).1
theorem YeT {w : List UInt8} (h : ∀ j, j < 4 → w ≠ YU j) : Ja w = none := by
  unfold Ja
  have h0 : w ≠ wordF := h 0 (by omega)
  have h1 : w ≠ wordR := h 1 (by omega)
  have h2 : w ≠ wordB := h 2 (by omega)
  have h3 : w ≠ wordL := h 3 (by omega)
  rw [if_neg h0, if_neg h1, if_neg h2, if_neg h3]
set_option maxRecDepth 10000 in
set_option maxHeartbeats 4000000 in
theorem YdF (g : Nat) (A : Option Addr) (cap : Nat) (C : List ClM) (last : Nat) (hl3 : last < 4) (s : List UInt8) (hs : s.length ≤ 100000) (hC : C.length ≤ 1000000) (hrd : Rdr ⟨C.map ClM.clm, last⟩) (hrow : Xo C) {B : Nat} {w0 : World} {H : List HP} {w : World} (ht : TabsB B w0)
    (hw : St B w0 (rdrA g A cap C last :: clsP A cap C :: many (C.map clQ) :: H) w) :
    Calls Tryz.prog 82 [.pointer (some ⟨g, 0, none⟩), strV s].toArray w (Post B w0 (Ol H g last C s)) := by
  refine Yd Tryz.func82 Tryz.ntmps82 rfl rfl hw ?_
  obtain ⟨R, hR⟩ : ∃ R, Xm ⟨C.map ClM.clm, last⟩ s = R := ⟨_, rfl⟩
  have hout : ∀ v K, (match R with | none => v = .bool false ∧ K = H | some p => v = .bool true ∧ ∃ A' cap' C', C'.map ClM.clm = p.c ∧ Xo C' ∧ K = rdrA g A' cap' C' p.last :: clsP A' cap' C' :: many (C'.map clQ) :: H) → Ol H g last C s v K := fun v K h => by
    unfold Ol
    rw [hR]
    exact h
  have hlen2 := Ybo hrd
  repeat' (first | apply (zs1 ?_) | apply (zs2 ?_) | apply (zs65 ?_) | apply (zs68 ?_) | apply (zs69 ?_) | apply (zs70 ?_) | fail)
  apply Yo _ en81
  exact za
  exact rfl
  exact fun _ hw => (QM s 32 (by omega) ht (hw))
  rintro _ _ ⟨gs, rfl, rfl⟩
  obtain ⟨ps, hps⟩ : ∃ ps, cutC 32 s = ps := ⟨_, rfl⟩
  have hne : ps ≠ [] := hps ▸ JC 32 s
  have hp0 : 1 ≤ ps.length := List.length_pos_iff.2 hne
  have hpl : ps.length ≤ 100001 := by have := Xw (c := 32) s; rw [hps] at this; omega
  have hrp : ∀ {L : List HP}, blk gs (.cells (ps.map strV).toArray 9 (0, 0)) ∈ L → Rd B w0 L (some ⟨gs, 0, none⟩) (ps.flatMap strL) := fun h => by
    rw [← YaZ]
    exact Rd.blk (cs := (ps.map strV).toArray) h
  have h0 : ps[0]? = some (ps.headD []) := by
    cases ps with
    | nil => exact absurd rfl hne
    | cons p ps => rfl
  obtain ⟨wd, hwd⟩ : ∃ wd, ps.headD [] = wd := ⟨_, rfl⟩
  rw [hwd] at h0
  have hlN : Ja wd = none → R = none := fun e => by rw [← hR]; unfold Xm; rw [hps, hwd, e]
  have hlS : ∀ k, Ja wd = some k → R = Vx ⟨C.map ClM.clm, last⟩ s k := fun k e => by rw [← hR]; unfold Xm; rw [hps, hwd, e]
  rw [hps]
  have p1 := fun {H' : List HP} {w : World} (hw : St B w0 H' w) => W5 hw
  repeat' (first | apply (zs2 ?_) | apply (zs65 ?_) | apply (zs68 ?_) | apply (zs69 ?_) | apply (zs70 ?_) | fail)
  first | apply Ya ZI | apply Yb ZI
  exact za
  exact rfl
  exact fun _ hw => (p1 hw)
  repeat' (first | apply (zs1 ?_) | apply (zs65 ?_) | apply (zs68 ?_) | apply (zs73 ?_) | fail)
  refine Yk (fun z : Nat => [(13, .int .i64 (z : Nat)), (12, Jx), (4, .bool false), (5, .slice (some ⟨gs, 0, none⟩) ps.length ps.length), (1, strV s), (0, .pointer (some ⟨g, 0, none⟩))])
    (fun _ => blk gs (.cells (ps.map strV).toArray 9 (0, 0)) :: rdrA g A cap C last :: clsP A cap C :: many (C.map clQ) :: H) (fun z => z ≤ 4 ∧ ∀ j, j < z → wd ≠ YU j) (fun z => 4 - z) 0 ⟨Nat.zero_le _, fun k hk => absurd hk (Nat.not_lt_zero _)⟩ ?_ (fun w hw => hw) ?_
  · exact zu
  rintro k ⟨hk, hall⟩ K hK
  by_cases hlt : k < 4
  rotate_left
  · obtain rfl : k = 4 := by omega
    have hRn := hlN (YeT hall)
    repeat' (first | apply (zs2 ?_) | (apply (zs17 ?_ ?_) <;> intro _ <;> try (exfalso; omega)) | apply (zs65 ?_) | apply (zs68 ?_) | apply (zs69 ?_) | apply (zs70 ?_) | (apply zg27; refine zs72 ?_) | apply (zs74 ?_) | apply (zs75 ?_) | apply (zs80 ?_) | apply (zs81 ?_) | fail)
    apply Yi H
    · exact zk
    apply Yc; exact rfl; exact rfl
    apply hout
    rw [hRn]
    exact ⟨rfl, rfl⟩
  have hrp' : ∀ X, Rd B w0 (X :: blk gs (.cells (ps.map strV).toArray 9 (0, 0)) :: rdrA g A cap C last :: clsP A cap C :: many (C.map clQ) :: H) (some ⟨gs, 0, none⟩) (ps.flatMap strL) := fun X => hrp (.tail _ (.head _))
  repeat' (first | (apply Yv; exact rfl; exact rfl; exact rfl; exact Yfl hlt) | apply (zs1 ?_) | apply (zs2 ?_) | (apply zg2; refine zs6 ?_) | (apply zg3; refine zs7 ?_) | (apply (zs17 ?_ ?_) <;> intro _ <;> try (exfalso; omega)) | (apply zg22; refine zs51 ?_) | (apply zg24; (refine zs54 ?_; intro _)) | apply (zs65 ?_) | apply (zs68 ?_) | apply (zs69 ?_) | apply (zs70 ?_) | (apply zg27; refine zs71 ?_) | apply (zs73 ?_) | apply (zs76 ?_) | (apply zg28; refine zs83 ?_) | fail)
  rename_i g7
  have hr5 := hrp' (blk g7 (.cells #[strV (YU k), .int .i64 (Xi k : Nat), .int .i64 (X4 k : Nat), .int .i64 (YX k : Nat)] 212 (0, 0)))
  repeat' (first | (apply Uw (YU k) wd; exact rfl; exact rfl; exact rfl; all_goals intro hwk) | apply (zs1 ?_) | (apply zg3; refine zs60 ?_) | (apply zg5; refine zs57 ?_) | (apply zg13; refine zs30 ?_) | apply (zs65 ?_) | apply (zs66 ?_) | apply (zs68 ?_) | apply (zs69 ?_) | apply (zs70 ?_) | (apply zg27; first | refine zs71 ?_ | refine zs72 ?_) | apply (zs75 ?_) | apply (zs76 ?_) | apply (zs80 ?_) | apply (zs81 ?_) | fail)
  · apply hK (k + 1)
    · exact ⟨by omega, fun j hj => by
        by_cases e : j = k
        · subst e; exact fun e2 => hwk e2.symm
        · exact hall j (by omega)⟩
    · omega
    · exact zu
    · exact zk
  have hRk := hlS k (YeS hlt hwk.symm)
  obtain ⟨ws, hws⟩ : ∃ ws, ps.tail = ws := ⟨_, rfl⟩
  have hwl : ws.length = ps.length - 1 := by rw [← hws, List.length_tail]
  have hwm : ∀ p ∈ ws, p.length ≤ 100000 := fun p hp => by
    have h1 := JX (c := 32) (l := s) p (by rw [hps]; exact List.mem_of_mem_tail (hws ▸ hp))
    omega
  apply Vk T (n' := ws.length); exact rfl; exact rfl; exact rfl; exact rfl; omega; (rw [hwl]; rfl)
  have hrw : ∀ {L : List HP}, blk gs (.cells (ps.map strV).toArray 9 (0, 0)) ∈ L → Rd B w0 L (subA (some ⟨gs, 0, none⟩) 1 ps.length 1) (ws.flatMap strL) := fun h => by
    have h1 := Rd.sub (q := 1) (o := 1) (k := ws.length) (cap := ps.length) (fun _ => rfl) (hrp h) (by omega)
    rw [List.drop_one, hws, List.take_length] at h1
    exact h1
  rw [show (1 : Int).toNat = 1 from rfl]
  obtain ⟨A0, hA0⟩ : ∃ A0, subA (some ⟨gs, 0, none⟩) 1 ps.length 1 = A0 := ⟨_, rfl⟩
  rw [hA0] at hrw ⊢
  repeat' (first | fail)
  apply Yo _ YiG
  exact za
  exact rfl
  exact fun _ hw => (Q5 ws (by omega) hwm ht (hrw zm) (hw))
  intro v K2 hv
  cases hn : XO ws with
  | none =>
    rw [hn] at hv
    obtain ⟨rfl, rfl⟩ := hv
    have hRn : R = none := by rw [hRk]; unfold Vx; rw [hps, hws, hn]
    repeat' (first | apply (zs1 ?_) | apply (zs2 ?_) | (apply zg1; refine zs3 ?_) | (apply zg6; refine zs11 ?_) | apply (zs13 ?_) | (apply zg20; refine zs48 ?_) | apply (zs65 ?_) | apply (zs68 ?_) | apply (zs69 ?_) | apply (zs70 ?_) | (apply zg27; refine zs71 ?_) | apply (zs74 ?_) | apply (zs77 ?_) | apply (zs78 ?_) | fail)
    apply Yi H
    · exact zk
    apply Yc; exact rfl; exact rfl
    apply hout
    rw [hRn]
    exact ⟨rfl, rfl⟩
  | some l =>
    rw [hn] at hv
    obtain ⟨lA, lcap, rfl, rfl⟩ := hv
    have hRl : R = if Xi k ≤ l.length ∧ l.length ≤ X4 k ∧ Zf ⟨C.map ClM.clm, last⟩ k = true then some ⟨Zb k l (C.map ClM.clm), k⟩ else none := by rw [hRk]; unfold Vx; rw [hps, hws, hn]
    have hll : l.length = ws.length := by
      unfold XO at hn
      split at hn
      · cases hn
      · rw [← Option.some.inj hn, List.length_map]
    by_cases h1 : Xi k ≤ l.length ∧ l.length ≤ X4 k
    rotate_left
    · have hRn : R = none := by rw [hRl, if_neg fun e => h1 ⟨e.1, e.2.1⟩]
      by_cases h2 : Xi k ≤ l.length
      · have h3 : ¬ l.length ≤ X4 k := fun e => h1 ⟨h2, e⟩
        repeat' (first | apply (zs1 ?_) | apply (zs2 ?_) | (apply zg1; first | refine zs3 ?_ | refine zs4 ?_) | (apply zg2; refine zs6 ?_) | (apply zg3; refine zs7 ?_) | (apply zg4; refine zs9 ?_) | (apply zg6; first | refine zs11 ?_ | refine zs12 ?_) | apply (zs13 ?_) | (apply (zs17 ?_ ?_) <;> intro _ <;> try (exfalso; omega)) | (apply (zs19 ?_ ?_) <;> intro _ <;> try (exfalso; omega)) | (apply zg20; refine zs47 ?_) | apply (zs65 ?_) | apply (zs68 ?_) | apply (zs69 ?_) | apply (zs70 ?_) | (apply zg27; refine zs71 ?_) | apply (zs74 ?_) | apply (zs77 ?_) | apply (zs78 ?_) | fail)
        apply Yi H
        · exact zk
        apply Yc; exact rfl; exact rfl
        apply hout
        rw [hRn]
        exact ⟨rfl, rfl⟩
      · repeat' (first | apply (zs1 ?_) | apply (zs2 ?_) | (apply zg1; first | refine zs3 ?_ | refine zs4 ?_) | (apply zg2; refine zs6 ?_) | (apply zg3; refine zs7 ?_) | (apply zg4; refine zs9 ?_) | (apply zg6; first | refine zs11 ?_ | refine zs12 ?_) | apply (zs13 ?_) | (apply (zs17 ?_ ?_) <;> intro _ <;> try (exfalso; omega)) | (apply zg20; refine zs47 ?_) | apply (zs65 ?_) | apply (zs68 ?_) | apply (zs69 ?_) | apply (zs70 ?_) | (apply zg27; refine zs71 ?_) | apply (zs74 ?_) | apply (zs77 ?_) | apply (zs78 ?_) | fail)
        apply Yi H
        · exact zk
        apply Yc; exact rfl; exact rfl
        apply hout
        rw [hRn]
        exact ⟨rfl, rfl⟩
    obtain ⟨h1, h2⟩ := h1
    have hm4 := Ybw (k := k)
    have p2 := fun {H' : List HP} {w : World} (hm : rdrA g A cap C last ∈ H') (hr : Rd B w0 H' A (C.flatMap clF)) (hw : St B w0 H' w) => YeJ g A cap C last k hlt hl3 hC (fun c hc => by have := hlen2 c hc; omega) hm hr hw
    cases hfit : Zf ⟨C.map ClM.clm, last⟩ k with
    | false =>
      have hRn : R = none := by rw [hRl, if_neg fun e => by rw [hfit] at e; exact Bool.false_ne_true e.2.2]
      rw [hfit] at p2
      repeat' (first | ((first | apply Ya Yd8 | apply Yb Yd8); exact za; exact rfl; exact fun _ hw => (p2 zm (.sl zm) hw)) | apply (zs1 ?_) | apply (zs2 ?_) | (apply zg1; refine zs4 ?_) | (apply zg2; refine zs6 ?_) | (apply zg3; refine zs7 ?_) | (apply zg4; refine zs9 ?_) | (apply zg6; refine zs12 ?_) | apply (zs13 ?_) | (apply (zs17 ?_ ?_) <;> intro _ <;> try (exfalso; omega)) | (apply (zs19 ?_ ?_) <;> intro _ <;> try (exfalso; omega)) | (apply zg20; first | refine zs47 ?_ | refine zs48 ?_) | apply (zs65 ?_) | apply (zs68 ?_) | apply (zs69 ?_) | apply (zs70 ?_) | (apply zg27; refine zs71 ?_) | apply (zs74 ?_) | apply (zs77 ?_) | apply (zs78 ?_) | fail)
      apply Yi H
      · exact zk
      apply Yc; exact rfl; exact rfl
      apply hout
      rw [hRn]
      exact ⟨rfl, rfl⟩
    | true =>
      have hRs : R = some ⟨Zb k l (C.map ClM.clm), k⟩ := by rw [hRl, if_pos ⟨h1, h2, hfit⟩]
      have hne : k ≠ 0 → C ≠ [] := fun hk0 e => Yhi hrd hk0 hlt hfit (by rw [e]; rfl)
      rw [hfit] at p2
      repeat' (first | ((first | apply Ya Yd8 | apply Yb Yd8); exact za; exact rfl; exact fun _ hw => (p2 zm (.sl zm) hw)) | apply (zs1 ?_) | apply (zs2 ?_) | (apply zg1; refine zs4 ?_) | (apply zg2; refine zs6 ?_) | (apply zg3; refine zs7 ?_) | (apply zg4; refine zs9 ?_) | (apply zg6; refine zs12 ?_) | apply (zs13 ?_) | (apply (zs17 ?_ ?_) <;> intro _ <;> try (exfalso; omega)) | (apply (zs19 ?_ ?_) <;> intro _ <;> try (exfalso; omega)) | (apply zg20; refine zs47 ?_) | apply (zs65 ?_) | apply (zs68 ?_) | apply (zs69 ?_) | apply (zs70 ?_) | (apply zg27; refine zs72 ?_) | apply (zs76 ?_) | fail)
      apply Yo _ YiH
      exact za
      exact rfl
      · intro w hw
        refine Yfs g A cap C last k hlt lA lcap l hC hlen2 hrow h1 (by omega) hne (H := H) ?_
        revert w
        exact zk
      rintro _ _ ⟨rfl, A', cap', C', hC', hrow', rfl⟩
      repeat' (first | apply (zs1 ?_) | apply (zs2 ?_) | apply (zs5 ?_) | (apply zg2; refine zs6 ?_) | (apply zg22; refine zs50 ?_) | apply (zs65 ?_) | apply (zs68 ?_) | apply (zs69 ?_) | apply (zs70 ?_) | apply (zs74 ?_) | apply (zs77 ?_) | apply (zs78 ?_) | fail)
      apply Yi (rdrA g A' cap' C' k :: clsP A' cap' C' :: many (C'.map clQ) :: H)
      · exact zk
      apply Yc; exact rfl; exact rfl
      apply hout
      rw [hRs]
      exact ⟨rfl, A', cap', C', hC', hrow', rfl⟩
open Go.RowKit Go.Eng Go.Nw Go.Rt
structure PsM where
  i : Nat
  A : Option Addr
  cap : Nat
  C : List ClM
  last : Nat
theorem Yel {C : List ClM} (h : Xo C) (h2 : ∀ c ∈ C, c.rs.length ≤ 2 ∧ c.bs.length ≤ 2 ∧ c.ws.length ≤ 2 ∧ c.ss.length ≤ 2) : ∀ c ∈ C, c.lens := fun c hc => by
  have h3 := h2 c hc
  exact ⟨by omega, fun r hr => by have := (h c hc).1 r hr; omega, fun r hr => by have := (h c hc).2 r hr; omega⟩
theorem Qy {ls : List (List UInt8)} {k : Nat} {p : Pst} (h : Xt ls k = some p) : Rdr p ∧ p.c.length ≤ k := by
  unfold Xt at h
  have h1 := YcT _ h
  rw [List.length_take] at h1
  have h2 : startP.c.length = 0 := rfl
  exact ⟨(Yen _ Rdr.start h).1, by omega⟩
theorem UW {p : Pst} (h : Rdr p) : p.last < 4 := by
  by_cases hc : p.c = []
  · have := h.some_ hc; omega
  · obtain ⟨cs, x, hx⟩ := Jy hc
    rcases h.at_ cs x hx with h | h | h | h <;> omega
set_option maxRecDepth 10000 in
set_option maxHeartbeats 4000000 in
theorem WH (text : List UInt8) (hl : text.length ≤ 100000) {B : Nat} {w0 : World} {H : List HP} {w : World} (ht : TabsB B w0) (hw : St B w0 H w) :
    Calls Tryz.prog 27 [strV text].toArray w (Post B w0 (OutC H (ZF text))) := by
  refine Yd Tryz.func27 Tryz.ntmps27 rfl rfl hw ?_
  repeat' (first | apply (zs1 ?_) | apply (zs2 ?_) | apply (zs65 ?_) | apply (zs68 ?_) | apply (zs69 ?_) | apply (zs70 ?_) | fail)
  apply Yo _ en81
  exact za
  exact rfl
  exact fun _ hw => (QM text 10 (by omega) ht (hw))
  rintro _ _ ⟨gs, rfl, rfl⟩
  obtain ⟨ls, hls⟩ : ∃ ls, cutC 10 text = ls := ⟨_, rfl⟩
  have hpe : ZF text = Zu ls := by unfold ZF; rw [hls]
  have hlc : ls.length ≤ 100001 := by have := Xw (c := 10) text; rw [hls] at this; omega
  have hl1 : 1 ≤ ls.length := List.length_pos_iff.2 (hls ▸ JC 10 text)
  have hll : ∀ p ∈ ls, p.length ≤ 100000 := fun p hp => by have := JX (c := 10) (l := text) p (hls ▸ hp); omega
  have hrp : ∀ {L : List HP}, blk gs (.cells (ls.map strV).toArray 9 (0, 0)) ∈ L → Rd B w0 L (some ⟨gs, 0, none⟩) (ls.flatMap strL) := fun h => by
    rw [← YaZ]
    exact Rd.blk (cs := (ls.map strV).toArray) h
  rw [hls, hpe]
  repeat' (first | apply (zs1 ?_) | apply (zs2 ?_) | (apply zg4; refine zs9 ?_) | (apply zg14; refine zs31 ?_) | (apply zg23; (refine zs52 ?_; intro _)) | (apply zg25; refine zs55 ?_) | apply (zs65 ?_) | apply (zs68 ?_) | apply (zs69 ?_) | apply (zs70 ?_) | fail)
  rename_i gr
  obtain ⟨m, hm⟩ : ∃ m, ls.length = m + 1 := ⟨ls.length - 1, by omega⟩
  rw [show ((ls.length : Nat) : Int) - 1 = (m : Int) by omega]
  apply XU T (l := ls) (n' := (ls.take m).length); exact rfl; exact rfl; exact rfl; exact rfl; omega; exact Nat.le_refl _; (rw [List.length_take]; omega)
  rw [QO]
  repeat' (first | apply (zs1 ?_) | (apply zg4; refine zs9 ?_) | apply (zs65 ?_) | apply (zs68 ?_) | apply (zs73 ?_) | fail)
  have hlt : (ls.take m).length = m := by rw [List.length_take]; omega
  have hrt : ∀ {L : List HP}, blk gs (.cells (ls.map strV).toArray 9 (0, 0)) ∈ L → Rd B w0 L (some ⟨gs, 0, none⟩) ((ls.take m).flatMap strL) := fun h => Rd.take (q := 1) m (fun _ => rfl) (hrp h)
  have hpl : Zu ls = if (Yx (badL ls) m 0).2 ≠ 0 then ([], Yx (badL ls) m 0)
    else if YJ ls m ≠ [] ∨ (Jd ls m).last ≠ 3 then ([], ((m : Int), 3))
    else if Zg (Jd ls m).c = false then ([], (-1, 1)) else ((Jd ls m).c, (-1, 0)) := by
    unfold Zu
    rw [show ls.length - 1 = m by omega]
  refine Yk (fun (z : PsM) => [(21, .int .i64 z.i), (20, .int .i64 (ls.take m).length), (19, .slice (some ⟨gs, 0, none⟩) (ls.take m).length ls.length), (5, .slice (some ⟨gs, 0, none⟩) ls.length ls.length), (6, .int .i64 m), (7, .pointer (some ⟨gr, 0, none⟩))])
    (fun z => rdrA gr z.A z.cap z.C z.last :: clsP z.A z.cap z.C :: many (z.C.map clQ) :: blk gs (.cells (ls.map strV).toArray 9 (0, 0)) :: H) (fun z => z.i ≤ m ∧ Xt ls z.i = some ⟨z.C.map ClM.clm, z.last⟩ ∧ Xo z.C) (fun z => m - z.i) ⟨0, none, 0, [], 3⟩ ⟨Nat.zero_le _, rfl, fun c hc => by cases hc⟩ ?_ (fun w hw => ?_) ?_
  · exact zu
  · have h4 : St B w0 (blk gr (.cells #[.slice none 0 0, .int .i64 3] 144 (0, 0)) :: blk gs (.cells (ls.map strV).toArray 9 (0, 0)) :: H) w := by
      revert w
      exact zk
    have h5 : St B w0 (rdrA gr none 0 [] 3 :: blk gs (.cells (ls.map strV).toArray 9 (0, 0)) :: H) w := h4
    exact (Zn h5).perm ((Perm.cons _ (.swap _ _ _)).trans (.swap _ _ _))
  rintro ⟨i, A, cap, C, last⟩ ⟨hi, hp, hrow⟩ K hK
  dsimp only at hi hp hrow ⊢
  obtain ⟨hrd, hcl⟩ := Qy hp
  have hl3 := UW hrd
  have hlen2 := Ybo hrd
  dsimp only at hcl hl3
  rw [List.length_map] at hcl
  have hz : ∀ k, k < i → badL ls k = 0 := fun k hk => by
    unfold badL
    have h1 : Xt ls (k + 1) ≠ none := fun e => by
      have h2 : runL (ls.take (k + 1) ++ (ls.take i).drop (k + 1)) startP = some ⟨C.map ClM.clm, last⟩ := by
        rw [show ls.take (k + 1) = (ls.take i).take (k + 1) by rw [List.take_take, Nat.min_eq_left (by omega)], List.take_append_drop]
        exact hp
      rw [Jf] at h2
      unfold Xt at e
      rw [e] at h2
      cases h2
    cases hc : Xt ls (k + 1) with
    | none => exact absurd hc h1
    | some p => rfl
  by_cases hlti : i < m
  · have hrt' : Rd B w0 (rdrA gr A cap C last :: clsP A cap C :: many (C.map clQ) :: blk gs (.cells (ls.map strV).toArray 9 (0, 0)) :: H) (some ⟨gs, 0, none⟩) ((ls.take m).flatMap strL) := hrt zm
    have hget : (ls.take m)[i]? = some (YJ ls i) := by
      rw [List.getElem?_take, if_pos hlti]
      unfold YJ
      rw [List.getD_eq_getElem?_getD, List.getElem?_eq_getElem (by omega)]
      rfl
    have hlm : (YJ ls i).length ≤ 100000 := hll _ (List.mem_of_mem_take (List.mem_of_getElem? hget))
    have hst := YcU (by omega) hp
    repeat' (first | apply (zs1 ?_) | apply (zs2 ?_) | (apply zg3; refine zs60 ?_) | (apply zg5; refine zs57 ?_) | (apply (zs17 ?_ ?_) <;> intro _ <;> try (exfalso; omega)) | apply (zs65 ?_) | apply (zs68 ?_) | apply (zs69 ?_) | apply (zs70 ?_) | (apply zg27; refine zs71 ?_) | apply (zs73 ?_) | apply (zs76 ?_) | fail)
    apply Yo _ en82
    exact za
    exact rfl
    exact fun _ hw => (YdF gr A cap C last hl3 (YJ ls i) hlm (by omega) hrd hrow ht (hw))
    intro v9 K9 hr9
    unfold Ol at hr9
    cases hrow9 : Xm ⟨C.map ClM.clm, last⟩ (YJ ls i) with
    | none =>
      rw [hrow9] at hr9 hst
      obtain ⟨rfl, rfl⟩ := hr9
      have hbr : badL ls i = 3 := by unfold badL; rw [hst]; rfl
      have hfa := Xb (f := badL ls) (r := m) (i0 := 0) (i := i) (fun k _ hk => hz k hk) (Nat.zero_le _) (by omega) (by rw [hbr]; decide)
      repeat' (first | apply (zs1 ?_) | apply (zs2 ?_) | (apply zg20; refine zs48 ?_) | apply (zs65 ?_) | apply (zs68 ?_) | apply (zs69 ?_) | apply (zs70 ?_) | (apply zg27; refine zs71 ?_) | apply (zs74 ?_) | apply (zs77 ?_) | apply (zs78 ?_) | fail)
      apply Yi (clsP none 0 [] :: many (([] : List ClM).map clQ) :: H)
      · intro w hw
        have h5 : St B w0 H w := by
          revert w
          exact zk
        exact Zn h5
      apply Y6; exact rfl; exact rfl; exact rfl; exact rfl
      rw [hpl, hfa, hbr, if_pos (by show (3 : Int) ≠ 0; decide)]
      exact X6 rfl rfl
    | some p =>
      rw [hrow9] at hr9 hst
      obtain ⟨rfl, A', cap', C', hC', hrow', rfl⟩ := hr9
      repeat' (first | apply (zs1 ?_) | (apply zg13; refine zs30 ?_) | (apply zg20; refine zs47 ?_) | apply (zs65 ?_) | apply (zs68 ?_) | apply (zs70 ?_) | (apply zg27; refine zs72 ?_) | apply (zs76 ?_) | apply (zs79 ?_) | fail)
      apply hK ⟨i + 1, A', cap', C', p.last⟩
      · exact ⟨by dsimp only; omega, by dsimp only; rw [hst, hC'], hrow'⟩
      · dsimp only; omega
      · exact zu
      · exact zk
  · obtain rfl : i = m := by omega
    have hrp' : Rd B w0 (rdrA gr A cap C last :: clsP A cap C :: many (C.map clQ) :: blk gs (.cells (ls.map strV).toArray 9 (0, 0)) :: H) (some ⟨gs, 0, none⟩) (ls.flatMap strL) := hrp zm
    have hzz : Yx (badL ls) i 0 = (-1, 0) := Xx fun k _ hk => hz k (by omega)
    have hgm : ls[(i : Int).toNat]? = some (YJ ls i) := by
      unfold YJ
      rw [List.getD_eq_getElem?_getD, Int.toNat_natCast, List.getElem?_eq_getElem (by omega)]
      rfl
    have hpat : Jd ls i = ⟨C.map ClM.clm, last⟩ := by unfold Jd; rw [hp]; rfl
    rw [hpl, hzz, if_neg (by simp), hpat]
    dsimp only
    clear hK
    repeat' (first | (apply Uw (YJ ls i) []; exact rfl; exact rfl; exact rfl; all_goals intro hwd) | apply (zs1 ?_) | apply (zs2 ?_) | (apply zg1; first | refine zs3 ?_ | refine zs4 ?_) | apply (zs5 ?_) | (apply zg2; refine zs6 ?_) | (apply zg3; first | refine zs7 ?_ | refine zs60 ?_) | (apply zg5; refine zs57 ?_) | (apply zg6; first | refine zs11 ?_ | refine zs12 ?_) | (apply zg8; (refine zs16 ?_ ?_ <;> intro _ <;> try (exfalso; omega))) | (apply (zs17 ?_ ?_) <;> intro _ <;> try (exfalso; omega)) | apply (zs65 ?_) | apply (zs68 ?_) | apply (zs69 ?_) | apply (zs70 ?_) | (apply zg27; first | refine zs71 ?_ | refine zs72 ?_) | apply (zs74 ?_) | apply (zs75 ?_) | apply (zs76 ?_) | apply (zs77 ?_) | apply (zs80 ?_) | apply (zs81 ?_) | fail)
    · apply Yi (clsP none 0 [] :: many (([] : List ClM).map clQ) :: H)
      · intro w hw
        have h5 : St B w0 H w := by
          revert w
          exact zk
        exact Zn h5
      apply Y6; exact rfl; exact rfl; exact rfl; exact rfl
      rw [if_pos (.inl hwd)]
      exact X6 rfl rfl
    · have hl9 : last ≠ 3 := by omega
      apply Yi (clsP none 0 [] :: many (([] : List ClM).map clQ) :: H)
      · intro w hw
        have h5 : St B w0 H w := by
          revert w
          exact zk
        exact Zn h5
      apply Y6; exact rfl; exact rfl; exact rfl; exact rfl
      rw [if_pos (.inr hl9)]
      exact X6 rfl rfl
    have hl9 : last = 3 := by omega
    rw [if_neg (by rintro (h | h); exact h hwd; exact h hl9)]
    have hlens := Yel hrow hlen2
    have hcin : CIn B w0 (rdrA gr A cap C last :: clsP A cap C :: many (C.map clQ) :: blk gs (.cells (ls.map strV).toArray 9 (0, 0)) :: H) A C := ⟨.sl (cap := cap) (.tail _ (.head _)), fun x hx => VE (.tail _ (.tail _ (.head _))) hx (hlens x hx), by omega⟩
    have p3 := fun {H' : List HP} {w : World} (hc : CIn B w0 H' A C) (hw : St B w0 H' w) => OX C (cap := cap) hc hw
    cases hf : Zg (C.map ClM.clm) with
    | false =>
      rw [hf] at p3
      repeat' (first | ((first | apply Ya en75 | apply Yb en75); exact za; exact rfl; exact fun _ hw => (p3 hcin hw)) | apply (zs2 ?_) | (apply zg20; refine zs48 ?_) | apply (zs65 ?_) | apply (zs68 ?_) | apply (zs69 ?_) | apply (zs70 ?_) | (apply zg27; refine zs71 ?_) | apply (zs74 ?_) | apply (zs77 ?_) | fail)
      apply Yi (clsP none 0 [] :: many (([] : List ClM).map clQ) :: H)
      · intro w hw
        have h5 : St B w0 H w := by
          revert w
          exact zk
        exact Zn h5
      apply Y6; exact rfl; exact rfl; exact rfl; exact rfl
      rw [if_pos rfl]
      exact X6 rfl rfl
    | true =>
      rw [hf] at p3
      repeat' (first | ((first | apply Ya en75 | apply Yb en75); exact za; exact rfl; exact fun _ hw => (p3 hcin hw)) | apply (zs1 ?_) | apply (zs2 ?_) | apply (zs5 ?_) | (apply zg2; refine zs6 ?_) | (apply zg3; refine zs7 ?_) | (apply zg20; refine zs47 ?_) | apply (zs65 ?_) | apply (zs68 ?_) | apply (zs69 ?_) | apply (zs70 ?_) | (apply zg27; refine zs72 ?_) | apply (zs74 ?_) | apply (zs76 ?_) | fail)
      apply Yi (clsP A cap C :: many (C.map clQ) :: H)
      · exact zk
      apply Y6; exact rfl; exact rfl; exact rfl; exact rfl
      exact ⟨A, cap, C, rfl, rfl, hlens, rfl⟩
open Go.RowKit Go.Eng Go.Nw Go.Rt
set_option maxRecDepth 10000 in
set_option maxHeartbeats 4000000 in
theorem Oi (c d : ClM) {B : Nat} {w0 : World} {H : List HP} {w : World} (hc : c.In B w0 H) (hd : d.In B w0 H) (hw : St B w0 H w) :
    Calls Tryz.prog 73 [clV c, clV d].toArray w (Post B w0 fun u K => u = .bool (decide (c.clm = d.clm)) ∧ K = H) := by
  refine Yd Tryz.func73 Tryz.ntmps73 rfl rfl hw ?_
  have hcl := hc.ln
  have hdl := hd.ln
  have p1 := fun {H' : List HP} {w : World} (hc : c.In B w0 H') (hd : d.In B w0 H') (hw : St B w0 H' w) => Oj c.rs d.rs (cap := c.rcap) (cap2 := d.rcap) hcl.1 hdl.1 hc.rl hd.rl hc.rt hd.rt hc.rw_ hd.rw_ hw
  have p2 := fun {H' : List HP} {w : World} (hc : c.In B w0 H') (hd : d.In B w0 H') (hw : St B w0 H' w) => Za c.bs d.bs (cap := c.bcap) (cap2 := d.bcap) (by omega) (by omega) hc.bd hd.bd hw
  have p3 := fun {H' : List HP} {w : World} (hc : c.In B w0 H') (hd : d.In B w0 H') (hw : St B w0 H' w) => Za c.ws d.ws (cap := c.wcap) (cap2 := d.wcap) (by omega) (by omega) hc.ws hd.ws hw
  have hce := @Yf4 c d
  unfold clV
  by_cases h1 : c.flow = d.flow
  rotate_left
  · rw [decide_eq_false (fun h => h1 (hce.1 h).1)]
    repeat' (first | apply (zs1 ?_) | apply (zs2 ?_) | (apply zg1; refine zs3 ?_) | (apply zg2; refine zs6 ?_) | (apply zg3; refine zs7 ?_) | (apply zg6; refine zs11 ?_) | (apply zg8; (refine zs16 ?_ ?_ <;> intro _ <;> try (exfalso; omega))) | (apply zg23; (refine zs52 ?_; intro _)) | apply (zs65 ?_) | apply (zs68 ?_) | apply (zs69 ?_) | apply (zs70 ?_) | (apply zg27; refine zs71 ?_) | apply (zs74 ?_) | apply (zs77 ?_) | fail)
    apply Yi H
    · exact zk
    apply Yc; exact rfl; exact rfl; exact ⟨rfl, rfl⟩
  by_cases h2 : c.rs.map (·.xs) = d.rs.map (·.xs)
  rotate_left
  · rw [decide_eq_false (fun h => h2 (hce.1 h).2.1)]
    rw [decide_eq_false h2] at p1
    repeat' (first | apply (zs1 ?_) | apply (zs2 ?_) | (apply zg1; refine zs4 ?_) | (apply zg2; refine zs6 ?_) | (apply zg3; refine zs7 ?_) | (apply zg8; (refine zs16 ?_ ?_ <;> intro _ <;> try (exfalso; omega))) | (apply zg23; (refine zs52 ?_; intro _)) | apply (zs65 ?_) | apply (zs68 ?_) | apply (zs69 ?_) | apply (zs70 ?_) | fail)
    first | apply Ya Ub | apply Yb Ub
    exact za
    exact rfl
    exact fun _ hw => (p1 (hc.mono zk) (hd.mono zk) hw)
    repeat' (first | apply (zs1 ?_) | apply (zs2 ?_) | (apply zg1; first | refine zs3 ?_ | refine zs4 ?_) | (apply zg6; first | refine zs11 ?_ | refine zs12 ?_) | (apply zg20; refine zs48 ?_) | apply (zs65 ?_) | apply (zs68 ?_) | apply (zs69 ?_) | apply (zs70 ?_) | (apply zg27; refine zs71 ?_) | apply (zs74 ?_) | apply (zs77 ?_) | fail)
    apply Yi H
    · exact zk
    apply Yc; exact rfl; exact rfl; exact ⟨rfl, rfl⟩
  rw [decide_eq_true h2] at p1
  by_cases h3 : c.bs = d.bs
  rotate_left
  · rw [decide_eq_false (fun h => h3 (hce.1 h).2.2.1)]
    rw [decide_eq_false h3] at p2
    repeat' (first | apply (zs1 ?_) | apply (zs2 ?_) | (apply zg1; refine zs4 ?_) | (apply zg2; refine zs6 ?_) | (apply zg3; refine zs7 ?_) | (apply zg8; (refine zs16 ?_ ?_ <;> intro _ <;> try (exfalso; omega))) | (apply zg23; (refine zs52 ?_; intro _)) | apply (zs65 ?_) | apply (zs68 ?_) | apply (zs69 ?_) | apply (zs70 ?_) | fail)
    first | apply Ya Ub | apply Yb Ub
    exact za
    exact rfl
    exact fun _ hw => (p1 (hc.mono zk) (hd.mono zk) hw)
    repeat' (first | apply (zs1 ?_) | (apply zg1; refine zs4 ?_) | (apply zg2; refine zs6 ?_) | (apply zg3; refine zs7 ?_) | (apply zg6; refine zs12 ?_) | (apply zg20; refine zs47 ?_) | fail)
    first | apply Ya Xy | apply Yb Xy
    exact za
    exact rfl
    exact fun _ hw => (p2 (hc.mono zk) (hd.mono zk) hw)
    repeat' (first | apply (zs1 ?_) | apply (zs2 ?_) | (apply zg1; first | refine zs3 ?_ | refine zs4 ?_) | (apply zg6; first | refine zs11 ?_ | refine zs12 ?_) | (apply zg20; refine zs48 ?_) | apply (zs65 ?_) | apply (zs68 ?_) | apply (zs69 ?_) | apply (zs70 ?_) | (apply zg27; refine zs71 ?_) | apply (zs74 ?_) | apply (zs77 ?_) | fail)
    apply Yi H
    · exact zk
    apply Yc; exact rfl; exact rfl; exact ⟨rfl, rfl⟩
  rw [decide_eq_true h3] at p2
  by_cases h4 : c.ws = d.ws
  rotate_left
  · rw [decide_eq_false (fun h => h4 (hce.1 h).2.2.2.1)]
    rw [decide_eq_false h4] at p3
    repeat' (first | apply (zs1 ?_) | apply (zs2 ?_) | (apply zg1; refine zs4 ?_) | (apply zg2; refine zs6 ?_) | (apply zg3; refine zs7 ?_) | (apply zg8; (refine zs16 ?_ ?_ <;> intro _ <;> try (exfalso; omega))) | (apply zg23; (refine zs52 ?_; intro _)) | apply (zs65 ?_) | apply (zs68 ?_) | apply (zs69 ?_) | apply (zs70 ?_) | fail)
    first | apply Ya Ub | apply Yb Ub
    exact za
    exact rfl
    exact fun _ hw => (p1 (hc.mono zk) (hd.mono zk) hw)
    repeat' (first | apply (zs1 ?_) | (apply zg1; refine zs4 ?_) | (apply zg2; refine zs6 ?_) | (apply zg3; refine zs7 ?_) | (apply zg6; refine zs12 ?_) | (apply zg20; refine zs47 ?_) | fail)
    first | apply Ya Xy | apply Yb Xy
    exact za
    exact rfl
    exact fun _ hw => (p2 (hc.mono zk) (hd.mono zk) hw)
    repeat' (first | apply (zs1 ?_) | (apply zg1; refine zs4 ?_) | (apply zg2; refine zs6 ?_) | (apply zg3; refine zs7 ?_) | (apply zg6; refine zs12 ?_) | (apply zg20; refine zs47 ?_) | fail)
    first | apply Ya Xy | apply Yb Xy
    exact za
    exact rfl
    exact fun _ hw => (p3 (hc.mono zk) (hd.mono zk) hw)
    repeat' (first | apply (zs1 ?_) | apply (zs2 ?_) | (apply zg1; first | refine zs3 ?_ | refine zs4 ?_) | (apply zg6; first | refine zs11 ?_ | refine zs12 ?_) | (apply zg20; refine zs48 ?_) | apply (zs65 ?_) | apply (zs68 ?_) | apply (zs69 ?_) | apply (zs70 ?_) | (apply zg27; refine zs71 ?_) | apply (zs74 ?_) | apply (zs77 ?_) | fail)
    apply Yi H
    · exact zk
    apply Yc; exact rfl; exact rfl; exact ⟨rfl, rfl⟩
  rw [decide_eq_true h4] at p3
  have h5 : decide (c.clm = d.clm) = decide (c.ss.map (·.xs) = d.ss.map (·.xs)) := decide_eq_decide.2 ⟨fun h => (hce.1 h).2.2.2.2, fun h => hce.2 ⟨h1, h2, h3, h4, h⟩⟩
  rw [h5]
  by_cases h6 : c.ss.length = d.ss.length
  rotate_left
  · rw [decide_eq_false (fun e => h6 (by have := congrArg List.length e; rwa [List.length_map, List.length_map] at this))]
    repeat' (first | apply (zs1 ?_) | apply (zs2 ?_) | (apply zg1; refine zs4 ?_) | (apply zg2; refine zs6 ?_) | (apply zg3; refine zs7 ?_) | (apply zg8; (refine zs16 ?_ ?_ <;> intro _ <;> try (exfalso; omega))) | (apply zg23; (refine zs52 ?_; intro _)) | apply (zs65 ?_) | apply (zs68 ?_) | apply (zs69 ?_) | apply (zs70 ?_) | fail)
    first | apply Ya Ub | apply Yb Ub
    exact za
    exact rfl
    exact fun _ hw => (p1 (hc.mono zk) (hd.mono zk) hw)
    repeat' (first | apply (zs1 ?_) | (apply zg1; refine zs4 ?_) | (apply zg2; refine zs6 ?_) | (apply zg3; refine zs7 ?_) | (apply zg6; refine zs12 ?_) | (apply zg20; refine zs47 ?_) | fail)
    first | apply Ya Xy | apply Yb Xy
    exact za
    exact rfl
    exact fun _ hw => (p2 (hc.mono zk) (hd.mono zk) hw)
    repeat' (first | apply (zs1 ?_) | (apply zg1; refine zs4 ?_) | (apply zg2; refine zs6 ?_) | (apply zg3; refine zs7 ?_) | (apply zg6; refine zs12 ?_) | (apply zg20; refine zs47 ?_) | fail)
    first | apply Ya Xy | apply Yb Xy
    exact za
    exact rfl
    exact fun _ hw => (p3 (hc.mono zk) (hd.mono zk) hw)
    repeat' (first | apply (zs1 ?_) | apply (zs2 ?_) | (apply zg1; refine zs4 ?_) | (apply zg2; refine zs6 ?_) | (apply zg3; refine zs7 ?_) | (apply zg4; refine zs9 ?_) | (apply zg6; refine zs12 ?_) | (apply zg8; (refine zs16 ?_ ?_ <;> intro _ <;> try (exfalso; omega))) | (apply zg20; refine zs47 ?_) | apply (zs65 ?_) | apply (zs68 ?_) | apply (zs69 ?_) | apply (zs70 ?_) | (apply zg27; refine zs71 ?_) | apply (zs74 ?_) | apply (zs77 ?_) | fail)
    apply Yi H
    · exact zk
    apply Yc; exact rfl; exact rfl; exact ⟨rfl, rfl⟩
  repeat' (first | apply (zs1 ?_) | apply (zs2 ?_) | (apply zg1; refine zs4 ?_) | (apply zg2; refine zs6 ?_) | (apply zg3; refine zs7 ?_) | (apply zg8; (refine zs16 ?_ ?_ <;> intro _ <;> try (exfalso; omega))) | (apply zg23; (refine zs52 ?_; intro _)) | apply (zs65 ?_) | apply (zs68 ?_) | apply (zs69 ?_) | apply (zs70 ?_) | fail)
  first | apply Ya Ub | apply Yb Ub
  exact za
  exact rfl
  exact fun _ hw => (p1 (hc.mono zk) (hd.mono zk) hw)
  repeat' (first | apply (zs1 ?_) | (apply zg1; refine zs4 ?_) | (apply zg2; refine zs6 ?_) | (apply zg3; refine zs7 ?_) | (apply zg6; refine zs12 ?_) | (apply zg20; refine zs47 ?_) | fail)
  first | apply Ya Xy | apply Yb Xy
  exact za
  exact rfl
  exact fun _ hw => (p2 (hc.mono zk) (hd.mono zk) hw)
  repeat' (first | apply (zs1 ?_) | (apply zg1; refine zs4 ?_) | (apply zg2; refine zs6 ?_) | (apply zg3; refine zs7 ?_) | (apply zg6; refine zs12 ?_) | (apply zg20; refine zs47 ?_) | fail)
  first | apply Ya Xy | apply Yb Xy
  exact za
  exact rfl
  exact fun _ hw => (p3 (hc.mono zk) (hd.mono zk) hw)
  repeat' (first | apply (zs1 ?_) | apply (zs2 ?_) | (apply zg1; refine zs4 ?_) | (apply zg2; refine zs6 ?_) | (apply zg3; refine zs7 ?_) | (apply zg4; refine zs9 ?_) | (apply zg6; refine zs12 ?_) | (apply zg8; (refine zs16 ?_ ?_ <;> intro _ <;> try (exfalso; omega))) | (apply zg20; refine zs47 ?_) | apply (zs65 ?_) | apply (zs68 ?_) | apply (zs69 ?_) | apply (zs70 ?_) | (apply zg27; refine zs72 ?_) | apply (zs73 ?_) | apply (zs76 ?_) | fail)
  rename_i g2 g3 _ _
  refine Yk (fun k : Nat => [(5, .int .i64 (k : Nat)), (3, .pointer (some ⟨g3, 0, none⟩)), (2, .pointer (some ⟨g2, 0, none⟩))]) (fun _ => clA g3 d :: clA g2 c :: H) (fun k => k ≤ c.ss.length ∧ (c.ss.take k).map (·.xs) = (d.ss.take k).map (·.xs)) (fun k => c.ss.length - k) 0 ⟨Nat.zero_le _, by simp⟩ ?_ (fun w hw => hw) ?_
  · exact zu
  rintro k ⟨hk, hz⟩ K hK
  have hcs : Rd B w0 (clA g3 d :: clA g2 c :: H) c.sA (c.ss.flatMap rowF) := hc.st.cons.cons
  have hds : Rd B w0 (clA g3 d :: clA g2 c :: H) d.sA (d.ss.flatMap rowF) := hd.st.cons.cons
  by_cases hlt : k < c.ss.length
  · obtain ⟨a, ha⟩ : ∃ a, c.ss[k]? = some a := ⟨_, List.getElem?_eq_getElem hlt⟩
    obtain ⟨b, hb⟩ : ∃ b, d.ss[k]? = some b := ⟨_, List.getElem?_eq_getElem (by omega)⟩
    have ham := List.mem_of_getElem? ha
    have hbm := List.mem_of_getElem? hb
    have p4 := fun {H' : List HP} {w : World} (hc : c.In B w0 H') (hd : d.In B w0 H') (hw : St B w0 H' w) => Za a.xs b.xs (cap := a.cap) (cap2 := b.cap) (hc.sl a ham) (hd.sl b hbm) (hc.sw a ham) (hd.sw b hbm) hw
    by_cases he : a.xs = b.xs
    · rw [decide_eq_true he] at p4
      repeat' (first | apply (zs1 ?_) | (apply zg2; refine zs6 ?_) | (apply zg3; refine zs7 ?_) | (apply zg4; refine zs9 ?_) | (apply (zs17 ?_ ?_) <;> intro _ <;> try (exfalso; omega)) | apply (zs65 ?_) | apply (zs68 ?_) | apply (zs69 ?_) | apply (zs70 ?_) | (apply zg27; refine zs71 ?_) | apply (zs73 ?_) | apply (zs76 ?_) | fail)
      apply YB [0, 1, 2, 3, 4, 5, 6, 7, 8, 9, 10, 11] []
      kernel_rfl
      kernel_rfl
      (simp only [Yj, nthO]; rfl)
      exact rfl
      repeat' (first | apply (zs1 ?_) | (apply zg2; refine zs6 ?_) | (apply zg3; first | refine zs7 ?_ | refine zs60 ?_) | (apply zg5; refine zs57 ?_) | apply (zs87 ?_) | fail)
      first | apply Ya Xy | apply Yb Xy
      exact za
      exact rfl
      exact fun _ hw => (p4 (hc.mono zk) (hd.mono zk) hw)
      repeat' (first | apply (zs1 ?_) | apply (zs2 ?_) | (apply zg13; refine zs30 ?_) | (apply zg20; refine zs47 ?_) | apply (zs65 ?_) | (apply Yn; exact zp) | apply (zs68 ?_) | apply (zs70 ?_) | (apply zg27; refine zs72 ?_) | apply (zs76 ?_) | apply (zs79 ?_) | (apply Yl; (repeat (first | with_reducible exact Yh | (with_reducible apply Yg; (repeat (first | with_reducible exact Yf | with_reducible apply Ye)))))) | apply (zs93 ?_) | apply (zs94 ?_) | fail)
      · show Perm H (H ++ [])
        rw [List.append_nil]; exact Perm.refl _
      repeat' (first | fail)
      apply hK (k + 1)
      · exact ⟨by omega, by rw [List.take_add_one, List.take_add_one, ha, hb, List.map_append, List.map_append, hz]; simp [he]⟩
      · omega
      · exact zu
      · exact fun w hw => hw
    · rw [decide_eq_false he] at p4
      have hne : ¬ (c.ss.map (·.xs) = d.ss.map (·.xs)) := fun e => by
        have h1 : (c.ss.map (·.xs))[k]? = (d.ss.map (·.xs))[k]? := by rw [e]
        rw [List.getElem?_map, List.getElem?_map, ha, hb] at h1
        exact he (Option.some.inj h1)
      rw [decide_eq_false hne]
      clear hK
      repeat' (first | apply (zs1 ?_) | (apply zg2; refine zs6 ?_) | (apply zg3; refine zs7 ?_) | (apply zg4; refine zs9 ?_) | (apply (zs17 ?_ ?_) <;> intro _ <;> try (exfalso; omega)) | apply (zs65 ?_) | apply (zs68 ?_) | apply (zs69 ?_) | apply (zs70 ?_) | (apply zg27; refine zs71 ?_) | apply (zs73 ?_) | apply (zs76 ?_) | fail)
      apply YB [0, 1, 2, 3, 4, 5, 6, 7, 8, 9, 10, 11] []
      kernel_rfl
      kernel_rfl
      (simp only [Yj, nthO]; rfl)
      exact rfl
      repeat' (first | apply (zs1 ?_) | (apply zg2; refine zs6 ?_) | (apply zg3; first | refine zs7 ?_ | refine zs60 ?_) | (apply zg5; refine zs57 ?_) | apply (zs87 ?_) | fail)
      first | apply Ya Xy | apply Yb Xy
      exact za
      exact rfl
      exact fun _ hw => (p4 (hc.mono zk) (hd.mono zk) hw)
      repeat' (first | apply (zs2 ?_) | (apply zg20; refine zs48 ?_) | apply (zs65 ?_) | (apply Yn; exact zp) | apply (zs68 ?_) | apply (zs69 ?_) | apply (zs70 ?_) | (apply zg27; refine zs71 ?_) | apply (zs74 ?_) | apply (zs77 ?_) | apply (zs78 ?_) | (apply Yl; (repeat (first | with_reducible exact Yh | (with_reducible apply Yg; (repeat (first | with_reducible exact Yf | with_reducible apply Ye)))))) | apply (zs93 ?_) | apply (zs94 ?_) | fail)
      · show Perm H (H ++ [])
        rw [List.append_nil]; exact Perm.refl _
      repeat' (first | fail)
      apply Yi H
      · exact zk
      apply Yc; exact rfl; exact rfl; exact ⟨rfl, rfl⟩
  · rw [List.take_of_length_le (by omega), List.take_of_length_le (by omega)] at hz
    rw [decide_eq_true hz]
    clear hK
    repeat' (first | apply (zs1 ?_) | apply (zs2 ?_) | (apply zg2; refine zs6 ?_) | (apply zg3; refine zs7 ?_) | (apply zg4; refine zs9 ?_) | (apply (zs17 ?_ ?_) <;> intro _ <;> try (exfalso; omega)) | apply (zs65 ?_) | apply (zs68 ?_) | apply (zs69 ?_) | apply (zs70 ?_) | (apply zg27; refine zs72 ?_) | apply (zs74 ?_) | apply (zs75 ?_) | apply (zs80 ?_) | apply (zs81 ?_) | fail)
    apply Yi H
    · exact zk
    apply Yc; exact rfl; exact rfl; exact ⟨rfl, rfl⟩
set_option maxRecDepth 10000 in
set_option maxHeartbeats 2000000 in
theorem VJ (c d : List ClM) {A A2 : Option Addr} {cap cap2 B : Nat} {w0 : World} {H : List HP} {w : World} (hc : CIn B w0 H A c) (hd : CIn B w0 H A2 d) (hw : St B w0 H w) :
    Calls Tryz.prog 21 [.slice A c.length cap, .slice A2 d.length cap2].toArray w (Post B w0 fun u K => u = .bool (decide (c.map ClM.clm = d.map ClM.clm)) ∧ K = H) := by
  refine Yd Tryz.func21 Tryz.ntmps21 rfl rfl hw ?_
  have hcl := hc.ln
  have hdl := hd.ln
  have hcr := hc.rd
  have hdr := hd.rd
  by_cases h6 : c.length = d.length
  rotate_left
  · rw [decide_eq_false (fun e => h6 (by have := congrArg List.length e; rwa [List.length_map, List.length_map] at this))]
    repeat' (first | apply (zs1 ?_) | apply (zs2 ?_) | (apply zg4; refine zs9 ?_) | (apply zg8; (refine zs16 ?_ ?_ <;> intro _ <;> try (exfalso; omega))) | apply (zs65 ?_) | apply (zs68 ?_) | apply (zs69 ?_) | apply (zs70 ?_) | (apply zg27; refine zs71 ?_) | apply (zs74 ?_) | apply (zs77 ?_) | fail)
    apply Yc; exact rfl; exact rfl; exact ⟨rfl, rfl⟩
  repeat' (first | apply (zs1 ?_) | apply (zs2 ?_) | (apply zg4; refine zs9 ?_) | (apply zg8; (refine zs16 ?_ ?_ <;> intro _ <;> try (exfalso; omega))) | apply (zs65 ?_) | apply (zs68 ?_) | apply (zs69 ?_) | apply (zs70 ?_) | (apply zg27; refine zs72 ?_) | apply (zs73 ?_) | apply (zs76 ?_) | fail)
  refine Yk (fun k : Nat => [(5, .int .i64 (k : Nat)), (0, .slice A c.length cap), (1, .slice A2 d.length cap2)]) (fun _ => H) (fun k => k ≤ c.length ∧ (c.take k).map ClM.clm = (d.take k).map ClM.clm) (fun k => c.length - k) 0 ⟨Nat.zero_le _, by simp⟩ ?_ (fun w hw => hw) ?_
  · exact zu
  rintro k ⟨hk, hz⟩ K hK
  by_cases hlt : k < c.length
  · obtain ⟨a, ha⟩ : ∃ a, c[k]? = some a := ⟨_, List.getElem?_eq_getElem hlt⟩
    obtain ⟨b, hb⟩ : ∃ b, d[k]? = some b := ⟨_, List.getElem?_eq_getElem (by omega)⟩
    have hax := hc.x a (List.mem_of_getElem? ha)
    have hbx := hd.x b (List.mem_of_getElem? hb)
    have p2 := fun {H' : List HP} {w : World} (hx : a.In B w0 H') (hy : b.In B w0 H') (hw : St B w0 H' w) => Oi a b hx hy hw
    by_cases he : a.clm = b.clm
    · rw [decide_eq_true he] at p2
      repeat' (first | apply (zs1 ?_) | (apply zg4; refine zs9 ?_) | (apply (zs17 ?_ ?_) <;> intro _ <;> try (exfalso; omega)) | apply (zs65 ?_) | apply (zs68 ?_) | apply (zs69 ?_) | apply (zs70 ?_) | (apply zg27; refine zs71 ?_) | apply (zs73 ?_) | apply (zs76 ?_) | fail)
      apply YB [0, 1, 2, 3, 4, 5, 6, 7, 8, 9] []
      kernel_rfl
      kernel_rfl
      (simp only [Yj, nthO]; rfl)
      exact rfl
      repeat' (first | apply (zs1 ?_) | (apply zg3; refine zs61 ?_) | (apply zg5; refine zs57 ?_) | apply (zs87 ?_) | fail)
      first | apply Ya en73 | apply Yb en73
      exact za
      exact rfl
      exact fun _ hw => (p2 hax hbx hw)
      repeat' (first | apply (zs1 ?_) | apply (zs2 ?_) | (apply zg13; refine zs30 ?_) | (apply zg20; refine zs47 ?_) | apply (zs65 ?_) | (apply Yn; exact zp) | apply (zs68 ?_) | apply (zs70 ?_) | (apply zg27; refine zs72 ?_) | apply (zs76 ?_) | apply (zs79 ?_) | (apply Yl; (repeat (first | with_reducible exact Yh | (with_reducible apply Yg; (repeat (first | with_reducible exact Yf | with_reducible apply Ye)))))) | apply (zs93 ?_) | apply (zs94 ?_) | fail)
      · show Perm H (H ++ [])
        rw [List.append_nil]; exact Perm.refl _
      repeat' (first | fail)
      apply hK (k + 1)
      · exact ⟨by omega, by rw [List.take_add_one, List.take_add_one, ha, hb, List.map_append, List.map_append, hz]; simp [he]⟩
      · omega
      · exact zu
      · exact fun w hw => hw
    · rw [decide_eq_false he] at p2
      have hne : ¬ (c.map ClM.clm = d.map ClM.clm) := fun e => by
        have h1 : (c.map ClM.clm)[k]? = (d.map ClM.clm)[k]? := by rw [e]
        rw [List.getElem?_map, List.getElem?_map, ha, hb] at h1
        exact he (Option.some.inj h1)
      rw [decide_eq_false hne]
      clear hK
      repeat' (first | apply (zs1 ?_) | (apply zg4; refine zs9 ?_) | (apply (zs17 ?_ ?_) <;> intro _ <;> try (exfalso; omega)) | apply (zs65 ?_) | apply (zs68 ?_) | apply (zs69 ?_) | apply (zs70 ?_) | (apply zg27; refine zs71 ?_) | apply (zs73 ?_) | apply (zs76 ?_) | fail)
      apply YB [0, 1, 2, 3, 4, 5, 6, 7, 8, 9] []
      kernel_rfl
      kernel_rfl
      (simp only [Yj, nthO]; rfl)
      exact rfl
      repeat' (first | apply (zs1 ?_) | (apply zg3; refine zs61 ?_) | (apply zg5; refine zs57 ?_) | apply (zs87 ?_) | fail)
      first | apply Ya en73 | apply Yb en73
      exact za
      exact rfl
      exact fun _ hw => (p2 hax hbx hw)
      repeat' (first | apply (zs2 ?_) | (apply zg20; refine zs48 ?_) | apply (zs65 ?_) | (apply Yn; exact zp) | apply (zs68 ?_) | apply (zs69 ?_) | apply (zs70 ?_) | (apply zg27; refine zs71 ?_) | apply (zs74 ?_) | apply (zs77 ?_) | apply (zs78 ?_) | (apply Yl; (repeat (first | with_reducible exact Yh | (with_reducible apply Yg; (repeat (first | with_reducible exact Yf | with_reducible apply Ye)))))) | apply (zs93 ?_) | apply (zs94 ?_) | fail)
      · show Perm H (H ++ [])
        rw [List.append_nil]; exact Perm.refl _
      repeat' (first | fail)
      apply Yc; exact rfl; exact rfl; exact ⟨rfl, rfl⟩
  · rw [List.take_of_length_le (by omega), List.take_of_length_le (by omega)] at hz
    rw [decide_eq_true hz]
    repeat' (first | apply (zs1 ?_) | apply (zs2 ?_) | (apply zg4; refine zs9 ?_) | (apply (zs17 ?_ ?_) <;> intro _ <;> try (exfalso; omega)) | apply (zs65 ?_) | apply (zs68 ?_) | apply (zs69 ?_) | apply (zs70 ?_) | (apply zg27; refine zs72 ?_) | apply (zs74 ?_) | apply (zs75 ?_) | apply (zs80 ?_) | apply (zs81 ?_) | fail)
    apply Yc; exact rfl; exact rfl; exact ⟨rfl, rfl⟩
end Go.Proofs.YtmalhidldgfeoaaGreatDoor
namespace Go.Eng
open Go.RowKit
section
variable {P : Program} {B : Nat} {w0 : World} {Q : Exit → Act → World → Prop} {env : Env} {H : List HP} {m : Mode} {n : Shp} {ops : Array Oper} {rest : List Oper} {d : Nat} {ty : TypeId} {pos : String} {after : Array Edge}
theorem Yh8 {tx : Array TypeId} {x y : Operand} {a b : Int} {k k' : IntKind} (hx : evo env x = some (.int k a)) (hy : evo env y = some (.int k' b)) (hn : Nat.ble (d + 1) n.k = true) (h : VL P m n B w0 ops Q rest ((d, .int k (if b < a then b else a)) :: env) H) :
    VL P m n B w0 ops Q (⟨some d, .call ⟨.builtin .min, #[x, y], tx⟩, ty, pos, after, none⟩ :: rest) env H :=
  Yu rfl rfl hn rfl (fun f w ha _ => by simp [execOp, resolve, invoke, builtin, ha.eval hx, ha.eval hy, run_min_int2]) h
end
end Go.Eng
namespace Go.Proofs.YtmalhidldgfeoaaGreatDoor
open Go.RowKit Go.Eng Go.Nw Go.Rt
def JK (id : Int) (x : Clm) : Bool := decide (x.flow = id) && decide (0 < x.bounds.length)
theorem Ybl (x : ClM) (id : Int) (g : Nat) {B : Nat} {w0 : World} {H : List HP} {w : World} (hl : x.bs.length ≤ 1000000000000) (hm : blk g (.cells #[.int .i64 id] 3 (0, 0)) ∈ H) (hw : St B w0 H w) :
    Calls Tryz.prog 90 [clV x, .pointer (some ⟨g, 0, none⟩)].toArray w (Post B w0 fun v K => v = .bool (JK id x.clm) ∧ K = H) := by
  refine Yd Tryz.func90 Tryz.ntmps90 rfl rfl hw ?_
  have e1 : JK id x.clm = (decide (x.flow = id) && decide (0 < x.bs.length)) := rfl
  unfold clV
  by_cases h1 : x.flow = id
  · by_cases h2 : 0 < x.bs.length
    · rw [e1, decide_eq_true h1, decide_eq_true h2]
      repeat' (first | apply (zs1 ?_) | apply (zs2 ?_) | (apply zg1; refine zs4 ?_) | (apply zg2; refine zs6 ?_) | (apply zg3; refine zs7 ?_) | (apply zg4; refine zs9 ?_) | (apply zg6; refine zs11 ?_) | (apply zg7; (refine zs15 ?_ ?_ <;> intro _ <;> try (exfalso; omega))) | (apply (zs19 ?_ ?_) <;> intro _ <;> try (exfalso; omega)) | (apply zg23; (refine zs52 ?_; intro _)) | apply (zs65 ?_) | apply (zs68 ?_) | apply (zs69 ?_) | apply (zs70 ?_) | apply (zs74 ?_) | fail)
      apply Yi H
      · exact zk
      apply Yc; exact rfl; exact rfl; exact ⟨rfl, rfl⟩
    · rw [e1, decide_eq_true h1, decide_eq_false h2]
      repeat' (first | apply (zs1 ?_) | apply (zs2 ?_) | (apply zg1; refine zs4 ?_) | (apply zg2; refine zs6 ?_) | (apply zg3; refine zs7 ?_) | (apply zg4; refine zs9 ?_) | (apply zg6; refine zs11 ?_) | (apply zg7; (refine zs15 ?_ ?_ <;> intro _ <;> try (exfalso; omega))) | (apply (zs19 ?_ ?_) <;> intro _ <;> try (exfalso; omega)) | (apply zg23; (refine zs52 ?_; intro _)) | apply (zs65 ?_) | apply (zs68 ?_) | apply (zs69 ?_) | apply (zs70 ?_) | apply (zs74 ?_) | fail)
      apply Yi H
      · exact zk
      apply Yc; exact rfl; exact rfl; exact ⟨rfl, rfl⟩
  · rw [e1, decide_eq_false h1]
    repeat' (first | apply (zs1 ?_) | apply (zs2 ?_) | (apply zg1; refine zs3 ?_) | (apply zg2; refine zs6 ?_) | (apply zg3; refine zs7 ?_) | (apply zg6; refine zs12 ?_) | (apply zg7; (refine zs15 ?_ ?_ <;> intro _ <;> try (exfalso; omega))) | (apply zg23; (refine zs52 ?_; intro _)) | apply (zs65 ?_) | apply (zs68 ?_) | apply (zs69 ?_) | apply (zs70 ?_) | apply (zs74 ?_) | fail)
    apply Yi H
    · exact zk
    apply Yc; exact rfl; exact rfl; exact ⟨rfl, rfl⟩
def idxC (P : Clm → Bool) (c : List Clm) : Int := match c.findIdx? P with | none => -1 | some i => (i : Nat)
theorem YaG {P : Clm → Bool} {c : List Clm} (h : ∀ x ∈ c, P x = false) : idxC P c = -1 := by
  have : c.findIdx? P = none := by rw [List.findIdx?_eq_none_iff]; exact h
  unfold idxC; rw [this]
theorem YaH {P : Clm → Bool} {c : List Clm} {i : Nat} {x : Clm} (h0 : ∀ y ∈ c.take i, P y = false) (hx : c[i]? = some x) (hp : P x = true) : idxC P c = (i : Nat) ∧ c.find? P = some x := by
  have hc : c = c.take i ++ (x :: c.drop (i + 1)) := by
    have hi := (List.getElem?_eq_some_iff.1 hx)
    obtain ⟨hi, e⟩ := hi
    rw [← e, List.getElem_cons_drop, List.take_append_drop]
  have hl : (c.take i).length = i := by
    have hi := (List.getElem?_eq_some_iff.1 hx).1
    rw [List.length_take]; omega
  have h1 : c.findIdx? P = some i := by
    rw [hc, List.findIdx?_append]
    have : (c.take i).findIdx? P = none := by rw [List.findIdx?_eq_none_iff]; exact h0
    rw [this]
    simp [List.findIdx?_cons, hp, hl]
  refine ⟨by unfold idxC; rw [h1], ?_⟩
  rw [hc, List.find?_append]
  have : (c.take i).find? P = none := by rw [List.find?_eq_none]; exact fun y hy => by rw [h0 y hy]; decide
  rw [this]
  simp [hp]
set_option maxRecDepth 10000 in
set_option maxHeartbeats 2000000 in
theorem Yci (c : List ClM) (id : Int) (g : Nat) {A : Option Addr} {cap B : Nat} {w0 : World} {H : List HP} {w : World} (hc : CIn B w0 H A c) (hm : blk g (.cells #[.int .i64 id] 3 (0, 0)) ∈ H) (hw : St B w0 H w) :
    Calls Tryz.prog 87 [.slice A c.length cap, .func (.func 90) #[] #[.pointer (some ⟨g, 0, none⟩)]].toArray w (Post B w0 fun v K => v = .int .i64 (idxC (JK id) (c.map ClM.clm)) ∧ K = H) := by
  refine Yd Tryz.func87 Tryz.ntmps87 rfl rfl hw ?_
  have hcl := hc.ln
  have hcr := hc.rd
  repeat' (first | apply (zs1 ?_) | apply (zs2 ?_) | (apply zg4; refine zs9 ?_) | apply (zs65 ?_) | apply (zs68 ?_) | apply (zs69 ?_) | apply (zs70 ?_) | apply (zs73 ?_) | fail)
  refine Yk (fun k : Nat => [(8, .int .i64 (k : Nat)), (7, .int .i64 c.length), (6, .slice A c.length cap), (0, .slice A c.length cap), (1, .func (.func 90) #[] #[.pointer (some ⟨g, 0, none⟩)])]) (fun _ => H) (fun k => k ≤ c.length ∧ ∀ y ∈ (c.map ClM.clm).take k, JK id y = false) (fun k => c.length - k) 0 ⟨Nat.zero_le _, by simp⟩ ?_ (fun w hw => hw) ?_
  · exact zu
  rintro k ⟨hk, hz⟩ K hK
  by_cases hlt : k < c.length
  · obtain ⟨x, hx⟩ : ∃ x, c[k]? = some x := ⟨_, List.getElem?_eq_getElem hlt⟩
    have hxm : (c.map ClM.clm)[k]? = some x.clm := by rw [List.getElem?_map, hx]; rfl
    have hxi := hc.x x (List.mem_of_getElem? hx)
    have p1 := fun {w : World} (hw : St B w0 H w) => Ybl x id g hxi.ln.2.1 hm hw
    cases hb : JK id x.clm with
    | true =>
      rw [hb] at p1
      have hi := (YaH hz hxm hb).1
      rw [hi]
      clear hK
      repeat' (first | ((first | apply YG (cs := [.pointer (some ⟨g, 0, none⟩)]) | apply Y9 (cs := [.pointer (some ⟨g, 0, none⟩)])); exact rfl; exact en90; exact za; exact rfl; exact fun _ hw => (p1 hw)) | apply (zs1 ?_) | apply (zs2 ?_) | (apply zg3; refine zs61 ?_) | (apply zg5; refine zs57 ?_) | (apply (zs17 ?_ ?_) <;> intro _ <;> try (exfalso; omega)) | apply (zs65 ?_) | apply (zs68 ?_) | apply (zs69 ?_) | apply (zs70 ?_) | (apply zg27; refine zs71 ?_) | apply (zs73 ?_) | apply (zs74 ?_) | apply (zs76 ?_) | apply (zs77 ?_) | apply (zs78 ?_) | fail)
      apply Yc; exact rfl; exact rfl; exact ⟨rfl, rfl⟩
    | false =>
      rw [hb] at p1
      repeat' (first | ((first | apply YG (cs := [.pointer (some ⟨g, 0, none⟩)]) | apply Y9 (cs := [.pointer (some ⟨g, 0, none⟩)])); exact rfl; exact en90; exact za; exact rfl; exact fun _ hw => (p1 hw)) | apply (zs1 ?_) | apply (zs2 ?_) | (apply zg3; refine zs61 ?_) | (apply zg5; refine zs57 ?_) | (apply (zs17 ?_ ?_) <;> intro _ <;> try (exfalso; omega)) | (apply zg13; refine zs30 ?_) | apply (zs65 ?_) | apply (zs68 ?_) | apply (zs69 ?_) | apply (zs70 ?_) | (apply zg27; first | refine zs71 ?_ | refine zs72 ?_) | apply (zs73 ?_) | apply (zs76 ?_) | apply (zs79 ?_) | fail)
      apply hK (k + 1)
      · exact ⟨by omega, fun y hy => by
          rw [List.take_add_one, hxm, Option.toList_some] at hy
          rcases List.mem_append.1 hy with h | h
          · exact hz y h
          · rw [List.mem_singleton.1 h]; exact hb⟩
      · omega
      · exact zu
      · exact fun w hw => hw
  · rw [List.take_of_length_le (by rw [List.length_map]; omega)] at hz
    rw [YaG hz]
    repeat' (first | apply (zs2 ?_) | (apply (zs17 ?_ ?_) <;> intro _ <;> try (exfalso; omega)) | apply (zs65 ?_) | apply (zs68 ?_) | apply (zs69 ?_) | apply (zs70 ?_) | (apply zg27; refine zs72 ?_) | apply (zs74 ?_) | apply (zs75 ?_) | apply (zs80 ?_) | apply (zs81 ?_) | fail)
    apply Yc; exact rfl; exact rfl; exact ⟨rfl, rfl⟩
theorem Ygo {l : List Int} {k : Nat} {y : Int} (h0 : 1 ≤ k) (h : l[k]? = some y) : minI (l.take (k + 1)) = if y < minI (l.take k) then y else minI (l.take k) := by
  rw [List.take_add_one, h, Option.toList_some]
  cases l with
  | nil => cases h
  | cons a l =>
    obtain ⟨k, rfl⟩ : ∃ j, k = j + 1 := ⟨k - 1, by omega⟩
    rw [List.take_succ_cons]
    show List.foldl (fun x y => if y < x then y else x) a (l.take k ++ [y]) = _
    rw [List.foldl_append]
    rfl
set_option maxRecDepth 10000 in
set_option maxHeartbeats 2000000 in
theorem Yfm (l : List Int) (hlen : l.length ≤ 1000000000000) (h0 : 1 ≤ l.length) {A : Option Addr} {cap B : Nat} {w0 : World} {H : List HP} {w : World} (hr : Rd B w0 H A (l.flatMap numF)) (hw : St B w0 H w) :
    Calls Tryz.prog 91 [.slice A l.length cap].toArray w (Post B w0 fun v K => v = .int .i64 (minI l) ∧ K = H) := by
  refine Yd Tryz.func91 Tryz.ntmps91 rfl rfl hw ?_
  obtain ⟨a, ha⟩ : ∃ a, l[0]? = some a := ⟨_, List.getElem?_eq_getElem (by omega)⟩
  have ha2 : l[(0 : Int).toNat]? = some a := ha
  have hm1 : minI (l.take 1) = a := by
    cases l with
    | nil => cases ha
    | cons b l => exact Option.some.inj ha
  repeat' (first | apply (zs1 ?_) | apply (zs2 ?_) | (apply zg3; refine zs60 ?_) | (apply zg4; refine zs9 ?_) | (apply zg5; refine zs57 ?_) | (apply (zs17 ?_ ?_) <;> intro _ <;> try (exfalso; omega)) | apply (zs65 ?_) | apply (zs68 ?_) | apply (zs69 ?_) | apply (zs70 ?_) | (apply zg27; refine zs72 ?_) | apply (zs73 ?_) | apply (zs76 ?_) | fail)
  refine Yk (fun k : Nat => [(4, .int .i64 (k : Nat)), (3, .int .i64 (minI (l.take k))), (0, .slice A l.length cap)]) (fun _ => H) (fun k => 1 ≤ k ∧ k ≤ l.length) (fun k => l.length - k) 1 ⟨Nat.le_refl _, h0⟩ ?_ (fun w hw => hw) ?_
  · rw [hm1]
    exact zu
  rintro k ⟨hk1, hk⟩ K hK
  by_cases hlt : k < l.length
  · obtain ⟨y, hy⟩ : ∃ y, l[k]? = some y := ⟨_, List.getElem?_eq_getElem hlt⟩
    repeat' (first | (apply Yh8; exact rfl; exact rfl; exact rfl) | apply (zs1 ?_) | apply (zs2 ?_) | (apply zg3; refine zs60 ?_) | (apply zg4; refine zs9 ?_) | (apply zg5; refine zs57 ?_) | (apply (zs17 ?_ ?_) <;> intro _ <;> try (exfalso; omega)) | (apply zg13; refine zs30 ?_) | apply (zs65 ?_) | apply (zs68 ?_) | apply (zs69 ?_) | apply (zs70 ?_) | (apply zg27; refine zs71 ?_) | apply (zs73 ?_) | apply (zs76 ?_) | apply (zs79 ?_) | fail)
    apply hK (k + 1)
    · exact ⟨by omega, by omega⟩
    · omega
    · rw [Ygo hk1 hy]
      exact zu
    · exact fun w hw => hw
  · rw [show l.take k = l from List.take_of_length_le (by omega)]
    repeat' (first | apply (zs1 ?_) | apply (zs2 ?_) | (apply zg4; refine zs9 ?_) | (apply (zs17 ?_ ?_) <;> intro _ <;> try (exfalso; omega)) | apply (zs65 ?_) | apply (zs68 ?_) | apply (zs69 ?_) | apply (zs70 ?_) | (apply zg27; refine zs72 ?_) | apply (zs74 ?_) | apply (zs75 ?_) | apply (zs80 ?_) | apply (zs81 ?_) | fail)
    apply Yc; exact rfl; exact rfl; exact ⟨rfl, rfl⟩
set_option maxRecDepth 10000 in
set_option maxHeartbeats 2000000 in
theorem Ycf (c : List ClM) (id : Int) {A : Option Addr} {cap B : Nat} {w0 : World} {H : List HP} {w : World} (hc : CIn B w0 H A c) (hw : St B w0 H w) :
    Calls Tryz.prog 37 [.slice A c.length cap, .int .i64 id].toArray w (Post B w0 fun v K => v = .tuple #[.int .i64 (bndE (c.map ClM.clm) id).1, .bool (bndE (c.map ClM.clm) id).2] ∧ K = H) := by
  refine Yd Tryz.func37 Tryz.ntmps37 rfl rfl hw ?_
  have hcl := hc.ln
  have hcr := hc.rd
  repeat' (first | apply (zs1 ?_) | apply (zs2 ?_) | (apply zg23; (refine zs53 ?_; intro _)) | apply (zs65 ?_) | apply (zs68 ?_) | apply (zs69 ?_) | apply (zs70 ?_) | (apply zg29; (apply Yr; exact za ; exact rfl)) | fail)
  rename_i g
  have p1 := fun {H' : List HP} {w : World} (hc : CIn B w0 H' A c) (hm : blk g (.cells #[.int .i64 id] 3 (0, 0)) ∈ H') (hw : St B w0 H' w) => Yci c id g (cap := cap) hc hm hw
  by_cases hex : ∃ i x, (c.map ClM.clm)[i]? = some x ∧ JK id x = true ∧ ∀ y ∈ (c.map ClM.clm).take i, JK id y = false
  · obtain ⟨i, x, hx, hb, hz⟩ := hex
    obtain ⟨h1, h2⟩ := YaH hz hx hb
    have hbe : bndE (c.map ClM.clm) id = (minI x.bounds, true) := by
      unfold bndE
      rw [show (c.map ClM.clm).find? (fun x => decide (x.flow = id) && decide (0 < x.bounds.length)) = some x from h2]
    rw [List.getElem?_map] at hx
    obtain ⟨y, hy, rfl⟩ : ∃ y, c[i]? = some y ∧ y.clm = x := by
      cases hc0 : c[i]? with
      | none => rw [hc0] at hx; cases hx
      | some y => rw [hc0] at hx; exact ⟨y, rfl, Option.some.inj hx⟩
    have hyi := hc.x y (List.mem_of_getElem? hy)
    have hi := (List.getElem?_eq_some_iff.1 hy).1
    have hpos : 1 ≤ y.bs.length := by
      unfold JK at hb
      rw [Bool.and_eq_true, decide_eq_true_eq, decide_eq_true_eq] at hb
      exact hb.2
    rw [h1] at p1
    rw [hbe]
    have p2 := fun {H' : List HP} {w : World} (hr : Rd B w0 H' y.bA (y.bs.flatMap numF)) (hw : St B w0 H' w) => Yfm y.bs hyi.ln.2.1 hpos (cap := y.bcap) hr hw
    have hcr2 : Rd B w0 (blk g (.cells #[.int .i64 id] 3 (0, 0)) :: H) A (c.flatMap clF) := hcr.cons
    first | apply Ya en87 | apply Yb en87
    exact za
    exact rfl
    exact fun _ hw => (p1 hc.cons (.head _) hw)
    repeat' (first | apply (zs1 ?_) | apply (zs2 ?_) | (apply zg2; refine zs58 ?_) | (apply zg3; refine zs59 ?_) | (apply zg5; refine zs57 ?_) | (apply (zs17 ?_ ?_) <;> intro _ <;> try (exfalso; omega)) | apply (zs65 ?_) | apply (zs68 ?_) | apply (zs69 ?_) | apply (zs70 ?_) | (apply zg27; refine zs72 ?_) | apply (zs76 ?_) | fail)
    first | apply Ya en91 | apply Yb en91
    exact za
    exact rfl
    exact fun _ hw => (p2 hyi.bd.cons hw)
    repeat' (first | apply (zs2 ?_) | apply (zs65 ?_) | apply (zs68 ?_) | apply (zs74 ?_) | fail)
    apply Yi H
    · exact zk
    apply Yp; exact rfl; exact rfl; exact rfl; exact ⟨rfl, rfl⟩
  · have hall : ∀ y ∈ c.map ClM.clm, JK id y = false := by
      intro y hy
      cases hb : JK id y with
      | false => rfl
      | true =>
        exfalso
        have hsm : ((c.map ClM.clm).find? (JK id)).isSome = true := by
          rw [List.find?_isSome]; exact ⟨y, hy, hb⟩
        have hsi : ((c.map ClM.clm).findIdx? (JK id)).isSome = true := by
          rw [List.findIdx?_isSome, List.any_eq_true]; exact ⟨y, hy, hb⟩
        obtain ⟨i, hi⟩ := Option.isSome_iff_exists.1 hsi
        rw [List.findIdx?_eq_some_iff_getElem] at hi
        obtain ⟨hlt, hpi, hno⟩ := hi
        refine hex ⟨i, _, List.getElem?_eq_getElem hlt, hpi, fun z hz => ?_⟩
        obtain ⟨j, hj⟩ := List.mem_iff_getElem?.1 hz
        rw [List.getElem?_take] at hj
        split at hj
        · rename_i hji
          obtain ⟨hj1, hj2⟩ := List.getElem?_eq_some_iff.1 hj
          have := hno j hji
          rw [hj2] at this
          simpa using this
        · cases hj
    have hbe : bndE (c.map ClM.clm) id = (0, false) := by
      unfold bndE
      have : (c.map ClM.clm).find? (JK id) = none := by rw [List.find?_eq_none]; exact fun y hy => by rw [hall y hy]; decide
      rw [show (c.map ClM.clm).find? (fun x => decide (x.flow = id) && decide (0 < x.bounds.length)) = none from this]
    rw [YaG hall] at p1
    rw [hbe]
    first | apply Ya en87 | apply Yb en87
    exact za
    exact rfl
    exact fun _ hw => (p1 hc.cons (.head _) hw)
    repeat' (first | apply (zs1 ?_) | apply (zs2 ?_) | (apply (zs17 ?_ ?_) <;> intro _ <;> try (exfalso; omega)) | apply (zs65 ?_) | apply (zs68 ?_) | apply (zs69 ?_) | apply (zs70 ?_) | (apply zg27; refine zs71 ?_) | apply (zs74 ?_) | apply (zs77 ?_) | fail)
    apply Yi H
    · exact zk
    apply Yp; exact rfl; exact rfl; exact rfl; exact ⟨rfl, rfl⟩
open Go.RowKit Go.Eng Go.Nw Go.Rt
structure ClM.Bg (B : Nat) (w0 : World) (H : List HP) (c : ClM) : Prop where
  rt : Rd B w0 H c.rA (c.rs.flatMap rowF)
  rw_ : ∀ r ∈ c.rs, Rd B w0 H r.A (r.xs.flatMap numF)
  bd : Rd B w0 H c.bA (c.bs.flatMap numF)
  ws : Rd B w0 H c.wA (c.ws.flatMap numF)
  st : Rd B w0 H c.sA (c.ss.flatMap rowF)
  sw : ∀ r ∈ c.ss, Rd B w0 H r.A (r.xs.flatMap numF)
  ln : c.rs.length ≤ 9223372036854775807 ∧ c.bs.length ≤ 9223372036854775807 ∧ c.ws.length ≤ 9223372036854775807 ∧ c.ss.length ≤ 9223372036854775807
  rl : ∀ r ∈ c.rs, r.xs.length ≤ 9223372036854775807
  sl : ∀ r ∈ c.ss, r.xs.length ≤ 9223372036854775807
structure CBg (B : Nat) (w0 : World) (H : List HP) (A : Option Addr) (c : List ClM) : Prop where
  rd : Rd B w0 H A (c.flatMap clF)
  x : ∀ x ∈ c, x.Bg B w0 H
  ln : c.length ≤ 9223372036854775807
def FewX (x : ClM) : Prop := x.rs.length ≤ 3 ∧ x.bs.length ≤ 8 ∧ x.ws.length ≤ 8 ∧ x.ss.length ≤ 8 ∧ (∀ r ∈ x.rs, r.xs.length ≤ 12) ∧ ∀ r ∈ x.ss, r.xs.length ≤ 70
def FewC (c : List ClM) : Prop := c.length ≤ 17 ∧ ∀ x ∈ c, FewX x
theorem CBg.small {B : Nat} {w0 : World} {H : List HP} {A : Option Addr} {c : List ClM} (h : CBg B w0 H A c) (hf : FewC c) : CIn B w0 H A c := by
  refine ⟨h.rd, fun x hx => ?_, by have := hf.1; omega⟩
  have h1 := h.x x hx
  obtain ⟨f1, f2, f3, f4, f5, f6⟩ := hf.2 x hx
  exact ⟨h1.rt, h1.rw_, h1.bd, h1.ws, h1.st, h1.sw, by omega, fun r hr => by have := f5 r hr; omega, fun r hr => by have := f6 r hr; omega⟩
theorem UA {α : Type} {P : α → Prop} {l : List α} {k : Nat} {x : α} (h : ∀ y ∈ l.take k, P y) (hx : l[k]? = some x) (hp : P x) : ∀ y ∈ l.take (k + 1), P y := fun y hy => by
  rw [List.take_add_one, hx, Option.toList_some] at hy
  rcases List.mem_append.1 hy with h1 | h1
  · exact h y h1
  · rw [List.mem_singleton.1 h1]; exact hp
theorem Ybi {α : Type} {P : α → Prop} {l : List α} {k : Nat} (h : ∀ y ∈ l.take k, P y) (hk : ¬ k < l.length) : ∀ y ∈ l, P y := by
  rw [List.take_of_length_le (by omega)] at h
  exact h
set_option maxRecDepth 10000 in
set_option maxHeartbeats 4000000 in
theorem Qa (c : List ClM) {A : Option Addr} {cap B : Nat} {w0 : World} {H : List HP} {w : World} (hc : CBg B w0 H A c) (hw : St B w0 H w) :
    Calls Tryz.prog 22 [.slice A c.length cap].toArray w (Post B w0 fun v K => (∃ b, v = .bool b ∧ (b = true → FewC c)) ∧ K = H) := by
  refine Yd Tryz.func22 Tryz.ntmps22 rfl rfl hw ?_
  have hcl := hc.ln
  have hcr := hc.rd
  repeat' (first | apply (zs1 ?_) | apply (zs2 ?_) | (apply zg1; first | refine zs3 ?_ | refine zs4 ?_) | (apply zg4; refine zs9 ?_) | (apply zg6; first | refine zs11 ?_ | refine zs12 ?_) | (apply zg8; (refine zs16 ?_ ?_ <;> intro _ <;> try (exfalso; omega))) | (apply (zs19 ?_ ?_) <;> intro _ <;> try (exfalso; omega)) | apply (zs65 ?_) | apply (zs68 ?_) | apply (zs69 ?_) | apply (zs70 ?_) | (apply zg27; first | refine zs71 ?_ | refine zs72 ?_) | apply (zs73 ?_) | apply (zs74 ?_) | apply (zs76 ?_) | apply (zs77 ?_) | fail)
  any_goals (apply Yc; exact rfl; exact rfl; exact ⟨⟨_, rfl, fun h => by cases h⟩, rfl⟩)
  all_goals (
    have hc17 : c.length ≤ 17 := by omega
    refine Yk (fun k : Nat => [(3, .int .i64 (k : Nat)), (0, .slice A c.length cap)]) (fun _ => H) (fun k => k ≤ c.length ∧ ∀ x ∈ c.take k, FewX x) (fun k => c.length - k) 0 ⟨Nat.zero_le _, by simp⟩ ?_ (fun w hw => hw) ?_
    · exact zu
    rintro i ⟨hi, hz⟩ K hK
    by_cases hlt : i < c.length
    rotate_left
    · repeat' (first | apply (zs1 ?_) | apply (zs2 ?_) | (apply zg4; refine zs9 ?_) | (apply (zs17 ?_ ?_) <;> intro _ <;> try (exfalso; omega)) | apply (zs65 ?_) | apply (zs68 ?_) | apply (zs69 ?_) | apply (zs70 ?_) | (apply zg27; refine zs72 ?_) | apply (zs74 ?_) | apply (zs75 ?_) | apply (zs80 ?_) | apply (zs81 ?_) | fail)
      apply Yc; exact rfl; exact rfl; exact ⟨⟨_, rfl, fun _ => ⟨hc17, Ybi hz hlt⟩⟩, rfl⟩
    obtain ⟨x, hx⟩ : ∃ x, c[i]? = some x := ⟨_, List.getElem?_eq_getElem hlt⟩
    have hxi := hc.x x (List.mem_of_getElem? hx)
    have hxl := hxi.ln
    have hxr := hxi.rt
    have hxs := hxi.st
    repeat' (first | apply (zs1 ?_) | apply (zs2 ?_) | (apply zg1; first | refine zs3 ?_ | refine zs4 ?_) | (apply zg2; refine zs58 ?_) | (apply zg3; refine zs59 ?_) | (apply zg4; refine zs9 ?_) | (apply zg5; refine zs57 ?_) | (apply zg6; first | refine zs11 ?_ | refine zs12 ?_) | (apply (zs17 ?_ ?_) <;> intro _ <;> try (exfalso; omega)) | (apply (zs19 ?_ ?_) <;> intro _ <;> try (exfalso; omega)) | apply (zs65 ?_) | apply (zs68 ?_) | apply (zs69 ?_) | apply (zs70 ?_) | (apply zg27; first | refine zs71 ?_ | refine zs72 ?_) | apply (zs73 ?_) | apply (zs74 ?_) | apply (zs76 ?_) | apply (zs77 ?_) | apply (zs78 ?_) | fail)
    any_goals (apply Yc; exact rfl; exact rfl; exact ⟨⟨_, rfl, fun h => by cases h⟩, rfl⟩)
    have hx4 : x.rs.length ≤ 3 ∧ x.bs.length ≤ 8 ∧ x.ws.length ≤ 8 ∧ x.ss.length ≤ 8 := by omega
    refine Yk (fun k : Nat => [(4, .int .i64 (k : Nat)), (3, .int .i64 (i : Nat)), (0, .slice A c.length cap)]) (fun _ => H) (fun k => k ≤ x.rs.length ∧ ∀ r ∈ x.rs.take k, r.xs.length ≤ 12) (fun k => x.rs.length - k) 0 ⟨Nat.zero_le _, by simp⟩ ?_ (fun w hw => hw) ?_
    · exact zu
    rintro k ⟨hk, hz2⟩ K2 hK2
    by_cases hlk : k < x.rs.length
    · obtain ⟨r, hr⟩ : ∃ r, x.rs[k]? = some r := ⟨_, List.getElem?_eq_getElem hlk⟩
      have hrl := hxi.rl r (List.mem_of_getElem? hr)
      repeat' (first | apply (zs1 ?_) | apply (zs2 ?_) | (apply zg2; refine zs58 ?_) | (apply zg3; first | refine zs59 ?_ | refine zs60 ?_) | (apply zg4; refine zs9 ?_) | (apply zg5; refine zs57 ?_) | (apply (zs17 ?_ ?_) <;> intro _ <;> try (exfalso; omega)) | (apply (zs19 ?_ ?_) <;> intro _ <;> try (exfalso; omega)) | (apply zg13; refine zs30 ?_) | apply (zs65 ?_) | apply (zs68 ?_) | apply (zs69 ?_) | apply (zs70 ?_) | (apply zg27; first | refine zs71 ?_ | refine zs72 ?_) | apply (zs73 ?_) | apply (zs74 ?_) | apply (zs76 ?_) | apply (zs77 ?_) | apply (zs78 ?_) | apply (zs79 ?_) | fail)
      any_goals (apply Yc; exact rfl; exact rfl; exact ⟨⟨_, rfl, fun h => by cases h⟩, rfl⟩)
      apply hK2 (k + 1)
      · exact ⟨by omega, UA hz2 hr (by omega)⟩
      · omega
      · exact zu
      · exact fun w hw => hw
    clear hK2
    repeat' (first | apply (zs1 ?_) | apply (zs2 ?_) | (apply zg2; refine zs58 ?_) | (apply zg3; refine zs59 ?_) | (apply zg4; refine zs9 ?_) | (apply zg5; refine zs57 ?_) | (apply (zs17 ?_ ?_) <;> intro _ <;> try (exfalso; omega)) | apply (zs65 ?_) | apply (zs68 ?_) | apply (zs69 ?_) | apply (zs70 ?_) | (apply zg27; refine zs72 ?_) | apply (zs73 ?_) | apply (zs75 ?_) | apply (zs80 ?_) | apply (zs81 ?_) | fail)
    refine Yk (fun k : Nat => [(5, .int .i64 (k : Nat)), (3, .int .i64 (i : Nat)), (0, .slice A c.length cap)]) (fun _ => H) (fun k => k ≤ x.ss.length ∧ ∀ r ∈ x.ss.take k, r.xs.length ≤ 70) (fun k => x.ss.length - k) 0 ⟨Nat.zero_le _, by simp⟩ ?_ (fun w hw => hw) ?_
    · exact zu
    have hz2 := Ybi hz2 hlk
    rintro k ⟨hk, hz3⟩ K2 hK2
    by_cases hlk : k < x.ss.length
    · obtain ⟨r, hr⟩ : ∃ r, x.ss[k]? = some r := ⟨_, List.getElem?_eq_getElem hlk⟩
      have hrl := hxi.sl r (List.mem_of_getElem? hr)
      repeat' (first | apply (zs1 ?_) | apply (zs2 ?_) | (apply zg2; refine zs58 ?_) | (apply zg3; first | refine zs59 ?_ | refine zs60 ?_) | (apply zg4; refine zs9 ?_) | (apply zg5; refine zs57 ?_) | (apply (zs17 ?_ ?_) <;> intro _ <;> try (exfalso; omega)) | (apply (zs19 ?_ ?_) <;> intro _ <;> try (exfalso; omega)) | (apply zg13; refine zs30 ?_) | apply (zs65 ?_) | apply (zs68 ?_) | apply (zs69 ?_) | apply (zs70 ?_) | (apply zg27; first | refine zs71 ?_ | refine zs72 ?_) | apply (zs73 ?_) | apply (zs74 ?_) | apply (zs76 ?_) | apply (zs77 ?_) | apply (zs78 ?_) | apply (zs79 ?_) | fail)
      any_goals (apply Yc; exact rfl; exact rfl; exact ⟨⟨_, rfl, fun h => by cases h⟩, rfl⟩)
      apply hK2 (k + 1)
      · exact ⟨by omega, UA hz3 hr (by omega)⟩
      · omega
      · exact zu
      · exact fun w hw => hw
    clear hK2
    repeat' (first | apply (zs1 ?_) | apply (zs2 ?_) | (apply zg2; refine zs58 ?_) | (apply zg3; refine zs59 ?_) | (apply zg4; refine zs9 ?_) | (apply zg5; refine zs57 ?_) | (apply (zs17 ?_ ?_) <;> intro _ <;> try (exfalso; omega)) | (apply zg13; refine zs30 ?_) | apply (zs65 ?_) | apply (zs68 ?_) | apply (zs69 ?_) | apply (zs70 ?_) | (apply zg27; refine zs72 ?_) | apply (zs75 ?_) | apply (zs79 ?_) | apply (zs80 ?_) | apply (zs81 ?_) | fail)
    apply hK (i + 1)
    · exact ⟨by omega, UA hz hx ⟨hx4.1, hx4.2.1, hx4.2.2.1, hx4.2.2.2, hz2, Ybi hz3 hlk⟩⟩
    · omega
    · exact zu
    · exact fun w hw => hw)
open Go.ChangeShapes Go.WideShapes Go.ChangeAt Go.RowKit Go.Eng Go.Nw Go.Rt
theorem ClG.bg {W : World} {c : ClM} {K : List HP} (h : ClG W c) : c.Bg W.heap.size W K :=
  ⟨h.rt.rd, fun r hr => (h.rg r hr).old.rd, h.bd.old.rd, h.ws.old.rd, h.st.rd, fun r hr => (h.sg r hr).old.rd, ⟨h.rl, h.bd.len, h.ws.len, h.sl⟩, fun r hr => (h.rg r hr).len, fun r hr => (h.sg r hr).len⟩
theorem cert_bg {W : World} {s : SlM ClM} {K : List HP} (h : SlG W clF (ClG W) s) : CBg W.heap.size W K s.A s.xs :=
  ⟨h.old.rd, fun x hx => (h.good x hx).bg, Nat.le_trans h.len maxL⟩
open Go.RowKit Go.Eng Go.Nw Go.Rt
structure RqM.Bg (B : Nat) (w0 : World) (H : List HP) (x : RqM) : Prop where
  rt : Rd B w0 H x.A (x.rows.flatMap rowF)
  rw_ : ∀ r ∈ x.rows, Rd B w0 H r.A (r.xs.flatMap numF)
  ln : x.rows.length ≤ 9223372036854775807
  rl : ∀ r ∈ x.rows, r.xs.length ≤ 9223372036854775807 ∧ r.xs.length ≤ r.cap
structure QBg (B : Nat) (w0 : World) (H : List HP) (A : Option Addr) (q : List RqM) : Prop where
  rd : Rd B w0 H A (q.flatMap rqF)
  x : ∀ x ∈ q, x.Bg B w0 H
  ln : q.length ≤ 9223372036854775807
theorem RqM.Bg.mono {B : Nat} {w0 : World} {H H' : List HP} {x : RqM} (h : x.Bg B w0 H) (hH : ∀ w, St B w0 H' w → St B w0 H w) : x.Bg B w0 H' := ⟨h.rt.mono hH, fun r hr => (h.rw_ r hr).mono hH, h.ln, h.rl⟩
theorem QBg.mono {B : Nat} {w0 : World} {H H' : List HP} {A : Option Addr} {q : List RqM} (h : QBg B w0 H A q) (hH : ∀ w, St B w0 H' w → St B w0 H w) : QBg B w0 H' A q := ⟨h.rd.mono hH, fun x hx => (h.x x hx).mono hH, h.ln⟩
def FewR (l : List RowM) : Prop := l.length ≤ 3 ∧ ∀ r ∈ l, r.xs.length ≤ 12
def FewQ (q : List RqM) (s : SchM) : Prop := q.length ≤ 4 ∧ s.cells.length ≤ 30 ∧ ∀ x ∈ q, FewR x.rows
theorem QBg.small {B : Nat} {w0 : World} {H : List HP} {A : Option Addr} {q : List RqM} {s : SchM} (h : QBg B w0 H A q) (hf : FewQ q s) : QIn B w0 H A q := by
  refine ⟨h.rd, fun x hx => ?_, by have := hf.1; omega⟩
  have h1 := h.x x hx
  obtain ⟨f1, f2⟩ := hf.2.2 x hx
  exact ⟨h1.rt, h1.rw_, by omega, fun r hr => ⟨by have := f2 r hr; omega, (h1.rl r hr).2⟩⟩
open Go.RowKit Go.Eng Go.Nw Go.Rt
theorem Zq (z a b : Int) {B : Nat} {w0 : World} {H : List HP} {w : World} (hw : St B w0 H w) :
    Calls Tryz.prog 138 [.int .i64 z, .int .i64 a, .int .i64 b].toArray w (Post B w0 fun v K => v = .bool (decide (a ≤ z ∧ z ≤ b)) ∧ K = H) := by
  refine Yd Tryz.func138 Tryz.ntmps138 rfl rfl hw ?_
  by_cases h : a ≤ z ∧ z ≤ b
  · rw [decide_eq_true h]
    repeat' (first | apply (zs1 ?_) | apply (zs2 ?_) | (apply zg1; refine zs4 ?_) | (apply zg6; refine zs11 ?_) | (apply (zs18 ?_ ?_) <;> intro _ <;> try (exfalso; omega)) | (apply (zs20 ?_ ?_) <;> intro _ <;> try (exfalso; omega)) | apply (zs65 ?_) | apply (zs68 ?_) | apply (zs69 ?_) | apply (zs70 ?_) | apply (zs74 ?_) | fail)
    apply Yc; exact rfl; exact rfl; exact ⟨rfl, rfl⟩
  · rw [decide_eq_false h]
    repeat' (first | apply (zs1 ?_) | apply (zs2 ?_) | (apply zg1; first | refine zs3 ?_ | refine zs4 ?_) | (apply zg6; first | refine zs11 ?_ | refine zs12 ?_) | (apply (zs18 ?_ ?_) <;> intro _ <;> try (exfalso; omega)) | (apply (zs20 ?_ ?_) <;> intro _ <;> try (exfalso; omega)) | apply (zs65 ?_) | apply (zs68 ?_) | apply (zs69 ?_) | apply (zs70 ?_) | apply (zs74 ?_) | fail)
    all_goals (apply Yc; exact rfl; exact rfl; exact ⟨rfl, rfl⟩)
set_option maxRecDepth 10000 in
theorem Jw (l : List Int) (a b : Int) (hl : l.length ≤ 1000000000000) {A : Option Addr} {cap B : Nat} {w0 : World} {H : List HP} {w : World} (hr : Rd B w0 H A (l.flatMap numF)) (hw : St B w0 H w) :
    Calls Tryz.prog 139 [.slice A l.length cap, .int .i64 a, .int .i64 b].toArray w (Post B w0 fun v K => v = .bool (inL l a b) ∧ K = H) := by
  refine Yd Tryz.func139 Tryz.ntmps139 rfl rfl hw ?_
  obtain ⟨F, hF⟩ : ∃ F, inL l a b = F := ⟨_, rfl⟩
  rw [hF]
  unfold inL at hF
  repeat' (first | apply (zs2 ?_) | apply (zs65 ?_) | apply (zs68 ?_) | apply (zs69 ?_) | apply (zs70 ?_) | apply (zs73 ?_) | fail)
  refine Yk (fun k : Nat => [(7, .int .i64 (k : Nat)), (0, .slice A l.length cap), (1, .int .i64 a), (2, .int .i64 b)]) (fun _ => H) (fun k => k ≤ l.length ∧ ∀ z ∈ l.take k, a ≤ z ∧ z ≤ b) (fun k => l.length - k) 0 ⟨Nat.zero_le _, by simp⟩ ?_ (fun w hw => hw) ?_
  · exact zu
  rintro k ⟨hk, hz⟩ K hK
  by_cases hlt : k < l.length
  rotate_left
  · rw [List.take_of_length_le (by omega)] at hz
    have hFt : F = true := by rw [← hF, List.all_eq_true]; exact fun z hzm => decide_eq_true (hz z hzm)
    subst hFt
    clear hK
    repeat' (first | apply (zs1 ?_) | apply (zs2 ?_) | (apply zg4; refine zs9 ?_) | (apply (zs17 ?_ ?_) <;> intro _ <;> try (exfalso; omega)) | apply (zs65 ?_) | apply (zs68 ?_) | apply (zs69 ?_) | apply (zs70 ?_) | (apply zg27; refine zs72 ?_) | apply (zs74 ?_) | apply (zs75 ?_) | apply (zs80 ?_) | apply (zs81 ?_) | fail)
    apply Yc; exact rfl; exact rfl; exact ⟨rfl, rfl⟩
  obtain ⟨z, hzz⟩ : ∃ z, l[k]? = some z := ⟨_, List.getElem?_eq_getElem hlt⟩
  have p1 := fun {w : World} (hw : St B w0 H w) => Zq z a b hw
  by_cases hin : a ≤ z ∧ z ≤ b
  · rw [decide_eq_true hin] at p1
    repeat' (first | apply (zs1 ?_) | (apply zg3; refine zs60 ?_) | (apply zg4; refine zs9 ?_) | (apply zg5; refine zs57 ?_) | (apply (zs17 ?_ ?_) <;> intro _ <;> try (exfalso; omega)) | apply (zs65 ?_) | apply (zs68 ?_) | apply (zs69 ?_) | apply (zs70 ?_) | (apply zg27; refine zs71 ?_) | apply (zs73 ?_) | apply (zs76 ?_) | fail)
    first | apply Ya ZH | apply Yb ZH
    exact za
    exact rfl
    exact fun _ hw => (p1 hw)
    repeat' (first | apply (zs1 ?_) | apply (zs2 ?_) | (apply zg13; refine zs30 ?_) | (apply zg20; refine zs47 ?_) | apply (zs65 ?_) | apply (zs68 ?_) | apply (zs70 ?_) | (apply zg27; refine zs72 ?_) | apply (zs76 ?_) | apply (zs79 ?_) | fail)
    apply hK (k + 1)
    · exact ⟨by omega, UA hz hzz hin⟩
    · omega
    · exact zu
    · exact fun w hw => hw
  · rw [decide_eq_false hin] at p1
    have hFf : F = false := by rw [← hF, List.all_eq_false]; exact ⟨z, List.mem_of_getElem? hzz, by rw [decide_eq_false hin]; decide⟩
    subst hFf
    clear hK
    repeat' (first | apply (zs1 ?_) | (apply zg3; refine zs60 ?_) | (apply zg4; refine zs9 ?_) | (apply zg5; refine zs57 ?_) | (apply (zs17 ?_ ?_) <;> intro _ <;> try (exfalso; omega)) | apply (zs65 ?_) | apply (zs68 ?_) | apply (zs69 ?_) | apply (zs70 ?_) | (apply zg27; refine zs71 ?_) | apply (zs73 ?_) | apply (zs76 ?_) | fail)
    first | apply Ya ZH | apply Yb ZH
    exact za
    exact rfl
    exact fun _ hw => (p1 hw)
    repeat' (first | apply (zs2 ?_) | (apply zg20; refine zs48 ?_) | apply (zs65 ?_) | apply (zs68 ?_) | apply (zs69 ?_) | apply (zs70 ?_) | (apply zg27; refine zs71 ?_) | apply (zs74 ?_) | apply (zs77 ?_) | apply (zs78 ?_) | fail)
    apply Yc; exact rfl; exact rfl; exact ⟨rfl, rfl⟩
set_option maxRecDepth 10000 in
set_option maxHeartbeats 8000000 in
theorem VI (c : List ClM) {A : Option Addr} {cap B : Nat} {w0 : World} {H : List HP} {w : World} (hc : CIn B w0 H A c) (hw : St B w0 H w) :
    Calls Tryz.prog 79 [.slice A c.length cap].toArray w (Post B w0 fun v K => v = .bool (Zg (c.map ClM.clm)) ∧ K = H) := by
  refine Yd Tryz.func79 Tryz.ntmps79 rfl rfl hw ?_
  have hop : ∀ w, St B w0 [many H] w → St B w0 H w := fun w hw => hw.perm (.openT H)
  have hc := hc.mono hop
  refine Yal [many H] (fun w hw => hw.perm (.closeT H)) ?_
  have hcl := hc.ln
  have hcr := hc.rd
  obtain ⟨ok, hok⟩ : ∃ ok : Nat → Bool, Yaq (c.map ClM.clm) = ok := ⟨_, rfl⟩
  obtain ⟨F, hF⟩ : ∃ F, Zg (c.map ClM.clm) = F := ⟨_, rfl⟩
  have hFe : F = (decide (c.length ≤ 16) && (List.range c.length).all ok) := by
    rw [← hF]; unfold Zg; rw [List.length_map, hok]
  rw [hF]
  by_cases h16 : c.length ≤ 16
  rotate_left
  · rw [decide_eq_false h16] at hFe
    have hFe : F = false := hFe
    subst hFe
    repeat' (first | apply (zs1 ?_) | apply (zs2 ?_) | (apply zg4; refine zs9 ?_) | (apply (zs19 ?_ ?_) <;> intro _ <;> try (exfalso; omega)) | apply (zs65 ?_) | apply (zs68 ?_) | apply (zs69 ?_) | apply (zs70 ?_) | (apply zg27; refine zs71 ?_) | apply (zs74 ?_) | apply (zs77 ?_) | fail)
    apply Yi H
    · intro w hw
      refine hop w ?_
      revert w
      exact zk
    apply Yc; exact rfl; exact rfl; exact ⟨rfl, rfl⟩
  rw [decide_eq_true h16, Bool.true_and] at hFe
  repeat' (first | apply (zs1 ?_) | apply (zs2 ?_) | (apply zg4; refine zs9 ?_) | (apply (zs19 ?_ ?_) <;> intro _ <;> try (exfalso; omega)) | apply (zs65 ?_) | apply (zs68 ?_) | apply (zs69 ?_) | apply (zs70 ?_) | (apply zg27; refine zs72 ?_) | apply (zs73 ?_) | apply (zs76 ?_) | fail)
  refine Yk (fun k : Nat => [(3, .int .i64 (k : Nat)), (0, .slice A c.length cap)]) (fun _ => [many H]) (fun k => k ≤ c.length ∧ ∀ j, j < k → ok j = true) (fun k => c.length - k) 0 ⟨Nat.zero_le _, fun j h => absurd h (Nat.not_lt_zero _)⟩ ?_ (fun w hw => hw) ?_
  · exact zu
  rintro k ⟨hk, hz⟩ K hK
  by_cases hlt : k < c.length
  rotate_left
  · obtain rfl : k = c.length := by omega
    have hFt : F = true := by
      rw [hFe, List.all_eq_true]
      exact fun j hj => hz j (List.mem_range.1 hj)
    subst hFt
    clear hK
    repeat' (first | apply (zs1 ?_) | apply (zs2 ?_) | (apply zg4; refine zs9 ?_) | (apply (zs17 ?_ ?_) <;> intro _ <;> try (exfalso; omega)) | apply (zs65 ?_) | apply (zs68 ?_) | apply (zs69 ?_) | apply (zs70 ?_) | (apply zg27; refine zs72 ?_) | apply (zs74 ?_) | apply (zs75 ?_) | apply (zs80 ?_) | apply (zs81 ?_) | fail)
    apply Yi H
    · intro w hw
      refine hop w ?_
      revert w
      exact zk
    apply Yc; exact rfl; exact rfl; exact ⟨rfl, rfl⟩
  obtain ⟨x, hx⟩ : ∃ x, c[k]? = some x := ⟨_, List.getElem?_eq_getElem hlt⟩
  have hxi := hc.x x (List.mem_of_getElem? hx)
  obtain ⟨hl1, hl2, hl3, hl4⟩ := hxi.ln
  have hok1 : ok k = (XB x.clm && (decide (k = 0) || decide ((Zw (c.map ClM.clm) (k - 1)).flow < x.flow))) := by
    rw [← hok]; unfold Yaq; rw [XL hx]; rfl
  have hno : ok k = false → F = false := fun h => by
    rw [hFe]
    exact List.all_eq_false.2 ⟨k, List.mem_range.2 hlt, by rw [h]; decide⟩
  have hfd : XB x.clm = (decide (0 ≤ x.flow ∧ x.flow ≤ 255 ∧ 1 ≤ x.rs.length ∧ x.rs.length ≤ 2 ∧ x.bs.length = x.rs.length ∧ x.ws.length = x.rs.length ∧ x.ss.length = x.rs.length) && inL x.bs 1 512 && inL x.ws 0 511 && (List.range x.rs.length).all fun i => rtOk (rtAt (x.rs.map (·.xs)) i) (rtAt (x.ss.map (·.xs)) i)) := by
    unfold XB ClM.clm
    simp only [List.length_map]
  obtain ⟨y, hy⟩ : ∃ y, c[k - 1]? = some y := ⟨_, List.getElem?_eq_getElem (by omega)⟩
  have hy2 : 0 < k → c[((k : Int) - 1).toNat]? = some y := fun h => by rw [show ((k : Int) - 1).toNat = k - 1 by omega]; exact hy
  rw [XL hy] at hok1
  have hok1 : ok k = (XB x.clm && (decide (k = 0) || decide (y.flow < x.flow))) := hok1
  have p1 := fun {H' : List HP} {w : World} (hw : St B w0 H' w) => Zq x.flow 0 255 hw
  have p2 := fun {H' : List HP} {w : World} (hw : St B w0 H' w) => Zq (x.rs.length : Nat) 1 2 hw
  have p3 := fun {H' : List HP} {w : World} (hx : x.In B w0 H') (hw : St B w0 H' w) => Jw x.bs 1 512 hl2 (cap := x.bcap) hx.bd hw
  have p4 := fun {H' : List HP} {w : World} (hx : x.In B w0 H') (hw : St B w0 H' w) => Jw x.ws 0 511 hl3 (cap := x.wcap) hx.ws hw
  have hxi' : x.In B w0 [many H] := hxi
  obtain ⟨c1, hc1⟩ : ∃ b, decide (0 ≤ x.flow ∧ x.flow ≤ 255) = b := ⟨_, rfl⟩
  obtain ⟨c2, hc2⟩ : ∃ b, decide ((1 : Int) ≤ (x.rs.length : Nat) ∧ ((x.rs.length : Nat) : Int) ≤ 2) = b := ⟨_, rfl⟩
  rw [hc1] at p1
  rw [hc2] at p2
  repeat' (first | apply (zs1 ?_) | (apply zg3; refine zs61 ?_) | (apply zg4; refine zs9 ?_) | (apply zg5; refine zs57 ?_) | (apply (zs17 ?_ ?_) <;> intro _ <;> try (exfalso; omega)) | (apply zg22; refine zs51 ?_) | (apply zg24; (refine zs54 ?_; intro _)) | apply (zs65 ?_) | apply (zs68 ?_) | apply (zs69 ?_) | apply (zs70 ?_) | (apply zg27; refine zs71 ?_) | apply (zs73 ?_) | apply (zs76 ?_) | fail)
  rename_i g4
  apply YB [0, 1, 2, 3, 4, 5, 6, 7, 8, 9, 10, 11, 12, 13, 14, 15, 16, 17, 18, 19, 20, 21, 22, 23, 24, 25, 26, 27, 28, 29, 30, 31, 32, 33, 34, 35, 36, 37, 38, 39, 40, 41, 42, 43, 44, 45, 46, 47, 48, 49, 50, 51, 52] []
  kernel_rfl
  kernel_rfl
  (simp only [Yj, nthO]; rfl)
  exact rfl
  repeat' (first | (apply zg2; refine zs6 ?_) | (apply zg3; refine zs7 ?_) | apply (zs87 ?_) | fail)
  first | apply Ya ZH | apply Yb ZH
  exact za
  exact rfl
  exact fun _ hw => (p1 hw)
  cases c1 with
  | false =>
    have hFf := hno (by rw [hok1, hfd, decide_eq_false (fun h => of_decide_eq_false hc1 ⟨h.1, h.2.1⟩)]; rfl)
    subst hFf
    clear hK
    repeat' (first | apply (zs1 ?_) | apply (zs2 ?_) | (apply zg1; refine zs3 ?_) | (apply zg6; refine zs11 ?_) | (apply zg20; refine zs48 ?_) | apply (zs65 ?_) | (apply Yn; exact zp) | apply (zs68 ?_) | apply (zs69 ?_) | apply (zs70 ?_) | (apply zg27; refine zs71 ?_) | apply (zs74 ?_) | apply (zs77 ?_) | apply (zs78 ?_) | (apply Yl; (repeat (first | with_reducible exact Yh | (with_reducible apply Yg; (repeat (first | with_reducible exact Yf | with_reducible apply Ye)))))) | apply (zs93 ?_) | apply (zs94 ?_) | fail)
    apply Yi H
    · intro w hw
      refine hop w ?_
      revert w
      exact zk
    apply Yc; exact rfl; exact rfl; exact ⟨rfl, rfl⟩
  | true =>
  have hP1 := of_decide_eq_true hc1
  by_cases hP2 : 0 < k ∧ x.flow ≤ y.flow
  · have hy3 := hy2 hP2.1
    have hFf := hno (by rw [hok1, decide_eq_false (show ¬ k = 0 by omega), decide_eq_false (show ¬ y.flow < x.flow by omega)]; simp)
    subst hFf
    clear hK
    repeat' (first | apply (zs1 ?_) | apply (zs2 ?_) | (apply zg1; first | refine zs3 ?_ | refine zs4 ?_) | (apply zg2; first | refine zs6 ?_ | refine zs58 ?_) | (apply zg3; first | refine zs7 ?_ | refine zs59 ?_) | (apply zg5; refine zs57 ?_) | (apply zg6; first | refine zs11 ?_ | refine zs12 ?_) | (apply (zs19 ?_ ?_) <;> intro _ <;> try (exfalso; omega)) | (apply (zs20 ?_ ?_) <;> intro _ <;> try (exfalso; omega)) | (apply zg14; refine zs31 ?_) | (apply zg20; refine zs47 ?_) | apply (zs65 ?_) | (apply Yn; exact zp) | apply (zs68 ?_) | apply (zs69 ?_) | apply (zs70 ?_) | (apply zg27; refine zs71 ?_) | apply (zs74 ?_) | apply (zs77 ?_) | apply (zs78 ?_) | (apply Yl; (repeat (first | with_reducible exact Yh | (with_reducible apply Yg; (repeat (first | with_reducible exact Yf | with_reducible apply Ye)))))) | apply (zs93 ?_) | apply (zs94 ?_) | fail)
    apply Yi H
    · intro w hw
      refine hop w ?_
      revert w
      exact zk
    apply Yc; exact rfl; exact rfl; exact ⟨rfl, rfl⟩
  have hord : (decide (k = 0) || decide (y.flow < x.flow)) = true := by
    rw [Bool.or_eq_true, decide_eq_true_eq, decide_eq_true_eq]; omega
  rw [hord, Bool.and_true] at hok1
  obtain ⟨b1, hb1⟩ : ∃ b, inL x.bs 1 512 = b := ⟨_, rfl⟩
  obtain ⟨b2, hb2⟩ : ∃ b, inL x.ws 0 511 = b := ⟨_, rfl⟩
  rw [hb1] at p3 hfd
  rw [hb2] at p4 hfd
  obtain ⟨R, hR⟩ : ∃ R : Nat → Bool, (fun i => rtOk (rtAt (x.rs.map (·.xs)) i) (rtAt (x.ss.map (·.xs)) i)) = R := ⟨_, rfl⟩
  rw [hR] at hfd
  by_cases hk0 : 0 < k
  all_goals (
    try have hy3 := hy2 hk0
    repeat' (first | apply (zs1 ?_) | (apply zg1; first | refine zs3 ?_ | refine zs4 ?_) | (apply zg2; first | refine zs6 ?_ | refine zs58 ?_) | (apply zg3; first | refine zs7 ?_ | refine zs59 ?_) | (apply zg4; refine zs9 ?_) | (apply zg5; refine zs57 ?_) | (apply zg6; first | refine zs11 ?_ | refine zs12 ?_) | (apply (zs19 ?_ ?_) <;> intro _ <;> try (exfalso; omega)) | (apply (zs20 ?_ ?_) <;> intro _ <;> try (exfalso; omega)) | (apply zg14; refine zs31 ?_) | (apply zg20; refine zs47 ?_) | apply (zs65 ?_) | apply (zs87 ?_) | (apply Yl; (repeat (first | with_reducible exact Yh | (with_reducible apply Yg; (repeat (first | with_reducible exact Yf | with_reducible apply Ye)))))) | fail)
    first | apply Ya ZH | apply Yb ZH
    exact za
    exact rfl
    exact fun _ hw => (p2 hw)
    cases c2 with
    | false =>
      have hFf := hno (by rw [hok1, hfd, decide_eq_false (fun h => of_decide_eq_false hc2 (by omega))]; rfl)
      subst hFf
      clear hK
      repeat' (first | apply (zs1 ?_) | apply (zs2 ?_) | (apply zg1; first | refine zs3 ?_ | refine zs4 ?_) | (apply zg6; first | refine zs11 ?_ | refine zs12 ?_) | (apply zg20; refine zs48 ?_) | apply (zs65 ?_) | (apply Yn; exact zp) | apply (zs68 ?_) | apply (zs69 ?_) | apply (zs70 ?_) | (apply zg27; refine zs71 ?_) | apply (zs74 ?_) | apply (zs77 ?_) | apply (zs78 ?_) | (apply Yl; (repeat (first | with_reducible exact Yh | (with_reducible apply Yg; (repeat (first | with_reducible exact Yf | with_reducible apply Ye)))))) | apply (zs93 ?_) | apply (zs94 ?_) | fail)
      apply Yi H
      · intro w hw
        refine hop w ?_
        revert w
        exact zk
      apply Yc; exact rfl; exact rfl; exact ⟨rfl, rfl⟩
    | true =>
    have hP3 := of_decide_eq_true hc2
    by_cases hP4 : x.bs.length = x.rs.length ∧ x.ws.length = x.rs.length ∧ x.ss.length = x.rs.length
    rotate_left
    · have hFf := hno (by rw [hok1, hfd, decide_eq_false (fun h => hP4 h.2.2.2.2)]; rfl)
      subst hFf
      clear hK
      repeat' (first | apply (zs1 ?_) | apply (zs2 ?_) | (apply zg1; first | refine zs3 ?_ | refine zs4 ?_) | (apply zg2; refine zs6 ?_) | (apply zg3; refine zs7 ?_) | (apply zg4; refine zs9 ?_) | (apply zg6; first | refine zs11 ?_ | refine zs12 ?_) | (apply zg8; (refine zs16 ?_ ?_ <;> intro _ <;> try (exfalso; omega))) | (apply zg20; refine zs47 ?_) | apply (zs65 ?_) | (apply Yn; exact zp) | apply (zs68 ?_) | apply (zs69 ?_) | apply (zs70 ?_) | (apply zg27; refine zs71 ?_) | apply (zs74 ?_) | apply (zs77 ?_) | apply (zs78 ?_) | (apply Yl; (repeat (first | with_reducible exact Yh | (with_reducible apply Yg; (repeat (first | with_reducible exact Yf | with_reducible apply Ye)))))) | apply (zs93 ?_) | apply (zs94 ?_) | fail)
      all_goals (
        apply Yi H
        · intro w hw
          refine hop w ?_
          revert w
          exact zk
        apply Yc; exact rfl; exact rfl; exact ⟨rfl, rfl⟩
        skip)
    obtain ⟨e1, e2, e3⟩ := hP4
    rw [decide_eq_true ⟨hP1.1, hP1.2, by omega, by omega, e1, e2, e3⟩, Bool.true_and] at hfd
    repeat' (first | apply (zs1 ?_) | (apply zg1; refine zs4 ?_) | (apply zg2; refine zs6 ?_) | (apply zg3; refine zs7 ?_) | (apply zg4; refine zs9 ?_) | (apply zg6; refine zs12 ?_) | (apply zg8; (refine zs16 ?_ ?_ <;> intro _ <;> try (exfalso; omega))) | (apply zg20; refine zs47 ?_) | apply (zs65 ?_) | (apply Yn; exact zp) | apply (zs68 ?_) | apply (zs69 ?_) | apply (zs70 ?_) | (apply zg27; refine zs72 ?_) | apply (zs76 ?_) | (apply Yl; (repeat (first | with_reducible exact Yh | (with_reducible apply Yg; (repeat (first | with_reducible exact Yf | with_reducible apply Ye)))))) | apply (zs93 ?_) | apply (zs94 ?_) | fail)
    first | apply Ya WO | apply Yb WO
    exact za
    exact rfl
    exact fun _ hw => (p3 (hxi.mono zk) hw)
    cases b1 with
    | false =>
      have hFf := hno (by rw [hok1, hfd]; rfl)
      subst hFf
      clear hK
      repeat' (first | apply (zs1 ?_) | apply (zs2 ?_) | (apply zg1; refine zs3 ?_) | (apply zg6; refine zs11 ?_) | (apply zg20; refine zs48 ?_) | apply (zs65 ?_) | apply (zs68 ?_) | apply (zs69 ?_) | apply (zs70 ?_) | (apply zg27; refine zs71 ?_) | apply (zs74 ?_) | apply (zs77 ?_) | apply (zs78 ?_) | fail)
      apply Yi H
      · intro w hw
        refine hop w ?_
        revert w
        exact zk
      apply Yc; exact rfl; exact rfl; exact ⟨rfl, rfl⟩
    | true =>
    repeat' (first | apply (zs1 ?_) | (apply zg1; refine zs4 ?_) | (apply zg2; refine zs6 ?_) | (apply zg3; refine zs7 ?_) | (apply zg20; refine zs47 ?_) | fail)
    first | apply Ya WO | apply Yb WO
    exact za
    exact rfl
    exact fun _ hw => (p4 (hxi.mono zk) hw)
    cases b2 with
    | false =>
      have hFf := hno (by rw [hok1, hfd]; rfl)
      subst hFf
      clear hK
      repeat' (first | apply (zs2 ?_) | (apply zg1; refine zs4 ?_) | (apply zg6; refine zs12 ?_) | (apply zg20; refine zs48 ?_) | apply (zs65 ?_) | apply (zs68 ?_) | apply (zs69 ?_) | apply (zs70 ?_) | (apply zg27; refine zs71 ?_) | apply (zs74 ?_) | apply (zs77 ?_) | apply (zs78 ?_) | fail)
      apply Yi H
      · intro w hw
        refine hop w ?_
        revert w
        exact zk
      apply Yc; exact rfl; exact rfl; exact ⟨rfl, rfl⟩
    | true =>
    repeat' (first | apply (zs2 ?_) | (apply zg1; refine zs4 ?_) | (apply zg6; refine zs12 ?_) | (apply zg20; refine zs47 ?_) | apply (zs65 ?_) | apply (zs68 ?_) | apply (zs69 ?_) | apply (zs70 ?_) | (apply zg27; refine zs72 ?_) | apply (zs73 ?_) | apply (zs76 ?_) | fail)
    refine Yk (fun j : Nat => [(5, .int .i64 (j : Nat)), (4, .pointer (some ⟨g4, 0, none⟩)), (3, .int .i64 (k : Nat)), (0, .slice A c.length cap)]) (fun _ => clA g4 x :: [many H]) (fun j => j ≤ x.rs.length ∧ ∀ i, i < j → R i = true) (fun j => x.rs.length - j) 0 ⟨Nat.zero_le _, fun j h => absurd h (Nat.not_lt_zero _)⟩ ?_ ?_ ?_
    · exact zu
    · exact zk
    rintro j ⟨hj, hzj⟩ K2 hK2
    have hcrs : Rd B w0 (clA g4 x :: [many H]) x.rA (x.rs.flatMap rowF) := hxi.rt.cons
    have hcss : Rd B w0 (clA g4 x :: [many H]) x.sA (x.ss.flatMap rowF) := hxi.st.cons
    by_cases hjl : j < x.rs.length
    rotate_left
    · obtain rfl : j = x.rs.length := by omega
      have hRt : (List.range x.rs.length).all R = true := by
        rw [List.all_eq_true]
        exact fun i hi => hzj i (List.mem_range.1 hi)
      have hokt : ok k = true := by rw [hok1, hfd, hRt]; rfl
      clear hK2
      repeat' (first | apply (zs1 ?_) | apply (zs2 ?_) | (apply zg2; refine zs6 ?_) | (apply zg3; refine zs7 ?_) | (apply zg4; refine zs9 ?_) | (apply (zs17 ?_ ?_) <;> intro _ <;> try (exfalso; omega)) | (apply zg13; refine zs30 ?_) | apply (zs65 ?_) | apply (zs68 ?_) | apply (zs69 ?_) | apply (zs70 ?_) | (apply zg27; refine zs72 ?_) | apply (zs75 ?_) | apply (zs79 ?_) | apply (zs80 ?_) | apply (zs81 ?_) | fail)
      apply hK (k + 1)
      · exact ⟨by omega, fun i h2 => by
          rcases Nat.lt_succ_iff_lt_or_eq.1 h2 with h | rfl
          · exact hz i h
          · exact hokt⟩
      · omega
      · exact zu
      · exact zk
    obtain ⟨r, hr⟩ : ∃ r, x.rs[j]? = some r := ⟨_, List.getElem?_eq_getElem hjl⟩
    obtain ⟨z, hzz⟩ : ∃ z, x.ss[j]? = some z := ⟨_, List.getElem?_eq_getElem (by omega)⟩
    have hrm := List.mem_of_getElem? hr
    have hzm := List.mem_of_getElem? hzz
    have hkk : R j = rtOk r.xs z.xs := by rw [← hR]; show rtOk (rtAt _ _) (rtAt _ _) = _; rw [XP hr, XP hzz]
    unfold rtOk at hkk
    have q1 := fun {H' : List HP} {w : World} (hw : St B w0 H' w) => Zq (r.xs.length : Nat) 2 9 hw
    have q2 := fun {H' : List HP} {w : World} (hw : St B w0 H' w) => Zq (z.xs.length : Nat) 1 64 hw
    have q3 := fun {H' : List HP} {w : World} (hx : x.In B w0 H') (hw : St B w0 H' w) => Jw r.xs 0 31 (hxi.rl r hrm) (cap := r.cap) (hx.rw_ r hrm) hw
    have q4 := fun {H' : List HP} {w : World} (hx : x.In B w0 H') (hw : St B w0 H' w) => Jw z.xs 0 511 (hxi.sl z hzm) (cap := z.cap) (hx.sw z hzm) hw
    obtain ⟨d1, hd1⟩ : ∃ b, decide ((2 : Int) ≤ (r.xs.length : Nat) ∧ ((r.xs.length : Nat) : Int) ≤ 9) = b := ⟨_, rfl⟩
    obtain ⟨d2, hd2⟩ : ∃ b, decide ((1 : Int) ≤ (z.xs.length : Nat) ∧ ((z.xs.length : Nat) : Int) ≤ 64) = b := ⟨_, rfl⟩
    obtain ⟨d3, hd3⟩ : ∃ b, inL r.xs 0 31 = b := ⟨_, rfl⟩
    obtain ⟨d4, hd4⟩ : ∃ b, inL z.xs 0 511 = b := ⟨_, rfl⟩
    rw [hd1] at q1
    rw [hd2] at q2
    rw [hd3] at q3 hkk
    rw [hd4] at q4 hkk
    rw [show decide (2 ≤ r.xs.length ∧ r.xs.length ≤ 9) = d1 by rw [← hd1, decide_eq_decide]; omega, show decide (1 ≤ z.xs.length ∧ z.xs.length ≤ 64) = d2 by rw [← hd2, decide_eq_decide]; omega] at hkk
    have hbad : R j = false → F = false := fun h => hno (by
      rw [hok1, hfd, List.all_eq_false.2 ⟨j, List.mem_range.2 hjl, by rw [h]; decide⟩]; rfl)
    repeat' (first | apply (zs1 ?_) | (apply zg2; refine zs6 ?_) | (apply zg3; first | refine zs7 ?_ | refine zs60 ?_) | (apply zg4; refine zs9 ?_) | (apply zg5; refine zs57 ?_) | (apply (zs17 ?_ ?_) <;> intro _ <;> try (exfalso; omega)) | apply (zs65 ?_) | apply (zs68 ?_) | apply (zs69 ?_) | apply (zs70 ?_) | (apply zg27; refine zs71 ?_) | apply (zs73 ?_) | apply (zs76 ?_) | fail)
    first | apply Ya ZH | apply Yb ZH
    exact za
    exact rfl
    exact fun _ hw => (q1 hw)
    cases d1 with
    | false =>
      have hFf := hbad (by rw [hkk]; rfl)
      subst hFf
      clear hK hK2
      repeat' (first | apply (zs1 ?_) | apply (zs2 ?_) | (apply zg1; refine zs3 ?_) | (apply zg6; refine zs11 ?_) | (apply zg20; refine zs48 ?_) | apply (zs65 ?_) | apply (zs68 ?_) | apply (zs69 ?_) | apply (zs70 ?_) | (apply zg27; refine zs71 ?_) | apply (zs74 ?_) | apply (zs77 ?_) | apply (zs78 ?_) | fail)
      apply Yi H
      · intro w hw
        refine hop w ?_
        revert w
        exact zk
      apply Yc; exact rfl; exact rfl; exact ⟨rfl, rfl⟩
    | true =>
    repeat' (first | apply (zs1 ?_) | (apply zg1; refine zs4 ?_) | (apply zg2; refine zs6 ?_) | (apply zg3; first | refine zs7 ?_ | refine zs60 ?_) | (apply zg5; refine zs57 ?_) | (apply zg20; refine zs47 ?_) | fail)
    first | apply Ya WO | apply Yb WO
    exact za
    exact rfl
    exact fun _ hw => (q3 (hxi.mono zk) hw)
    cases d3 with
    | false =>
      have hFf := hbad (by rw [hkk]; rfl)
      subst hFf
      clear hK hK2
      repeat' (first | apply (zs1 ?_) | apply (zs2 ?_) | (apply zg1; first | refine zs3 ?_ | refine zs4 ?_) | (apply zg6; first | refine zs11 ?_ | refine zs12 ?_) | (apply zg20; refine zs48 ?_) | apply (zs65 ?_) | apply (zs68 ?_) | apply (zs69 ?_) | apply (zs70 ?_) | (apply zg27; refine zs71 ?_) | apply (zs74 ?_) | apply (zs77 ?_) | apply (zs78 ?_) | fail)
      apply Yi H
      · intro w hw
        refine hop w ?_
        revert w
        exact zk
      apply Yc; exact rfl; exact rfl; exact ⟨rfl, rfl⟩
    | true =>
    repeat' (first | apply (zs1 ?_) | (apply zg1; refine zs4 ?_) | (apply zg2; refine zs6 ?_) | (apply zg3; first | refine zs7 ?_ | refine zs60 ?_) | (apply zg4; refine zs9 ?_) | (apply zg5; refine zs57 ?_) | (apply zg6; refine zs12 ?_) | (apply zg20; refine zs47 ?_) | fail)
    first | apply Ya ZH | apply Yb ZH
    exact za
    exact rfl
    exact fun _ hw => (q2 hw)
    cases d2 with
    | false =>
      have hFf := hbad (by rw [hkk]; rfl)
      subst hFf
      clear hK hK2
      repeat' (first | apply (zs1 ?_) | apply (zs2 ?_) | (apply zg1; first | refine zs3 ?_ | refine zs4 ?_) | (apply zg6; first | refine zs11 ?_ | refine zs12 ?_) | (apply zg20; refine zs48 ?_) | apply (zs65 ?_) | apply (zs68 ?_) | apply (zs69 ?_) | apply (zs70 ?_) | (apply zg27; refine zs71 ?_) | apply (zs74 ?_) | apply (zs77 ?_) | apply (zs78 ?_) | fail)
      apply Yi H
      · intro w hw
        refine hop w ?_
        revert w
        exact zk
      apply Yc; exact rfl; exact rfl; exact ⟨rfl, rfl⟩
    | true =>
    repeat' (first | apply (zs1 ?_) | (apply zg1; refine zs4 ?_) | (apply zg2; refine zs6 ?_) | (apply zg3; first | refine zs7 ?_ | refine zs60 ?_) | (apply zg5; refine zs57 ?_) | (apply zg6; refine zs12 ?_) | (apply zg20; refine zs47 ?_) | fail)
    first | apply Ya WO | apply Yb WO
    exact za
    exact rfl
    exact fun _ hw => (q4 (hxi.mono zk) hw)
    cases d4 with
    | false =>
      have hFf := hbad (by rw [hkk]; rfl)
      subst hFf
      clear hK hK2
      repeat' (first | apply (zs2 ?_) | (apply zg1; refine zs4 ?_) | (apply zg6; refine zs12 ?_) | (apply zg20; refine zs48 ?_) | apply (zs65 ?_) | apply (zs68 ?_) | apply (zs69 ?_) | apply (zs70 ?_) | (apply zg27; refine zs71 ?_) | apply (zs74 ?_) | apply (zs77 ?_) | apply (zs78 ?_) | fail)
      apply Yi H
      · intro w hw
        refine hop w ?_
        revert w
        exact zk
      apply Yc; exact rfl; exact rfl; exact ⟨rfl, rfl⟩
    | true =>
    repeat' (first | apply (zs1 ?_) | apply (zs2 ?_) | (apply zg1; refine zs4 ?_) | (apply zg6; refine zs12 ?_) | (apply zg13; refine zs30 ?_) | (apply zg20; refine zs47 ?_) | apply (zs65 ?_) | apply (zs68 ?_) | apply (zs70 ?_) | (apply zg27; refine zs72 ?_) | apply (zs76 ?_) | apply (zs79 ?_) | fail)
    apply hK2 (j + 1)
    · exact ⟨by omega, fun i h2 => by
        rcases Nat.lt_succ_iff_lt_or_eq.1 h2 with h | rfl
        · exact hzj i h
        · rw [hkk]; rfl⟩
    · omega
    · exact zu
    · exact zk
    skip)
open Go.RowKit Go.Eng Go.Nw
section
variable {m : Eng.Mode} {n : Shp} {B d : Nat} {w0 : World} {ops : Array Oper} {Q : Exit → Act → World → Prop} {rest : List Oper} {env : Env} {H : List HP} {ty : TypeId} {pos : String} {after : Array Edge} {x y : Operand}
theorem YdV {a b : Int} {xt yt : TypeId} (hx : evo env x = some (.int .u8 a)) (hy : evo env y = some (.int .u8 b)) (hn : Nat.ble (d + 1) n.k = true) (hb : 0 ≤ a + b ∧ a + b ≤ 255) (h : VL Tryz.prog m n B w0 ops Q rest ((d, .int .u8 (a + b)) :: env) H) :
    VL Tryz.prog m n B w0 ops Q (⟨some d, .binOp .add xt x y yt, ty, pos, after, none⟩ :: rest) env H := YbR hx hy hn (by rw [IntWalk.u8_in _ hb]; exact h)
theorem Yha {a b : Int} {xt yt : TypeId} (hx : evo env x = some (.int .u8 a)) (hy : evo env y = some (.int .u8 b)) (hn : Nat.ble (d + 1) n.k = true) (hb : 0 ≤ a - b ∧ a - b ≤ 255) (h : VL Tryz.prog m n B w0 ops Q rest ((d, .int .u8 (a - b)) :: env) H) :
    VL Tryz.prog m n B w0 ops Q (⟨some d, .binOp .sub xt x y yt, ty, pos, after, none⟩ :: rest) env H := Yb3 hx hy hn (by rw [IntWalk.u8_in _ hb]; exact h)
theorem YfI {a : Int} {k j : IntKind} {src dst : TypeId} (hx : evo env x = some (.int k a)) (hs : Eng.look T.ik src = some j) (ht : Eng.look T.ik dst = some .u8) (hn : Nat.ble (d + 1) n.k = true) (hb : 0 ≤ a ∧ a ≤ 255) (h : VL Tryz.prog m n B w0 ops Q rest ((d, .int .u8 a) :: env) H) :
    VL Tryz.prog m n B w0 ops Q (⟨some d, .convert src dst x, ty, pos, after, none⟩ :: rest) env H := On T hx hs ht hn (by rw [IntWalk.u8_in _ hb]; exact h)
theorem YdW {g : Nat} {z : Int} {tt : TypeId} {fr : Nat × Nat} (hx : evo env x = some (.slice (some ⟨g, 0, none⟩) 1 1)) (hm : blk g (.cells #[.int .u8 z] tt fr) ∈ H) (hn : Nat.ble (d + 1) n.k = true)
    (h : VL Tryz.prog m n B w0 ops Q rest ((d, strV [UInt8.ofNat z.toNat]) :: env) H) : VL Tryz.prog m n B w0 ops Q (⟨some d, .convert 130 9 x, ty, pos, after, none⟩ :: rest) env H := by
  refine Yu rfl rfl hn rfl (fun a w ha hw => ?_) h
  have hl := run_loadCells_list (P := Tryz.prog) w ⟨g, 0, none⟩ [.int .u8 z] (fun j v hj => by
    obtain ⟨g', o, e5, hc⟩ := Rd.blk (cs := #[.int .u8 z]) hm w hw j v hj
    injection e5 with e5
    injection e5 with e5 e6
    subst e5
    rw [← e6] at hc
    rw [Addr.add_lit]
    exact hc)
  have hr : (Conv.bytesToString (.slice (some ⟨g, 0, none⟩) 1 1)).run Tryz.prog w = .ok (strV [UInt8.ofNat z.toNat]) w := by
    rw [run_bytesToString w ⟨g, 0, none⟩ 1 1 [z] hl]
    rfl
  simp [execOp, ha.eval hx, run_convert_bytes_string w 130 9 5 _ 1 1 Tryz.underlying130 Tryz.underlying5 Tryz.underlying9, hr]
end
set_option maxRecDepth 10000 in
theorem Q9 : ∀ (n : Nat), n < 10000 → ∀ {B : Nat} {w0 : World} {H : List HP} {w : World}, St B w0 H w →
    Calls Tryz.prog 140 [.int .i64 n].toArray w (Post B w0 fun v K => v = strV (Lib.decDigits n) ∧ K = H) := by
  intro n
  induction n using Nat.strongRecOn with
  | _ n ih =>
  intro hn B w0 H w hw
  refine Yd Tryz.func140 Tryz.ntmps140 rfl rfl hw ?_
  by_cases h10 : n < 10
  · repeat' (first | apply (zs1 ?_) | apply (zs2 ?_) | (apply (zs17 ?_ ?_) <;> intro _ <;> try (exfalso; omega)) | (apply zg19; refine zs46 ?_) | apply (zs65 ?_) | apply (zs68 ?_) | apply (zs69 ?_) | apply (zs70 ?_) | (apply zg27; refine zs71 ?_) | fail)
    rw [IntWalk.u8_in _ (by omega)]
    repeat' (first | (apply YdV; exact rfl; exact rfl; exact rfl; omega) | (apply YdW; exact rfl; exact zm; exact rfl) | apply (zs2 ?_) | (apply zg26; (refine zs56 ?_; intro _)) | apply (zs65 ?_) | apply (zs68 ?_) | apply (zs74 ?_) | apply (zs77 ?_) | fail)
    apply Yi H
    · exact zk
    apply Yc; exact rfl; exact rfl
    rw [Lib.decDigits_one h10, Int.toNat_add (by omega) (by omega)]
    exact ⟨rfl, rfl⟩
  · have hq : ((n : Int) / 10) = ((n / 10 : Nat) : Int) := by omega
    have hm : ((n : Int) % 10) = ((n % 10 : Nat) : Int) := by omega
    have hih := fun {B : Nat} {w0 : World} {H : List HP} {w : World} (hw : St B w0 H w) => by
      have h := ih (n / 10) (by omega) (by omega) hw
      rw [← hq] at h
      exact h
    have hl := UI (u := n / 10) (by omega)
    repeat' (first | apply (zs1 ?_) | apply (zs2 ?_) | (apply (zs17 ?_ ?_) <;> intro _ <;> try (exfalso; omega)) | apply (zs65 ?_) | apply (zs68 ?_) | apply (zs69 ?_) | apply (zs70 ?_) | (apply zg27; refine zs72 ?_) | apply (zs76 ?_) | fail)
    refine Yal [many H] (fun w hw => hw.perm (.closeT H)) ?_
    apply YfE (.p1 0 (.p1 1 (.p1 3 (.p1 4 (.p1 5 (.p1 6 (.d2 2 (.d1 7 (.d1 8 .done)) 7 (.d2 2 (.d1 8 .done) 8 (.d1 2 .done))))))))) [9, 10] [false]
    kernel_rfl
    kernel_rfl
    exact zy
    (simp only [Yj, nthO]; rfl)
    repeat' (first | (apply YfI; exact rfl; exact rfl; exact rfl; exact rfl; omega) | (apply YdV; exact rfl; exact rfl; exact rfl; omega) | (apply YdW; exact rfl; exact zm; exact rfl) | ((first | apply Ya Yd7 | apply Yb Yd7); exact za; exact rfl; exact fun _ hw => (hih hw)) | (apply Xn (Lib.decDigits (n / 10)) [UInt8.ofNat (48 + ((n : Int) % 10)).toNat]; exact rfl; exact rfl; exact rfl; (show _ + 1 ≤ _; omega)) | (apply YiD; (simp only [nthO]; rfl)) | (apply YiB; (simp only [nthO]; rfl); exact zp) | (apply YiC; (simp only [nthO]; rfl); (simp only [nthO]; rfl); exact zp) | (apply YfV; (repeat (first | with_reducible exact Yh | (with_reducible apply Yg; (repeat (first | with_reducible exact Yf | with_reducible apply Ye)))))) | (apply Yhd; exact zp) | apply (zs1 ?_) | apply (zs2 ?_) | (apply zg16; refine zs36 ?_) | (apply zg17; refine zs37 ?_) | (apply zg26; (refine zs56 ?_; intro _)) | apply (zs65 ?_) | (apply Yn; exact zp) | apply (zs68 ?_) | apply (zs74 ?_) | apply (zs93 ?_) | apply (zs94 ?_) | fail)
    all_goals (
      apply Yi H
      · intro w hw
        have h5 : St B w0 [many H] w := by
          revert w
          exact zk
        exact h5.perm (.openT H)
      apply Yc; exact rfl; exact rfl
      refine ⟨?_, rfl⟩
      have e : Lib.decDigits n = Lib.decDigits (n / 10) ++ [UInt8.ofNat (48 + n % 10)] := by
        conv => lhs; rw [Lib.decDigits, dif_neg h10]
      rw [e, hm, Int.toNat_add (by omega) (by omega)]
      rfl)
set_option maxRecDepth 10000 in
theorem ZP (word : List UInt8) (l : List Int) (h : ∀ n ∈ l, 0 ≤ n ∧ n < 10000) (h5 : l.length ≤ 100) (hwd : word.length ≤ 100) {A : Option Addr} {cap B : Nat} {w0 : World} {H : List HP} {w : World} (hr : Rd B w0 H A (l.flatMap numF)) (hw : St B w0 H w) :
    Calls Tryz.prog 80 [strV word, .slice A l.length cap].toArray w (Post B w0 fun v K => v = strV (YM word l) ∧ K = H) := by
  refine Yd Tryz.func80 Tryz.ntmps80 rfl rfl hw ?_
  repeat' (first | apply (zs1 ?_) | apply (zs2 ?_) | apply (zs65 ?_) | apply (zs68 ?_) | apply (zs69 ?_) | apply (zs70 ?_) | apply (zs73 ?_) | fail)
  refine Yk (fun (i : Nat) => [(6, .int .i64 i), (1, .slice A l.length cap), (5, strV (Yw word (l.take i)))]) (fun _ => H) (fun i => i ≤ l.length) (fun i => l.length - i) 0 (Nat.zero_le _) ?_ (fun w hw => hw) ?_
  · have e0 : Yw word (l.take 0) = word := by simp [Yw]
    rw [e0]
    exact zu
  intro i hi K hK
  have hbl := Vn (w := word) (l := l.take i) fun n hn => h n (List.mem_of_mem_take hn)
  have hlt0 : (l.take i).length ≤ 100 := by rw [List.length_take]; omega
  by_cases hlt : i < l.length
  · obtain ⟨n, hn⟩ : ∃ n, l[i]? = some n := ⟨_, List.getElem?_eq_getElem hlt⟩
    have hnb := h n (List.mem_of_getElem? hn)
    have hil := UQ hnb
    have hde : ∀ {H : List HP} {w : World}, St B w0 H w → Calls Tryz.prog 140 [.int .i64 n].toArray w (Post B w0 fun v K => v = strV (Lib.itoa n) ∧ K = H) := fun hw => by
      have h := Q9 n.toNat (by omega) hw
      rw [show ((n.toNat : Nat) : Int) = n by omega, ← Z9 hnb.1] at h
      exact h
    repeat' (first | ((first | apply Ya Yd7 | apply Yb Yd7); exact za; exact rfl; exact fun _ hw => (hde hw)) | (apply Xn (Yw word (l.take i)) [32]; exact rfl; exact rfl; exact rfl; (show _ + 1 ≤ _; omega)) | (apply Xn (Yw word (l.take i) ++ [32]) (Lib.itoa n); exact rfl; exact rfl; exact rfl; (rw [List.length_append]; show _ + 1 + _ ≤ _; omega)) | apply (zs1 ?_) | apply (zs2 ?_) | (apply zg3; refine zs60 ?_) | (apply zg4; refine zs9 ?_) | (apply zg5; refine zs57 ?_) | (apply (zs17 ?_ ?_) <;> intro _ <;> try (exfalso; omega)) | (apply zg13; refine zs30 ?_) | apply (zs65 ?_) | apply (zs68 ?_) | apply (zs69 ?_) | apply (zs70 ?_) | (apply zg27; refine zs71 ?_) | apply (zs73 ?_) | apply (zs76 ?_) | apply (zs79 ?_) | fail)
    apply hK (i + 1)
    · show i + 1 ≤ l.length
      omega
    · omega
    · rw [List.take_add_one, hn, Option.toList_some, U9, ← List.append_assoc]
      exact zu
    · exact fun w hw => hw
  · skip
    repeat' (first | (apply Xn (Yw word (l.take i)) [10]; exact rfl; exact rfl; exact rfl; (show _ + 1 ≤ _; omega)) | apply (zs1 ?_) | apply (zs2 ?_) | (apply zg4; refine zs9 ?_) | (apply (zs17 ?_ ?_) <;> intro _ <;> try (exfalso; omega)) | apply (zs65 ?_) | apply (zs68 ?_) | apply (zs69 ?_) | apply (zs70 ?_) | (apply zg27; refine zs72 ?_) | apply (zs74 ?_) | apply (zs75 ?_) | apply (zs80 ?_) | apply (zs81 ?_) | fail)
    apply Yc; exact rfl; exact rfl
    rw [show i = l.length by omega, List.take_length]
    exact ⟨rfl, rfl⟩
open Go.RowKit Go.Eng Go.Nw Go.Rt
set_option maxRecDepth 10000 in
set_option maxHeartbeats 8000000 in
theorem Yac (c : List ClM) {A : Option Addr} {cap B : Nat} {w0 : World} {H : List HP} {w : World} (hc : CIn B w0 H A c) (hw : St B w0 H w) :
    Calls Tryz.prog 26 [.slice A c.length cap].toArray w (Post B w0 fun v K => v = .tuple #[strV (XE (c.map ClM.clm)).1, .int .i64 (XE (c.map ClM.clm)).2] ∧ K = H) := by
  refine Yd Tryz.func26 Tryz.ntmps26 rfl rfl hw ?_
  have hop : ∀ w, St B w0 [many H] w → St B w0 H w := fun w hw => hw.perm (.openT H)
  have hc := hc.mono hop
  refine Yal [many H] (fun w hw => hw.perm (.closeT H)) ?_
  have hcl := hc.ln
  have hcr := hc.rd
  have p1 := fun {H' : List HP} {w : World} (hc : CIn B w0 H' A c) (hw : St B w0 H' w) => VI c (cap := cap) hc hw
  cases hf : Zg (c.map ClM.clm) with
  | false =>
    have hp : XE (c.map ClM.clm) = ([], 1) := by unfold XE; rw [if_pos hf]
    rw [hp]
    rw [hf] at p1
    repeat' (first | apply (zs1 ?_) | apply (zs2 ?_) | apply (zs65 ?_) | apply (zs68 ?_) | apply (zs69 ?_) | apply (zs70 ?_) | fail)
    first | apply Ya en79 | apply Yb en79
    exact za
    exact rfl
    exact fun _ hw => (p1 (hc.mono zk) hw)
    repeat' (first | apply (zs2 ?_) | (apply zg20; refine zs48 ?_) | apply (zs65 ?_) | apply (zs68 ?_) | apply (zs69 ?_) | apply (zs70 ?_) | (apply zg27; refine zs71 ?_) | apply (zs74 ?_) | apply (zs77 ?_) | fail)
    apply Yi H
    · intro w hw
      refine hop w ?_
      revert w
      exact zk
    apply Yp; exact rfl; exact rfl; exact rfl; exact ⟨rfl, rfl⟩
  | true =>
  rw [hf] at p1
  obtain ⟨hf1, hf2⟩ := Qf hf
  rw [List.length_map] at hf1
  have hp : XE (c.map ClM.clm) = (Xe (c.map ClM.clm) c.length, 0) := by
    unfold XE
    rw [hf, if_neg (by decide), Ya0 hf2, List.length_map]
  rw [hp]
  obtain ⟨cs, hcs⟩ : ∃ cs, c.map ClM.clm = cs := ⟨_, rfl⟩
  rw [hcs] at hf2 ⊢
  have hcsl : cs.length = c.length := by rw [← hcs, List.length_map]
  repeat' (first | apply (zs1 ?_) | apply (zs2 ?_) | apply (zs65 ?_) | apply (zs68 ?_) | apply (zs69 ?_) | apply (zs70 ?_) | fail)
  first | apply Ya en79 | apply Yb en79
  exact za
  exact rfl
  exact fun _ hw => (p1 (hc.mono zk) hw)
  repeat' (first | apply (zs2 ?_) | (apply zg20; refine zs47 ?_) | apply (zs65 ?_) | apply (zs68 ?_) | apply (zs69 ?_) | apply (zs70 ?_) | (apply zg27; refine zs72 ?_) | apply (zs73 ?_) | apply (zs76 ?_) | fail)
  refine Yk (fun i : Nat => [(5, .int .i64 (i : Nat)), (4, strV (Xe cs i)), (0, .slice A c.length cap)]) (fun _ => [many H]) (fun i => i ≤ c.length) (fun i => c.length - i) 0 (Nat.zero_le _) ?_ (fun w hw => hw) ?_
  · exact zu
  rintro i hi K hK
  have hct := Wb hf2 i (by omega)
  by_cases hlt : i < c.length
  rotate_left
  · obtain rfl : i = c.length := by omega
    clear hK
    repeat' (first | apply (zs1 ?_) | apply (zs2 ?_) | (apply zg4; refine zs9 ?_) | (apply (zs17 ?_ ?_) <;> intro _ <;> try (exfalso; omega)) | apply (zs65 ?_) | apply (zs68 ?_) | apply (zs69 ?_) | apply (zs70 ?_) | (apply zg27; refine zs72 ?_) | apply (zs74 ?_) | apply (zs75 ?_) | apply (zs80 ?_) | apply (zs81 ?_) | fail)
    apply Yi H
    · intro w hw
      refine hop w ?_
      revert w
      exact zk
    apply Yp; exact rfl; exact rfl; exact rfl; exact ⟨rfl, rfl⟩
  obtain ⟨x, hx⟩ : ∃ x, c[i]? = some x := ⟨_, List.getElem?_eq_getElem hlt⟩
  have hxi := hc.x x (List.mem_of_getElem? hx)
  have hxc : cs[i]? = some x.clm := by rw [← hcs, List.getElem?_map, hx]; rfl
  have hxf := hf2 x.clm (List.mem_of_getElem? hxc)
  have hst := Wc hxc
  have hrl : x.clm.routes.length = x.rs.length := by unfold ClM.clm; rw [List.length_map]
  have hsl : x.clm.slots.length = x.ss.length := by unfold ClM.clm; rw [List.length_map]
  have hn := hxf.n
  have hb := hxf.b
  have hwl := hxf.w
  have hs := hxf.s
  have hfl := hxf.f
  rw [hrl] at hst hn hb hwl hs
  rw [hsl] at hs
  have hb : x.bs.length = x.rs.length := hb
  have hwl : x.ws.length = x.rs.length := hwl
  have h0 : (YM wordF [x.flow]).length ≤ 20 := by
    have := UF hxf 0 (Nat.zero_le _)
    unfold clT at this
    have this2 : (YM wordF [x.clm.flow]).length ≤ 20 := by simpa using this
    exact this2
  have hcl0 : Xe cs i ++ YM wordF [x.flow] = Xe cs i ++ clT x.clm 0 := by unfold clT; simp; rfl
  have hone : ∀ z ∈ [x.flow], 0 ≤ z ∧ z < 10000 := fun z hz => by
    rw [List.mem_singleton.1 hz]
    have : 0 ≤ x.flow ∧ x.flow ≤ 255 := hfl
    omega
  repeat' (first | apply (zs1 ?_) | (apply zg2; refine zs58 ?_) | (apply zg3; refine zs59 ?_) | (apply zg4; refine zs9 ?_) | (apply zg5; refine zs57 ?_) | (apply (zs17 ?_ ?_) <;> intro _ <;> try (exfalso; omega)) | (apply zg26; (refine zs56 ?_; intro _)) | apply (zs65 ?_) | apply (zs68 ?_) | apply (zs69 ?_) | apply (zs70 ?_) | (apply zg27; refine zs71 ?_) | apply (zs73 ?_) | apply (zs76 ?_) | fail)
  first | apply Ya en80 | apply Yb en80
  exact za
  exact rfl
  exact fun _ hw => (ZP wordF [x.flow] hone (by show 1 ≤ 100; decide) (by decide) (Rd.blk (cs := #[.int .i64 x.flow]) zm) hw)
  repeat' (first | (apply Xn (Xe cs i) (YM wordF [x.flow]); exact rfl; exact rfl; exact rfl; omega) | apply (zs2 ?_) | apply (zs65 ?_) | apply (zs68 ?_) | apply (zs69 ?_) | apply (zs70 ?_) | apply (zs73 ?_) | fail)
  rw [hcl0]
  refine Yk (fun j : Nat => [(6, .int .i64 (j : Nat)), (5, .int .i64 (i : Nat)), (4, strV (Xe cs i ++ clT x.clm j)), (0, .slice A c.length cap)]) (fun _ => [many H]) (fun j => j ≤ x.rs.length) (fun j => x.rs.length - j) 0 (Nat.zero_le _) ?_ ?_ ?_
  · exact zu
  · exact zk
  rintro j hj K2 hK2
  have hcj := UF hxf j (by omega)
  have hcrs : Rd B w0 [many H] x.rA (x.rs.flatMap rowF) := hxi.rt
  have hcss : Rd B w0 [many H] x.sA (x.ss.flatMap rowF) := hxi.st
  have hbs := hxi.bd
  have hws := hxi.ws
  by_cases hjl : j < x.rs.length
  rotate_left
  · obtain rfl : j = x.rs.length := by omega
    clear hK2
    repeat' (first | apply (zs1 ?_) | apply (zs2 ?_) | (apply zg2; refine zs58 ?_) | (apply zg3; refine zs59 ?_) | (apply zg4; refine zs9 ?_) | (apply zg5; refine zs57 ?_) | (apply (zs17 ?_ ?_) <;> intro _ <;> try (exfalso; omega)) | (apply zg13; refine zs30 ?_) | apply (zs65 ?_) | apply (zs68 ?_) | apply (zs69 ?_) | apply (zs70 ?_) | (apply zg27; refine zs72 ?_) | apply (zs75 ?_) | apply (zs79 ?_) | apply (zs80 ?_) | apply (zs81 ?_) | fail)
    apply hK (i + 1)
    · show i + 1 ≤ _
      omega
    · omega
    · rw [hst]
      exact zu
    · exact zk
  clear hK
  obtain ⟨r, hr⟩ : ∃ r, x.rs[j]? = some r := ⟨_, List.getElem?_eq_getElem hjl⟩
  obtain ⟨z, hzz⟩ : ∃ z, x.ss[j]? = some z := ⟨_, List.getElem?_eq_getElem (by omega)⟩
  obtain ⟨bv, hbv⟩ : ∃ v, x.bs[j]? = some v := ⟨_, List.getElem?_eq_getElem (by omega)⟩
  obtain ⟨wv, hwv⟩ : ∃ v, x.ws[j]? = some v := ⟨_, List.getElem?_eq_getElem (by omega)⟩
  have hrm := List.mem_of_getElem? hr
  have hzm := List.mem_of_getElem? hzz
  have hrs := hxf.rs j (by omega)
  have hls := hxf.ls j (by omega)
  have hbn := U8 hxf (i := j) (by omega)
  have e1 : rtAt x.clm.routes j = r.xs := XP hr
  have e2 : rtAt x.clm.slots j = z.xs := XP hzz
  have e3 : x.clm.bounds.getD j 0 = bv := by
    show x.bs.getD j 0 = bv
    rw [List.getD_eq_getElem?_getD, hbv]; rfl
  have e4 : x.clm.worst.getD j 0 = wv := by
    show x.ws.getD j 0 = wv
    rw [List.getD_eq_getElem?_getD, hwv]; rfl
  have hrt := YbG hxf (i := j) (by omega)
  have hstep := OZ x.clm j
  have hrt3 : rt3 x.clm j = YM wordR r.xs ++ YM wordB [bv, wv] ++ YM wordL z.xs := by unfold rt3; rw [e1, e2, e3, e4]
  rw [hrt3] at hrt hstep
  rw [e1] at hrs
  rw [e2] at hls
  rw [e3, e4] at hbn
  rw [List.length_append, List.length_append] at hrt
  have p2 := fun {H' : List HP} {w : World} (hx : x.In B w0 H') (hw : St B w0 H' w) => ZP wordR r.xs (Zo (b := 31) (by decide) hrs.2.2) (by omega) (by decide) (cap := r.cap) (hx.rw_ r hrm) hw
  have p3 := fun {g cap : Nat} {H' : List HP} {w : World} (hm : blk g (.cells #[.int .i64 bv, .int .i64 wv] 3 (0, 0)) ∈ H') (hw : St B w0 H' w) => ZP wordB [bv, wv] (Ww hbn.1 hbn.2) (by show 2 ≤ 100; decide) (by decide) (A := some ⟨g, 0, none⟩) (cap := cap) (Rd.blk (cs := #[.int .i64 bv, .int .i64 wv]) hm) hw
  have p4 := fun {H' : List HP} {w : World} (hx : x.In B w0 H') (hw : St B w0 H' w) => ZP wordL z.xs (Zo (b := 511) (by decide) hls.2.2) (by omega) (by decide) (cap := z.cap) (hx.sw z hzm) hw
  obtain ⟨T0, hT0⟩ : ∃ T0, Xe cs i ++ clT x.clm j = T0 := ⟨_, rfl⟩
  have hT0l : T0.length ≤ 20000 := by rw [← hT0, List.length_append]; omega
  have hTn : Xe cs i ++ clT x.clm (j + 1) = T0 ++ YM wordR r.xs ++ YM wordB [bv, wv] ++ YM wordL z.xs := by
    rw [hstep, ← hT0]
    simp only [List.append_assoc]
  rw [hT0]
  obtain ⟨L1, hL1⟩ : ∃ L, YM wordR r.xs = L := ⟨_, rfl⟩
  obtain ⟨L2, hL2⟩ : ∃ L, YM wordB [bv, wv] = L := ⟨_, rfl⟩
  obtain ⟨L3, hL3⟩ : ∃ L, YM wordL z.xs = L := ⟨_, rfl⟩
  rw [hL1, hL2, hL3] at hTn hrt
  rw [hL1] at p2
  rw [hL2] at p3
  rw [hL3] at p4
  have hl12 : (T0 ++ L1).length ≤ 30000 := by rw [List.length_append]; omega
  have hl123 : (T0 ++ L1 ++ L2).length ≤ 40000 := by rw [List.length_append]; omega
  repeat' (first | apply (zs1 ?_) | (apply zg2; refine zs58 ?_) | (apply zg3; refine zs59 ?_) | (apply zg4; refine zs9 ?_) | (apply zg5; refine zs57 ?_) | (apply (zs17 ?_ ?_) <;> intro _ <;> try (exfalso; omega)) | apply (zs65 ?_) | apply (zs68 ?_) | apply (zs69 ?_) | apply (zs70 ?_) | (apply zg27; refine zs71 ?_) | apply (zs73 ?_) | apply (zs76 ?_) | fail)
  apply Ur (.n1 0 (.n1 1 (.n1 2 (.n1 3 (.n1 4 (.n1 5 (.n1 6 (.n1 7 (.n1 8 (.n1 11 (.n1 12 (.n1 13 (.n1 14 (.n1 15 (.n1 16 (.n1 17 (.n1 18 (.n1 19 (.n1 20 (.n1 21 (.n1 22 (.n1 23 (.n1 24 (.n1 25 (.n1 26 (.n1 30 (.n1 31 (.n1 32 (.n1 33 (.n1 34 (.n1 35 (.n1 36 (.n1 37 (.n2 9 (.n1 10 (.n1 27 (.n1 28 (.n1 29 (.n1 38 (.n1 39 (.n1 40 .done))))))) 27 (.n1 9 (.n1 10 (.n1 28 (.n1 29 (.n1 38 (.n1 39 (.n1 40 .done))))))))))))))))))))))))))))))))))))))))) [] [true]
  kernel_rfl
  kernel_rfl
  exact zy
  exact rfl
  repeat' (first | apply (zs1 ?_) | (apply zg2; refine zs58 ?_) | (apply zg3; first | refine zs59 ?_ | refine zs60 ?_) | (apply zg5; refine zs57 ?_) | (apply zg26; (refine zs56 ?_; intro _)) | apply (zs65 ?_) | (apply Yn; exact zp) | apply (zs87 ?_) | (apply Yl; (repeat (first | with_reducible exact Yh | (with_reducible apply Yg; (repeat (first | with_reducible exact Yf | with_reducible apply Ye)))))) | apply (zs90 ?_) | apply (zs91 ?_ ?_) | (apply Xl; (repeat (first | with_reducible exact Yh | (with_reducible apply Yg; (repeat (first | with_reducible exact Yf | with_reducible apply Ye)))))) | fail)
  all_goals (
    first | apply Ya en80 | apply Yb en80
    exact za
    exact rfl
    exact fun _ hw => (p2 (hxi.mono zk) hw)
    repeat' (first | (apply Xn T0 L1; exact rfl; exact rfl; exact rfl; omega) | (apply zg26; (refine zs56 ?_; intro _)) | apply (zs65 ?_) | (apply Yn; exact zp) | apply (zs87 ?_) | (apply Yl; (repeat (first | with_reducible exact Yh | (with_reducible apply Yg; (repeat (first | with_reducible exact Yf | with_reducible apply Ye)))))) | apply (zs90 ?_) | (apply Xl; (repeat (first | with_reducible exact Yh | (with_reducible apply Yg; (repeat (first | with_reducible exact Yf | with_reducible apply Ye)))))) | fail)
    first | apply Ya en80 | apply Yb en80
    exact za
    exact rfl
    exact fun _ hw => (p3 zm hw)
    repeat' (first | (apply Xn (T0 ++ L1) L2; exact rfl; exact rfl; exact rfl; omega) | apply (zs65 ?_) | (apply Yn; exact zp) | apply (zs87 ?_) | (apply Yl; (repeat (first | with_reducible exact Yh | (with_reducible apply Yg; (repeat (first | with_reducible exact Yf | with_reducible apply Ye)))))) | apply (zs90 ?_) | (apply Xl; (repeat (first | with_reducible exact Yh | (with_reducible apply Yg; (repeat (first | with_reducible exact Yf | with_reducible apply Ye)))))) | fail)
    first | apply Ya en80 | apply Yb en80
    exact za
    exact rfl
    exact fun _ hw => (p4 (hxi.mono zk) hw)
    repeat' (first | (apply Xn (T0 ++ L1 ++ L2) L3; exact rfl; exact rfl; exact rfl; omega) | apply (zs1 ?_) | apply (zs2 ?_) | (apply zg13; refine zs30 ?_) | apply (zs65 ?_) | (apply Yn; exact zp) | apply (zs68 ?_) | apply (zs70 ?_) | apply (zs79 ?_) | (apply Yl; (repeat (first | with_reducible exact Yh | (with_reducible apply Yg; (repeat (first | with_reducible exact Yf | with_reducible apply Ye)))))) | (apply Uz; exact zp) | apply (zs90 ?_) | (apply Xl; (repeat (first | with_reducible exact Yh | (with_reducible apply Yg; (repeat (first | with_reducible exact Yf | with_reducible apply Ye)))))) | apply (zs93 ?_) | apply (zs94 ?_) | fail)
    apply hK2 (j + 1)
    · show j + 1 ≤ _
      omega
    · omega
    · rw [hTn]
      exact zu
    · exact zk)
open Go.RowKit Go.Eng Go.Nw Go.Rt
def cntW (line : List UInt8) : Nat := (cutC 32 line).length - 1
def Vf (line word : List UInt8) (lo hi : Nat) : Option (List Int) := if lo ≤ cntW line ∧ cntW line ≤ hi then Je line word (cntW line) else none
def YZ (line : List UInt8) (k : Nat) : Option (List Int) := Vf line (YU k) (Xi k) (X4 k)
def Xs (p : Pst) : Nat := if p.last < 3 then p.last + 1 else if p.c.length = 0 ∨ (Zx p.c).routes.length = 2 then 0 else 4
def JD (k nx : Nat) : Prop := nx = k ∨ (k ≤ 1 ∧ nx = 4)
theorem YcN {ws : List (List UInt8)} {l : List Int} (h : XO ws = some l) : l.length = ws.length := by
  unfold XO at h
  split at h
  · cases h
  · rw [← Option.some.inj h, List.length_map]
theorem V3 {line : List UInt8} {k : Nat} {l : List Int} (h : YZ line k = some l) : (cutC 32 line).headD [] = YU k ∧ XO (cutC 32 line).tail = some l ∧ Xi k ≤ l.length ∧ l.length ≤ X4 k := by
  unfold YZ Vf at h
  split at h
  · rename_i hb
    unfold Je at h
    split at h
    · cases h
    rename_i h1
    have h2 : (cutC 32 line).headD [] = YU k := Decidable.byContradiction fun e => h1 (.inr e)
    have h3 := YcN h
    rw [List.length_tail] at h3
    unfold cntW at hb
    exact ⟨h2, h, by omega, by omega⟩
  · cases h
theorem YeU {line : List UInt8} {k : Nat} {l : List Int} (h1 : (cutC 32 line).headD [] = YU k) (h2 : XO (cutC 32 line).tail = some l) (h3 : Xi k ≤ l.length ∧ l.length ≤ X4 k) : YZ line k = some l := by
  have h4 := YcN h2
  rw [List.length_tail] at h4
  have h5 : 1 ≤ (cutC 32 line).length := List.length_pos_iff.2 (JC 32 line)
  unfold YZ Vf Je cntW
  rw [if_pos (by omega), if_neg]
  · exact h2
  · rintro (h | h)
    · omega
    · exact h h1
theorem YaB {p : Pst} (h : Rdr p) {k : Nat} (hk : k < 4) : Zf p k = true ↔ JD k (Xs p) := by
  have hl := UW h
  have hf : p.c.length ≠ 0 → (Zx p.c).routes.length ≤ 2 := fun h0 => by
    refine (Yem h (Zx p.c) ?_).1
    unfold Zx Zw
    rw [List.getD_eq_getElem?_getD, List.getElem?_eq_getElem (by omega)]
    exact List.getElem_mem _
  unfold Zf Xs JD
  rw [Bool.or_eq_true, Bool.and_eq_true, Bool.and_eq_true, Bool.and_eq_true, decide_eq_true_eq, decide_eq_true_eq, decide_eq_true_eq, decide_eq_true_eq, decide_eq_true_eq]
  unfold YX
  by_cases h3 : p.last < 3
  · rw [if_pos h3]
    by_cases hk0 : k = 0
    · rw [if_pos hk0]; omega
    · rw [if_neg hk0]; omega
  · rw [if_neg h3]
    have hl3 : p.last = 3 := by omega
    by_cases hc : p.c.length = 0
    · rw [if_pos (show p.c.length = 0 ∨ (Zx p.c).routes.length = 2 from .inl hc)]
      by_cases hk0 : k = 0
      · rw [if_pos hk0]; omega
      · rw [if_neg hk0]; omega
    · have := hf hc
      by_cases h2 : (Zx p.c).routes.length = 2
      · rw [if_pos (show p.c.length = 0 ∨ (Zx p.c).routes.length = 2 from .inr h2)]
        by_cases hk0 : k = 0
        · rw [if_pos hk0]; omega
        · rw [if_neg hk0]; omega
      · rw [if_neg (show ¬ (p.c.length = 0 ∨ (Zx p.c).routes.length = 2) from by rintro (h | h); exact hc h; exact h2 h)]
        by_cases hk0 : k = 0
        · rw [if_pos hk0]; omega
        · rw [if_neg hk0]; omega
theorem YeZ {p : Pst} (h : Rdr p) {line : List UInt8} {k : Nat} {l : List Int} (hk : k < 4) (hr : YZ line k = some l) (hn : JD k (Xs p)) : Xm p line = some ⟨Zb k l p.c, k⟩ := by
  obtain ⟨h1, h2, h3, h4⟩ := V3 hr
  unfold Xm
  rw [h1, (Jl hk).1]
  show Vx p line k = _
  unfold Vx
  rw [h2]
  exact if_pos ⟨h3, h4, (YaB h hk).2 hn⟩
theorem YeY {p : Pst} (h : Rdr p) {line : List UInt8} (hn : ∀ k, k < 4 → YZ line k = none ∨ ¬ JD k (Xs p)) : Xm p line = none := by
  unfold Xm
  cases hk : Ja ((cutC 32 line).headD []) with
  | none => rfl
  | some k =>
    have hw : k < 4 ∧ (cutC 32 line).headD [] = YU k := by
      unfold Ja at hk
      split at hk
      · rename_i e; cases hk; exact ⟨by omega, e⟩
      split at hk
      · rename_i e; cases hk; exact ⟨by omega, e⟩
      split at hk
      · rename_i e; cases hk; exact ⟨by omega, e⟩
      split at hk
      · rename_i e; cases hk; exact ⟨by omega, e⟩
      · cases hk
    show Vx p line k = none
    unfold Vx
    cases hl : XO (cutC 32 line).tail with
    | none => rfl
    | some l =>
      show (if _ then _ else _) = _
      rw [if_neg]
      rintro ⟨h1, h2, h3⟩
      rcases hn k hw.1 with h4 | h4
      · rw [YeU hw.2 hl ⟨h1, h2⟩] at h4; cases h4
      · exact h4 ((YaB h hw.1).1 h3)
theorem Qv {c : List Clm} {k : Nat} (hk : k < 3) : Xs ⟨c, k⟩ = k + 1 := by
  unfold Xs
  exact if_pos hk
theorem Ydz {c : List Clm} {x : Clm} : Xs ⟨c ++ [x], 3⟩ = if x.routes.length = 2 then 0 else 4 := by
  unfold Xs
  rw [if_neg (Nat.lt_irrefl _)]
  show (if (c ++ [x]).length = 0 ∨ (Zx (c ++ [x])).routes.length = 2 then 0 else 4) = _
  rw [(YL c x).1]
  by_cases h : x.routes.length = 2
  · rw [if_pos (.inr h), if_pos h]
  · rw [if_neg (by rintro (h1 | h1); simp at h1; exact h h1), if_neg h]
theorem Ygq {p : Pst} (h : Rdr p) : (Xs p = 0 ∨ Xs p = 4) ↔ p.last = 3 := by
  have hl := UW h
  unfold Xs
  by_cases h3 : p.last < 3
  · rw [if_pos h3]; omega
  · rw [if_neg h3]
    split <;> omega
open Go.RowKit Go.Eng Go.Nw
section
variable {m : Eng.Mode} {n : Shp} {B d : Nat} {w0 : World} {ops : Array Oper} {Q : Exit → Act → World → Prop} {rest : List Oper} {env : Env} {H : List HP} {ty : TypeId} {pos : String} {after : Array Edge} {x y lo hi : Operand}
theorem YeX {l : List UInt8} {i : Nat} {b b' : UInt8} (h : l[i]? = some b) (h' : (⟨l.toArray⟩ : ByteArray)[i]? = some b') : b' = b := by
  have h2 : (⟨l.toArray⟩ : ByteArray)[i]? = l[i]? := by
    by_cases hi : i < l.length
    · rw [List.getElem?_eq_getElem hi, getElem?_pos _ _ (by simpa [ByteArray.size] using hi)]; rfl
    · rw [List.getElem?_eq_none (by omega), getElem?_neg _ _ (by simpa [ByteArray.size] using hi)]
  rw [h2, h] at h'
  exact (Option.some.inj h').symm
theorem Jp (l : List UInt8) (b : UInt8) {i : Int} (hx : evo env x = some (strV l)) (hy : evo env y = some (.int .i64 i)) (hn : Nat.ble (d + 1) n.k = true) (hb : l[i.toNat]? = some b) (hi : 0 ≤ i)
    (h : VL Tryz.prog m n B w0 ops Q rest ((d, .int .u8 b.toNat) :: env) H) : VL Tryz.prog m n B w0 ops Q (⟨some d, .index 9 x y, ty, pos, after, none⟩ :: rest) env H := by
  have hlt := (List.getElem?_eq_some_iff.1 hb).1
  refine Ya8 T hx hy rfl hn ⟨hi, by show i < ((⟨l.toArray⟩ : ByteArray).size : Nat); simp [ByteArray.size]; omega⟩ fun b' hb' => ?_
  rw [YeX hb hb']
  exact h
theorem YdX (l : List UInt8) (b : UInt8) {i j : Int} (hx : evo env x = some (strV l)) (hlo : evo env lo = some (.int .i64 i)) (hhi : evo env hi = some (.int .i64 j)) (hn : Nat.ble (d + 1) n.k = true) (hb : l[i.toNat]? = some b) (hij : 0 ≤ i ∧ j = i + 1)
    (h : VL Tryz.prog m n B w0 ops Q rest ((d, strV [b]) :: env) H) : VL Tryz.prog m n B w0 ops Q (⟨some d, .slice 9 x (some lo) (some hi) none, ty, pos, after, none⟩ :: rest) env H := by
  obtain ⟨hlt, hbe⟩ := List.getElem?_eq_some_iff.1 hb
  have hsz : (⟨l.toArray⟩ : ByteArray).size = l.length := by simp [ByteArray.size]
  refine Yey T hx hlo hhi rfl hn ⟨hij.1, by omega, by rw [hsz]; omega⟩ ?_
  have e : (⟨l.toArray⟩ : ByteArray).extract i.toNat j.toNat = ⟨[b].toArray⟩ := by
    apply ByteArray.ext
    rw [ByteArray.data_extract]
    apply Array.toList_inj.1
    rw [Array.toList_extract, List.extract_eq_take_drop]
    show List.take (j.toNat - i.toNat) (List.drop i.toNat l) = [b]
    rw [show j.toNat - i.toNat = 1 by omega, List.drop_eq_getElem_cons hlt, hbe]
    rfl
  rw [e]
  exact h
end
abbrev strs (A : Option Addr) (cap : Nat) (l : List (List UInt8)) : HP := sl 9 1 A l.length cap (l.flatMap strL)
theorem V6 (A : Option Addr) (cap : Nat) (l : List (List UInt8)) (z : List UInt8) : sl 9 1 A (l.length + 1) cap (l.flatMap strL ++ #[strV z].toList) = strs A cap (l ++ [z]) := by simp [strs, List.flatMap_append, strL]
set_option maxRecDepth 10000 in
set_option maxHeartbeats 1000000 in
theorem YcX (text : List UInt8) (hl : text.length ≤ 100000) {B : Nat} {w0 : World} {H : List HP} {w : World} (hw : St B w0 H w) :
    Calls Tryz.prog 83 [strV text].toArray w (Post B w0 fun v K => ∃ A cap, v = .tuple #[.slice A (Up text).1.length cap, .bool (Up text).2] ∧ K = strs A cap (Up text).1 :: H) := by
  have hs : (⟨text.toArray⟩ : ByteArray).size = text.length := by simp [ByteArray.size]
  refine Yd Tryz.func83 Tryz.ntmps83 rfl rfl hw ?_
  repeat' (first | (apply Y8 T; exact rfl; exact rfl; intro g5) | apply (zs2 ?_) | apply (zs65 ?_) | apply (zs68 ?_) | apply (zs69 ?_) | apply (zs70 ?_) | apply (zs73 ?_) | fail)
  refine Yk (fun (z : Nat × List (List UInt8) × List UInt8 × Option Addr × Nat) => [(6, .int .i64 z.1), (4, .slice z.2.2.2.1 z.2.1.length z.2.2.2.2), (5, strV z.2.2.1), (0, strV text)]) (fun z => strs z.2.2.2.1 z.2.2.2.2 z.2.1 :: H) (fun z => z.1 ≤ text.length ∧ cutC 10 (text.take z.1) = z.2.1 ++ [z.2.2.1]) (fun z => text.length - z.1) (0, [], [], some ⟨g5, 0, none⟩, 0) ⟨Nat.zero_le _, rfl⟩ ?_ (fun w hw => hw) ?_
  · exact zu
  rintro ⟨i, o, wd, A, cap⟩ ⟨hi, hcut⟩ K hK
  dsimp only at hi hcut ⊢
  have hcl := Xw (c := 10) (text.take i)
  have hwl := JX (c := 10) (l := text.take i) wd (by rw [hcut]; simp)
  rw [hcut, List.length_append, List.length_take, List.length_singleton] at hcl
  rw [List.length_take] at hwl
  by_cases hlt : i < text.length
  · obtain ⟨b, hb⟩ : ∃ b, text[i]? = some b := ⟨_, List.getElem?_eq_getElem hlt⟩
    have htk : text.take (i + 1) = text.take i ++ [b] := by rw [List.take_add_one, hb, Option.toList_some]
    have hbb := b.toNat_lt
    unfold strs
    by_cases hbc : b = 10
    · subst hbc
      have hcn := Ycn hcut
      rw [← htk] at hcn
      have hcc : (UInt8.toNat 10 : Int) = 10 := rfl
      repeat' (first | (apply Jp text 10; exact rfl; exact rfl; exact rfl; exact hb; omega) | apply (zs1 ?_) | apply (zs2 ?_) | (apply zg4; refine zs14 ?_) | (apply zg7; (refine zs15 ?_ ?_ <;> intro _ <;> try (exfalso; omega))) | (apply (zs17 ?_ ?_) <;> intro _ <;> try (exfalso; omega)) | (apply zg13; refine zs30 ?_) | (apply zg21; (refine zs49 ?_; intro _ _)) | (apply zg26; (refine zs56 ?_; intro _)) | apply (zs65 ?_) | apply (zs68 ?_) | apply (zs69 ?_) | apply (zs70 ?_) | (apply zg27; refine zs71 ?_) | apply (zs73 ?_) | apply (zs76 ?_) | apply (zs79 ?_) | fail)
      rename_i A' cap'
      apply hK (i + 1, o ++ [wd], [], A', cap')
      · exact ⟨by show i + 1 ≤ _; omega, hcn⟩
      · show _ - (i + 1) < _ - i
        omega
      · dsimp only
        rw [List.length_append]
        exact zu
      · intro w hw
        dsimp only
        rw [← V6]
        revert w
        exact zk
    · have hcn := Yf8 hbc hcut
      rw [← htk] at hcn
      have hbn : b.toNat ≠ 10 := fun h => hbc (UInt8.toNat_inj.1 h)
      repeat' (first | (apply Jp text b; exact rfl; exact rfl; exact rfl; exact hb; omega) | (apply YdX text b; exact rfl; exact rfl; exact rfl; exact rfl; exact hb; omega) | (apply Xn wd [b]; exact rfl; exact rfl; exact rfl; (show _ + 1 ≤ _; omega)) | apply (zs1 ?_) | apply (zs2 ?_) | (apply zg4; refine zs14 ?_) | (apply zg7; (refine zs15 ?_ ?_ <;> intro _ <;> try (exfalso; omega))) | (apply (zs17 ?_ ?_) <;> intro _ <;> try (exfalso; omega)) | (apply zg13; refine zs30 ?_) | apply (zs65 ?_) | apply (zs68 ?_) | apply (zs69 ?_) | apply (zs70 ?_) | (apply zg27; first | refine zs71 ?_ | refine zs72 ?_) | apply (zs73 ?_) | apply (zs76 ?_) | apply (zs79 ?_) | fail)
      apply hK (i + 1, o, wd ++ [b], A, cap)
      · exact ⟨by show i + 1 ≤ _; omega, hcn⟩
      · show _ - (i + 1) < _ - i
        omega
      · exact zu
      · exact fun w hw => hw
  · obtain rfl : i = text.length := by omega
    rw [List.take_length] at hcut
    rw [Yfa hcut]
    unfold strs
    repeat' (first | (apply Uw wd []; exact rfl; exact rfl; exact rfl; all_goals intro hwd) | apply (zs1 ?_) | apply (zs2 ?_) | (apply zg4; refine zs14 ?_) | (apply (zs17 ?_ ?_) <;> intro _ <;> try (exfalso; omega)) | (apply zg21; (refine zs49 ?_; intro _ _)) | (apply zg26; (refine zs56 ?_; intro _)) | apply (zs65 ?_) | apply (zs68 ?_) | apply (zs69 ?_) | apply (zs70 ?_) | (apply zg27; first | refine zs71 ?_ | refine zs72 ?_) | apply (zs74 ?_) | apply (zs75 ?_) | apply (zs76 ?_) | apply (zs77 ?_) | apply (zs80 ?_) | apply (zs81 ?_) | fail)
    · rename_i A' cap'
      apply Yi (strs A' cap' (o ++ [wd]) :: H)
      · intro w hw
        rw [← V6]
        revert w
        exact zk
      apply Yp; exact rfl; exact rfl; exact rfl
      rw [if_neg hwd]
      exact ⟨A', cap', by rw [List.length_append]; rfl, rfl⟩
    · apply Yp; exact rfl; exact rfl; exact rfl
      rw [if_pos hwd]
      exact ⟨A, cap, rfl, rfl⟩
set_option maxRecDepth 10000 in
set_option maxHeartbeats 1000000 in
theorem W3 (text : List UInt8) (hl : text.length ≤ 100000) {B : Nat} {w0 : World} {H : List HP} {w : World} (hw : St B w0 H w) :
    Calls Tryz.prog 146 [strV text].toArray w (Post B w0 fun v K => ∃ A cap, v = .slice A (cutC 32 text).length cap ∧ K = strs A cap (cutC 32 text) :: H) := by
  have hs : (⟨text.toArray⟩ : ByteArray).size = text.length := by simp [ByteArray.size]
  refine Yd Tryz.func146 Tryz.ntmps146 rfl rfl hw ?_
  repeat' (first | (apply Y8 T; exact rfl; exact rfl; intro g5) | apply (zs2 ?_) | apply (zs65 ?_) | apply (zs68 ?_) | apply (zs69 ?_) | apply (zs70 ?_) | apply (zs73 ?_) | fail)
  refine Yk (fun (z : Nat × List (List UInt8) × List UInt8 × Option Addr × Nat) => [(5, .int .i64 z.1), (3, .slice z.2.2.2.1 z.2.1.length z.2.2.2.2), (4, strV z.2.2.1), (0, strV text)]) (fun z => strs z.2.2.2.1 z.2.2.2.2 z.2.1 :: H) (fun z => z.1 ≤ text.length ∧ cutC 32 (text.take z.1) = z.2.1 ++ [z.2.2.1]) (fun z => text.length - z.1) (0, [], [], some ⟨g5, 0, none⟩, 0) ⟨Nat.zero_le _, rfl⟩ ?_ (fun w hw => hw) ?_
  · exact zu
  rintro ⟨i, o, wd, A, cap⟩ ⟨hi, hcut⟩ K hK
  dsimp only at hi hcut ⊢
  have hcl := Xw (c := 32) (text.take i)
  have hwl := JX (c := 32) (l := text.take i) wd (by rw [hcut]; simp)
  rw [hcut, List.length_append, List.length_take, List.length_singleton] at hcl
  rw [List.length_take] at hwl
  by_cases hlt : i < text.length
  · obtain ⟨b, hb⟩ : ∃ b, text[i]? = some b := ⟨_, List.getElem?_eq_getElem hlt⟩
    have htk : text.take (i + 1) = text.take i ++ [b] := by rw [List.take_add_one, hb, Option.toList_some]
    have hbb := b.toNat_lt
    unfold strs
    by_cases hbc : b = 32
    · subst hbc
      have hcn := Ycn hcut
      rw [← htk] at hcn
      have hcc : (UInt8.toNat 32 : Int) = 32 := rfl
      repeat' (first | (apply Jp text 32; exact rfl; exact rfl; exact rfl; exact hb; omega) | apply (zs1 ?_) | apply (zs2 ?_) | (apply zg4; refine zs14 ?_) | (apply zg7; (refine zs15 ?_ ?_ <;> intro _ <;> try (exfalso; omega))) | (apply (zs17 ?_ ?_) <;> intro _ <;> try (exfalso; omega)) | (apply zg13; refine zs30 ?_) | (apply zg21; (refine zs49 ?_; intro _ _)) | (apply zg26; (refine zs56 ?_; intro _)) | apply (zs65 ?_) | apply (zs68 ?_) | apply (zs69 ?_) | apply (zs70 ?_) | (apply zg27; refine zs71 ?_) | apply (zs73 ?_) | apply (zs76 ?_) | apply (zs79 ?_) | fail)
      rename_i A' cap'
      apply hK (i + 1, o ++ [wd], [], A', cap')
      · exact ⟨by show i + 1 ≤ _; omega, hcn⟩
      · show _ - (i + 1) < _ - i
        omega
      · dsimp only
        rw [List.length_append]
        exact zu
      · intro w hw
        dsimp only
        rw [← V6]
        revert w
        exact zk
    · have hcn := Yf8 hbc hcut
      rw [← htk] at hcn
      have hbn : b.toNat ≠ 32 := fun h => hbc (UInt8.toNat_inj.1 h)
      repeat' (first | (apply Jp text b; exact rfl; exact rfl; exact rfl; exact hb; omega) | (apply YdX text b; exact rfl; exact rfl; exact rfl; exact rfl; exact hb; omega) | (apply Xn wd [b]; exact rfl; exact rfl; exact rfl; (show _ + 1 ≤ _; omega)) | apply (zs1 ?_) | apply (zs2 ?_) | (apply zg4; refine zs14 ?_) | (apply zg7; (refine zs15 ?_ ?_ <;> intro _ <;> try (exfalso; omega))) | (apply (zs17 ?_ ?_) <;> intro _ <;> try (exfalso; omega)) | (apply zg13; refine zs30 ?_) | apply (zs65 ?_) | apply (zs68 ?_) | apply (zs69 ?_) | apply (zs70 ?_) | (apply zg27; first | refine zs71 ?_ | refine zs72 ?_) | apply (zs73 ?_) | apply (zs76 ?_) | apply (zs79 ?_) | fail)
      apply hK (i + 1, o, wd ++ [b], A, cap)
      · exact ⟨by show i + 1 ≤ _; omega, hcn⟩
      · show _ - (i + 1) < _ - i
        omega
      · exact zu
      · exact fun w hw => hw
  · obtain rfl : i = text.length := by omega
    rw [List.take_length] at hcut
    rw [hcut]
    unfold strs
    repeat' (first | apply (zs1 ?_) | apply (zs2 ?_) | (apply zg4; refine zs14 ?_) | (apply (zs17 ?_ ?_) <;> intro _ <;> try (exfalso; omega)) | (apply zg21; (refine zs49 ?_; intro _ _)) | (apply zg26; (refine zs56 ?_; intro _)) | apply (zs65 ?_) | apply (zs68 ?_) | apply (zs69 ?_) | apply (zs70 ?_) | (apply zg27; refine zs72 ?_) | apply (zs74 ?_) | apply (zs75 ?_) | apply (zs80 ?_) | apply (zs81 ?_) | fail)
    rename_i A' cap'
    apply Yi (strs A' cap' (o ++ [wd]) :: H)
    · intro w hw
      rw [← V6]
      revert w
      exact zk
    apply Yc; exact rfl; exact rfl
    exact ⟨A', cap', by rw [List.length_append]; rfl, rfl⟩
set_option maxRecDepth 10000 in
set_option maxHeartbeats 1000000 in
theorem UX (wd : List UInt8) (hl : wd.length ≤ 100000) {B : Nat} {w0 : World} {H : List HP} {w : World} (hw : St B w0 H w) :
    Calls Tryz.prog 204 [strV wd].toArray w (Post B w0 fun v K => v = .int .i64 (numW wd) ∧ K = H) := by
  have hs : (⟨wd.toArray⟩ : ByteArray).size = wd.length := by simp [ByteArray.size]
  refine Yd Tryz.func204 Tryz.ntmps204 rfl rfl hw ?_
  rcases Nat.eq_zero_or_pos wd.length with h0 | h0
  · have hn : numW wd = -1 := by unfold numW; rw [if_pos (.inl (by omega))]
    rw [hn]
    repeat' (first | apply (zs1 ?_) | apply (zs2 ?_) | (apply zg1; refine zs3 ?_) | (apply zg4; refine zs14 ?_) | (apply zg6; refine zs11 ?_) | (apply (zs17 ?_ ?_) <;> intro _ <;> try (exfalso; omega)) | apply (zs65 ?_) | apply (zs68 ?_) | apply (zs69 ?_) | apply (zs70 ?_) | (apply zg27; refine zs71 ?_) | apply (zs74 ?_) | apply (zs77 ?_) | fail)
    apply Yc; exact rfl; exact rfl; exact ⟨rfl, rfl⟩
  obtain ⟨b0, hb0⟩ : ∃ b, wd[(0 : Int).toNat]? = some b := ⟨_, List.getElem?_eq_getElem h0⟩
  have hh : wd.head? = some b0 := by rw [List.head?_eq_getElem?]; exact hb0
  have hbb := b0.toNat_lt
  have h48 : wd.head? = some 48 ↔ b0.toNat = 48 := by
    rw [hh, Option.some.injEq]
    exact ⟨fun h => by rw [h]; rfl, fun h => UInt8.toNat_inj.1 h⟩
  by_cases hbad : 4 < wd.length ∨ (1 < wd.length ∧ wd.head? = some 48)
  · have hn : numW wd = -1 := by unfold numW; rw [if_pos (hbad.elim (fun h => .inr (.inl h)) (fun h => .inr (.inr (.inl h))))]
    rw [hn]
    have hbn : wd.length ≤ 4 → 1 < wd.length ∧ b0.toNat = 48 := fun h => by
      rcases hbad with h1 | ⟨h1, h2⟩
      · omega
      · exact ⟨h1, h48.1 h2⟩
    by_cases h4 : 4 < wd.length
    · repeat' (first | apply (zs1 ?_) | apply (zs2 ?_) | (apply zg1; first | refine zs3 ?_ | refine zs4 ?_) | (apply zg4; refine zs14 ?_) | (apply zg6; first | refine zs11 ?_ | refine zs12 ?_) | (apply (zs17 ?_ ?_) <;> intro _ <;> try (exfalso; omega)) | (apply (zs19 ?_ ?_) <;> intro _ <;> try (exfalso; omega)) | apply (zs65 ?_) | apply (zs68 ?_) | apply (zs69 ?_) | apply (zs70 ?_) | (apply zg27; refine zs71 ?_) | apply (zs74 ?_) | apply (zs77 ?_) | fail)
      apply Yc; exact rfl; exact rfl; exact ⟨rfl, rfl⟩
    · obtain ⟨h1, h2⟩ := hbn (by omega)
      repeat' (first | (apply Jp wd b0; exact rfl; exact rfl; exact rfl; exact hb0; omega) | apply (zs1 ?_) | apply (zs2 ?_) | (apply zg1; refine zs4 ?_) | (apply zg4; refine zs14 ?_) | (apply zg6; first | refine zs11 ?_ | refine zs12 ?_) | (apply zg7; (refine zs15 ?_ ?_ <;> intro _ <;> try (exfalso; omega))) | (apply (zs17 ?_ ?_) <;> intro _ <;> try (exfalso; omega)) | (apply (zs19 ?_ ?_) <;> intro _ <;> try (exfalso; omega)) | apply (zs65 ?_) | apply (zs68 ?_) | apply (zs69 ?_) | apply (zs70 ?_) | (apply zg27; refine zs71 ?_) | apply (zs74 ?_) | apply (zs77 ?_) | fail)
      apply Yc; exact rfl; exact rfl; exact ⟨rfl, rfl⟩
  have h4 : wd.length ≤ 4 := Nat.not_lt.1 fun h => hbad (.inl h)
  have hbn : 1 < wd.length → b0.toNat ≠ 48 := fun h1 h2 => hbad (.inr ⟨h1, h48.2 h2⟩)
  have hnum : numW wd = if wd.all digB = false then -1 else (valN wd : Int) := by
    unfold numW
    by_cases ha : wd.all digB = false
    · rw [if_pos (.inr (.inr (.inr ha))), if_pos ha]
    · rw [if_neg, if_neg ha]
      rintro (h | h | h | h)
      · omega
      · omega
      · exact hbad (.inr h)
      · exact ha h
  rw [hnum]
  repeat' (first | (apply Jp wd b0; exact rfl; exact rfl; exact rfl; exact hb0; omega) | apply (zs1 ?_) | apply (zs2 ?_) | (apply zg1; first | refine zs3 ?_ | refine zs4 ?_) | (apply zg4; refine zs14 ?_) | (apply zg6; first | refine zs11 ?_ | refine zs12 ?_) | (apply zg7; (refine zs15 ?_ ?_ <;> intro _ <;> try (exfalso; omega))) | (apply (zs17 ?_ ?_) <;> intro _ <;> try (exfalso; omega)) | (apply (zs19 ?_ ?_) <;> intro _ <;> try (exfalso; omega)) | apply (zs65 ?_) | apply (zs68 ?_) | apply (zs69 ?_) | apply (zs70 ?_) | (apply zg27; refine zs72 ?_) | apply (zs73 ?_) | apply (zs76 ?_) | fail)
  all_goals (
    refine Yk (fun (i : Nat) => [(4, .int .i64 i), (3, .int .i64 (valN (wd.take i) : Nat)), (0, strV wd)]) (fun _ => H) (fun i => i ≤ wd.length ∧ (wd.take i).all digB = true) (fun i => wd.length - i) 0 ⟨Nat.zero_le _, rfl⟩ ?_ (fun w hw => hw) ?_
    · exact zu
    rintro i ⟨hi, hall⟩ K hK
    have hvb := YgQ hall
    have hpw : 10 ^ (wd.take i).length ≤ 10 ^ 4 := Nat.pow_le_pow_right (by omega) (by rw [List.length_take]; omega)
    have hvl : valN (wd.take i) < 10000 := Nat.lt_of_lt_of_le hvb hpw
    by_cases hlt : i < wd.length
    · obtain ⟨b, hb⟩ : ∃ b, wd[i]? = some b := ⟨_, List.getElem?_eq_getElem hlt⟩
      have htk : wd.take (i + 1) = wd.take i ++ [b] := by rw [List.take_add_one, hb, Option.toList_some]
      have hb8 := b.toNat_lt
      by_cases hd : 48 ≤ b.toNat ∧ b.toNat ≤ 57
      · have hv := VP (wd.take i) b
        rw [← htk] at hv
        repeat' (first | (apply Jp wd b; exact rfl; exact rfl; exact rfl; exact hb; omega) | (apply Yha; exact rfl; exact rfl; exact rfl; omega) | apply (zs1 ?_) | apply (zs2 ?_) | (apply zg1; refine zs4 ?_) | (apply zg4; refine zs14 ?_) | (apply zg6; refine zs12 ?_) | (apply (zs17 ?_ ?_) <;> intro _ <;> try (exfalso; omega)) | (apply (zs19 ?_ ?_) <;> intro _ <;> try (exfalso; omega)) | (apply zg13; refine zs30 ?_) | (apply zg15; refine zs32 ?_) | (apply zg19; refine zs44 ?_) | apply (zs65 ?_) | apply (zs68 ?_) | apply (zs69 ?_) | apply (zs70 ?_) | (apply zg27; first | refine zs71 ?_ | refine zs72 ?_) | apply (zs73 ?_) | apply (zs76 ?_) | apply (zs79 ?_) | fail)
        apply hK (i + 1)
        · refine ⟨by omega, ?_⟩
          rw [htk, List.all_append, hall]
          simp [digB, hd]
        · omega
        · rw [hv]
          exact zu
        · exact fun w hw => hw
      · have hna : wd.all digB = false := by
          rw [List.all_eq_false]
          exact ⟨b, List.mem_of_getElem? hb, by unfold digB; rw [decide_eq_true_eq]; exact hd⟩
        rw [if_pos hna]
        clear hK
        repeat' (first | (apply Jp wd b; exact rfl; exact rfl; exact rfl; exact hb; omega) | apply (zs1 ?_) | apply (zs2 ?_) | (apply zg1; first | refine zs3 ?_ | refine zs4 ?_) | (apply zg4; refine zs14 ?_) | (apply zg6; first | refine zs11 ?_ | refine zs12 ?_) | (apply (zs17 ?_ ?_) <;> intro _ <;> try (exfalso; omega)) | (apply (zs19 ?_ ?_) <;> intro _ <;> try (exfalso; omega)) | apply (zs65 ?_) | apply (zs68 ?_) | apply (zs69 ?_) | apply (zs70 ?_) | (apply zg27; refine zs71 ?_) | apply (zs73 ?_) | apply (zs74 ?_) | apply (zs76 ?_) | apply (zs77 ?_) | apply (zs78 ?_) | fail)
        all_goals (apply Yc; exact rfl; exact rfl; exact ⟨rfl, rfl⟩)
    · repeat' (first | apply (zs1 ?_) | apply (zs2 ?_) | (apply zg4; refine zs14 ?_) | (apply (zs17 ?_ ?_) <;> intro _ <;> try (exfalso; omega)) | apply (zs65 ?_) | apply (zs68 ?_) | apply (zs69 ?_) | apply (zs70 ?_) | (apply zg27; refine zs72 ?_) | apply (zs74 ?_) | apply (zs75 ?_) | apply (zs80 ?_) | apply (zs81 ?_) | fail)
      apply Yc; exact rfl; exact rfl
      have hie : wd.take i = wd := List.take_of_length_le (by omega)
      rw [hie] at hall ⊢
      rw [if_neg (by simp [hall])]
      exact ⟨rfl, rfl⟩)
set_option maxRecDepth 10000 in
set_option maxHeartbeats 2000000 in
theorem YdH (line word : List UInt8) (many : Nat) (hl : line.length ≤ 100000) (hm : 1 ≤ many ∧ many ≤ 100) {B : Nat} {w0 : World} {H : List HP} {w : World} (hw : St B w0 H w) :
    Calls Tryz.prog 147 [strV line, strV word, .int .i64 many].toArray w (Post B w0 (OutR H (Je line word many))) := by
  refine Yd Tryz.func147 Tryz.ntmps147 rfl rfl hw ?_
  repeat' (first | apply (zs1 ?_) | apply (zs2 ?_) | apply (zs65 ?_) | apply (zs68 ?_) | apply (zs69 ?_) | apply (zs70 ?_) | fail)
  apply Yo _ YhL
  exact za
  exact rfl
  exact fun _ hw => (W3 line hl (hw))
  rintro _ _ ⟨A, cap, rfl, rfl⟩
  obtain ⟨ps, hps⟩ : ∃ ps, cutC 32 line = ps := ⟨_, rfl⟩
  have hrd : Je line word many = if ps.length ≠ many + 1 ∨ ps.headD [] ≠ word then none else XO ps.tail := by unfold Je; rw [hps]
  have hne : ps ≠ [] := hps ▸ JC 32 line
  have hp0 : 1 ≤ ps.length := List.length_pos_iff.2 hne
  have hpc : ps.length ≤ 100001 := by have := Xw (c := 32) line; rw [hps] at this; omega
  have h0 : ps[(0 : Int).toNat]? = some (ps.headD []) := by
    cases ps with
    | nil => exact absurd rfl hne
    | cons p ps => rfl
  rw [hps]
  have hrp : Rd B w0 (strs A cap ps :: H) A (ps.flatMap strL) := Rd.sl (.head _)
  repeat' (first | (apply Uw (ps.headD []) word; exact rfl; exact rfl; exact rfl; all_goals intro hwd) | (apply Y8 T; exact rfl; exact rfl; intro g5) | apply (zs1 ?_) | apply (zs2 ?_) | (apply zg1; first | refine zs3 ?_ | refine zs4 ?_) | (apply zg3; refine zs60 ?_) | (apply zg4; refine zs9 ?_) | (apply zg5; refine zs10 ?_) | (apply zg6; first | refine zs11 ?_ | refine zs12 ?_) | (apply zg8; (refine zs16 ?_ ?_ <;> intro _ <;> try (exfalso; omega))) | (apply zg13; refine zs30 ?_) | apply (zs65 ?_) | apply (zs68 ?_) | apply (zs69 ?_) | apply (zs70 ?_) | (apply zg27; first | refine zs71 ?_ | refine zs72 ?_) | apply (zs73 ?_) | apply (zs74 ?_) | apply (zs76 ?_) | apply (zs77 ?_) | fail)
  · rw [hrd, if_pos (.inl (by omega))]
    apply Yq; apply Yp; exact rfl; exact rfl; exact rfl; exact ⟨rfl, rfl⟩
  · rw [hrd, if_pos (.inr hwd)]
    apply Yq; apply Yp; exact rfl; exact rfl; exact rfl; exact ⟨rfl, rfl⟩
  have hpl : ps.length = many + 1 := by omega
  rw [hrd, if_neg (by rintro (h | h); exact h hpl; exact h hwd)]
  obtain ⟨ws, hws⟩ : ∃ ws, ps.tail = ws := ⟨_, rfl⟩
  have hwl : ws.length = many := by rw [← hws, List.length_tail]; omega
  have hwm : ∀ p ∈ ws, p.length ≤ 100000 := fun p hp => by
    have h1 := JX (c := 32) (l := line) p (by rw [hps]; exact List.mem_of_mem_tail (hws ▸ hp))
    omega
  rw [hws]
  have hnone : ∀ {p : List UInt8}, p ∈ ws → numW p < 0 → XO ws = none := fun hp hn => YaR hp hn
  refine Yk (fun (z : Nat × Option Addr × Nat) => [(10, .int .i64 ((z.1 : Int) + 1)), (8, .slice A ps.length cap), (9, .slice z.2.1 ((ws.take z.1).map numW).length z.2.2)]) (fun z => nrs z.2.1 z.2.2 ((ws.take z.1).map numW) :: strs A cap ps :: H) (fun z => z.1 ≤ ws.length ∧ ∀ p ∈ ws.take z.1, 0 ≤ numW p) (fun z => ws.length - z.1) (0, some ⟨g5, 0, none⟩, 0) ⟨Nat.zero_le _, fun p hp => by cases hp⟩ ?_ (fun w hw => hw) ?_
  · exact zu
  rintro ⟨i, A9, cap9⟩ ⟨hi, hall⟩ K hK
  dsimp only at hi hall ⊢
  have hlen : ((ws.take i).map numW).length = i := by rw [List.length_map, List.length_take]; omega
  have hrw' := hrp.cons (X := nrs A9 cap9 ((ws.take i).map numW))
  clear hrp
  by_cases hlt : i < ws.length
  · obtain ⟨p, hp⟩ : ∃ p, ws[i]? = some p := ⟨_, List.getElem?_eq_getElem hlt⟩
    have hpm := List.mem_of_getElem? hp
    have hpl2 := hwm p hpm
    have hget : ps[((i : Int) + 1).toNat]? = some p := by
      rw [show ((i : Int) + 1).toNat = i + 1 by omega, ← hp, ← hws, List.getElem?_tail]
    by_cases hv : numW p < 0
    · clear hK
      repeat' (first | ((first | apply Ya Yed | apply Yb Yed); exact za; exact rfl; exact fun _ hw => (UX p hpl2 hw)) | apply (zs1 ?_) | apply (zs2 ?_) | (apply zg3; refine zs60 ?_) | (apply zg4; refine zs9 ?_) | (apply zg5; refine zs10 ?_) | (apply (zs17 ?_ ?_) <;> intro _ <;> try (exfalso; omega)) | apply (zs65 ?_) | apply (zs68 ?_) | apply (zs69 ?_) | apply (zs70 ?_) | (apply zg27; refine zs71 ?_) | apply (zs73 ?_) | apply (zs74 ?_) | apply (zs76 ?_) | apply (zs77 ?_) | apply (zs78 ?_) | fail)
      rw [hnone hpm hv]
      apply Yi H
      · exact zk
      apply Yp; exact rfl; exact rfl; exact rfl; exact ⟨rfl, rfl⟩
    · have e5 : (ws.take i).map numW ++ [numW p] = (ws.take (i + 1)).map numW := by rw [List.take_add_one, hp, Option.toList_some, List.map_append, List.map_cons, List.map_nil]
      repeat' (first | ((first | apply Ya Yed | apply Yb Yed); exact za; exact rfl; exact fun _ hw => (UX p hpl2 hw)) | apply (zs1 ?_) | apply (zs2 ?_) | (apply zg3; refine zs60 ?_) | (apply zg4; refine zs9 ?_) | (apply zg5; refine zs10 ?_) | (apply (zs17 ?_ ?_) <;> intro _ <;> try (exfalso; omega)) | (apply zg13; refine zs30 ?_) | (apply zg21; (refine zs49 ?_; intro _ _)) | (apply zg26; (refine zs56 ?_; intro _)) | apply (zs65 ?_) | apply (zs68 ?_) | apply (zs69 ?_) | apply (zs70 ?_) | (apply zg27; first | refine zs71 ?_ | refine zs72 ?_) | apply (zs73 ?_) | apply (zs76 ?_) | apply (zs79 ?_) | fail)
      rename_i xA xcap
      rw [X5, e5]
      apply hK (i + 1, xA, xcap)
      · refine ⟨by show i + 1 ≤ _; omega, fun p' hp' => ?_⟩
        dsimp only at hp'
        rw [List.take_add_one, hp, Option.toList_some, List.mem_append, List.mem_singleton] at hp'
        rcases hp' with hp' | rfl
        · exact hall p' hp'
        · omega
      · dsimp only; omega
      · rw [show ((ws.take i).map numW).length + 1 = ((ws.take (i + 1)).map numW).length from (by rw [← e5]; simp)]
        exact zu
      · exact zk
  · have hie : i = ws.length := by omega
    rw [hie, List.take_length] at hall
    rw [YaS hall]
    repeat' (first | apply (zs1 ?_) | apply (zs2 ?_) | (apply zg4; refine zs9 ?_) | (apply (zs17 ?_ ?_) <;> intro _ <;> try (exfalso; omega)) | apply (zs65 ?_) | apply (zs68 ?_) | apply (zs69 ?_) | apply (zs70 ?_) | (apply zg27; refine zs72 ?_) | apply (zs74 ?_) | apply (zs75 ?_) | apply (zs80 ?_) | apply (zs81 ?_) | fail)
    rw [hie, List.take_length]
    apply Yi (nrs A9 cap9 (ws.map numW) :: H)
    · exact zk
    apply Yp; exact rfl; exact rfl; exact rfl
    exact ⟨A9, cap9, rfl, rfl⟩
open Go.RowKit Go.Eng Go.Nw Go.Rt
def Qr (r : Option (List Int)) : List Int := r.getD []
set_option maxRecDepth 10000 in
set_option maxHeartbeats 2000000 in
theorem YbF (line word : List UInt8) (lo hi : Nat) (hl : line.length ≤ 100000) (hlo : 1 ≤ lo) (hhi : hi ≤ 100) {B : Nat} {w0 : World} {H : List HP} {w : World} (hw : St B w0 H w) :
    Calls Tryz.prog 84 [strV line, strV word, .int .i64 (lo : Nat), .int .i64 (hi : Nat)].toArray w (Post B w0 fun v K => ∃ A cap, v = .tuple #[.slice A (Qr (Vf line word lo hi)).length cap, .bool (Vf line word lo hi).isSome] ∧ K = nrs A cap (Qr (Vf line word lo hi)) :: H) := by
  refine Yd Tryz.func84 Tryz.ntmps84 rfl rfl hw ?_
  have h1 : 1 ≤ (cutC 32 line).length := List.length_pos_iff.2 (JC 32 line)
  have h2 := Xw (c := 32) line
  have hcn : (((cutC 32 line).length : Nat) : Int) - 1 = (cntW line : Nat) := by unfold cntW; omega
  have hc9 : cntW line ≤ 100000 := by unfold cntW; omega
  obtain ⟨n, hn⟩ : ∃ n, cntW line = n := ⟨_, rfl⟩
  have hR : Vf line word lo hi = if lo ≤ n ∧ n ≤ hi then Je line word n else none := by unfold Vf; rw [hn]
  rw [hn] at hcn hc9
  have p1 := fun {H' : List HP} {w : World} (hw : St B w0 H' w) => Zq (n : Nat) (lo : Nat) (hi : Nat) hw
  repeat' (first | apply (zs1 ?_) | apply (zs2 ?_) | apply (zs65 ?_) | apply (zs68 ?_) | apply (zs69 ?_) | apply (zs70 ?_) | fail)
  apply Yo _ YhL
  exact za
  exact rfl
  exact fun _ hw => (W3 line hl (hw))
  rintro _ _ ⟨A0, cap0, rfl, rfl⟩
  by_cases hb : lo ≤ n ∧ n ≤ hi
  rotate_left
  · rw [if_neg hb] at hR
    rw [hR]
    rw [decide_eq_false (by omega)] at p1
    iterate 8 (first | apply (zs2 ?_) | (apply zg4; refine zs9 ?_) | (apply zg14; refine zs31 ?_) | apply (zs65 ?_) | apply (zs68 ?_) | apply (zs69 ?_) | apply (zs70 ?_) | fail)
    rw [hcn]
    repeat' (first | apply (zs1 ?_) | fail)
    first | apply Ya ZH | apply Yb ZH
    exact za
    exact rfl
    exact fun _ hw => (p1 hw)
    repeat' (first | apply (zs2 ?_) | (apply zg20; refine zs48 ?_) | apply (zs65 ?_) | apply (zs68 ?_) | apply (zs69 ?_) | apply (zs70 ?_) | (apply zg27; refine zs71 ?_) | apply (zs74 ?_) | apply (zs77 ?_) | fail)
    apply Yi (nrs none 0 [] :: H)
    · intro w hw
      have h5 : St B w0 H w := by
        revert w
        exact zk
      exact h5.nilSlice _ _
    apply Yp; exact rfl; exact rfl; exact rfl
    exact ⟨none, 0, rfl, rfl⟩
  rw [if_pos hb] at hR
  rw [hR]
  rw [decide_eq_true (by omega)] at p1
  have p2 := fun {H' : List HP} {w : World} (hw : St B w0 H' w) => YdH line word n hl (by omega) hw
  unfold OutR at p2
  iterate 8 (first | apply (zs2 ?_) | (apply zg4; refine zs9 ?_) | (apply zg14; refine zs31 ?_) | apply (zs65 ?_) | apply (zs68 ?_) | apply (zs69 ?_) | apply (zs70 ?_) | fail)
  rw [hcn]
  repeat' (first | apply (zs1 ?_) | fail)
  first | apply Ya ZH | apply Yb ZH
  exact za
  exact rfl
  exact fun _ hw => (p1 hw)
  repeat' (first | apply (zs1 ?_) | (apply zg20; refine zs47 ?_) | apply (zs65 ?_) | apply (zs68 ?_) | apply (zs69 ?_) | apply (zs70 ?_) | (apply zg27; refine zs72 ?_) | apply (zs76 ?_) | fail)
  cases hr : Je line word n with
  | none =>
    rw [hr] at p2
    dsimp only at p2
    first | apply Ya Yga | apply Yb Yga
    exact za
    exact rfl
    exact fun _ hw => (p2 hw)
    repeat' (first | apply (zs2 ?_) | apply (zs13 ?_) | apply (zs65 ?_) | apply (zs68 ?_) | apply (zs74 ?_) | fail)
    apply Yi (nrs none 0 [] :: H)
    · intro w hw
      have h5 : St B w0 H w := by
        revert w
        exact zk
      exact h5.nilSlice _ _
    apply Yp; exact rfl; exact rfl; exact rfl
    exact ⟨none, 0, rfl, rfl⟩
  | some l =>
    rw [hr] at p2
    dsimp only at p2
    apply Yo _ Yga
    exact za
    exact rfl
    exact fun _ hw => (p2 (hw))
    rintro _ _ ⟨A1, cap1, rfl, rfl⟩
    repeat' (first | apply (zs2 ?_) | apply (zs13 ?_) | apply (zs65 ?_) | apply (zs68 ?_) | apply (zs74 ?_) | fail)
    apply Yi (nrs A1 cap1 l :: H)
    · exact zk
    apply Yp; exact rfl; exact rfl; exact rfl
    exact ⟨A1, cap1, rfl, rfl⟩
end Go.Proofs.YtmalhidldgfeoaaGreatDoor
