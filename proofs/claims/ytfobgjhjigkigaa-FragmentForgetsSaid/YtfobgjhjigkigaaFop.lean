/- An array of two numbers that came in as an argument. -/
import Derived.Test.YtfobgjhjigkigaaOp2
import Derived.Test.YtfobgjhjigkigaaProg
namespace Go.Proofs.Ytfobgjhjigkigaa
open Go.ChangeShapes Go.WideShapes Go.ChangeAt Go.RowKit Go.Eng

theorem cells_two : Try.prog.cellsOf 64 = 2 := by kernel_rfl
theorem cells_one : Try.prog.cellsOf 3 = 1 := by kernel_rfl
section
variable {H : Type} {enc : TypeId × Value → H} {P : Program} {w : World} {base : Nat} {spare : Nat → Bool} {held : Bool}
theorem okWide_array {t e : TypeId} {k : Nat} {r : Reach} {v : Value} (ht : P.underlying t = some (.array k e)) (h : Value.okWide P w r base t v) : ∃ cs, v = .agg cs ∧ cs.size = P.cellsOf t := by
  cases v <;> simp_all [Value.okWide, Value.formed]
theorem trod_array2 {t e : TypeId} {fuel : Nat} {c0 c1 : Value} {x : DataW H × List MemPlace} (ht : P.underlying t = some (.array 2 e)) (hce : P.cellsOf e = 1)
    (h : DataW.trod enc P w base spare held fuel t [c0, c1] = some x) :
    ∃ y0 y1 n, DataW.trod enc P w base spare held n e [c0] = some y0 ∧ DataW.trod enc P w base spare held n e [c1] = some y1 := by
  cases fuel with
  | zero => simp [DataW.trod] at h
  | succ n =>
    unfold DataW.trod at h
    rw [ht] at h
    have r2 : List.range 2 = [0, 1] := rfl
    simp [r2, hce] at h
    obtain ⟨_, h⟩ := h
    cases h0 : DataW.trod enc P w base spare held n e [c0] with
    | none => simp [h0] at h
    | some y0 =>
      cases h1 : DataW.trod enc P w base spare held n e [c1] with
      | none => simp [h0, h1] at h
      | some y1 => exact ⟨y0, y1, n, h0, h1⟩
set_option maxRecDepth 100000 in
theorem open_two {W : World} {r : Reach} {b0 : Nat} {v : Value} {d : DataW H} {p : List MemPlace} (hv : Value.okWide Try.prog W r b0 64 v) (h : DataW.Trod enc Try.prog W 0 spare held 64 v d p) : ∃ a b : Int, v = .agg #[.int .i64 a, .int .i64 b] := by
  obtain ⟨cs, rfl, hsz⟩ := okWide_array Try.underlying64 hv
  rw [cells_two] at hsz
  obtain ⟨l, rfl⟩ : ∃ l : List Value, cs = l.toArray := ⟨cs.toList, by simp⟩
  match l, hsz with
  | [c0, c1], _ =>
    obtain ⟨fuel, hf⟩ := h
    obtain ⟨y0, y1, n, h3, h4⟩ := trod_array2 Try.underlying64 cells_one hf
    obtain ⟨a, e1, _⟩ := op_int Try.underlying3 n [c0] y0 h3
    obtain ⟨b, e2, _⟩ := op_int Try.underlying3 n [c1] y1 h4
    injection e1 with e1
    injection e2 with e2
    exact ⟨a, b, by rw [e1, e2]⟩
end
end Go.Proofs.Ytfobgjhjigkigaa
