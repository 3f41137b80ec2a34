/- States and events that came in as arguments. -/
import Derived.Test.YtjkhlgpilcamjaaOp2
import Derived.Test.YtjkhlgpilcamjaaRw3
namespace Go.Proofs.Ytjkhlgpilcamjaa
open Go.ChangeShapes Go.WideShapes Go.ChangeAt Go.RowKit Go.Eng Go.Rm

section
variable {H : Type} {enc : TypeId × Value → H} {W : World} {spare : Nat → Bool} {held : Bool}
abbrev I64 (z : Int) : Prop := (Lit.int .i64 z).wf = true
def nF (z : Int) : List Value := [.int .i64 z]
theorem op_i : Opn enc Try.prog W spare held 3 nF I64 := op_int Try.underlying3
theorem op_rk : Opn enc Try.prog W spare held 23 rkF (fun _ => True) :=
  op_map (op_struct (ts := [3, 3, 3, 3, 3, 3]) (by kernel_rfl) (fop_cons op_i (fop_cons op_i (fop_cons op_i (fop_cons op_i (fop_cons op_i (fop_cons op_i fop_nil))))))) (fun x => ⟨x.1, x.2.1, x.2.2.1, x.2.2.2.1, x.2.2.2.2.1, x.2.2.2.2.2.1⟩) (fun _ => rfl) (fun _ _ => trivial)
theorem op_ev : Opn enc Try.prog W spare held 50 evF (fun x => I64 x.kind ∧ I64 x.node ∧ I64 x.which ∧ I64 x.cost) :=
  op_map (op_struct (ts := [3, 3, 3, 3]) (by kernel_rfl) (fop_cons op_i (fop_cons op_i (fop_cons op_i (fop_cons op_i fop_nil))))) (fun x => ⟨x.1, x.2.1, x.2.2.1, x.2.2.2.1⟩) (fun _ => rfl) (fun _ h => ⟨h.1, h.2.1, h.2.2.1, h.2.2.2.1⟩)
theorem op_evs : Opn enc Try.prog W spare held 39 (fun s : SlM Ev => [s.val]) (SlG W evF fun x => I64 x.kind ∧ I64 x.node ∧ I64 x.which ∧ I64 x.cost) := op_slice (q := 4) Try.underlying39 (by kernel_rfl) (by decide) op_ev
theorem op_rks : Opn enc Try.prog W spare held 40 (fun s : SlM Rk => [s.val]) (SlG W rkF fun _ => True) := op_slice (q := 6) Try.underlying40 (by kernel_rfl) (by decide) op_rk

theorem open_rk {r : Reach} {b0 : Nat} {v : Value} {d : DataW H} {p : List MemPlace} (hv : Value.okWide Try.prog W r b0 23 v) (h : DataW.Trod enc Try.prog W 0 spare held 23 v d p) : ∃ n : Rk, v = rkV n := by
  obtain ⟨cs, rfl, _⟩ := okWide_struct Try.underlying23 hv
  obtain ⟨fuel, hf⟩ := h
  obtain ⟨n, h1, _⟩ := op_rk fuel _ _ hf
  refine ⟨n, ?_⟩
  have : cs = (rkF n).toArray := by rw [← h1]; simp [Value.cells]
  rw [this]; rfl
theorem open_evs {r : Reach} {b0 : Nat} {v : Value} {d : DataW H} {p : List MemPlace} (hv : Value.okWide Try.prog W r b0 39 v) (h : DataW.Trod enc Try.prog W 0 spare held 39 v d p) : ∃ s : SlM Ev, v = s.val ∧ SlG W evF (fun x => I64 x.kind ∧ I64 x.node ∧ I64 x.which ∧ I64 x.cost) s := by
  obtain ⟨A, len, cap, rfl⟩ := okWide_slice Try.underlying39 hv
  obtain ⟨fuel, hf⟩ := h
  obtain ⟨s, h1, h2⟩ := op_evs fuel _ _ hf
  refine ⟨s, ?_, h2⟩
  injection h1
end
end Go.Proofs.Ytjkhlgpilcamjaa
