/- Costs that came in as an argument. -/
import Derived.Test.YtjkhlgpilcamjaaRop
import Derived.Test.YtjkhlgpilcamjaaRow2
import Derived.Test.YtjkhlgpilcamjaaRl5
namespace Go.Proofs.Ytjkhlgpilcamjaa
open Go.ChangeShapes Go.WideShapes Go.ChangeAt Go.RowKit Go.Eng Go.Rm

section
variable {H : Type} {enc : TypeId × Value → H} {W : World} {spare : Nat → Bool} {held : Bool}
theorem op_u8s : Opn enc Try.prog W spare held 47 (fun s : SlM Int => [s.val]) (SlG W u8F fun z => (Lit.int .u8 z).wf = true) := op_slice (q := 1) Try.underlying47 (by kernel_rfl) (by decide) (op_int Try.underlying5)
theorem open_u8s {r : Reach} {b0 : Nat} {v : Value} {d : DataW H} {p : List MemPlace} (hv : Value.okWide Try.prog W r b0 47 v) (h : DataW.Trod enc Try.prog W 0 spare held 47 v d p) : ∃ s : SlM Int, v = s.val ∧ SlG W u8F (fun z => (Lit.int .u8 z).wf = true) s := by
  obtain ⟨A, len, cap, rfl⟩ := okWide_slice Try.underlying47 hv
  obtain ⟨fuel, hf⟩ := h
  obtain ⟨s, h1, h2⟩ := op_u8s fuel _ _ hf
  refine ⟨s, ?_, h2⟩
  injection h1
end
end Go.Proofs.Ytjkhlgpilcamjaa
