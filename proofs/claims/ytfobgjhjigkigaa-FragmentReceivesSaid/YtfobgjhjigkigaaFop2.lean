/- Arrivals that came in as an argument. -/
import Derived.Test.YtfobgjhjigkigaaOp2
import Derived.Test.YtfobgjhjigkigaaFr6
namespace Go.Proofs.Ytfobgjhjigkigaa
open Go.ChangeShapes Go.WideShapes Go.ChangeAt Go.RowKit Go.Eng

section
variable {H : Type} {enc : TypeId × Value → H} {W : World} {spare : Nat → Bool} {held : Bool}
def nF1 (z : Int) : List Value := [.int .i64 z]
def I64 (z : Int) : Prop := (Lit.int .i64 z).wf = true
theorem op_i : Opn enc Try.prog W spare held 3 nF1 I64 := op_int Try.underlying3
theorem op_s : Opn enc Try.prog W spare held 9 strF (fun s => s.size ≤ maxLen) := by
  intro fuel cs y hy
  obtain ⟨s, rfl, _, hs⟩ := DataW.trod_string Try.underlying9 hy
  exact ⟨s, rfl, hs⟩
theorem op_frag : Opn enc Try.prog W spare held 23 (fun x : Int × Int × Int × Int × ByteArray => nF1 x.1 ++ (nF1 x.2.1 ++ (nF1 x.2.2.1 ++ (nF1 x.2.2.2.1 ++ (strF x.2.2.2.2 ++ []))))) (fun x => x.2.2.2.2.size ≤ maxLen) :=
  op_map (op_struct (ts := [3, 3, 3, 3, 9]) (by kernel_rfl) (fop_cons op_i (fop_cons op_i (fop_cons op_i (fop_cons op_i (fop_cons op_s fop_nil)))))) (fun x => ⟨x.1, x.2.1, x.2.2.1, x.2.2.2.1, x.2.2.2.2.1⟩) (fun _ => rfl) (fun _ h => h.2.2.2.2.1)
theorem op_arr : Opn enc Try.prog W spare held 61 arF (fun a => a.data.size ≤ maxLen) :=
  op_map (op_struct (ts := [3, 23]) (by kernel_rfl) (fop_cons op_i (fop_cons op_frag fop_nil))) (fun x => ⟨x.1, x.2.1.1, x.2.1.2.1, x.2.1.2.2.1, x.2.1.2.2.2.1, x.2.1.2.2.2.2⟩) (fun _ => rfl) (fun _ h => h.2.1)
theorem op_arrs : Opn enc Try.prog W spare held 55 (fun s : SlM Arr => [s.val]) (SlG W arF fun a => a.data.size ≤ maxLen) := op_slice (q := 6) Try.underlying55 (by kernel_rfl) (by decide) op_arr
set_option maxRecDepth 100000 in
theorem open_arrs {r : Reach} {b0 : Nat} {v : Value} {d : DataW H} {p : List MemPlace} (hv : Value.okWide Try.prog W r b0 55 v) (h : DataW.Trod enc Try.prog W 0 spare held 55 v d p) : ∃ s : SlM Arr, v = s.val ∧ SlG W arF (fun a => a.data.size ≤ maxLen) s := by
  obtain ⟨A, len, cap, rfl⟩ := okWide_slice Try.underlying55 hv
  obtain ⟨fuel, hf⟩ := h
  obtain ⟨s, h1, h2⟩ := op_arrs fuel _ _ hf
  refine ⟨s, ?_, h2⟩
  injection h1
end
end Go.Proofs.Ytfobgjhjigkigaa
