/-
  No cell of these rows narrows 'for every input' (looked for: loops, veiled, ifaces, maps, wideKeys, modest, calm, conditions, laid).
  DERIVED. THE GIVEN ROWS OF THIS SEAT. 7 by the template 'for every input the law returns true; each argument reads behind the call as it read before'; 0 by the template 'total and deterministic' (their statements: YtfobgjhjigkigaaTotals.lean).
  GIVEN WITH THE SEED: the statements are not yours to turn. If you find one false, say at which input.
  Laid BY PROGRAM, IN A SANDBOX (cutbox-rows.mjs): the forced cells as the released guide's own fill.sh prints them over the translation 81c1296f6b01b6f4… (all of the seat's roots in one cut). By AI agents, Wed Nov 11 2026. No macro, syntax, notation, axiom, sorry.
-/
import Derived.Test.YtfobgjhjigkigaaChecked
import GoSem.Claim
import GoSem.ClaimJoined
import GoSem.ClaimMapViews
import Derived.JoinedTies
import Derived.KernelRfl
namespace Go.Proofs.Ytfobgjhjigkigaa
/- THE CELL 'sum', in the pinned program and in every row, IS THE sha256 OF THE DUMP (.gsa) THAT YtfobgjhjigkigaaProg.lean LOADS. Nothing in Lean hashes anything: it is a label: what it is worth is what the hold of that sum in a sandbox is worth. -/
noncomputable def Try.pinned : Pinned := { name := "ytfobgjhjigkigaa", sum := "81c1296f6b01b6f4b1c2e0990abb537e6cced72f32f1ba819ed60d352f78afff", checked := Try.checked }
namespace Rows
def none {H : Type} : Left H := { results := [], args := [] }

/-- 'hopmeshlaw15.FragmentSplits': WHATEVER THE INPUT: true; the input reads as it did. -/
def fragmentSplitsSpec : ChangeSpec := { name := "fragmentSplits", fn := fun _ => fun
  | [d1, d2, d3] => { results := [.lit (.bool true)], args := [d1, d2, d3] }
  | _ => none }
def fragmentSplitsRow : OpenClaim := { program := "ytfobgjhjigkigaa", sum := "81c1296f6b01b6f4b1c2e0990abb537e6cced72f32f1ba819ed60d352f78afff", func := "hopmesh/hopmeshlaw15.FragmentSplits", spec := "fragmentSplits", inPlace := ["internal/abi.NoEscape", "internal/bytealg.MakeNoZero"], unfollowed := true, recurses := true, apart := false }
def FragmentSplitsSaid : Prop := fragmentSplitsRow.holds Try.pinned (OpenSpec.ofChange fragmentSplitsSpec)

/-- ITS FALSE NEIGHBOUR: 'it returns false'. Refute it at one input. -/
def fragmentSplitsWrong : ChangeSpec := { name := "fragmentSplits", fn := fun _ => fun
  | [d1, d2, d3] => { results := [.lit (.bool false)], args := [d1, d2, d3] }
  | _ => none }
def FragmentSplitsWrongFalsely : Prop := fragmentSplitsRow.holds Try.pinned (OpenSpec.ofChange fragmentSplitsWrong)

/-- 'hopmeshlaw15.FragmentWhole': WHATEVER THE INPUT: true; the input reads as it did. -/
def fragmentWholeSpec : ChangeSpec := { name := "fragmentWhole", fn := fun _ => fun
  | [d1, d2, d3] => { results := [.lit (.bool true)], args := [d1, d2, d3] }
  | _ => none }
def fragmentWholeRow : OpenClaim := { program := "ytfobgjhjigkigaa", sum := "81c1296f6b01b6f4b1c2e0990abb537e6cced72f32f1ba819ed60d352f78afff", func := "hopmesh/hopmeshlaw15.FragmentWhole", spec := "fragmentWhole", inPlace := ["internal/abi.NoEscape", "internal/bytealg.MakeNoZero"], unfollowed := true, recurses := true, apart := false }
def FragmentWholeSaid : Prop := fragmentWholeRow.holds Try.pinned (OpenSpec.ofChange fragmentWholeSpec)

/-- ITS FALSE NEIGHBOUR: 'it returns false'. Refute it at one input. -/
def fragmentWholeWrong : ChangeSpec := { name := "fragmentWhole", fn := fun _ => fun
  | [d1, d2, d3] => { results := [.lit (.bool false)], args := [d1, d2, d3] }
  | _ => none }
def FragmentWholeWrongFalsely : Prop := fragmentWholeRow.holds Try.pinned (OpenSpec.ofChange fragmentWholeWrong)

/-- 'hopmeshlaw15.FragmentDecodes': WHATEVER THE INPUT: true; the input reads as it did. -/
def fragmentDecodesSpec : ChangeSpec := { name := "fragmentDecodes", fn := fun _ => fun
  | [d] => { results := [.lit (.bool true)], args := [d] }
  | _ => none }
def fragmentDecodesRow : OpenClaim := { program := "ytfobgjhjigkigaa", sum := "81c1296f6b01b6f4b1c2e0990abb537e6cced72f32f1ba819ed60d352f78afff", func := "hopmesh/hopmeshlaw15.FragmentDecodes", spec := "fragmentDecodes", inPlace := ["internal/abi.NoEscape", "internal/bytealg.MakeNoZero"], unfollowed := true, recurses := true, apart := false }
def FragmentDecodesSaid : Prop := fragmentDecodesRow.holds Try.pinned (OpenSpec.ofChange fragmentDecodesSpec)

/-- ITS FALSE NEIGHBOUR: 'it returns false'. Refute it at one input. -/
def fragmentDecodesWrong : ChangeSpec := { name := "fragmentDecodes", fn := fun _ => fun
  | [d] => { results := [.lit (.bool false)], args := [d] }
  | _ => none }
def FragmentDecodesWrongFalsely : Prop := fragmentDecodesRow.holds Try.pinned (OpenSpec.ofChange fragmentDecodesWrong)

/-- 'hopmeshlaw15.FragmentBack': WHATEVER THE INPUT: true; the input reads as it did. -/
def fragmentBackSpec : ChangeSpec := { name := "fragmentBack", fn := fun _ => fun
  | [d1, d2, d3] => { results := [.lit (.bool true)], args := [d1, d2, d3] }
  | _ => none }
def fragmentBackRow : OpenClaim := { program := "ytfobgjhjigkigaa", sum := "81c1296f6b01b6f4b1c2e0990abb537e6cced72f32f1ba819ed60d352f78afff", func := "hopmesh/hopmeshlaw15.FragmentBack", spec := "fragmentBack", inPlace := ["internal/abi.NoEscape", "internal/bytealg.MakeNoZero"], unfollowed := true, recurses := true, apart := false }
def FragmentBackSaid : Prop := fragmentBackRow.holds Try.pinned (OpenSpec.ofChange fragmentBackSpec)

/-- ITS FALSE NEIGHBOUR: 'it returns false'. Refute it at one input. -/
def fragmentBackWrong : ChangeSpec := { name := "fragmentBack", fn := fun _ => fun
  | [d1, d2, d3] => { results := [.lit (.bool false)], args := [d1, d2, d3] }
  | _ => none }
def FragmentBackWrongFalsely : Prop := fragmentBackRow.holds Try.pinned (OpenSpec.ofChange fragmentBackWrong)

/-- 'hopmeshlaw15.FragmentReceives': WHATEVER THE INPUT: true; the input reads as it did. -/
def fragmentReceivesSpec : ChangeSpec := { name := "fragmentReceives", fn := fun _ => fun
  | [d1, d2] => { results := [.lit (.bool true)], args := [d1, d2] }
  | _ => none }
def fragmentReceivesRow : OpenClaim := { program := "ytfobgjhjigkigaa", sum := "81c1296f6b01b6f4b1c2e0990abb537e6cced72f32f1ba819ed60d352f78afff", func := "hopmesh/hopmeshlaw15.FragmentReceives", spec := "fragmentReceives", inPlace := ["internal/abi.NoEscape", "internal/bytealg.MakeNoZero"], unfollowed := true, recurses := true, apart := false }
def FragmentReceivesSaid : Prop := fragmentReceivesRow.holds Try.pinned (OpenSpec.ofChange fragmentReceivesSpec)

/-- ITS FALSE NEIGHBOUR: 'it returns false'. Refute it at one input. -/
def fragmentReceivesWrong : ChangeSpec := { name := "fragmentReceives", fn := fun _ => fun
  | [d1, d2] => { results := [.lit (.bool false)], args := [d1, d2] }
  | _ => none }
def FragmentReceivesWrongFalsely : Prop := fragmentReceivesRow.holds Try.pinned (OpenSpec.ofChange fragmentReceivesWrong)

/-- 'hopmeshlaw15.FragmentForgets': WHATEVER THE INPUT: true; the input reads as it did. -/
def fragmentForgetsSpec : ChangeSpec := { name := "fragmentForgets", fn := fun _ => fun
  | [d1, d2, d3] => { results := [.lit (.bool true)], args := [d1, d2, d3] }
  | _ => none }
def fragmentForgetsRow : OpenClaim := { program := "ytfobgjhjigkigaa", sum := "81c1296f6b01b6f4b1c2e0990abb537e6cced72f32f1ba819ed60d352f78afff", func := "hopmesh/hopmeshlaw15.FragmentForgets", spec := "fragmentForgets", inPlace := ["internal/abi.NoEscape", "internal/bytealg.MakeNoZero"], unfollowed := true, recurses := true, apart := false }
def FragmentForgetsSaid : Prop := fragmentForgetsRow.holds Try.pinned (OpenSpec.ofChange fragmentForgetsSpec)

/-- ITS FALSE NEIGHBOUR: 'it returns false'. Refute it at one input. -/
def fragmentForgetsWrong : ChangeSpec := { name := "fragmentForgets", fn := fun _ => fun
  | [d1, d2, d3] => { results := [.lit (.bool false)], args := [d1, d2, d3] }
  | _ => none }
def FragmentForgetsWrongFalsely : Prop := fragmentForgetsRow.holds Try.pinned (OpenSpec.ofChange fragmentForgetsWrong)

/-- 'hopmeshlaw15.FragmentTags': WHATEVER THE INPUT: true; the input reads as it did. -/
def fragmentTagsSpec : ChangeSpec := { name := "fragmentTags", fn := fun _ => fun
  | [d] => { results := [.lit (.bool true)], args := [d] }
  | _ => none }
def fragmentTagsRow : OpenClaim := { program := "ytfobgjhjigkigaa", sum := "81c1296f6b01b6f4b1c2e0990abb537e6cced72f32f1ba819ed60d352f78afff", func := "hopmesh/hopmeshlaw15.FragmentTags", spec := "fragmentTags", inPlace := ["internal/abi.NoEscape", "internal/bytealg.MakeNoZero"], unfollowed := true, recurses := true, apart := false }
def FragmentTagsSaid : Prop := fragmentTagsRow.holds Try.pinned (OpenSpec.ofChange fragmentTagsSpec)

/-- ITS FALSE NEIGHBOUR: 'it returns false'. Refute it at one input. -/
def fragmentTagsWrong : ChangeSpec := { name := "fragmentTags", fn := fun _ => fun
  | [d] => { results := [.lit (.bool false)], args := [d] }
  | _ => none }
def FragmentTagsWrongFalsely : Prop := fragmentTagsRow.holds Try.pinned (OpenSpec.ofChange fragmentTagsWrong)

/- THE SECOND FORM. 'bulk': how many values and letters a reading holds, each counted each time it is reached (what is shared counts as often as it is met; a slice's spare places count too). A statement '..UptoSaid' is the law's where the arguments, and the package variables that the reading takes, are together of bulk at most 1048576: NARROWER than '..Said'. Prove '..Said' where nothing that the law and all that it calls make is longer than what came in: it says more and counts as full. Else prove '..UptoSaid'. A law counts once. -/
mutual
def uptoBulk {H : Type} : DataW H → Nat
  | .lit (.string bytes) => bytes.length + 1
  | .lit _ => 1
  | .nil => 1
  | .ptr d => uptoBulk d + 1
  | .slice elems spare => uptoBulkAll elems + uptoBulkAll spare + 1
  | .agg parts => uptoBulkAll parts + 1
  | .iface _ d => uptoBulk d + 1
  | .map entries => uptoBulkEntries entries + 1
  | .held _ => 1
def uptoBulkAll {H : Type} : List (DataW H) → Nat
  | [] => 0
  | d :: r => uptoBulk d + uptoBulkAll r
def uptoBulkEntries {H : Type} : List (Lit × DataW H) → Nat
  | [] => 0
  | x :: r => uptoBulkEntry x + uptoBulkEntries r
def uptoBulkEntry {H : Type} : Lit × DataW H → Nat
  | (.string bytes, d) => bytes.length + uptoBulk d + 1
  | (_, d) => uptoBulk d + 1
 end
def uptoSmall : (H : Type) → List (DataW H) → Bool := fun _ ds => decide (uptoBulkAll ds ≤ 1048576)
def OpenSpec.upto (s : _root_.Go.ChangeSpec) : _root_.Go.OpenSpec := { _root_.Go.OpenSpec.ofChange s with cond := some uptoSmall }

/-- 'hopmeshlaw15.FragmentSplits', WHERE WHAT IT READS IS OF BULK AT MOST 1048576: true; the input reads as it did. -/
def fragmentSplitsUptoRow : OpenClaim := { program := "ytfobgjhjigkigaa", sum := "81c1296f6b01b6f4b1c2e0990abb537e6cced72f32f1ba819ed60d352f78afff", func := "hopmesh/hopmeshlaw15.FragmentSplits", spec := "fragmentSplits", inPlace := ["internal/abi.NoEscape", "internal/bytealg.MakeNoZero"], unfollowed := true, recurses := true, apart := false, narrowed := true }
def FragmentSplitsUptoSaid : Prop := fragmentSplitsUptoRow.holds Try.pinned (OpenSpec.upto fragmentSplitsSpec)

/-- 'hopmeshlaw15.FragmentWhole', WHERE WHAT IT READS IS OF BULK AT MOST 1048576: true; the input reads as it did. -/
def fragmentWholeUptoRow : OpenClaim := { program := "ytfobgjhjigkigaa", sum := "81c1296f6b01b6f4b1c2e0990abb537e6cced72f32f1ba819ed60d352f78afff", func := "hopmesh/hopmeshlaw15.FragmentWhole", spec := "fragmentWhole", inPlace := ["internal/abi.NoEscape", "internal/bytealg.MakeNoZero"], unfollowed := true, recurses := true, apart := false, narrowed := true }
def FragmentWholeUptoSaid : Prop := fragmentWholeUptoRow.holds Try.pinned (OpenSpec.upto fragmentWholeSpec)

/-- 'hopmeshlaw15.FragmentDecodes', WHERE WHAT IT READS IS OF BULK AT MOST 1048576: true; the input reads as it did. -/
def fragmentDecodesUptoRow : OpenClaim := { program := "ytfobgjhjigkigaa", sum := "81c1296f6b01b6f4b1c2e0990abb537e6cced72f32f1ba819ed60d352f78afff", func := "hopmesh/hopmeshlaw15.FragmentDecodes", spec := "fragmentDecodes", inPlace := ["internal/abi.NoEscape", "internal/bytealg.MakeNoZero"], unfollowed := true, recurses := true, apart := false, narrowed := true }
def FragmentDecodesUptoSaid : Prop := fragmentDecodesUptoRow.holds Try.pinned (OpenSpec.upto fragmentDecodesSpec)

/-- 'hopmeshlaw15.FragmentBack', WHERE WHAT IT READS IS OF BULK AT MOST 1048576: true; the input reads as it did. -/
def fragmentBackUptoRow : OpenClaim := { program := "ytfobgjhjigkigaa", sum := "81c1296f6b01b6f4b1c2e0990abb537e6cced72f32f1ba819ed60d352f78afff", func := "hopmesh/hopmeshlaw15.FragmentBack", spec := "fragmentBack", inPlace := ["internal/abi.NoEscape", "internal/bytealg.MakeNoZero"], unfollowed := true, recurses := true, apart := false, narrowed := true }
def FragmentBackUptoSaid : Prop := fragmentBackUptoRow.holds Try.pinned (OpenSpec.upto fragmentBackSpec)

/-- 'hopmeshlaw15.FragmentReceives', WHERE WHAT IT READS IS OF BULK AT MOST 1048576: true; the input reads as it did. -/
def fragmentReceivesUptoRow : OpenClaim := { program := "ytfobgjhjigkigaa", sum := "81c1296f6b01b6f4b1c2e0990abb537e6cced72f32f1ba819ed60d352f78afff", func := "hopmesh/hopmeshlaw15.FragmentReceives", spec := "fragmentReceives", inPlace := ["internal/abi.NoEscape", "internal/bytealg.MakeNoZero"], unfollowed := true, recurses := true, apart := false, narrowed := true }
def FragmentReceivesUptoSaid : Prop := fragmentReceivesUptoRow.holds Try.pinned (OpenSpec.upto fragmentReceivesSpec)

/-- 'hopmeshlaw15.FragmentForgets', WHERE WHAT IT READS IS OF BULK AT MOST 1048576: true; the input reads as it did. -/
def fragmentForgetsUptoRow : OpenClaim := { program := "ytfobgjhjigkigaa", sum := "81c1296f6b01b6f4b1c2e0990abb537e6cced72f32f1ba819ed60d352f78afff", func := "hopmesh/hopmeshlaw15.FragmentForgets", spec := "fragmentForgets", inPlace := ["internal/abi.NoEscape", "internal/bytealg.MakeNoZero"], unfollowed := true, recurses := true, apart := false, narrowed := true }
def FragmentForgetsUptoSaid : Prop := fragmentForgetsUptoRow.holds Try.pinned (OpenSpec.upto fragmentForgetsSpec)

/-- 'hopmeshlaw15.FragmentTags', WHERE WHAT IT READS IS OF BULK AT MOST 1048576: true; the input reads as it did. -/
def fragmentTagsUptoRow : OpenClaim := { program := "ytfobgjhjigkigaa", sum := "81c1296f6b01b6f4b1c2e0990abb537e6cced72f32f1ba819ed60d352f78afff", func := "hopmesh/hopmeshlaw15.FragmentTags", spec := "fragmentTags", inPlace := ["internal/abi.NoEscape", "internal/bytealg.MakeNoZero"], unfollowed := true, recurses := true, apart := false, narrowed := true }
def FragmentTagsUptoSaid : Prop := fragmentTagsUptoRow.holds Try.pinned (OpenSpec.upto fragmentTagsSpec)

end Rows
end Go.Proofs.Ytfobgjhjigkigaa
