/-
  No cell of these rows narrows 'for every input' (looked for: loops, veiled, ifaces, maps, wideKeys, modest, calm, conditions, laid).
  DERIVED. THE GIVEN ROWS OF THIS SEAT. 7 by the template 'for every input the law returns true; each argument reads behind the call as it read before'; 0 by the template 'total and deterministic' (their statements: YthnjhgfnojldcaaTotals.lean).
  GIVEN WITH THE SEED: the statements are not yours to turn. If you find one false, say at which input.
  Laid BY PROGRAM, IN A SANDBOX (cutbox-rows.mjs): the forced cells as the released guide's own fill.sh prints them over the translation 4f06d0ed7a46fc25… (all of the seat's roots in one cut). By AI agents, Wed Nov 11 2026. No macro, syntax, notation, axiom, sorry.
-/
import Derived.Test.YthnjhgfnojldcaaChecked
import GoSem.Claim
import GoSem.ClaimJoined
import GoSem.ClaimMapViews
import Derived.JoinedTies
import Derived.KernelRfl
namespace Go.Proofs.Ythnjhgfnojldcaa
/- THE CELL 'sum', in the pinned program and in every row, IS THE sha256 OF THE DUMP (.gsa) THAT YthnjhgfnojldcaaProg.lean LOADS. Nothing in Lean hashes anything: it is a label: what it is worth is what the hold of that sum in a sandbox is worth. -/
noncomputable def Try.pinned : Pinned := { name := "ythnjhgfnojldcaa", sum := "4f06d0ed7a46fc2529c66d92c184ca4511eaf278e24f821f665cec1cc2bc5baf", checked := Try.checked }
namespace Rows
def none {H : Type} : Left H := { results := [], args := [] }

/-- 'hopmeshlaw31.NetworkChecks': WHATEVER THE INPUT: true; the input reads as it did. -/
def networkChecksSpec : ChangeSpec := { name := "networkChecks", fn := fun _ => fun
  | [d1, d2, d3] => { results := [.lit (.bool true)], args := [d1, d2, d3] }
  | _ => none }
def networkChecksRow : OpenClaim := { program := "ythnjhgfnojldcaa", sum := "4f06d0ed7a46fc2529c66d92c184ca4511eaf278e24f821f665cec1cc2bc5baf", func := "hopmesh/hopmeshlaw31.NetworkChecks", spec := "networkChecks", unfollowed := true, recurses := true, apart := false }
def NetworkChecksSaid : Prop := networkChecksRow.holds Try.pinned (OpenSpec.ofChange networkChecksSpec)

/-- ITS FALSE NEIGHBOUR: 'it returns false'. Refute it at one input. -/
def networkChecksWrong : ChangeSpec := { name := "networkChecks", fn := fun _ => fun
  | [d1, d2, d3] => { results := [.lit (.bool false)], args := [d1, d2, d3] }
  | _ => none }
def NetworkChecksWrongFalsely : Prop := networkChecksRow.holds Try.pinned (OpenSpec.ofChange networkChecksWrong)

/-- 'hopmeshlaw31.NetworkHears': WHATEVER THE INPUT: true; the input reads as it did. -/
def networkHearsSpec : ChangeSpec := { name := "networkHears", fn := fun _ => fun
  | [d1, d2, d3, d4] => { results := [.lit (.bool true)], args := [d1, d2, d3, d4] }
  | _ => none }
def networkHearsRow : OpenClaim := { program := "ythnjhgfnojldcaa", sum := "4f06d0ed7a46fc2529c66d92c184ca4511eaf278e24f821f665cec1cc2bc5baf", func := "hopmesh/hopmeshlaw31.NetworkHears", spec := "networkHears", unfollowed := true, recurses := true, apart := false }
def NetworkHearsSaid : Prop := networkHearsRow.holds Try.pinned (OpenSpec.ofChange networkHearsSpec)

/-- ITS FALSE NEIGHBOUR: 'it returns false'. Refute it at one input. -/
def networkHearsWrong : ChangeSpec := { name := "networkHears", fn := fun _ => fun
  | [d1, d2, d3, d4] => { results := [.lit (.bool false)], args := [d1, d2, d3, d4] }
  | _ => none }
def NetworkHearsWrongFalsely : Prop := networkHearsRow.holds Try.pinned (OpenSpec.ofChange networkHearsWrong)

/-- 'hopmeshlaw31.NetworkMonotone': WHATEVER THE INPUT: true; the input reads as it did. -/
def networkMonotoneSpec : ChangeSpec := { name := "networkMonotone", fn := fun _ => fun
  | [d1, d2, d3, d4, d5] => { results := [.lit (.bool true)], args := [d1, d2, d3, d4, d5] }
  | _ => none }
def networkMonotoneRow : OpenClaim := { program := "ythnjhgfnojldcaa", sum := "4f06d0ed7a46fc2529c66d92c184ca4511eaf278e24f821f665cec1cc2bc5baf", func := "hopmesh/hopmeshlaw31.NetworkMonotone", spec := "networkMonotone", unfollowed := true, recurses := true, apart := false }
def NetworkMonotoneSaid : Prop := networkMonotoneRow.holds Try.pinned (OpenSpec.ofChange networkMonotoneSpec)

/-- ITS FALSE NEIGHBOUR: 'it returns false'. Refute it at one input. -/
def networkMonotoneWrong : ChangeSpec := { name := "networkMonotone", fn := fun _ => fun
  | [d1, d2, d3, d4, d5] => { results := [.lit (.bool false)], args := [d1, d2, d3, d4, d5] }
  | _ => none }
def NetworkMonotoneWrongFalsely : Prop := networkMonotoneRow.holds Try.pinned (OpenSpec.ofChange networkMonotoneWrong)

/-- 'hopmeshlaw31.NetworkReaches': WHATEVER THE INPUT: true; the input reads as it did. -/
def networkReachesSpec : ChangeSpec := { name := "networkReaches", fn := fun _ => fun
  | [d1, d2] => { results := [.lit (.bool true)], args := [d1, d2] }
  | _ => none }
def networkReachesRow : OpenClaim := { program := "ythnjhgfnojldcaa", sum := "4f06d0ed7a46fc2529c66d92c184ca4511eaf278e24f821f665cec1cc2bc5baf", func := "hopmesh/hopmeshlaw31.NetworkReaches", spec := "networkReaches", unfollowed := true, recurses := true, apart := false }
def NetworkReachesSaid : Prop := networkReachesRow.holds Try.pinned (OpenSpec.ofChange networkReachesSpec)

/-- ITS FALSE NEIGHBOUR: 'it returns false'. Refute it at one input. -/
def networkReachesWrong : ChangeSpec := { name := "networkReaches", fn := fun _ => fun
  | [d1, d2] => { results := [.lit (.bool false)], args := [d1, d2] }
  | _ => none }
def NetworkReachesWrongFalsely : Prop := networkReachesRow.holds Try.pinned (OpenSpec.ofChange networkReachesWrong)

/-- 'hopmeshlaw31.NetworkBack': WHATEVER THE INPUT: true; the input reads as it did. -/
def networkBackSpec : ChangeSpec := { name := "networkBack", fn := fun _ => fun
  | [d] => { results := [.lit (.bool true)], args := [d] }
  | _ => none }
def networkBackRow : OpenClaim := { program := "ythnjhgfnojldcaa", sum := "4f06d0ed7a46fc2529c66d92c184ca4511eaf278e24f821f665cec1cc2bc5baf", func := "hopmesh/hopmeshlaw31.NetworkBack", spec := "networkBack", unfollowed := true, recurses := true, apart := false }
def NetworkBackSaid : Prop := networkBackRow.holds Try.pinned (OpenSpec.ofChange networkBackSpec)

/-- ITS FALSE NEIGHBOUR: 'it returns false'. Refute it at one input. -/
def networkBackWrong : ChangeSpec := { name := "networkBack", fn := fun _ => fun
  | [d] => { results := [.lit (.bool false)], args := [d] }
  | _ => none }
def NetworkBackWrongFalsely : Prop := networkBackRow.holds Try.pinned (OpenSpec.ofChange networkBackWrong)

/-- 'hopmeshlaw31.NetworkEdits': WHATEVER THE INPUT: true; the input reads as it did. -/
def networkEditsSpec : ChangeSpec := { name := "networkEdits", fn := fun _ => fun
  | [d1, d2, d3, d4] => { results := [.lit (.bool true)], args := [d1, d2, d3, d4] }
  | _ => none }
def networkEditsRow : OpenClaim := { program := "ythnjhgfnojldcaa", sum := "4f06d0ed7a46fc2529c66d92c184ca4511eaf278e24f821f665cec1cc2bc5baf", func := "hopmesh/hopmeshlaw31.NetworkEdits", spec := "networkEdits", unfollowed := true, recurses := true, apart := false }
def NetworkEditsSaid : Prop := networkEditsRow.holds Try.pinned (OpenSpec.ofChange networkEditsSpec)

/-- ITS FALSE NEIGHBOUR: 'it returns false'. Refute it at one input. -/
def networkEditsWrong : ChangeSpec := { name := "networkEdits", fn := fun _ => fun
  | [d1, d2, d3, d4] => { results := [.lit (.bool false)], args := [d1, d2, d3, d4] }
  | _ => none }
def NetworkEditsWrongFalsely : Prop := networkEditsRow.holds Try.pinned (OpenSpec.ofChange networkEditsWrong)

/-- 'hopmeshlaw31.NetworkLess': WHATEVER THE INPUT: true; the input reads as it did. -/
def networkLessSpec : ChangeSpec := { name := "networkLess", fn := fun _ => fun
  | [d1, d2, d3] => { results := [.lit (.bool true)], args := [d1, d2, d3] }
  | _ => none }
def networkLessRow : OpenClaim := { program := "ythnjhgfnojldcaa", sum := "4f06d0ed7a46fc2529c66d92c184ca4511eaf278e24f821f665cec1cc2bc5baf", func := "hopmesh/hopmeshlaw31.NetworkLess", spec := "networkLess", unfollowed := true, recurses := true, apart := false }
def NetworkLessSaid : Prop := networkLessRow.holds Try.pinned (OpenSpec.ofChange networkLessSpec)

/-- ITS FALSE NEIGHBOUR: 'it returns false'. Refute it at one input. -/
def networkLessWrong : ChangeSpec := { name := "networkLess", fn := fun _ => fun
  | [d1, d2, d3] => { results := [.lit (.bool false)], args := [d1, d2, d3] }
  | _ => none }
def NetworkLessWrongFalsely : Prop := networkLessRow.holds Try.pinned (OpenSpec.ofChange networkLessWrong)

/- THE SECOND FORM. 'bulk': how many values and letters a reading holds, each counted each time it is reached (what is shared counts as often as it is met; a slice's spare places count too). A statement '..UptoSaid' is the law's where the arguments, and the package variables that the reading takes, are together of bulk at most 1048576: NARROWER than '..Said'. Prove '..Said' where nothing that the law and all that it calls make is longer than what came in: it says more and counts as full. Else prove '..UptoSaid'. A law counts once. -/
mutual
def uptoBulk {H : Type} : DataW H → Nat
  | .lit (.string bytes) => bytes.length + 1
  | .lit _ => 1
  | .nil => 1
  | .ptr d => uptoBulk d + 1
  | .slice elems spare => uptoBulkAll elems + uptoBulkAll spare + 1
  | .agg parts => uptoBulkAll parts + 1
  | .iface _ d => uptoBulk d + 1
  | .map entries => uptoBulkEntries entries + 1
  | .held _ => 1
def uptoBulkAll {H : Type} : List (DataW H) → Nat
  | [] => 0
  | d :: r => uptoBulk d + uptoBulkAll r
def uptoBulkEntries {H : Type} : List (Lit × DataW H) → Nat
  | [] => 0
  | x :: r => uptoBulkEntry x + uptoBulkEntries r
def uptoBulkEntry {H : Type} : Lit × DataW H → Nat
  | (.string bytes, d) => bytes.length + uptoBulk d + 1
  | (_, d) => uptoBulk d + 1
 end
def uptoSmall : (H : Type) → List (DataW H) → Bool := fun _ ds => decide (uptoBulkAll ds ≤ 1048576)
def OpenSpec.upto (s : _root_.Go.ChangeSpec) : _root_.Go.OpenSpec := { _root_.Go.OpenSpec.ofChange s with cond := some uptoSmall }

/-- 'hopmeshlaw31.NetworkChecks', WHERE WHAT IT READS IS OF BULK AT MOST 1048576: true; the input reads as it did. -/
def networkChecksUptoRow : OpenClaim := { program := "ythnjhgfnojldcaa", sum := "4f06d0ed7a46fc2529c66d92c184ca4511eaf278e24f821f665cec1cc2bc5baf", func := "hopmesh/hopmeshlaw31.NetworkChecks", spec := "networkChecks", unfollowed := true, recurses := true, apart := false, narrowed := true }
def NetworkChecksUptoSaid : Prop := networkChecksUptoRow.holds Try.pinned (OpenSpec.upto networkChecksSpec)

/-- 'hopmeshlaw31.NetworkHears', WHERE WHAT IT READS IS OF BULK AT MOST 1048576: true; the input reads as it did. -/
def networkHearsUptoRow : OpenClaim := { program := "ythnjhgfnojldcaa", sum := "4f06d0ed7a46fc2529c66d92c184ca4511eaf278e24f821f665cec1cc2bc5baf", func := "hopmesh/hopmeshlaw31.NetworkHears", spec := "networkHears", unfollowed := true, recurses := true, apart := false, narrowed := true }
def NetworkHearsUptoSaid : Prop := networkHearsUptoRow.holds Try.pinned (OpenSpec.upto networkHearsSpec)

/-- 'hopmeshlaw31.NetworkMonotone', WHERE WHAT IT READS IS OF BULK AT MOST 1048576: true; the input reads as it did. -/
def networkMonotoneUptoRow : OpenClaim := { program := "ythnjhgfnojldcaa", sum := "4f06d0ed7a46fc2529c66d92c184ca4511eaf278e24f821f665cec1cc2bc5baf", func := "hopmesh/hopmeshlaw31.NetworkMonotone", spec := "networkMonotone", unfollowed := true, recurses := true, apart := false, narrowed := true }
def NetworkMonotoneUptoSaid : Prop := networkMonotoneUptoRow.holds Try.pinned (OpenSpec.upto networkMonotoneSpec)

/-- 'hopmeshlaw31.NetworkReaches', WHERE WHAT IT READS IS OF BULK AT MOST 1048576: true; the input reads as it did. -/
def networkReachesUptoRow : OpenClaim := { program := "ythnjhgfnojldcaa", sum := "4f06d0ed7a46fc2529c66d92c184ca4511eaf278e24f821f665cec1cc2bc5baf", func := "hopmesh/hopmeshlaw31.NetworkReaches", spec := "networkReaches", unfollowed := true, recurses := true, apart := false, narrowed := true }
def NetworkReachesUptoSaid : Prop := networkReachesUptoRow.holds Try.pinned (OpenSpec.upto networkReachesSpec)

/-- 'hopmeshlaw31.NetworkBack', WHERE WHAT IT READS IS OF BULK AT MOST 1048576: true; the input reads as it did. -/
def networkBackUptoRow : OpenClaim := { program := "ythnjhgfnojldcaa", sum := "4f06d0ed7a46fc2529c66d92c184ca4511eaf278e24f821f665cec1cc2bc5baf", func := "hopmesh/hopmeshlaw31.NetworkBack", spec := "networkBack", unfollowed := true, recurses := true, apart := false, narrowed := true }
def NetworkBackUptoSaid : Prop := networkBackUptoRow.holds Try.pinned (OpenSpec.upto networkBackSpec)

/-- 'hopmeshlaw31.NetworkEdits', WHERE WHAT IT READS IS OF BULK AT MOST 1048576: true; the input reads as it did. -/
def networkEditsUptoRow : OpenClaim := { program := "ythnjhgfnojldcaa", sum := "4f06d0ed7a46fc2529c66d92c184ca4511eaf278e24f821f665cec1cc2bc5baf", func := "hopmesh/hopmeshlaw31.NetworkEdits", spec := "networkEdits", unfollowed := true, recurses := true, apart := false, narrowed := true }
def NetworkEditsUptoSaid : Prop := networkEditsUptoRow.holds Try.pinned (OpenSpec.upto networkEditsSpec)

/-- 'hopmeshlaw31.NetworkLess', WHERE WHAT IT READS IS OF BULK AT MOST 1048576: true; the input reads as it did. -/
def networkLessUptoRow : OpenClaim := { program := "ythnjhgfnojldcaa", sum := "4f06d0ed7a46fc2529c66d92c184ca4511eaf278e24f821f665cec1cc2bc5baf", func := "hopmesh/hopmeshlaw31.NetworkLess", spec := "networkLess", unfollowed := true, recurses := true, apart := false, narrowed := true }
def NetworkLessUptoSaid : Prop := networkLessUptoRow.holds Try.pinned (OpenSpec.upto networkLessSpec)

end Rows
end Go.Proofs.Ythnjhgfnojldcaa
