/-
  No cell of these rows narrows 'for every input' (looked for: loops, veiled, ifaces, maps, wideKeys, modest, calm, conditions, laid).
  DERIVED. THE GIVEN ROWS OF THIS SEAT. 7 by the template 'for every input the law returns true; each argument reads behind the call as it read before'; 0 by the template 'total and deterministic' (their statements: YtjkhlgpilcamjaaTotals.lean).
  GIVEN WITH THE SEED: the statements are not yours to turn. If you find one false, say at which input.
  Laid BY PROGRAM, IN A SANDBOX (cutbox-rows.mjs): the forced cells as the released guide's own fill.sh prints them over the translation c077677d7c53eb36… (all of the seat's roots in one cut). By AI agents, Wed Nov 11 2026. No macro, syntax, notation, axiom, sorry.
-/
import Derived.Test.YtjkhlgpilcamjaaChecked
import GoSem.Claim
import GoSem.ClaimJoined
import GoSem.ClaimMapViews
import Derived.JoinedTies
import Derived.KernelRfl
namespace Go.Proofs.Ytjkhlgpilcamjaa
/- THE CELL 'sum', in the pinned program and in every row, IS THE sha256 OF THE DUMP (.gsa) THAT YtjkhlgpilcamjaaProg.lean LOADS. Nothing in Lean hashes anything: it is a label: what it is worth is what the hold of that sum in a sandbox is worth. -/
noncomputable def Try.pinned : Pinned := { name := "ytjkhlgpilcamjaa", sum := "c077677d7c53eb36b08209901c3d6d670ddc3ee770ee50c9c2ef0a4d4ca2314e", checked := Try.checked }
namespace Rows
def none {H : Type} : Left H := { results := [], args := [] }

/-- 'hopmeshlaw22.RankChecks': WHATEVER THE INPUT: true; the input reads as it did. -/
def rankChecksSpec : ChangeSpec := { name := "rankChecks", fn := fun _ => fun
  | [d1, d2, d3, d4] => { results := [.lit (.bool true)], args := [d1, d2, d3, d4] }
  | _ => none }
def rankChecksRow : OpenClaim := { program := "ytjkhlgpilcamjaa", sum := "c077677d7c53eb36b08209901c3d6d670ddc3ee770ee50c9c2ef0a4d4ca2314e", func := "hopmesh/hopmeshlaw22.RankChecks", spec := "rankChecks", unfollowed := true, recurses := true, apart := false }
def RankChecksSaid : Prop := rankChecksRow.holds Try.pinned (OpenSpec.ofChange rankChecksSpec)

/-- ITS FALSE NEIGHBOUR: 'it returns false'. Refute it at one input. -/
def rankChecksWrong : ChangeSpec := { name := "rankChecks", fn := fun _ => fun
  | [d1, d2, d3, d4] => { results := [.lit (.bool false)], args := [d1, d2, d3, d4] }
  | _ => none }
def RankChecksWrongFalsely : Prop := rankChecksRow.holds Try.pinned (OpenSpec.ofChange rankChecksWrong)

/-- 'hopmeshlaw22.RankAdopts': WHATEVER THE INPUT: true; the input reads as it did. -/
def rankAdoptsSpec : ChangeSpec := { name := "rankAdopts", fn := fun _ => fun
  | [d1, d2, d3, d4, d5] => { results := [.lit (.bool true)], args := [d1, d2, d3, d4, d5] }
  | _ => none }
def rankAdoptsRow : OpenClaim := { program := "ytjkhlgpilcamjaa", sum := "c077677d7c53eb36b08209901c3d6d670ddc3ee770ee50c9c2ef0a4d4ca2314e", func := "hopmesh/hopmeshlaw22.RankAdopts", spec := "rankAdopts", unfollowed := true, recurses := true, apart := false }
def RankAdoptsSaid : Prop := rankAdoptsRow.holds Try.pinned (OpenSpec.ofChange rankAdoptsSpec)

/-- ITS FALSE NEIGHBOUR: 'it returns false'. Refute it at one input. -/
def rankAdoptsWrong : ChangeSpec := { name := "rankAdopts", fn := fun _ => fun
  | [d1, d2, d3, d4, d5] => { results := [.lit (.bool false)], args := [d1, d2, d3, d4, d5] }
  | _ => none }
def RankAdoptsWrongFalsely : Prop := rankAdoptsRow.holds Try.pinned (OpenSpec.ofChange rankAdoptsWrong)

/-- 'hopmeshlaw22.RankAdvertises': WHATEVER THE INPUT: true; the input reads as it did. -/
def rankAdvertisesSpec : ChangeSpec := { name := "rankAdvertises", fn := fun _ => fun
  | [d] => { results := [.lit (.bool true)], args := [d] }
  | _ => none }
def rankAdvertisesRow : OpenClaim := { program := "ytjkhlgpilcamjaa", sum := "c077677d7c53eb36b08209901c3d6d670ddc3ee770ee50c9c2ef0a4d4ca2314e", func := "hopmesh/hopmeshlaw22.RankAdvertises", spec := "rankAdvertises", unfollowed := true, recurses := true, apart := false }
def RankAdvertisesSaid : Prop := rankAdvertisesRow.holds Try.pinned (OpenSpec.ofChange rankAdvertisesSpec)

/-- ITS FALSE NEIGHBOUR: 'it returns false'. Refute it at one input. -/
def rankAdvertisesWrong : ChangeSpec := { name := "rankAdvertises", fn := fun _ => fun
  | [d] => { results := [.lit (.bool false)], args := [d] }
  | _ => none }
def RankAdvertisesWrongFalsely : Prop := rankAdvertisesRow.holds Try.pinned (OpenSpec.ofChange rankAdvertisesWrong)

/-- 'hopmeshlaw22.RankNoCycle': WHATEVER THE INPUT: true; the input reads as it did. -/
def rankNoCycleSpec : ChangeSpec := { name := "rankNoCycle", fn := fun _ => fun
  | [d1, d2] => { results := [.lit (.bool true)], args := [d1, d2] }
  | _ => none }
def rankNoCycleRow : OpenClaim := { program := "ytjkhlgpilcamjaa", sum := "c077677d7c53eb36b08209901c3d6d670ddc3ee770ee50c9c2ef0a4d4ca2314e", func := "hopmesh/hopmeshlaw22.RankNoCycle", spec := "rankNoCycle", unfollowed := true, recurses := true, apart := false }
def RankNoCycleSaid : Prop := rankNoCycleRow.holds Try.pinned (OpenSpec.ofChange rankNoCycleSpec)

/-- ITS FALSE NEIGHBOUR: 'it returns false'. Refute it at one input. -/
def rankNoCycleWrong : ChangeSpec := { name := "rankNoCycle", fn := fun _ => fun
  | [d1, d2] => { results := [.lit (.bool false)], args := [d1, d2] }
  | _ => none }
def RankNoCycleWrongFalsely : Prop := rankNoCycleRow.holds Try.pinned (OpenSpec.ofChange rankNoCycleWrong)

/-- 'hopmeshlaw22.RankFalls': WHATEVER THE INPUT: true; the input reads as it did. -/
def rankFallsSpec : ChangeSpec := { name := "rankFalls", fn := fun _ => fun
  | [d1, d2] => { results := [.lit (.bool true)], args := [d1, d2] }
  | _ => none }
def rankFallsRow : OpenClaim := { program := "ytjkhlgpilcamjaa", sum := "c077677d7c53eb36b08209901c3d6d670ddc3ee770ee50c9c2ef0a4d4ca2314e", func := "hopmesh/hopmeshlaw22.RankFalls", spec := "rankFalls", unfollowed := true, recurses := true, apart := false }
def RankFallsSaid : Prop := rankFallsRow.holds Try.pinned (OpenSpec.ofChange rankFallsSpec)

/-- ITS FALSE NEIGHBOUR: 'it returns false'. Refute it at one input. -/
def rankFallsWrong : ChangeSpec := { name := "rankFalls", fn := fun _ => fun
  | [d1, d2] => { results := [.lit (.bool false)], args := [d1, d2] }
  | _ => none }
def RankFallsWrongFalsely : Prop := rankFallsRow.holds Try.pinned (OpenSpec.ofChange rankFallsWrong)

/-- 'hopmeshlaw22.RankStays': WHATEVER THE INPUT: true; the input reads as it did. -/
def rankStaysSpec : ChangeSpec := { name := "rankStays", fn := fun _ => fun
  | [d1, d2, d3, d4, d5] => { results := [.lit (.bool true)], args := [d1, d2, d3, d4, d5] }
  | _ => none }
def rankStaysRow : OpenClaim := { program := "ytjkhlgpilcamjaa", sum := "c077677d7c53eb36b08209901c3d6d670ddc3ee770ee50c9c2ef0a4d4ca2314e", func := "hopmesh/hopmeshlaw22.RankStays", spec := "rankStays", unfollowed := true, recurses := true, apart := false }
def RankStaysSaid : Prop := rankStaysRow.holds Try.pinned (OpenSpec.ofChange rankStaysSpec)

/-- ITS FALSE NEIGHBOUR: 'it returns false'. Refute it at one input. -/
def rankStaysWrong : ChangeSpec := { name := "rankStays", fn := fun _ => fun
  | [d1, d2, d3, d4, d5] => { results := [.lit (.bool false)], args := [d1, d2, d3, d4, d5] }
  | _ => none }
def RankStaysWrongFalsely : Prop := rankStaysRow.holds Try.pinned (OpenSpec.ofChange rankStaysWrong)

/-- 'hopmeshlaw22.RankSettles': WHATEVER THE INPUT: true; the input reads as it did. -/
def rankSettlesSpec : ChangeSpec := { name := "rankSettles", fn := fun _ => fun
  | [d1, d2, d3] => { results := [.lit (.bool true)], args := [d1, d2, d3] }
  | _ => none }
def rankSettlesRow : OpenClaim := { program := "ytjkhlgpilcamjaa", sum := "c077677d7c53eb36b08209901c3d6d670ddc3ee770ee50c9c2ef0a4d4ca2314e", func := "hopmesh/hopmeshlaw22.RankSettles", spec := "rankSettles", unfollowed := true, recurses := true, apart := false }
def RankSettlesSaid : Prop := rankSettlesRow.holds Try.pinned (OpenSpec.ofChange rankSettlesSpec)

/-- ITS FALSE NEIGHBOUR: 'it returns false'. Refute it at one input. -/
def rankSettlesWrong : ChangeSpec := { name := "rankSettles", fn := fun _ => fun
  | [d1, d2, d3] => { results := [.lit (.bool false)], args := [d1, d2, d3] }
  | _ => none }
def RankSettlesWrongFalsely : Prop := rankSettlesRow.holds Try.pinned (OpenSpec.ofChange rankSettlesWrong)

/- THE SECOND FORM. 'bulk': how many values and letters a reading holds, each counted each time it is reached (what is shared counts as often as it is met; a slice's spare places count too). A statement '..UptoSaid' is the law's where the arguments, and the package variables that the reading takes, are together of bulk at most 1048576: NARROWER than '..Said'. Prove '..Said' where nothing that the law and all that it calls make is longer than what came in: it says more and counts as full. Else prove '..UptoSaid'. A law counts once. -/
mutual
def uptoBulk {H : Type} : DataW H → Nat
  | .lit (.string bytes) => bytes.length + 1
  | .lit _ => 1
  | .nil => 1
  | .ptr d => uptoBulk d + 1
  | .slice elems spare => uptoBulkAll elems + uptoBulkAll spare + 1
  | .agg parts => uptoBulkAll parts + 1
  | .iface _ d => uptoBulk d + 1
  | .map entries => uptoBulkEntries entries + 1
  | .held _ => 1
def uptoBulkAll {H : Type} : List (DataW H) → Nat
  | [] => 0
  | d :: r => uptoBulk d + uptoBulkAll r
def uptoBulkEntries {H : Type} : List (Lit × DataW H) → Nat
  | [] => 0
  | x :: r => uptoBulkEntry x + uptoBulkEntries r
def uptoBulkEntry {H : Type} : Lit × DataW H → Nat
  | (.string bytes, d) => bytes.length + uptoBulk d + 1
  | (_, d) => uptoBulk d + 1
 end
def uptoSmall : (H : Type) → List (DataW H) → Bool := fun _ ds => decide (uptoBulkAll ds ≤ 1048576)
def OpenSpec.upto (s : _root_.Go.ChangeSpec) : _root_.Go.OpenSpec := { _root_.Go.OpenSpec.ofChange s with cond := some uptoSmall }

/-- 'hopmeshlaw22.RankChecks', WHERE WHAT IT READS IS OF BULK AT MOST 1048576: true; the input reads as it did. -/
def rankChecksUptoRow : OpenClaim := { program := "ytjkhlgpilcamjaa", sum := "c077677d7c53eb36b08209901c3d6d670ddc3ee770ee50c9c2ef0a4d4ca2314e", func := "hopmesh/hopmeshlaw22.RankChecks", spec := "rankChecks", unfollowed := true, recurses := true, apart := false, narrowed := true }
def RankChecksUptoSaid : Prop := rankChecksUptoRow.holds Try.pinned (OpenSpec.upto rankChecksSpec)

/-- 'hopmeshlaw22.RankAdopts', WHERE WHAT IT READS IS OF BULK AT MOST 1048576: true; the input reads as it did. -/
def rankAdoptsUptoRow : OpenClaim := { program := "ytjkhlgpilcamjaa", sum := "c077677d7c53eb36b08209901c3d6d670ddc3ee770ee50c9c2ef0a4d4ca2314e", func := "hopmesh/hopmeshlaw22.RankAdopts", spec := "rankAdopts", unfollowed := true, recurses := true, apart := false, narrowed := true }
def RankAdoptsUptoSaid : Prop := rankAdoptsUptoRow.holds Try.pinned (OpenSpec.upto rankAdoptsSpec)

/-- 'hopmeshlaw22.RankAdvertises', WHERE WHAT IT READS IS OF BULK AT MOST 1048576: true; the input reads as it did. -/
def rankAdvertisesUptoRow : OpenClaim := { program := "ytjkhlgpilcamjaa", sum := "c077677d7c53eb36b08209901c3d6d670ddc3ee770ee50c9c2ef0a4d4ca2314e", func := "hopmesh/hopmeshlaw22.RankAdvertises", spec := "rankAdvertises", unfollowed := true, recurses := true, apart := false, narrowed := true }
def RankAdvertisesUptoSaid : Prop := rankAdvertisesUptoRow.holds Try.pinned (OpenSpec.upto rankAdvertisesSpec)

/-- 'hopmeshlaw22.RankNoCycle', WHERE WHAT IT READS IS OF BULK AT MOST 1048576: true; the input reads as it did. -/
def rankNoCycleUptoRow : OpenClaim := { program := "ytjkhlgpilcamjaa", sum := "c077677d7c53eb36b08209901c3d6d670ddc3ee770ee50c9c2ef0a4d4ca2314e", func := "hopmesh/hopmeshlaw22.RankNoCycle", spec := "rankNoCycle", unfollowed := true, recurses := true, apart := false, narrowed := true }
def RankNoCycleUptoSaid : Prop := rankNoCycleUptoRow.holds Try.pinned (OpenSpec.upto rankNoCycleSpec)

/-- 'hopmeshlaw22.RankFalls', WHERE WHAT IT READS IS OF BULK AT MOST 1048576: true; the input reads as it did. -/
def rankFallsUptoRow : OpenClaim := { program := "ytjkhlgpilcamjaa", sum := "c077677d7c53eb36b08209901c3d6d670ddc3ee770ee50c9c2ef0a4d4ca2314e", func := "hopmesh/hopmeshlaw22.RankFalls", spec := "rankFalls", unfollowed := true, recurses := true, apart := false, narrowed := true }
def RankFallsUptoSaid : Prop := rankFallsUptoRow.holds Try.pinned (OpenSpec.upto rankFallsSpec)

/-- 'hopmeshlaw22.RankStays', WHERE WHAT IT READS IS OF BULK AT MOST 1048576: true; the input reads as it did. -/
def rankStaysUptoRow : OpenClaim := { program := "ytjkhlgpilcamjaa", sum := "c077677d7c53eb36b08209901c3d6d670ddc3ee770ee50c9c2ef0a4d4ca2314e", func := "hopmesh/hopmeshlaw22.RankStays", spec := "rankStays", unfollowed := true, recurses := true, apart := false, narrowed := true }
def RankStaysUptoSaid : Prop := rankStaysUptoRow.holds Try.pinned (OpenSpec.upto rankStaysSpec)

/-- 'hopmeshlaw22.RankSettles', WHERE WHAT IT READS IS OF BULK AT MOST 1048576: true; the input reads as it did. -/
def rankSettlesUptoRow : OpenClaim := { program := "ytjkhlgpilcamjaa", sum := "c077677d7c53eb36b08209901c3d6d670ddc3ee770ee50c9c2ef0a4d4ca2314e", func := "hopmesh/hopmeshlaw22.RankSettles", spec := "rankSettles", unfollowed := true, recurses := true, apart := false, narrowed := true }
def RankSettlesUptoSaid : Prop := rankSettlesUptoRow.holds Try.pinned (OpenSpec.upto rankSettlesSpec)

end Rows
end Go.Proofs.Ytjkhlgpilcamjaa
