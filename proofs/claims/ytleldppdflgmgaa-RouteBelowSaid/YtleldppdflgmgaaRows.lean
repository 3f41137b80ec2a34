/-
  No cell of these rows narrows 'for every input' (looked for: loops, veiled, ifaces, maps, wideKeys, modest, calm, conditions, laid).
  DERIVED. THE GIVEN ROWS OF THIS SEAT. 7 by the template 'for every input the law returns true; each argument reads behind the call as it read before'; 0 by the template 'total and deterministic' (their statements: YtleldppdflgmgaaTotals.lean).
  GIVEN WITH THE SEED: the statements are not yours to turn. If you find one false, say at which input.
  Laid BY PROGRAM, IN A SANDBOX (cutbox-rows.mjs): the forced cells as the released guide's own fill.sh prints them over the translation 2b28c0ad048f7913… (all of the seat's roots in one cut). By AI agents, Wed Nov 11 2026. No macro, syntax, notation, axiom, sorry.
-/
import Derived.Test.YtleldppdflgmgaaChecked
import GoSem.Claim
import GoSem.ClaimJoined
import GoSem.ClaimMapViews
import Derived.JoinedTies
import Derived.KernelRfl
namespace Go.Proofs.Ytleldppdflgmgaa
/- THE CELL 'sum', in the pinned program and in every row, IS THE sha256 OF THE DUMP (.gsa) THAT YtleldppdflgmgaaProg.lean LOADS. Nothing in Lean hashes anything: it is a label: what it is worth is what the hold of that sum in a sandbox is worth. -/
noncomputable def Try.pinned : Pinned := { name := "ytleldppdflgmgaa", sum := "2b28c0ad048f7913d563d3395c4f3d84fd3b7615e10042f7bfb28ab2676c4286", checked := Try.checked }
namespace Rows
def none {H : Type} : Left H := { results := [], args := [] }

/-- 'hopmeshlaw33.RouteDisjoint': WHATEVER THE INPUT: true; the input reads as it did. -/
def routeDisjointSpec : ChangeSpec := { name := "routeDisjoint", fn := fun _ => fun
  | [d1, d2] => { results := [.lit (.bool true)], args := [d1, d2] }
  | _ => none }
def routeDisjointRow : OpenClaim := { program := "ytleldppdflgmgaa", sum := "2b28c0ad048f7913d563d3395c4f3d84fd3b7615e10042f7bfb28ab2676c4286", func := "hopmesh/hopmeshlaw33.RouteDisjoint", spec := "routeDisjoint", unfollowed := true, recurses := true, apart := false }
def RouteDisjointSaid : Prop := routeDisjointRow.holds Try.pinned (OpenSpec.ofChange routeDisjointSpec)

/-- ITS FALSE NEIGHBOUR: 'it returns false'. Refute it at one input. -/
def routeDisjointWrong : ChangeSpec := { name := "routeDisjoint", fn := fun _ => fun
  | [d1, d2] => { results := [.lit (.bool false)], args := [d1, d2] }
  | _ => none }
def RouteDisjointWrongFalsely : Prop := routeDisjointRow.holds Try.pinned (OpenSpec.ofChange routeDisjointWrong)

/-- 'hopmeshlaw33.RouteShortest': WHATEVER THE INPUT: true; the input reads as it did. -/
def routeShortestSpec : ChangeSpec := { name := "routeShortest", fn := fun _ => fun
  | [d1, d2, d3] => { results := [.lit (.bool true)], args := [d1, d2, d3] }
  | _ => none }
def routeShortestRow : OpenClaim := { program := "ytleldppdflgmgaa", sum := "2b28c0ad048f7913d563d3395c4f3d84fd3b7615e10042f7bfb28ab2676c4286", func := "hopmesh/hopmeshlaw33.RouteShortest", spec := "routeShortest", unfollowed := true, recurses := true, apart := false }
def RouteShortestSaid : Prop := routeShortestRow.holds Try.pinned (OpenSpec.ofChange routeShortestSpec)

/-- ITS FALSE NEIGHBOUR: 'it returns false'. Refute it at one input. -/
def routeShortestWrong : ChangeSpec := { name := "routeShortest", fn := fun _ => fun
  | [d1, d2, d3] => { results := [.lit (.bool false)], args := [d1, d2, d3] }
  | _ => none }
def RouteShortestWrongFalsely : Prop := routeShortestRow.holds Try.pinned (OpenSpec.ofChange routeShortestWrong)

/-- 'hopmeshlaw33.RoutePairs': WHATEVER THE INPUT: true; the input reads as it did. -/
def routePairsSpec : ChangeSpec := { name := "routePairs", fn := fun _ => fun
  | [d1, d2, d3] => { results := [.lit (.bool true)], args := [d1, d2, d3] }
  | _ => none }
def routePairsRow : OpenClaim := { program := "ytleldppdflgmgaa", sum := "2b28c0ad048f7913d563d3395c4f3d84fd3b7615e10042f7bfb28ab2676c4286", func := "hopmesh/hopmeshlaw33.RoutePairs", spec := "routePairs", unfollowed := true, recurses := true, apart := false }
def RoutePairsSaid : Prop := routePairsRow.holds Try.pinned (OpenSpec.ofChange routePairsSpec)

/-- ITS FALSE NEIGHBOUR: 'it returns false'. Refute it at one input. -/
def routePairsWrong : ChangeSpec := { name := "routePairs", fn := fun _ => fun
  | [d1, d2, d3] => { results := [.lit (.bool false)], args := [d1, d2, d3] }
  | _ => none }
def RoutePairsWrongFalsely : Prop := routePairsRow.holds Try.pinned (OpenSpec.ofChange routePairsWrong)

/-- 'hopmeshlaw33.RouteBounds': WHATEVER THE INPUT: true; the input reads as it did. -/
def routeBoundsSpec : ChangeSpec := { name := "routeBounds", fn := fun _ => fun
  | [d1, d2, d3, d4] => { results := [.lit (.bool true)], args := [d1, d2, d3, d4] }
  | _ => none }
def routeBoundsRow : OpenClaim := { program := "ytleldppdflgmgaa", sum := "2b28c0ad048f7913d563d3395c4f3d84fd3b7615e10042f7bfb28ab2676c4286", func := "hopmesh/hopmeshlaw33.RouteBounds", spec := "routeBounds", unfollowed := true, recurses := true, apart := false }
def RouteBoundsSaid : Prop := routeBoundsRow.holds Try.pinned (OpenSpec.ofChange routeBoundsSpec)

/-- ITS FALSE NEIGHBOUR: 'it returns false'. Refute it at one input. -/
def routeBoundsWrong : ChangeSpec := { name := "routeBounds", fn := fun _ => fun
  | [d1, d2, d3, d4] => { results := [.lit (.bool false)], args := [d1, d2, d3, d4] }
  | _ => none }
def RouteBoundsWrongFalsely : Prop := routeBoundsRow.holds Try.pinned (OpenSpec.ofChange routeBoundsWrong)

/-- 'hopmeshlaw33.RouteBelow': WHATEVER THE INPUT: true; the input reads as it did. -/
def routeBelowSpec : ChangeSpec := { name := "routeBelow", fn := fun _ => fun
  | [d1, d2, d3, d4] => { results := [.lit (.bool true)], args := [d1, d2, d3, d4] }
  | _ => none }
def routeBelowRow : OpenClaim := { program := "ytleldppdflgmgaa", sum := "2b28c0ad048f7913d563d3395c4f3d84fd3b7615e10042f7bfb28ab2676c4286", func := "hopmesh/hopmeshlaw33.RouteBelow", spec := "routeBelow", unfollowed := true, recurses := true, apart := false }
def RouteBelowSaid : Prop := routeBelowRow.holds Try.pinned (OpenSpec.ofChange routeBelowSpec)

/-- ITS FALSE NEIGHBOUR: 'it returns false'. Refute it at one input. -/
def routeBelowWrong : ChangeSpec := { name := "routeBelow", fn := fun _ => fun
  | [d1, d2, d3, d4] => { results := [.lit (.bool false)], args := [d1, d2, d3, d4] }
  | _ => none }
def RouteBelowWrongFalsely : Prop := routeBelowRow.holds Try.pinned (OpenSpec.ofChange routeBelowWrong)

/-- 'hopmeshlaw33.RouteChecks': WHATEVER THE INPUT: true; the input reads as it did. -/
def routeChecksSpec : ChangeSpec := { name := "routeChecks", fn := fun _ => fun
  | [d1, d2, d3, d4] => { results := [.lit (.bool true)], args := [d1, d2, d3, d4] }
  | _ => none }
def routeChecksRow : OpenClaim := { program := "ytleldppdflgmgaa", sum := "2b28c0ad048f7913d563d3395c4f3d84fd3b7615e10042f7bfb28ab2676c4286", func := "hopmesh/hopmeshlaw33.RouteChecks", spec := "routeChecks", unfollowed := true, recurses := true, apart := false }
def RouteChecksSaid : Prop := routeChecksRow.holds Try.pinned (OpenSpec.ofChange routeChecksSpec)

/-- ITS FALSE NEIGHBOUR: 'it returns false'. Refute it at one input. -/
def routeChecksWrong : ChangeSpec := { name := "routeChecks", fn := fun _ => fun
  | [d1, d2, d3, d4] => { results := [.lit (.bool false)], args := [d1, d2, d3, d4] }
  | _ => none }
def RouteChecksWrongFalsely : Prop := routeChecksRow.holds Try.pinned (OpenSpec.ofChange routeChecksWrong)

/-- 'hopmeshlaw33.RouteProves': WHATEVER THE INPUT: true; the input reads as it did. -/
def routeProvesSpec : ChangeSpec := { name := "routeProves", fn := fun _ => fun
  | [d1, d2, d3] => { results := [.lit (.bool true)], args := [d1, d2, d3] }
  | _ => none }
def routeProvesRow : OpenClaim := { program := "ytleldppdflgmgaa", sum := "2b28c0ad048f7913d563d3395c4f3d84fd3b7615e10042f7bfb28ab2676c4286", func := "hopmesh/hopmeshlaw33.RouteProves", spec := "routeProves", unfollowed := true, recurses := true, apart := false }
def RouteProvesSaid : Prop := routeProvesRow.holds Try.pinned (OpenSpec.ofChange routeProvesSpec)

/-- ITS FALSE NEIGHBOUR: 'it returns false'. Refute it at one input. -/
def routeProvesWrong : ChangeSpec := { name := "routeProves", fn := fun _ => fun
  | [d1, d2, d3] => { results := [.lit (.bool false)], args := [d1, d2, d3] }
  | _ => none }
def RouteProvesWrongFalsely : Prop := routeProvesRow.holds Try.pinned (OpenSpec.ofChange routeProvesWrong)

/- THE SECOND FORM. 'bulk': how many values and letters a reading holds, each counted each time it is reached (what is shared counts as often as it is met; a slice's spare places count too). A statement '..UptoSaid' is the law's where the arguments, and the package variables that the reading takes, are together of bulk at most 1048576: NARROWER than '..Said'. Prove '..Said' where nothing that the law and all that it calls make is longer than what came in: it says more and counts as full. Else prove '..UptoSaid'. A law counts once. -/
mutual
def uptoBulk {H : Type} : DataW H → Nat
  | .lit (.string bytes) => bytes.length + 1
  | .lit _ => 1
  | .nil => 1
  | .ptr d => uptoBulk d + 1
  | .slice elems spare => uptoBulkAll elems + uptoBulkAll spare + 1
  | .agg parts => uptoBulkAll parts + 1
  | .iface _ d => uptoBulk d + 1
  | .map entries => uptoBulkEntries entries + 1
  | .held _ => 1
def uptoBulkAll {H : Type} : List (DataW H) → Nat
  | [] => 0
  | d :: r => uptoBulk d + uptoBulkAll r
def uptoBulkEntries {H : Type} : List (Lit × DataW H) → Nat
  | [] => 0
  | x :: r => uptoBulkEntry x + uptoBulkEntries r
def uptoBulkEntry {H : Type} : Lit × DataW H → Nat
  | (.string bytes, d) => bytes.length + uptoBulk d + 1
  | (_, d) => uptoBulk d + 1
 end
def uptoSmall : (H : Type) → List (DataW H) → Bool := fun _ ds => decide (uptoBulkAll ds ≤ 1048576)
def OpenSpec.upto (s : _root_.Go.ChangeSpec) : _root_.Go.OpenSpec := { _root_.Go.OpenSpec.ofChange s with cond := some uptoSmall }

/-- 'hopmeshlaw33.RouteDisjoint', WHERE WHAT IT READS IS OF BULK AT MOST 1048576: true; the input reads as it did. -/
def routeDisjointUptoRow : OpenClaim := { program := "ytleldppdflgmgaa", sum := "2b28c0ad048f7913d563d3395c4f3d84fd3b7615e10042f7bfb28ab2676c4286", func := "hopmesh/hopmeshlaw33.RouteDisjoint", spec := "routeDisjoint", unfollowed := true, recurses := true, apart := false, narrowed := true }
def RouteDisjointUptoSaid : Prop := routeDisjointUptoRow.holds Try.pinned (OpenSpec.upto routeDisjointSpec)

/-- 'hopmeshlaw33.RouteShortest', WHERE WHAT IT READS IS OF BULK AT MOST 1048576: true; the input reads as it did. -/
def routeShortestUptoRow : OpenClaim := { program := "ytleldppdflgmgaa", sum := "2b28c0ad048f7913d563d3395c4f3d84fd3b7615e10042f7bfb28ab2676c4286", func := "hopmesh/hopmeshlaw33.RouteShortest", spec := "routeShortest", unfollowed := true, recurses := true, apart := false, narrowed := true }
def RouteShortestUptoSaid : Prop := routeShortestUptoRow.holds Try.pinned (OpenSpec.upto routeShortestSpec)

/-- 'hopmeshlaw33.RoutePairs', WHERE WHAT IT READS IS OF BULK AT MOST 1048576: true; the input reads as it did. -/
def routePairsUptoRow : OpenClaim := { program := "ytleldppdflgmgaa", sum := "2b28c0ad048f7913d563d3395c4f3d84fd3b7615e10042f7bfb28ab2676c4286", func := "hopmesh/hopmeshlaw33.RoutePairs", spec := "routePairs", unfollowed := true, recurses := true, apart := false, narrowed := true }
def RoutePairsUptoSaid : Prop := routePairsUptoRow.holds Try.pinned (OpenSpec.upto routePairsSpec)

/-- 'hopmeshlaw33.RouteBounds', WHERE WHAT IT READS IS OF BULK AT MOST 1048576: true; the input reads as it did. -/
def routeBoundsUptoRow : OpenClaim := { program := "ytleldppdflgmgaa", sum := "2b28c0ad048f7913d563d3395c4f3d84fd3b7615e10042f7bfb28ab2676c4286", func := "hopmesh/hopmeshlaw33.RouteBounds", spec := "routeBounds", unfollowed := true, recurses := true, apart := false, narrowed := true }
def RouteBoundsUptoSaid : Prop := routeBoundsUptoRow.holds Try.pinned (OpenSpec.upto routeBoundsSpec)

/-- 'hopmeshlaw33.RouteBelow', WHERE WHAT IT READS IS OF BULK AT MOST 1048576: true; the input reads as it did. -/
def routeBelowUptoRow : OpenClaim := { program := "ytleldppdflgmgaa", sum := "2b28c0ad048f7913d563d3395c4f3d84fd3b7615e10042f7bfb28ab2676c4286", func := "hopmesh/hopmeshlaw33.RouteBelow", spec := "routeBelow", unfollowed := true, recurses := true, apart := false, narrowed := true }
def RouteBelowUptoSaid : Prop := routeBelowUptoRow.holds Try.pinned (OpenSpec.upto routeBelowSpec)

/-- 'hopmeshlaw33.RouteChecks', WHERE WHAT IT READS IS OF BULK AT MOST 1048576: true; the input reads as it did. -/
def routeChecksUptoRow : OpenClaim := { program := "ytleldppdflgmgaa", sum := "2b28c0ad048f7913d563d3395c4f3d84fd3b7615e10042f7bfb28ab2676c4286", func := "hopmesh/hopmeshlaw33.RouteChecks", spec := "routeChecks", unfollowed := true, recurses := true, apart := false, narrowed := true }
def RouteChecksUptoSaid : Prop := routeChecksUptoRow.holds Try.pinned (OpenSpec.upto routeChecksSpec)

/-- 'hopmeshlaw33.RouteProves', WHERE WHAT IT READS IS OF BULK AT MOST 1048576: true; the input reads as it did. -/
def routeProvesUptoRow : OpenClaim := { program := "ytleldppdflgmgaa", sum := "2b28c0ad048f7913d563d3395c4f3d84fd3b7615e10042f7bfb28ab2676c4286", func := "hopmesh/hopmeshlaw33.RouteProves", spec := "routeProves", unfollowed := true, recurses := true, apart := false, narrowed := true }
def RouteProvesUptoSaid : Prop := routeProvesUptoRow.holds Try.pinned (OpenSpec.upto routeProvesSpec)

end Rows
end Go.Proofs.Ytleldppdflgmgaa
