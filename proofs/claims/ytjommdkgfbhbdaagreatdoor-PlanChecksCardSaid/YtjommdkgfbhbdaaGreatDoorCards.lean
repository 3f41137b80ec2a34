/-
  DERIVED. GIVEN WITH THE SEED: THE CARDS: each row of YtjommdkgfbhbdaaGreatDoorRows.lean that lists a variable, with what it lists TIED to the program's text (the seventh form; the later family's looks); each row that meets fmt, with fmt's text TOLD by the authors' own Lean function (tested against real Go, not proved from fmt's source: count such statements apart). THE CARD IS WHAT COUNTS. Prove the row's statement (the work); the ties are given (YtjommdkgfbhbdaaGreatDoorTie.lean); close each card by the builder's one call (the guide's Derived/Test/ToyasCard.lean, 'card_holds'). Laid BY PROGRAM, IN A SANDBOX (cutbox-door.mjs). By AI agents, Wed Nov 11 2026. No macro, syntax, notation, axiom, sorry.
-/
import Derived.Test.YtjommdkgfbhbdaaGreatDoorRows
import GoSem.ClaimSeven
namespace Go.Proofs.YtjommdkgfbhbdaaGreatDoor
namespace Rows

/-- THE TIED CARD OF 'hopmeshlaw45.PlanMakes'. -/
def planMakesCard : Claim7 := { stood := { row := planMakesRow, standIns := [], harness := (true, "79738cd74e5a31a688bed190a43aa9927be89f163c273227949ea2cebc496c6c"), looks := true }, kinds := [], alts := [], laidByText := true, laidKinds := [.data, .data, .data], laidTests := true, laidLooks := .later }
def PlanMakesCardSaid : Prop := Claim7.holds Tryz.pinned (.plain (OpenSpec.ofChange planMakesSpec)) planMakesCard

/-- THE TIED CARD OF 'hopmeshlaw45.PlanEdits'. -/
def planEditsCard : Claim7 := { stood := { row := planEditsRow, standIns := [], harness := (true, "79738cd74e5a31a688bed190a43aa9927be89f163c273227949ea2cebc496c6c"), looks := true }, kinds := [], alts := [], laidByText := true, laidKinds := [.data, .data, .data], laidTests := true, laidLooks := .later }
def PlanEditsCardSaid : Prop := Claim7.holds Tryz.pinned (.plain (OpenSpec.ofChange planEditsSpec)) planEditsCard

/-- THE TIED CARD OF 'hopmeshlaw45.PlanChecks'. -/
def planChecksCard : Claim7 := { stood := { row := planChecksRow, standIns := [], harness := (true, "79738cd74e5a31a688bed190a43aa9927be89f163c273227949ea2cebc496c6c"), looks := true }, kinds := [], alts := [], laidByText := true, laidKinds := [.data, .data, .data], laidTests := true, laidLooks := .later }
def PlanChecksCardSaid : Prop := Claim7.holds Tryz.pinned (.plain (OpenSpec.ofChange planChecksSpec)) planChecksCard

/-- THE TIED CARD OF 'hopmeshlaw51.GatewayAdmits'. -/
def gatewayAdmitsCard : Claim7 := { stood := { row := gatewayAdmitsRow, standIns := [], harness := (true, "79738cd74e5a31a688bed190a43aa9927be89f163c273227949ea2cebc496c6c"), looks := true }, kinds := [], alts := [], laidByText := true, laidKinds := [.data, .data, .data], laidTests := true, laidLooks := .later }
def GatewayAdmitsCardSaid : Prop := Claim7.holds Tryz.pinned (.plain (OpenSpec.ofChange gatewayAdmitsSpec)) gatewayAdmitsCard

/-- THE TIED CARD OF 'hopmeshlaw51.GatewayDismisses'. -/
def gatewayDismissesCard : Claim7 := { stood := { row := gatewayDismissesRow, standIns := [], harness := (true, "79738cd74e5a31a688bed190a43aa9927be89f163c273227949ea2cebc496c6c"), looks := true }, kinds := [], alts := [], laidByText := true, laidKinds := [.data, .data, .data], laidTests := true, laidLooks := .later }
def GatewayDismissesCardSaid : Prop := Claim7.holds Tryz.pinned (.plain (OpenSpec.ofChange gatewayDismissesSpec)) gatewayDismissesCard

/-- THE SECOND FORM's CARD OF 'hopmeshlaw45.PlanMakes'. -/
def planMakesUptoCard : Claim7 := { stood := { row := planMakesUptoRow, standIns := [], harness := (true, "79738cd74e5a31a688bed190a43aa9927be89f163c273227949ea2cebc496c6c"), looks := true }, kinds := [], alts := [], laidByText := true, laidKinds := [.data, .data, .data], laidTests := true, laidLooks := .later }
def PlanMakesUptoCardSaid : Prop := Claim7.holds Tryz.pinned (.plain (OpenSpec.upto planMakesSpec)) planMakesUptoCard

/-- THE SECOND FORM's CARD OF 'hopmeshlaw45.PlanEdits'. -/
def planEditsUptoCard : Claim7 := { stood := { row := planEditsUptoRow, standIns := [], harness := (true, "79738cd74e5a31a688bed190a43aa9927be89f163c273227949ea2cebc496c6c"), looks := true }, kinds := [], alts := [], laidByText := true, laidKinds := [.data, .data, .data], laidTests := true, laidLooks := .later }
def PlanEditsUptoCardSaid : Prop := Claim7.holds Tryz.pinned (.plain (OpenSpec.upto planEditsSpec)) planEditsUptoCard

/-- THE SECOND FORM's CARD OF 'hopmeshlaw45.PlanChecks'. -/
def planChecksUptoCard : Claim7 := { stood := { row := planChecksUptoRow, standIns := [], harness := (true, "79738cd74e5a31a688bed190a43aa9927be89f163c273227949ea2cebc496c6c"), looks := true }, kinds := [], alts := [], laidByText := true, laidKinds := [.data, .data, .data], laidTests := true, laidLooks := .later }
def PlanChecksUptoCardSaid : Prop := Claim7.holds Tryz.pinned (.plain (OpenSpec.upto planChecksSpec)) planChecksUptoCard

/-- THE SECOND FORM's CARD OF 'hopmeshlaw51.GatewayAdmits'. -/
def gatewayAdmitsUptoCard : Claim7 := { stood := { row := gatewayAdmitsUptoRow, standIns := [], harness := (true, "79738cd74e5a31a688bed190a43aa9927be89f163c273227949ea2cebc496c6c"), looks := true }, kinds := [], alts := [], laidByText := true, laidKinds := [.data, .data, .data], laidTests := true, laidLooks := .later }
def GatewayAdmitsUptoCardSaid : Prop := Claim7.holds Tryz.pinned (.plain (OpenSpec.upto gatewayAdmitsSpec)) gatewayAdmitsUptoCard

/-- THE SECOND FORM's CARD OF 'hopmeshlaw51.GatewayDismisses'. -/
def gatewayDismissesUptoCard : Claim7 := { stood := { row := gatewayDismissesUptoRow, standIns := [], harness := (true, "79738cd74e5a31a688bed190a43aa9927be89f163c273227949ea2cebc496c6c"), looks := true }, kinds := [], alts := [], laidByText := true, laidKinds := [.data, .data, .data], laidTests := true, laidLooks := .later }
def GatewayDismissesUptoCardSaid : Prop := Claim7.holds Tryz.pinned (.plain (OpenSpec.upto gatewayDismissesSpec)) gatewayDismissesUptoCard
end Rows
end Go.Proofs.YtjommdkgfbhbdaaGreatDoor
