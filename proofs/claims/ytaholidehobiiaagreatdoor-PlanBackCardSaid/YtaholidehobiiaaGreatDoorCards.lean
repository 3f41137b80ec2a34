/-
  DERIVED. GIVEN WITH THE SEED: THE CARDS: each row of YtaholidehobiiaaGreatDoorRows.lean that lists a variable, with what it lists TIED to the program's text (the seventh form; the later family's looks); each row that meets fmt, with fmt's text TOLD by the authors' own Lean function (tested against real Go, not proved from fmt's source: count such statements apart). THE CARD IS WHAT COUNTS. Prove the row's statement (the work); the ties are given (YtaholidehobiiaaGreatDoorTie.lean); close each card by the builder's one call (the guide's Derived/Test/ToyasCard.lean, 'card_holds'). Laid BY PROGRAM, IN A SANDBOX (cutbox-door.mjs). By AI agents, Wed Nov 11 2026. No macro, syntax, notation, axiom, sorry.
-/
import Derived.Test.YtaholidehobiiaaGreatDoorRows
import GoSem.ClaimSeven
namespace Go.Proofs.YtaholidehobiiaaGreatDoor
namespace Rows

/-- THE TIED CARD OF 'hopmeshlaw45.PlanRoutes'. -/
def planRoutesCard : Claim7 := { stood := { row := planRoutesRow, standIns := [], harness := (true, "062e99186a76f7cb8400887157ba4376f3545699eceb86bd1b892bfdd9da9d6e"), looks := true }, kinds := [], alts := [], laidByText := true, laidKinds := [.data, .data, .data], laidTests := true, laidLooks := .later }
def PlanRoutesCardSaid : Prop := Claim7.holds Tryz.pinned (.plain (OpenSpec.ofChange planRoutesSpec)) planRoutesCard

/-- THE TIED CARD OF 'hopmeshlaw45.PlanMakes'. -/
def planMakesCard : Claim7 := { stood := { row := planMakesRow, standIns := [], harness := (true, "062e99186a76f7cb8400887157ba4376f3545699eceb86bd1b892bfdd9da9d6e"), looks := true }, kinds := [], alts := [], laidByText := true, laidKinds := [.data, .data, .data], laidTests := true, laidLooks := .later }
def PlanMakesCardSaid : Prop := Claim7.holds Tryz.pinned (.plain (OpenSpec.ofChange planMakesSpec)) planMakesCard

/-- THE TIED CARD OF 'hopmeshlaw45.PlanRight'. -/
def planRightCard : Claim7 := { stood := { row := planRightRow, standIns := [], harness := (true, "062e99186a76f7cb8400887157ba4376f3545699eceb86bd1b892bfdd9da9d6e"), looks := true }, kinds := [], alts := [], laidByText := true, laidKinds := [.data, .data, .data], laidTests := true, laidLooks := .later }
def PlanRightCardSaid : Prop := Claim7.holds Tryz.pinned (.plain (OpenSpec.ofChange planRightSpec)) planRightCard

/-- THE TIED CARD OF 'hopmeshlaw45.PlanEdits'. -/
def planEditsCard : Claim7 := { stood := { row := planEditsRow, standIns := [], harness := (true, "062e99186a76f7cb8400887157ba4376f3545699eceb86bd1b892bfdd9da9d6e"), looks := true }, kinds := [], alts := [], laidByText := true, laidKinds := [.data, .data, .data], laidTests := true, laidLooks := .later }
def PlanEditsCardSaid : Prop := Claim7.holds Tryz.pinned (.plain (OpenSpec.ofChange planEditsSpec)) planEditsCard

/-- THE TIED CARD OF 'hopmeshlaw45.PlanBack'. -/
def planBackCard : Claim7 := { stood := { row := planBackRow, standIns := [], harness := (true, "062e99186a76f7cb8400887157ba4376f3545699eceb86bd1b892bfdd9da9d6e"), looks := true }, kinds := [], alts := [], laidByText := true, laidKinds := [.data, .data, .data], laidTests := true, laidLooks := .later }
def PlanBackCardSaid : Prop := Claim7.holds Tryz.pinned (.plain (OpenSpec.ofChange planBackSpec)) planBackCard

/-- THE TIED CARD OF 'hopmeshlaw45.PlanChecks'. -/
def planChecksCard : Claim7 := { stood := { row := planChecksRow, standIns := [], harness := (true, "062e99186a76f7cb8400887157ba4376f3545699eceb86bd1b892bfdd9da9d6e"), looks := true }, kinds := [], alts := [], laidByText := true, laidKinds := [.data, .data, .data], laidTests := true, laidLooks := .later }
def PlanChecksCardSaid : Prop := Claim7.holds Tryz.pinned (.plain (OpenSpec.ofChange planChecksSpec)) planChecksCard

/-- THE TIED CARD OF 'hopmeshlaw45.PlanTexts'. -/
def planTextsCard : Claim7 := { stood := { row := planTextsRow, standIns := [], harness := (true, "062e99186a76f7cb8400887157ba4376f3545699eceb86bd1b892bfdd9da9d6e"), looks := true }, kinds := [], alts := [], laidByText := true, laidKinds := [.data, .data, .data], laidTests := true, laidLooks := .later }
def PlanTextsCardSaid : Prop := Claim7.holds Tryz.pinned (.plain (OpenSpec.ofChange planTextsSpec)) planTextsCard

/-- THE TIED CARD OF 'hopmeshlaw45.PlanDelivers'. -/
def planDeliversCard : Claim7 := { stood := { row := planDeliversRow, standIns := [], harness := (true, "062e99186a76f7cb8400887157ba4376f3545699eceb86bd1b892bfdd9da9d6e"), looks := true }, kinds := [], alts := [], laidByText := true, laidKinds := [.data, .data, .data], laidTests := true, laidLooks := .later }
def PlanDeliversCardSaid : Prop := Claim7.holds Tryz.pinned (.plain (OpenSpec.ofChange planDeliversSpec)) planDeliversCard

/-- THE SECOND FORM's CARD OF 'hopmeshlaw45.PlanRoutes'. -/
def planRoutesUptoCard : Claim7 := { stood := { row := planRoutesUptoRow, standIns := [], harness := (true, "062e99186a76f7cb8400887157ba4376f3545699eceb86bd1b892bfdd9da9d6e"), looks := true }, kinds := [], alts := [], laidByText := true, laidKinds := [.data, .data, .data], laidTests := true, laidLooks := .later }
def PlanRoutesUptoCardSaid : Prop := Claim7.holds Tryz.pinned (.plain (OpenSpec.upto planRoutesSpec)) planRoutesUptoCard

/-- THE SECOND FORM's CARD OF 'hopmeshlaw45.PlanMakes'. -/
def planMakesUptoCard : Claim7 := { stood := { row := planMakesUptoRow, standIns := [], harness := (true, "062e99186a76f7cb8400887157ba4376f3545699eceb86bd1b892bfdd9da9d6e"), looks := true }, kinds := [], alts := [], laidByText := true, laidKinds := [.data, .data, .data], laidTests := true, laidLooks := .later }
def PlanMakesUptoCardSaid : Prop := Claim7.holds Tryz.pinned (.plain (OpenSpec.upto planMakesSpec)) planMakesUptoCard

/-- THE SECOND FORM's CARD OF 'hopmeshlaw45.PlanRight'. -/
def planRightUptoCard : Claim7 := { stood := { row := planRightUptoRow, standIns := [], harness := (true, "062e99186a76f7cb8400887157ba4376f3545699eceb86bd1b892bfdd9da9d6e"), looks := true }, kinds := [], alts := [], laidByText := true, laidKinds := [.data, .data, .data], laidTests := true, laidLooks := .later }
def PlanRightUptoCardSaid : Prop := Claim7.holds Tryz.pinned (.plain (OpenSpec.upto planRightSpec)) planRightUptoCard

/-- THE SECOND FORM's CARD OF 'hopmeshlaw45.PlanEdits'. -/
def planEditsUptoCard : Claim7 := { stood := { row := planEditsUptoRow, standIns := [], harness := (true, "062e99186a76f7cb8400887157ba4376f3545699eceb86bd1b892bfdd9da9d6e"), looks := true }, kinds := [], alts := [], laidByText := true, laidKinds := [.data, .data, .data], laidTests := true, laidLooks := .later }
def PlanEditsUptoCardSaid : Prop := Claim7.holds Tryz.pinned (.plain (OpenSpec.upto planEditsSpec)) planEditsUptoCard

/-- THE SECOND FORM's CARD OF 'hopmeshlaw45.PlanBack'. -/
def planBackUptoCard : Claim7 := { stood := { row := planBackUptoRow, standIns := [], harness := (true, "062e99186a76f7cb8400887157ba4376f3545699eceb86bd1b892bfdd9da9d6e"), looks := true }, kinds := [], alts := [], laidByText := true, laidKinds := [.data, .data, .data], laidTests := true, laidLooks := .later }
def PlanBackUptoCardSaid : Prop := Claim7.holds Tryz.pinned (.plain (OpenSpec.upto planBackSpec)) planBackUptoCard

/-- THE SECOND FORM's CARD OF 'hopmeshlaw45.PlanChecks'. -/
def planChecksUptoCard : Claim7 := { stood := { row := planChecksUptoRow, standIns := [], harness := (true, "062e99186a76f7cb8400887157ba4376f3545699eceb86bd1b892bfdd9da9d6e"), looks := true }, kinds := [], alts := [], laidByText := true, laidKinds := [.data, .data, .data], laidTests := true, laidLooks := .later }
def PlanChecksUptoCardSaid : Prop := Claim7.holds Tryz.pinned (.plain (OpenSpec.upto planChecksSpec)) planChecksUptoCard

/-- THE SECOND FORM's CARD OF 'hopmeshlaw45.PlanTexts'. -/
def planTextsUptoCard : Claim7 := { stood := { row := planTextsUptoRow, standIns := [], harness := (true, "062e99186a76f7cb8400887157ba4376f3545699eceb86bd1b892bfdd9da9d6e"), looks := true }, kinds := [], alts := [], laidByText := true, laidKinds := [.data, .data, .data], laidTests := true, laidLooks := .later }
def PlanTextsUptoCardSaid : Prop := Claim7.holds Tryz.pinned (.plain (OpenSpec.upto planTextsSpec)) planTextsUptoCard

/-- THE SECOND FORM's CARD OF 'hopmeshlaw45.PlanDelivers'. -/
def planDeliversUptoCard : Claim7 := { stood := { row := planDeliversUptoRow, standIns := [], harness := (true, "062e99186a76f7cb8400887157ba4376f3545699eceb86bd1b892bfdd9da9d6e"), looks := true }, kinds := [], alts := [], laidByText := true, laidKinds := [.data, .data, .data], laidTests := true, laidLooks := .later }
def PlanDeliversUptoCardSaid : Prop := Claim7.holds Tryz.pinned (.plain (OpenSpec.upto planDeliversSpec)) planDeliversUptoCard
end Rows
end Go.Proofs.YtaholidehobiiaaGreatDoor
