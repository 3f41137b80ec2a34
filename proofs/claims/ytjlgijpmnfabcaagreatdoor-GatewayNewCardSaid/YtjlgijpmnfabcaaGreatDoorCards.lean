/-
  DERIVED. GIVEN WITH THE SEED: THE CARDS: each row of YtjlgijpmnfabcaaGreatDoorRows.lean that lists a variable, with what it lists TIED to the program's text (the seventh form; the later family's looks); each row that meets fmt, with fmt's text TOLD by the authors' own Lean function (tested against real Go, not proved from fmt's source: count such statements apart). THE CARD IS WHAT COUNTS. Prove the row's statement (the work); the ties are given (YtjlgijpmnfabcaaGreatDoorTie.lean); close each card by the builder's one call (the guide's Derived/Test/ToyasCard.lean, 'card_holds'). Laid BY PROGRAM, IN A SANDBOX (cutbox-door.mjs). By AI agents, Wed Nov 11 2026. No macro, syntax, notation, axiom, sorry.
-/
import Derived.Test.YtjlgijpmnfabcaaGreatDoorRows
import GoSem.ClaimSeven
namespace Go.Proofs.YtjlgijpmnfabcaaGreatDoor
namespace Rows

/-- THE TIED CARD OF 'hopmeshlaw45.PlanTexts'. -/
def planTextsCard : Claim7 := { stood := { row := planTextsRow, standIns := [], harness := (true, "d56533edc2a842e49b0241ed1fea87219fcc2f92ed530983f5670d8756514c07"), looks := true }, kinds := [], alts := [], laidByText := true, laidKinds := [.data, .data, .data], laidTests := true, laidLooks := .later }
def PlanTextsCardSaid : Prop := Claim7.holds Tryz.pinned (.plain (OpenSpec.ofChange planTextsSpec)) planTextsCard

/-- THE TIED CARD OF 'hopmeshlaw51.GatewayNew'. -/
def gatewayNewCard : Claim7 := { stood := { row := gatewayNewRow, standIns := [], harness := (true, "d56533edc2a842e49b0241ed1fea87219fcc2f92ed530983f5670d8756514c07"), looks := true }, kinds := [], alts := [], laidByText := true, laidKinds := [.data, .data, .data], laidTests := true, laidLooks := .later }
def GatewayNewCardSaid : Prop := Claim7.holds Tryz.pinned (.plain (OpenSpec.ofChange gatewayNewSpec)) gatewayNewCard

/-- THE TIED CARD OF 'hopmeshlaw51.GatewayKeeps'. -/
def gatewayKeepsCard : Claim7 := { stood := { row := gatewayKeepsRow, standIns := [], harness := (true, "d56533edc2a842e49b0241ed1fea87219fcc2f92ed530983f5670d8756514c07"), looks := true }, kinds := [], alts := [], laidByText := true, laidKinds := [.data, .data, .data], laidTests := true, laidLooks := .later }
def GatewayKeepsCardSaid : Prop := Claim7.holds Tryz.pinned (.plain (OpenSpec.ofChange gatewayKeepsSpec)) gatewayKeepsCard

/-- THE SECOND FORM's CARD OF 'hopmeshlaw45.PlanTexts'. -/
def planTextsUptoCard : Claim7 := { stood := { row := planTextsUptoRow, standIns := [], harness := (true, "d56533edc2a842e49b0241ed1fea87219fcc2f92ed530983f5670d8756514c07"), looks := true }, kinds := [], alts := [], laidByText := true, laidKinds := [.data, .data, .data], laidTests := true, laidLooks := .later }
def PlanTextsUptoCardSaid : Prop := Claim7.holds Tryz.pinned (.plain (OpenSpec.upto planTextsSpec)) planTextsUptoCard

/-- THE SECOND FORM's CARD OF 'hopmeshlaw51.GatewayNew'. -/
def gatewayNewUptoCard : Claim7 := { stood := { row := gatewayNewUptoRow, standIns := [], harness := (true, "d56533edc2a842e49b0241ed1fea87219fcc2f92ed530983f5670d8756514c07"), looks := true }, kinds := [], alts := [], laidByText := true, laidKinds := [.data, .data, .data], laidTests := true, laidLooks := .later }
def GatewayNewUptoCardSaid : Prop := Claim7.holds Tryz.pinned (.plain (OpenSpec.upto gatewayNewSpec)) gatewayNewUptoCard

/-- THE SECOND FORM's CARD OF 'hopmeshlaw51.GatewayKeeps'. -/
def gatewayKeepsUptoCard : Claim7 := { stood := { row := gatewayKeepsUptoRow, standIns := [], harness := (true, "d56533edc2a842e49b0241ed1fea87219fcc2f92ed530983f5670d8756514c07"), looks := true }, kinds := [], alts := [], laidByText := true, laidKinds := [.data, .data, .data], laidTests := true, laidLooks := .later }
def GatewayKeepsUptoCardSaid : Prop := Claim7.holds Tryz.pinned (.plain (OpenSpec.upto gatewayKeepsSpec)) gatewayKeepsUptoCard
end Rows
end Go.Proofs.YtjlgijpmnfabcaaGreatDoor
