/-
  DERIVED. GIVEN WITH THE SEED: THE CARDS: each row of YtambgjgljcadlaaGreatDoorRows.lean that lists a variable, with what it lists TIED to the program's text (the seventh form; the later family's looks); each row that meets fmt, with fmt's text TOLD by the authors' own Lean function (tested against real Go, not proved from fmt's source: count such statements apart). THE CARD IS WHAT COUNTS. Prove the row's statement (the work); the ties are given (YtambgjgljcadlaaGreatDoorTie.lean); close each card by the builder's one call (the guide's Derived/Test/ToyasCard.lean, 'card_holds'). Laid BY PROGRAM, IN A SANDBOX (cutbox-door.mjs). By AI agents, Wed Nov 11 2026. No macro, syntax, notation, axiom, sorry.
-/
import Derived.Test.YtambgjgljcadlaaGreatDoorRows
import GoSem.ClaimSeven
namespace Go.Proofs.YtambgjgljcadlaaGreatDoor
namespace Rows

/-- THE TIED CARD OF 'hopmeshlaw45.PlanDelivers'. -/
def planDeliversCard : Claim7 := { stood := { row := planDeliversRow, standIns := [], harness := (true, "9e09f04dd8031eb4214e3b0a05d85a76443b7c8b1a8478483de205c0dea55fc0"), looks := true }, kinds := [], alts := [], laidByText := true, laidKinds := [.data, .data, .data], laidTests := true, laidLooks := .later }
def PlanDeliversCardSaid : Prop := Claim7.holds Tryz.pinned (.plain (OpenSpec.ofChange planDeliversSpec)) planDeliversCard

/-- THE TIED CARD OF 'hopmeshlaw51.GatewayRight'. -/
def gatewayRightCard : Claim7 := { stood := { row := gatewayRightRow, standIns := [], harness := (true, "9e09f04dd8031eb4214e3b0a05d85a76443b7c8b1a8478483de205c0dea55fc0"), looks := true }, kinds := [], alts := [], laidByText := true, laidKinds := [.data, .data, .data], laidTests := true, laidLooks := .later }
def GatewayRightCardSaid : Prop := Claim7.holds Tryz.pinned (.plain (OpenSpec.ofChange gatewayRightSpec)) gatewayRightCard

/-- THE TIED CARD OF 'hopmeshlaw51.GatewayBack'. -/
def gatewayBackCard : Claim7 := { stood := { row := gatewayBackRow, standIns := [], harness := (true, "9e09f04dd8031eb4214e3b0a05d85a76443b7c8b1a8478483de205c0dea55fc0"), looks := true }, kinds := [], alts := [], laidByText := true, laidKinds := [.data, .data, .data], laidTests := true, laidLooks := .later }
def GatewayBackCardSaid : Prop := Claim7.holds Tryz.pinned (.plain (OpenSpec.ofChange gatewayBackSpec)) gatewayBackCard

/-- THE TIED CARD OF 'hopmeshlaw51.GatewayAges'. -/
def gatewayAgesCard : Claim7 := { stood := { row := gatewayAgesRow, standIns := [], harness := (true, "9e09f04dd8031eb4214e3b0a05d85a76443b7c8b1a8478483de205c0dea55fc0"), looks := true }, kinds := [], alts := [], laidByText := true, laidKinds := [.data, .data, .data], laidTests := true, laidLooks := .later }
def GatewayAgesCardSaid : Prop := Claim7.holds Tryz.pinned (.plain (OpenSpec.ofChange gatewayAgesSpec)) gatewayAgesCard

/-- THE SECOND FORM's CARD OF 'hopmeshlaw45.PlanDelivers'. -/
def planDeliversUptoCard : Claim7 := { stood := { row := planDeliversUptoRow, standIns := [], harness := (true, "9e09f04dd8031eb4214e3b0a05d85a76443b7c8b1a8478483de205c0dea55fc0"), looks := true }, kinds := [], alts := [], laidByText := true, laidKinds := [.data, .data, .data], laidTests := true, laidLooks := .later }
def PlanDeliversUptoCardSaid : Prop := Claim7.holds Tryz.pinned (.plain (OpenSpec.upto planDeliversSpec)) planDeliversUptoCard

/-- THE SECOND FORM's CARD OF 'hopmeshlaw51.GatewayRight'. -/
def gatewayRightUptoCard : Claim7 := { stood := { row := gatewayRightUptoRow, standIns := [], harness := (true, "9e09f04dd8031eb4214e3b0a05d85a76443b7c8b1a8478483de205c0dea55fc0"), looks := true }, kinds := [], alts := [], laidByText := true, laidKinds := [.data, .data, .data], laidTests := true, laidLooks := .later }
def GatewayRightUptoCardSaid : Prop := Claim7.holds Tryz.pinned (.plain (OpenSpec.upto gatewayRightSpec)) gatewayRightUptoCard

/-- THE SECOND FORM's CARD OF 'hopmeshlaw51.GatewayBack'. -/
def gatewayBackUptoCard : Claim7 := { stood := { row := gatewayBackUptoRow, standIns := [], harness := (true, "9e09f04dd8031eb4214e3b0a05d85a76443b7c8b1a8478483de205c0dea55fc0"), looks := true }, kinds := [], alts := [], laidByText := true, laidKinds := [.data, .data, .data], laidTests := true, laidLooks := .later }
def GatewayBackUptoCardSaid : Prop := Claim7.holds Tryz.pinned (.plain (OpenSpec.upto gatewayBackSpec)) gatewayBackUptoCard

/-- THE SECOND FORM's CARD OF 'hopmeshlaw51.GatewayAges'. -/
def gatewayAgesUptoCard : Claim7 := { stood := { row := gatewayAgesUptoRow, standIns := [], harness := (true, "9e09f04dd8031eb4214e3b0a05d85a76443b7c8b1a8478483de205c0dea55fc0"), looks := true }, kinds := [], alts := [], laidByText := true, laidKinds := [.data, .data, .data], laidTests := true, laidLooks := .later }
def GatewayAgesUptoCardSaid : Prop := Claim7.holds Tryz.pinned (.plain (OpenSpec.upto gatewayAgesSpec)) gatewayAgesUptoCard
end Rows
end Go.Proofs.YtambgjgljcadlaaGreatDoor
