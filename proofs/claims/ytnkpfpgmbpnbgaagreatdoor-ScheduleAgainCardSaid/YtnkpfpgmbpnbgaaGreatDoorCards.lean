/-
  DERIVED. GIVEN WITH THE SEED: THE CARDS: each row of YtnkpfpgmbpnbgaaGreatDoorRows.lean that lists a variable, with what it lists TIED to the program's text (the seventh form; the later family's looks); each row that meets fmt, with fmt's text TOLD by the authors' own Lean function (tested against real Go, not proved from fmt's source: count such statements apart). THE CARD IS WHAT COUNTS. Prove the row's statement (the work); the ties are given (YtnkpfpgmbpnbgaaGreatDoorTie.lean); close each card by the builder's one call (the guide's Derived/Test/ToyasCard.lean, 'card_holds'). Laid BY PROGRAM, IN A SANDBOX (cutbox-door.mjs). By AI agents, Wed Nov 11 2026. No macro, syntax, notation, axiom, sorry.
-/
import Derived.Test.YtnkpfpgmbpnbgaaGreatDoorRows
import GoSem.ClaimSeven
namespace Go.Proofs.YtnkpfpgmbpnbgaaGreatDoor
namespace Rows

/-- THE TIED CARD OF 'hopmeshlaw35.ScheduleChecks'. -/
def scheduleChecksCard : Claim7 := { stood := { row := scheduleChecksRow, standIns := [], harness := (true, "8f923f2f17c8ed2bfa7b40d1f53c804515cb6b1f58d047067bd6da2153c63548"), looks := true }, kinds := [], alts := [], laidByText := true, laidKinds := [.data, .data, .data, .data, .sentinel, .sentinel, .pinned], laidTests := true, laidLooks := .later }
def ScheduleChecksCardSaid : Prop := Claim7.holds Tryz.pinned (.plain (OpenSpec.ofChange scheduleChecksSpec)) scheduleChecksCard

/-- THE TIED CARD OF 'hopmeshlaw35.ScheduleTexts'. -/
def scheduleTextsCard : Claim7 := { stood := { row := scheduleTextsRow, standIns := [], harness := (true, "8f923f2f17c8ed2bfa7b40d1f53c804515cb6b1f58d047067bd6da2153c63548"), looks := true }, kinds := [], alts := [], laidByText := true, laidKinds := [.data, .data, .data, .data, .sentinel, .sentinel, .pinned], laidTests := true, laidLooks := .later }
def ScheduleTextsCardSaid : Prop := Claim7.holds Tryz.pinned (.plain (OpenSpec.ofChange scheduleTextsSpec)) scheduleTextsCard

/-- THE TIED CARD OF 'hopmeshlaw35.ScheduleReturns'. -/
def scheduleReturnsCard : Claim7 := { stood := { row := scheduleReturnsRow, standIns := [], harness := (true, "8f923f2f17c8ed2bfa7b40d1f53c804515cb6b1f58d047067bd6da2153c63548"), looks := true }, kinds := [], alts := [], laidByText := true, laidKinds := [.data, .data, .data, .data, .sentinel, .sentinel, .pinned], laidTests := true, laidLooks := .later }
def ScheduleReturnsCardSaid : Prop := Claim7.holds Tryz.pinned (.plain (OpenSpec.ofChange scheduleReturnsSpec)) scheduleReturnsCard

/-- THE TIED CARD OF 'hopmeshlaw35.ScheduleRepeats'. -/
def scheduleRepeatsCard : Claim7 := { stood := { row := scheduleRepeatsRow, standIns := [], harness := (true, "8f923f2f17c8ed2bfa7b40d1f53c804515cb6b1f58d047067bd6da2153c63548"), looks := true }, kinds := [], alts := [], laidByText := true, laidKinds := [.data, .data, .data, .data, .sentinel, .sentinel, .pinned], laidTests := true, laidLooks := .later }
def ScheduleRepeatsCardSaid : Prop := Claim7.holds Tryz.pinned (.plain (OpenSpec.ofChange scheduleRepeatsSpec)) scheduleRepeatsCard

/-- THE TIED CARD OF 'hopmeshlaw35.ScheduleAgain'. -/
def scheduleAgainCard : Claim7 := { stood := { row := scheduleAgainRow, standIns := [], harness := (true, "8f923f2f17c8ed2bfa7b40d1f53c804515cb6b1f58d047067bd6da2153c63548"), looks := true }, kinds := [], alts := [], laidByText := true, laidKinds := [.data, .data, .data, .data, .sentinel, .sentinel, .pinned], laidTests := true, laidLooks := .later }
def ScheduleAgainCardSaid : Prop := Claim7.holds Tryz.pinned (.plain (OpenSpec.ofChange scheduleAgainSpec)) scheduleAgainCard

/-- THE TIED CARD OF 'hopmeshlaw35.ScheduleParts'. -/
def schedulePartsCard : Claim7 := { stood := { row := schedulePartsRow, standIns := [], harness := (true, "8f923f2f17c8ed2bfa7b40d1f53c804515cb6b1f58d047067bd6da2153c63548"), looks := true }, kinds := [], alts := [], laidByText := true, laidKinds := [.data, .data, .data, .data, .sentinel, .sentinel, .pinned], laidTests := true, laidLooks := .later }
def SchedulePartsCardSaid : Prop := Claim7.holds Tryz.pinned (.plain (OpenSpec.ofChange schedulePartsSpec)) schedulePartsCard

/-- THE TIED CARD OF 'hopmeshlaw35.ScheduleEdits'. -/
def scheduleEditsCard : Claim7 := { stood := { row := scheduleEditsRow, standIns := [], harness := (true, "8f923f2f17c8ed2bfa7b40d1f53c804515cb6b1f58d047067bd6da2153c63548"), looks := true }, kinds := [], alts := [], laidByText := true, laidKinds := [.data, .data, .data, .data, .sentinel, .sentinel, .pinned], laidTests := true, laidLooks := .later }
def ScheduleEditsCardSaid : Prop := Claim7.holds Tryz.pinned (.plain (OpenSpec.ofChange scheduleEditsSpec)) scheduleEditsCard

/-- THE TIED CARD OF 'hopmeshlaw35.ScheduleBack'. -/
def scheduleBackCard : Claim7 := { stood := { row := scheduleBackRow, standIns := [], harness := (true, "8f923f2f17c8ed2bfa7b40d1f53c804515cb6b1f58d047067bd6da2153c63548"), looks := true }, kinds := [], alts := [], laidByText := true, laidKinds := [.data, .data, .data, .data, .sentinel, .sentinel, .pinned], laidTests := true, laidLooks := .later }
def ScheduleBackCardSaid : Prop := Claim7.holds Tryz.pinned (.plain (OpenSpec.ofChange scheduleBackSpec)) scheduleBackCard

/-- THE SECOND FORM's CARD OF 'hopmeshlaw35.ScheduleChecks'. -/
def scheduleChecksUptoCard : Claim7 := { stood := { row := scheduleChecksUptoRow, standIns := [], harness := (true, "8f923f2f17c8ed2bfa7b40d1f53c804515cb6b1f58d047067bd6da2153c63548"), looks := true }, kinds := [], alts := [], laidByText := true, laidKinds := [.data, .data, .data, .data, .sentinel, .sentinel, .pinned], laidTests := true, laidLooks := .later }
def ScheduleChecksUptoCardSaid : Prop := Claim7.holds Tryz.pinned (.plain (OpenSpec.upto scheduleChecksSpec)) scheduleChecksUptoCard

/-- THE SECOND FORM's CARD OF 'hopmeshlaw35.ScheduleTexts'. -/
def scheduleTextsUptoCard : Claim7 := { stood := { row := scheduleTextsUptoRow, standIns := [], harness := (true, "8f923f2f17c8ed2bfa7b40d1f53c804515cb6b1f58d047067bd6da2153c63548"), looks := true }, kinds := [], alts := [], laidByText := true, laidKinds := [.data, .data, .data, .data, .sentinel, .sentinel, .pinned], laidTests := true, laidLooks := .later }
def ScheduleTextsUptoCardSaid : Prop := Claim7.holds Tryz.pinned (.plain (OpenSpec.upto scheduleTextsSpec)) scheduleTextsUptoCard

/-- THE SECOND FORM's CARD OF 'hopmeshlaw35.ScheduleReturns'. -/
def scheduleReturnsUptoCard : Claim7 := { stood := { row := scheduleReturnsUptoRow, standIns := [], harness := (true, "8f923f2f17c8ed2bfa7b40d1f53c804515cb6b1f58d047067bd6da2153c63548"), looks := true }, kinds := [], alts := [], laidByText := true, laidKinds := [.data, .data, .data, .data, .sentinel, .sentinel, .pinned], laidTests := true, laidLooks := .later }
def ScheduleReturnsUptoCardSaid : Prop := Claim7.holds Tryz.pinned (.plain (OpenSpec.upto scheduleReturnsSpec)) scheduleReturnsUptoCard

/-- THE SECOND FORM's CARD OF 'hopmeshlaw35.ScheduleRepeats'. -/
def scheduleRepeatsUptoCard : Claim7 := { stood := { row := scheduleRepeatsUptoRow, standIns := [], harness := (true, "8f923f2f17c8ed2bfa7b40d1f53c804515cb6b1f58d047067bd6da2153c63548"), looks := true }, kinds := [], alts := [], laidByText := true, laidKinds := [.data, .data, .data, .data, .sentinel, .sentinel, .pinned], laidTests := true, laidLooks := .later }
def ScheduleRepeatsUptoCardSaid : Prop := Claim7.holds Tryz.pinned (.plain (OpenSpec.upto scheduleRepeatsSpec)) scheduleRepeatsUptoCard

/-- THE SECOND FORM's CARD OF 'hopmeshlaw35.ScheduleAgain'. -/
def scheduleAgainUptoCard : Claim7 := { stood := { row := scheduleAgainUptoRow, standIns := [], harness := (true, "8f923f2f17c8ed2bfa7b40d1f53c804515cb6b1f58d047067bd6da2153c63548"), looks := true }, kinds := [], alts := [], laidByText := true, laidKinds := [.data, .data, .data, .data, .sentinel, .sentinel, .pinned], laidTests := true, laidLooks := .later }
def ScheduleAgainUptoCardSaid : Prop := Claim7.holds Tryz.pinned (.plain (OpenSpec.upto scheduleAgainSpec)) scheduleAgainUptoCard

/-- THE SECOND FORM's CARD OF 'hopmeshlaw35.ScheduleParts'. -/
def schedulePartsUptoCard : Claim7 := { stood := { row := schedulePartsUptoRow, standIns := [], harness := (true, "8f923f2f17c8ed2bfa7b40d1f53c804515cb6b1f58d047067bd6da2153c63548"), looks := true }, kinds := [], alts := [], laidByText := true, laidKinds := [.data, .data, .data, .data, .sentinel, .sentinel, .pinned], laidTests := true, laidLooks := .later }
def SchedulePartsUptoCardSaid : Prop := Claim7.holds Tryz.pinned (.plain (OpenSpec.upto schedulePartsSpec)) schedulePartsUptoCard

/-- THE SECOND FORM's CARD OF 'hopmeshlaw35.ScheduleEdits'. -/
def scheduleEditsUptoCard : Claim7 := { stood := { row := scheduleEditsUptoRow, standIns := [], harness := (true, "8f923f2f17c8ed2bfa7b40d1f53c804515cb6b1f58d047067bd6da2153c63548"), looks := true }, kinds := [], alts := [], laidByText := true, laidKinds := [.data, .data, .data, .data, .sentinel, .sentinel, .pinned], laidTests := true, laidLooks := .later }
def ScheduleEditsUptoCardSaid : Prop := Claim7.holds Tryz.pinned (.plain (OpenSpec.upto scheduleEditsSpec)) scheduleEditsUptoCard

/-- THE SECOND FORM's CARD OF 'hopmeshlaw35.ScheduleBack'. -/
def scheduleBackUptoCard : Claim7 := { stood := { row := scheduleBackUptoRow, standIns := [], harness := (true, "8f923f2f17c8ed2bfa7b40d1f53c804515cb6b1f58d047067bd6da2153c63548"), looks := true }, kinds := [], alts := [], laidByText := true, laidKinds := [.data, .data, .data, .data, .sentinel, .sentinel, .pinned], laidTests := true, laidLooks := .later }
def ScheduleBackUptoCardSaid : Prop := Claim7.holds Tryz.pinned (.plain (OpenSpec.upto scheduleBackSpec)) scheduleBackUptoCard
end Rows
end Go.Proofs.YtnkpfpgmbpnbgaaGreatDoor
