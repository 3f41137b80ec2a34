/-
  DERIVED. GIVEN WITH THE SEED: THE CARDS: each row of YtmalhidldgfeoaaGreatDoorRows.lean that lists a variable, with what it lists TIED to the program's text (the seventh form; the later family's looks); each row that meets fmt, with fmt's text TOLD by the authors' own Lean function (tested against real Go, not proved from fmt's source: count such statements apart). THE CARD IS WHAT COUNTS. Prove the row's statement (the work); the ties are given (YtmalhidldgfeoaaGreatDoorTie.lean); close each card by the builder's one call (the guide's Derived/Test/ToyasCard.lean, 'card_holds'). Laid BY PROGRAM, IN A SANDBOX (cutbox-door.mjs). By AI agents, Wed Nov 11 2026. No macro, syntax, notation, axiom, sorry.
-/
import Derived.Test.YtmalhidldgfeoaaGreatDoorRows
import GoSem.ClaimSeven
namespace Go.Proofs.YtmalhidldgfeoaaGreatDoor
namespace Rows

/-- THE TIED CARD OF 'hopmeshlaw35.ScheduleParts'. -/
def schedulePartsCard : Claim7 := { stood := { row := schedulePartsRow, standIns := [], harness := (true, "677a59e7b99a07088b8f3f7a9f3a0265262a4f615b4af9b33334bfde8801c4ef"), looks := true }, kinds := [], alts := [], laidByText := true, laidKinds := [.data, .data, .data, .data, .sentinel, .sentinel, .pinned], laidTests := true, laidLooks := .later }
def SchedulePartsCardSaid : Prop := Claim7.holds Tryz.pinned (.plain (OpenSpec.ofChange schedulePartsSpec)) schedulePartsCard

/-- THE TIED CARD OF 'hopmeshlaw38.CertificateMakes'. -/
def certificateMakesCard : Claim7 := { stood := { row := certificateMakesRow, standIns := [], harness := (true, "677a59e7b99a07088b8f3f7a9f3a0265262a4f615b4af9b33334bfde8801c4ef"), looks := true }, kinds := [], alts := [], laidByText := true, laidKinds := [.data, .data, .data, .data, .sentinel, .sentinel, .pinned], laidTests := true, laidLooks := .later }
def CertificateMakesCardSaid : Prop := Claim7.holds Tryz.pinned (.plain (OpenSpec.ofChange certificateMakesSpec)) certificateMakesCard

/-- THE TIED CARD OF 'hopmeshlaw38.CertificateChecks'. -/
def certificateChecksCard : Claim7 := { stood := { row := certificateChecksRow, standIns := [], harness := (true, "677a59e7b99a07088b8f3f7a9f3a0265262a4f615b4af9b33334bfde8801c4ef"), looks := true }, kinds := [], alts := [], laidByText := true, laidKinds := [.data, .data, .data, .data, .sentinel, .sentinel, .pinned], laidTests := true, laidLooks := .later }
def CertificateChecksCardSaid : Prop := Claim7.holds Tryz.pinned (.plain (OpenSpec.ofChange certificateChecksSpec)) certificateChecksCard

/-- THE TIED CARD OF 'hopmeshlaw38.CertificateTexts'. -/
def certificateTextsCard : Claim7 := { stood := { row := certificateTextsRow, standIns := [], harness := (true, "677a59e7b99a07088b8f3f7a9f3a0265262a4f615b4af9b33334bfde8801c4ef"), looks := true }, kinds := [], alts := [], laidByText := true, laidKinds := [.data, .data, .data, .data, .sentinel, .sentinel, .pinned], laidTests := true, laidLooks := .later }
def CertificateTextsCardSaid : Prop := Claim7.holds Tryz.pinned (.plain (OpenSpec.ofChange certificateTextsSpec)) certificateTextsCard

/-- THE TIED CARD OF 'hopmeshlaw38.CertificateForged'. -/
def certificateForgedCard : Claim7 := { stood := { row := certificateForgedRow, standIns := [], harness := (true, "677a59e7b99a07088b8f3f7a9f3a0265262a4f615b4af9b33334bfde8801c4ef"), looks := true }, kinds := [], alts := [], laidByText := true, laidKinds := [.data, .data, .data, .data, .sentinel, .sentinel, .pinned], laidTests := true, laidLooks := .later }
def CertificateForgedCardSaid : Prop := Claim7.holds Tryz.pinned (.plain (OpenSpec.ofChange certificateForgedSpec)) certificateForgedCard

/-- THE TIED CARD OF 'hopmeshlaw38.CertificateReturns'. -/
def certificateReturnsCard : Claim7 := { stood := { row := certificateReturnsRow, standIns := [], harness := (true, "677a59e7b99a07088b8f3f7a9f3a0265262a4f615b4af9b33334bfde8801c4ef"), looks := true }, kinds := [], alts := [], laidByText := true, laidKinds := [.data, .data, .data, .data, .sentinel, .sentinel, .pinned], laidTests := true, laidLooks := .later }
def CertificateReturnsCardSaid : Prop := Claim7.holds Tryz.pinned (.plain (OpenSpec.ofChange certificateReturnsSpec)) certificateReturnsCard

/-- THE TIED CARD OF 'hopmeshlaw38.CertificateServes'. -/
def certificateServesCard : Claim7 := { stood := { row := certificateServesRow, standIns := [], harness := (true, "677a59e7b99a07088b8f3f7a9f3a0265262a4f615b4af9b33334bfde8801c4ef"), looks := true }, kinds := [], alts := [], laidByText := true, laidKinds := [.data, .data, .data, .data, .sentinel, .sentinel, .pinned], laidTests := true, laidLooks := .later }
def CertificateServesCardSaid : Prop := Claim7.holds Tryz.pinned (.plain (OpenSpec.ofChange certificateServesSpec)) certificateServesCard

/-- THE TIED CARD OF 'hopmeshlaw38.CertificateKept'. -/
def certificateKeptCard : Claim7 := { stood := { row := certificateKeptRow, standIns := [], harness := (true, "677a59e7b99a07088b8f3f7a9f3a0265262a4f615b4af9b33334bfde8801c4ef"), looks := true }, kinds := [], alts := [], laidByText := true, laidKinds := [.data, .data, .data, .data, .sentinel, .sentinel, .pinned], laidTests := true, laidLooks := .later }
def CertificateKeptCardSaid : Prop := Claim7.holds Tryz.pinned (.plain (OpenSpec.ofChange certificateKeptSpec)) certificateKeptCard

/-- THE SECOND FORM's CARD OF 'hopmeshlaw35.ScheduleParts'. -/
def schedulePartsUptoCard : Claim7 := { stood := { row := schedulePartsUptoRow, standIns := [], harness := (true, "677a59e7b99a07088b8f3f7a9f3a0265262a4f615b4af9b33334bfde8801c4ef"), looks := true }, kinds := [], alts := [], laidByText := true, laidKinds := [.data, .data, .data, .data, .sentinel, .sentinel, .pinned], laidTests := true, laidLooks := .later }
def SchedulePartsUptoCardSaid : Prop := Claim7.holds Tryz.pinned (.plain (OpenSpec.upto schedulePartsSpec)) schedulePartsUptoCard

/-- THE SECOND FORM's CARD OF 'hopmeshlaw38.CertificateMakes'. -/
def certificateMakesUptoCard : Claim7 := { stood := { row := certificateMakesUptoRow, standIns := [], harness := (true, "677a59e7b99a07088b8f3f7a9f3a0265262a4f615b4af9b33334bfde8801c4ef"), looks := true }, kinds := [], alts := [], laidByText := true, laidKinds := [.data, .data, .data, .data, .sentinel, .sentinel, .pinned], laidTests := true, laidLooks := .later }
def CertificateMakesUptoCardSaid : Prop := Claim7.holds Tryz.pinned (.plain (OpenSpec.upto certificateMakesSpec)) certificateMakesUptoCard

/-- THE SECOND FORM's CARD OF 'hopmeshlaw38.CertificateChecks'. -/
def certificateChecksUptoCard : Claim7 := { stood := { row := certificateChecksUptoRow, standIns := [], harness := (true, "677a59e7b99a07088b8f3f7a9f3a0265262a4f615b4af9b33334bfde8801c4ef"), looks := true }, kinds := [], alts := [], laidByText := true, laidKinds := [.data, .data, .data, .data, .sentinel, .sentinel, .pinned], laidTests := true, laidLooks := .later }
def CertificateChecksUptoCardSaid : Prop := Claim7.holds Tryz.pinned (.plain (OpenSpec.upto certificateChecksSpec)) certificateChecksUptoCard

/-- THE SECOND FORM's CARD OF 'hopmeshlaw38.CertificateTexts'. -/
def certificateTextsUptoCard : Claim7 := { stood := { row := certificateTextsUptoRow, standIns := [], harness := (true, "677a59e7b99a07088b8f3f7a9f3a0265262a4f615b4af9b33334bfde8801c4ef"), looks := true }, kinds := [], alts := [], laidByText := true, laidKinds := [.data, .data, .data, .data, .sentinel, .sentinel, .pinned], laidTests := true, laidLooks := .later }
def CertificateTextsUptoCardSaid : Prop := Claim7.holds Tryz.pinned (.plain (OpenSpec.upto certificateTextsSpec)) certificateTextsUptoCard

/-- THE SECOND FORM's CARD OF 'hopmeshlaw38.CertificateForged'. -/
def certificateForgedUptoCard : Claim7 := { stood := { row := certificateForgedUptoRow, standIns := [], harness := (true, "677a59e7b99a07088b8f3f7a9f3a0265262a4f615b4af9b33334bfde8801c4ef"), looks := true }, kinds := [], alts := [], laidByText := true, laidKinds := [.data, .data, .data, .data, .sentinel, .sentinel, .pinned], laidTests := true, laidLooks := .later }
def CertificateForgedUptoCardSaid : Prop := Claim7.holds Tryz.pinned (.plain (OpenSpec.upto certificateForgedSpec)) certificateForgedUptoCard

/-- THE SECOND FORM's CARD OF 'hopmeshlaw38.CertificateReturns'. -/
def certificateReturnsUptoCard : Claim7 := { stood := { row := certificateReturnsUptoRow, standIns := [], harness := (true, "677a59e7b99a07088b8f3f7a9f3a0265262a4f615b4af9b33334bfde8801c4ef"), looks := true }, kinds := [], alts := [], laidByText := true, laidKinds := [.data, .data, .data, .data, .sentinel, .sentinel, .pinned], laidTests := true, laidLooks := .later }
def CertificateReturnsUptoCardSaid : Prop := Claim7.holds Tryz.pinned (.plain (OpenSpec.upto certificateReturnsSpec)) certificateReturnsUptoCard

/-- THE SECOND FORM's CARD OF 'hopmeshlaw38.CertificateServes'. -/
def certificateServesUptoCard : Claim7 := { stood := { row := certificateServesUptoRow, standIns := [], harness := (true, "677a59e7b99a07088b8f3f7a9f3a0265262a4f615b4af9b33334bfde8801c4ef"), looks := true }, kinds := [], alts := [], laidByText := true, laidKinds := [.data, .data, .data, .data, .sentinel, .sentinel, .pinned], laidTests := true, laidLooks := .later }
def CertificateServesUptoCardSaid : Prop := Claim7.holds Tryz.pinned (.plain (OpenSpec.upto certificateServesSpec)) certificateServesUptoCard

/-- THE SECOND FORM's CARD OF 'hopmeshlaw38.CertificateKept'. -/
def certificateKeptUptoCard : Claim7 := { stood := { row := certificateKeptUptoRow, standIns := [], harness := (true, "677a59e7b99a07088b8f3f7a9f3a0265262a4f615b4af9b33334bfde8801c4ef"), looks := true }, kinds := [], alts := [], laidByText := true, laidKinds := [.data, .data, .data, .data, .sentinel, .sentinel, .pinned], laidTests := true, laidLooks := .later }
def CertificateKeptUptoCardSaid : Prop := Claim7.holds Tryz.pinned (.plain (OpenSpec.upto certificateKeptSpec)) certificateKeptUptoCard
end Rows
end Go.Proofs.YtmalhidldgfeoaaGreatDoor
