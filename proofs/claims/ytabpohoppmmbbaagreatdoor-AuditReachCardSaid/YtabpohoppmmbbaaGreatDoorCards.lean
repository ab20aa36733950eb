/-
  DERIVED. GIVEN WITH THE SEED: THE CARDS: each row of YtabpohoppmmbbaaGreatDoorRows.lean that lists a variable, with what it lists TIED to the program's text (the seventh form; the later family's looks); each row that meets fmt, with fmt's text TOLD by the authors' own Lean function (tested against real Go, not proved from fmt's source: count such statements apart). THE CARD IS WHAT COUNTS. Prove the row's statement (the work); the ties are given (YtabpohoppmmbbaaGreatDoorTie.lean); close each card by the builder's one call (the guide's Derived/Test/ToyasCard.lean, 'card_holds'). Laid BY PROGRAM, IN A SANDBOX (cutbox-door.mjs). By AI agents, Wed Nov 11 2026. No macro, syntax, notation, axiom, sorry.
-/
import Derived.Test.YtabpohoppmmbbaaGreatDoorRows
import GoSem.ClaimSeven
namespace Go.Proofs.YtabpohoppmmbbaaGreatDoor
namespace Rows

/-- THE TIED CARD OF 'ragpickerlaw22.AuditReach'. -/
def auditReachCard : Claim7 := { stood := { row := auditReachRow, standIns := [], harness := (true, "0c1572b4259fac228d05e18c9555d819b6c2dc7eb5995fb8622919ea2072010d"), looks := false }, kinds := [], alts := [], laidByText := true, laidKinds := [.widerDeep], laidTests := true, laidLooks := .later }
def AuditReachCardSaid : Prop := Claim7.holds Tryz.pinned (.plain (OpenSpec.ofChange auditReachSpec)) auditReachCard

/-- THE TIED CARD OF 'ragpickerlaw14.MutateSteps'. -/
def mutateStepsCard : Claim7 := { stood := { row := mutateStepsRow, standIns := [], harness := (true, "0c1572b4259fac228d05e18c9555d819b6c2dc7eb5995fb8622919ea2072010d"), looks := false }, kinds := [], alts := [], laidByText := true, laidKinds := [.widerDeep], laidTests := true, laidLooks := .later }
def MutateStepsCardSaid : Prop := Claim7.holds Tryz.pinned (.plain (OpenSpec.ofChange mutateStepsSpec)) mutateStepsCard

/-- THE TIED CARD OF 'ragpickerlaw14.MutateErrors'. -/
def mutateErrorsCard : Claim7 := { stood := { row := mutateErrorsRow, standIns := [], harness := (true, "0c1572b4259fac228d05e18c9555d819b6c2dc7eb5995fb8622919ea2072010d"), looks := false }, kinds := [], alts := [], laidByText := true, laidKinds := [.widerDeep], laidTests := true, laidLooks := .later }
def MutateErrorsCardSaid : Prop := Claim7.holds Tryz.pinned (.plain (OpenSpec.ofChange mutateErrorsSpec)) mutateErrorsCard

/-- THE TIED CARD OF 'ragpickerlaw14.MutateEnds'. -/
def mutateEndsCard : Claim7 := { stood := { row := mutateEndsRow, standIns := [], harness := (true, "0c1572b4259fac228d05e18c9555d819b6c2dc7eb5995fb8622919ea2072010d"), looks := false }, kinds := [], alts := [], laidByText := true, laidKinds := [.widerDeep], laidTests := true, laidLooks := .later }
def MutateEndsCardSaid : Prop := Claim7.holds Tryz.pinned (.plain (OpenSpec.ofChange mutateEndsSpec)) mutateEndsCard

/-- THE TIED CARD OF 'ragpickerlaw14.MutateReads'. -/
def mutateReadsCard : Claim7 := { stood := { row := mutateReadsRow, standIns := [], harness := (true, "0c1572b4259fac228d05e18c9555d819b6c2dc7eb5995fb8622919ea2072010d"), looks := false }, kinds := [], alts := [], laidByText := true, laidKinds := [.widerDeep], laidTests := true, laidLooks := .later }
def MutateReadsCardSaid : Prop := Claim7.holds Tryz.pinned (.plain (OpenSpec.ofChange mutateReadsSpec)) mutateReadsCard

/-- THE TIED CARD OF 'ragpickerlaw14.MutateStores'. -/
def mutateStoresCard : Claim7 := { stood := { row := mutateStoresRow, standIns := [], harness := (true, "0c1572b4259fac228d05e18c9555d819b6c2dc7eb5995fb8622919ea2072010d"), looks := false }, kinds := [], alts := [], laidByText := true, laidKinds := [.widerDeep], laidTests := true, laidLooks := .later }
def MutateStoresCardSaid : Prop := Claim7.holds Tryz.pinned (.plain (OpenSpec.ofChange mutateStoresSpec)) mutateStoresCard

/-- THE TIED CARD OF 'ragpickerlaw14.MutateNew'. -/
def mutateNewCard : Claim7 := { stood := { row := mutateNewRow, standIns := [], harness := (true, "0c1572b4259fac228d05e18c9555d819b6c2dc7eb5995fb8622919ea2072010d"), looks := false }, kinds := [], alts := [], laidByText := true, laidKinds := [.widerDeep], laidTests := true, laidLooks := .later }
def MutateNewCardSaid : Prop := Claim7.holds Tryz.pinned (.plain (OpenSpec.ofChange mutateNewSpec)) mutateNewCard

/-- THE TIED CARD OF 'ragpickerlaw14.MutateKeeps'. -/
def mutateKeepsCard : Claim7 := { stood := { row := mutateKeepsRow, standIns := [], harness := (true, "0c1572b4259fac228d05e18c9555d819b6c2dc7eb5995fb8622919ea2072010d"), looks := false }, kinds := [], alts := [], laidByText := true, laidKinds := [.widerDeep], laidTests := true, laidLooks := .later }
def MutateKeepsCardSaid : Prop := Claim7.holds Tryz.pinned (.plain (OpenSpec.ofChange mutateKeepsSpec)) mutateKeepsCard

/-- THE TIED CARD OF 'ragpickerlaw20.WorldDoes'. -/
def worldDoesCard : Claim7 := { stood := { row := worldDoesRow, standIns := [], harness := (true, "0c1572b4259fac228d05e18c9555d819b6c2dc7eb5995fb8622919ea2072010d"), looks := false }, kinds := [], alts := [], laidByText := true, laidKinds := [.widerDeep], laidTests := true, laidLooks := .later }
def WorldDoesCardSaid : Prop := Claim7.holds Tryz.pinned (.plain (OpenSpec.ofChange worldDoesSpec)) worldDoesCard

/-- THE TIED CARD OF 'ragpickerlaw20.WorldRuns'. -/
def worldRunsCard : Claim7 := { stood := { row := worldRunsRow, standIns := [], harness := (true, "0c1572b4259fac228d05e18c9555d819b6c2dc7eb5995fb8622919ea2072010d"), looks := false }, kinds := [], alts := [], laidByText := true, laidKinds := [.widerDeep], laidTests := true, laidLooks := .later }
def WorldRunsCardSaid : Prop := Claim7.holds Tryz.pinned (.plain (OpenSpec.ofChange worldRunsSpec)) worldRunsCard

/-- THE TIED CARD OF 'ragpickerlaw20.WorldKeeps'. -/
def worldKeepsCard : Claim7 := { stood := { row := worldKeepsRow, standIns := [], harness := (true, "0c1572b4259fac228d05e18c9555d819b6c2dc7eb5995fb8622919ea2072010d"), looks := false }, kinds := [], alts := [], laidByText := true, laidKinds := [.widerDeep], laidTests := true, laidLooks := .later }
def WorldKeepsCardSaid : Prop := Claim7.holds Tryz.pinned (.plain (OpenSpec.ofChange worldKeepsSpec)) worldKeepsCard

/-- THE TIED CARD OF 'ragpickerlaw20.WorldParts'. -/
def worldPartsCard : Claim7 := { stood := { row := worldPartsRow, standIns := [], harness := (true, "0c1572b4259fac228d05e18c9555d819b6c2dc7eb5995fb8622919ea2072010d"), looks := false }, kinds := [], alts := [], laidByText := true, laidKinds := [.widerDeep], laidTests := true, laidLooks := .later }
def WorldPartsCardSaid : Prop := Claim7.holds Tryz.pinned (.plain (OpenSpec.ofChange worldPartsSpec)) worldPartsCard

/-- THE TIED CARD OF 'ragpickerlaw20.WorldNew'. -/
def worldNewCard : Claim7 := { stood := { row := worldNewRow, standIns := [], harness := (true, "0c1572b4259fac228d05e18c9555d819b6c2dc7eb5995fb8622919ea2072010d"), looks := false }, kinds := [], alts := [], laidByText := true, laidKinds := [.widerDeep], laidTests := true, laidLooks := .later }
def WorldNewCardSaid : Prop := Claim7.holds Tryz.pinned (.plain (OpenSpec.ofChange worldNewSpec)) worldNewCard

/-- THE TIED CARD OF 'ragpickerlaw20.WorldOthers'. -/
def worldOthersCard : Claim7 := { stood := { row := worldOthersRow, standIns := [], harness := (true, "0c1572b4259fac228d05e18c9555d819b6c2dc7eb5995fb8622919ea2072010d"), looks := false }, kinds := [], alts := [], laidByText := true, laidKinds := [.widerDeep], laidTests := true, laidLooks := .later }
def WorldOthersCardSaid : Prop := Claim7.holds Tryz.pinned (.plain (OpenSpec.ofChange worldOthersSpec)) worldOthersCard

/-- THE TIED CARD OF 'ragpickerlaw20.WorldShares'. -/
def worldSharesCard : Claim7 := { stood := { row := worldSharesRow, standIns := [], harness := (true, "0c1572b4259fac228d05e18c9555d819b6c2dc7eb5995fb8622919ea2072010d"), looks := false }, kinds := [], alts := [], laidByText := true, laidKinds := [.widerDeep], laidTests := true, laidLooks := .later }
def WorldSharesCardSaid : Prop := Claim7.holds Tryz.pinned (.plain (OpenSpec.ofChange worldSharesSpec)) worldSharesCard

/-- THE SECOND FORM's CARD OF 'ragpickerlaw22.AuditReach'. -/
def auditReachUptoCard : Claim7 := { stood := { row := auditReachUptoRow, standIns := [], harness := (true, "0c1572b4259fac228d05e18c9555d819b6c2dc7eb5995fb8622919ea2072010d"), looks := false }, kinds := [], alts := [], laidByText := true, laidKinds := [.widerDeep], laidTests := true, laidLooks := .later }
def AuditReachUptoCardSaid : Prop := Claim7.holds Tryz.pinned (.plain (OpenSpec.upto auditReachSpec)) auditReachUptoCard

/-- THE SECOND FORM's CARD OF 'ragpickerlaw14.MutateSteps'. -/
def mutateStepsUptoCard : Claim7 := { stood := { row := mutateStepsUptoRow, standIns := [], harness := (true, "0c1572b4259fac228d05e18c9555d819b6c2dc7eb5995fb8622919ea2072010d"), looks := false }, kinds := [], alts := [], laidByText := true, laidKinds := [.widerDeep], laidTests := true, laidLooks := .later }
def MutateStepsUptoCardSaid : Prop := Claim7.holds Tryz.pinned (.plain (OpenSpec.upto mutateStepsSpec)) mutateStepsUptoCard

/-- THE SECOND FORM's CARD OF 'ragpickerlaw14.MutateErrors'. -/
def mutateErrorsUptoCard : Claim7 := { stood := { row := mutateErrorsUptoRow, standIns := [], harness := (true, "0c1572b4259fac228d05e18c9555d819b6c2dc7eb5995fb8622919ea2072010d"), looks := false }, kinds := [], alts := [], laidByText := true, laidKinds := [.widerDeep], laidTests := true, laidLooks := .later }
def MutateErrorsUptoCardSaid : Prop := Claim7.holds Tryz.pinned (.plain (OpenSpec.upto mutateErrorsSpec)) mutateErrorsUptoCard

/-- THE SECOND FORM's CARD OF 'ragpickerlaw14.MutateEnds'. -/
def mutateEndsUptoCard : Claim7 := { stood := { row := mutateEndsUptoRow, standIns := [], harness := (true, "0c1572b4259fac228d05e18c9555d819b6c2dc7eb5995fb8622919ea2072010d"), looks := false }, kinds := [], alts := [], laidByText := true, laidKinds := [.widerDeep], laidTests := true, laidLooks := .later }
def MutateEndsUptoCardSaid : Prop := Claim7.holds Tryz.pinned (.plain (OpenSpec.upto mutateEndsSpec)) mutateEndsUptoCard

/-- THE SECOND FORM's CARD OF 'ragpickerlaw14.MutateReads'. -/
def mutateReadsUptoCard : Claim7 := { stood := { row := mutateReadsUptoRow, standIns := [], harness := (true, "0c1572b4259fac228d05e18c9555d819b6c2dc7eb5995fb8622919ea2072010d"), looks := false }, kinds := [], alts := [], laidByText := true, laidKinds := [.widerDeep], laidTests := true, laidLooks := .later }
def MutateReadsUptoCardSaid : Prop := Claim7.holds Tryz.pinned (.plain (OpenSpec.upto mutateReadsSpec)) mutateReadsUptoCard

/-- THE SECOND FORM's CARD OF 'ragpickerlaw14.MutateStores'. -/
def mutateStoresUptoCard : Claim7 := { stood := { row := mutateStoresUptoRow, standIns := [], harness := (true, "0c1572b4259fac228d05e18c9555d819b6c2dc7eb5995fb8622919ea2072010d"), looks := false }, kinds := [], alts := [], laidByText := true, laidKinds := [.widerDeep], laidTests := true, laidLooks := .later }
def MutateStoresUptoCardSaid : Prop := Claim7.holds Tryz.pinned (.plain (OpenSpec.upto mutateStoresSpec)) mutateStoresUptoCard

/-- THE SECOND FORM's CARD OF 'ragpickerlaw14.MutateNew'. -/
def mutateNewUptoCard : Claim7 := { stood := { row := mutateNewUptoRow, standIns := [], harness := (true, "0c1572b4259fac228d05e18c9555d819b6c2dc7eb5995fb8622919ea2072010d"), looks := false }, kinds := [], alts := [], laidByText := true, laidKinds := [.widerDeep], laidTests := true, laidLooks := .later }
def MutateNewUptoCardSaid : Prop := Claim7.holds Tryz.pinned (.plain (OpenSpec.upto mutateNewSpec)) mutateNewUptoCard

/-- THE SECOND FORM's CARD OF 'ragpickerlaw14.MutateKeeps'. -/
def mutateKeepsUptoCard : Claim7 := { stood := { row := mutateKeepsUptoRow, standIns := [], harness := (true, "0c1572b4259fac228d05e18c9555d819b6c2dc7eb5995fb8622919ea2072010d"), looks := false }, kinds := [], alts := [], laidByText := true, laidKinds := [.widerDeep], laidTests := true, laidLooks := .later }
def MutateKeepsUptoCardSaid : Prop := Claim7.holds Tryz.pinned (.plain (OpenSpec.upto mutateKeepsSpec)) mutateKeepsUptoCard

/-- THE SECOND FORM's CARD OF 'ragpickerlaw20.WorldDoes'. -/
def worldDoesUptoCard : Claim7 := { stood := { row := worldDoesUptoRow, standIns := [], harness := (true, "0c1572b4259fac228d05e18c9555d819b6c2dc7eb5995fb8622919ea2072010d"), looks := false }, kinds := [], alts := [], laidByText := true, laidKinds := [.widerDeep], laidTests := true, laidLooks := .later }
def WorldDoesUptoCardSaid : Prop := Claim7.holds Tryz.pinned (.plain (OpenSpec.upto worldDoesSpec)) worldDoesUptoCard

/-- THE SECOND FORM's CARD OF 'ragpickerlaw20.WorldRuns'. -/
def worldRunsUptoCard : Claim7 := { stood := { row := worldRunsUptoRow, standIns := [], harness := (true, "0c1572b4259fac228d05e18c9555d819b6c2dc7eb5995fb8622919ea2072010d"), looks := false }, kinds := [], alts := [], laidByText := true, laidKinds := [.widerDeep], laidTests := true, laidLooks := .later }
def WorldRunsUptoCardSaid : Prop := Claim7.holds Tryz.pinned (.plain (OpenSpec.upto worldRunsSpec)) worldRunsUptoCard

/-- THE SECOND FORM's CARD OF 'ragpickerlaw20.WorldKeeps'. -/
def worldKeepsUptoCard : Claim7 := { stood := { row := worldKeepsUptoRow, standIns := [], harness := (true, "0c1572b4259fac228d05e18c9555d819b6c2dc7eb5995fb8622919ea2072010d"), looks := false }, kinds := [], alts := [], laidByText := true, laidKinds := [.widerDeep], laidTests := true, laidLooks := .later }
def WorldKeepsUptoCardSaid : Prop := Claim7.holds Tryz.pinned (.plain (OpenSpec.upto worldKeepsSpec)) worldKeepsUptoCard

/-- THE SECOND FORM's CARD OF 'ragpickerlaw20.WorldParts'. -/
def worldPartsUptoCard : Claim7 := { stood := { row := worldPartsUptoRow, standIns := [], harness := (true, "0c1572b4259fac228d05e18c9555d819b6c2dc7eb5995fb8622919ea2072010d"), looks := false }, kinds := [], alts := [], laidByText := true, laidKinds := [.widerDeep], laidTests := true, laidLooks := .later }
def WorldPartsUptoCardSaid : Prop := Claim7.holds Tryz.pinned (.plain (OpenSpec.upto worldPartsSpec)) worldPartsUptoCard

/-- THE SECOND FORM's CARD OF 'ragpickerlaw20.WorldNew'. -/
def worldNewUptoCard : Claim7 := { stood := { row := worldNewUptoRow, standIns := [], harness := (true, "0c1572b4259fac228d05e18c9555d819b6c2dc7eb5995fb8622919ea2072010d"), looks := false }, kinds := [], alts := [], laidByText := true, laidKinds := [.widerDeep], laidTests := true, laidLooks := .later }
def WorldNewUptoCardSaid : Prop := Claim7.holds Tryz.pinned (.plain (OpenSpec.upto worldNewSpec)) worldNewUptoCard

/-- THE SECOND FORM's CARD OF 'ragpickerlaw20.WorldOthers'. -/
def worldOthersUptoCard : Claim7 := { stood := { row := worldOthersUptoRow, standIns := [], harness := (true, "0c1572b4259fac228d05e18c9555d819b6c2dc7eb5995fb8622919ea2072010d"), looks := false }, kinds := [], alts := [], laidByText := true, laidKinds := [.widerDeep], laidTests := true, laidLooks := .later }
def WorldOthersUptoCardSaid : Prop := Claim7.holds Tryz.pinned (.plain (OpenSpec.upto worldOthersSpec)) worldOthersUptoCard

/-- THE SECOND FORM's CARD OF 'ragpickerlaw20.WorldShares'. -/
def worldSharesUptoCard : Claim7 := { stood := { row := worldSharesUptoRow, standIns := [], harness := (true, "0c1572b4259fac228d05e18c9555d819b6c2dc7eb5995fb8622919ea2072010d"), looks := false }, kinds := [], alts := [], laidByText := true, laidKinds := [.widerDeep], laidTests := true, laidLooks := .later }
def WorldSharesUptoCardSaid : Prop := Claim7.holds Tryz.pinned (.plain (OpenSpec.upto worldSharesSpec)) worldSharesUptoCard
end Rows
end Go.Proofs.YtabpohoppmmbbaaGreatDoor
