/-
  DERIVED. GIVEN WITH THE SEED: THE CARDS: each row of YtnfgbfmhnllnnabDoorRows.lean that lists a variable, with what it lists TIED to the program's text (the seventh form; the later family's looks); each row that meets fmt, with fmt's text TOLD by the authors' own Lean function (tested against real Go, not proved from fmt's source: count such statements apart). THE CARD IS WHAT COUNTS. Prove the row's statement (the work); the ties are given (YtnfgbfmhnllnnabDoorTie.lean); close each card by the builder's one call (the guide's Derived/Test/ToyasCard.lean, 'card_holds'). Laid BY PROGRAM, IN A SANDBOX (cutbox-door.mjs). By AI agents, Wed Nov 11 2026. No macro, syntax, notation, axiom, sorry.
-/
import Derived.Test.YtnfgbfmhnllnnabDoorRows
import GoSem.ClaimSeven
namespace Go.Proofs.YtnfgbfmhnllnnabDoor
namespace Rows

/-- THE TIED CARD OF 'ragpickerlaw05.CellsTile'. -/
def cellsTileCard : Claim7 := { stood := { row := cellsTileRow, standIns := [], harness := (true, "06199e3a50c7b91f13bf491405e7b1c1a407a546f6a623b1767f876a5dd71d5c"), looks := false }, kinds := [], alts := [], laidByText := true, laidKinds := [.widerDeep], laidTests := true, laidLooks := .later }
def CellsTileCardSaid : Prop := Claim7.holds Tryd.pinned (.plain (OpenSpec.ofChange cellsTileSpec)) cellsTileCard

/-- THE TIED CARD OF 'ragpickerlaw05.CellsStart'. -/
def cellsStartCard : Claim7 := { stood := { row := cellsStartRow, standIns := [], harness := (true, "06199e3a50c7b91f13bf491405e7b1c1a407a546f6a623b1767f876a5dd71d5c"), looks := false }, kinds := [], alts := [], laidByText := true, laidKinds := [.widerDeep], laidTests := true, laidLooks := .later }
def CellsStartCardSaid : Prop := Claim7.holds Tryd.pinned (.plain (OpenSpec.ofChange cellsStartSpec)) cellsStartCard

/-- THE TIED CARD OF 'ragpickerlaw05.CellsRooms'. -/
def cellsRoomsCard : Claim7 := { stood := { row := cellsRoomsRow, standIns := [], harness := (true, "06199e3a50c7b91f13bf491405e7b1c1a407a546f6a623b1767f876a5dd71d5c"), looks := false }, kinds := [], alts := [], laidByText := true, laidKinds := [.widerDeep], laidTests := true, laidLooks := .later }
def CellsRoomsCardSaid : Prop := Claim7.holds Tryd.pinned (.plain (OpenSpec.ofChange cellsRoomsSpec)) cellsRoomsCard

/-- THE TIED CARD OF 'ragpickerlaw05.CellsOn'. -/
def cellsOnCard : Claim7 := { stood := { row := cellsOnRow, standIns := [], harness := (true, "06199e3a50c7b91f13bf491405e7b1c1a407a546f6a623b1767f876a5dd71d5c"), looks := false }, kinds := [], alts := [], laidByText := true, laidKinds := [.widerDeep], laidTests := true, laidLooks := .later }
def CellsOnCardSaid : Prop := Claim7.holds Tryd.pinned (.plain (OpenSpec.ofChange cellsOnSpec)) cellsOnCard

/-- THE TIED CARD OF 'ragpickerlaw05.CellsTells'. -/
def cellsTellsCard : Claim7 := { stood := { row := cellsTellsRow, standIns := [], harness := (true, "06199e3a50c7b91f13bf491405e7b1c1a407a546f6a623b1767f876a5dd71d5c"), looks := false }, kinds := [], alts := [], laidByText := true, laidKinds := [.widerDeep], laidTests := true, laidLooks := .later }
def CellsTellsCardSaid : Prop := Claim7.holds Tryd.pinned (.plain (OpenSpec.ofChange cellsTellsSpec)) cellsTellsCard

/-- THE TIED CARD OF 'ragpickerlaw05.CellsNext'. -/
def cellsNextCard : Claim7 := { stood := { row := cellsNextRow, standIns := [], harness := (true, "06199e3a50c7b91f13bf491405e7b1c1a407a546f6a623b1767f876a5dd71d5c"), looks := false }, kinds := [], alts := [], laidByText := true, laidKinds := [.widerDeep], laidTests := true, laidLooks := .later }
def CellsNextCardSaid : Prop := Claim7.holds Tryd.pinned (.plain (OpenSpec.ofChange cellsNextSpec)) cellsNextCard

/-- THE TIED CARD OF 'ragpickerlaw05.CellsBack'. -/
def cellsBackCard : Claim7 := { stood := { row := cellsBackRow, standIns := [], harness := (true, "06199e3a50c7b91f13bf491405e7b1c1a407a546f6a623b1767f876a5dd71d5c"), looks := false }, kinds := [], alts := [], laidByText := true, laidKinds := [.widerDeep], laidTests := true, laidLooks := .later }
def CellsBackCardSaid : Prop := Claim7.holds Tryd.pinned (.plain (OpenSpec.ofChange cellsBackSpec)) cellsBackCard

/-- THE SECOND FORM's CARD OF 'ragpickerlaw05.CellsTile'. -/
def cellsTileUptoCard : Claim7 := { stood := { row := cellsTileUptoRow, standIns := [], harness := (true, "06199e3a50c7b91f13bf491405e7b1c1a407a546f6a623b1767f876a5dd71d5c"), looks := false }, kinds := [], alts := [], laidByText := true, laidKinds := [.widerDeep], laidTests := true, laidLooks := .later }
def CellsTileUptoCardSaid : Prop := Claim7.holds Tryd.pinned (.plain (OpenSpec.upto cellsTileSpec)) cellsTileUptoCard

/-- THE SECOND FORM's CARD OF 'ragpickerlaw05.CellsStart'. -/
def cellsStartUptoCard : Claim7 := { stood := { row := cellsStartUptoRow, standIns := [], harness := (true, "06199e3a50c7b91f13bf491405e7b1c1a407a546f6a623b1767f876a5dd71d5c"), looks := false }, kinds := [], alts := [], laidByText := true, laidKinds := [.widerDeep], laidTests := true, laidLooks := .later }
def CellsStartUptoCardSaid : Prop := Claim7.holds Tryd.pinned (.plain (OpenSpec.upto cellsStartSpec)) cellsStartUptoCard

/-- THE SECOND FORM's CARD OF 'ragpickerlaw05.CellsRooms'. -/
def cellsRoomsUptoCard : Claim7 := { stood := { row := cellsRoomsUptoRow, standIns := [], harness := (true, "06199e3a50c7b91f13bf491405e7b1c1a407a546f6a623b1767f876a5dd71d5c"), looks := false }, kinds := [], alts := [], laidByText := true, laidKinds := [.widerDeep], laidTests := true, laidLooks := .later }
def CellsRoomsUptoCardSaid : Prop := Claim7.holds Tryd.pinned (.plain (OpenSpec.upto cellsRoomsSpec)) cellsRoomsUptoCard

/-- THE SECOND FORM's CARD OF 'ragpickerlaw05.CellsOn'. -/
def cellsOnUptoCard : Claim7 := { stood := { row := cellsOnUptoRow, standIns := [], harness := (true, "06199e3a50c7b91f13bf491405e7b1c1a407a546f6a623b1767f876a5dd71d5c"), looks := false }, kinds := [], alts := [], laidByText := true, laidKinds := [.widerDeep], laidTests := true, laidLooks := .later }
def CellsOnUptoCardSaid : Prop := Claim7.holds Tryd.pinned (.plain (OpenSpec.upto cellsOnSpec)) cellsOnUptoCard

/-- THE SECOND FORM's CARD OF 'ragpickerlaw05.CellsTells'. -/
def cellsTellsUptoCard : Claim7 := { stood := { row := cellsTellsUptoRow, standIns := [], harness := (true, "06199e3a50c7b91f13bf491405e7b1c1a407a546f6a623b1767f876a5dd71d5c"), looks := false }, kinds := [], alts := [], laidByText := true, laidKinds := [.widerDeep], laidTests := true, laidLooks := .later }
def CellsTellsUptoCardSaid : Prop := Claim7.holds Tryd.pinned (.plain (OpenSpec.upto cellsTellsSpec)) cellsTellsUptoCard

/-- THE SECOND FORM's CARD OF 'ragpickerlaw05.CellsNext'. -/
def cellsNextUptoCard : Claim7 := { stood := { row := cellsNextUptoRow, standIns := [], harness := (true, "06199e3a50c7b91f13bf491405e7b1c1a407a546f6a623b1767f876a5dd71d5c"), looks := false }, kinds := [], alts := [], laidByText := true, laidKinds := [.widerDeep], laidTests := true, laidLooks := .later }
def CellsNextUptoCardSaid : Prop := Claim7.holds Tryd.pinned (.plain (OpenSpec.upto cellsNextSpec)) cellsNextUptoCard

/-- THE SECOND FORM's CARD OF 'ragpickerlaw05.CellsBack'. -/
def cellsBackUptoCard : Claim7 := { stood := { row := cellsBackUptoRow, standIns := [], harness := (true, "06199e3a50c7b91f13bf491405e7b1c1a407a546f6a623b1767f876a5dd71d5c"), looks := false }, kinds := [], alts := [], laidByText := true, laidKinds := [.widerDeep], laidTests := true, laidLooks := .later }
def CellsBackUptoCardSaid : Prop := Claim7.holds Tryd.pinned (.plain (OpenSpec.upto cellsBackSpec)) cellsBackUptoCard
end Rows
end Go.Proofs.YtnfgbfmhnllnnabDoor
