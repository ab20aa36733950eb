/-
  DERIVED. GIVEN WITH THE SEED: THE CARDS: each row of YtkahninpodhcmaaGreatDoorRows.lean that lists a variable, with what it lists TIED to the program's text (the seventh form; the later family's looks); each row that meets fmt, with fmt's text TOLD by the authors' own Lean function (tested against real Go, not proved from fmt's source: count such statements apart). THE CARD IS WHAT COUNTS. Prove the row's statement (the work); the ties are given (YtkahninpodhcmaaGreatDoorTie.lean); close each card by the builder's one call (the guide's Derived/Test/ToyasCard.lean, 'card_holds'). Laid BY PROGRAM, IN A SANDBOX (cutbox-door.mjs). By AI agents, Wed Nov 11 2026. No macro, syntax, notation, axiom, sorry.
-/
import Derived.Test.YtkahninpodhcmaaGreatDoorRows
import GoSem.ClaimSeven
namespace Go.Proofs.YtkahninpodhcmaaGreatDoor
namespace Rows

/-- THE TIED CARD OF 'ragpickerlaw09.ReapFrees'. -/
def reapFreesCard : Claim7 := { stood := { row := reapFreesRow, standIns := [], harness := (true, "c32d6f26b0c1f725c7fad0d0769da2e38cfdb9c5f511d7443c04610fff38ed07"), looks := false }, kinds := [], alts := [], laidByText := true, laidKinds := [.widerDeep], laidTests := true, laidLooks := .later }
def ReapFreesCardSaid : Prop := Claim7.holds Tryz.pinned (.plain (OpenSpec.ofChange reapFreesSpec)) reapFreesCard

/-- THE TIED CARD OF 'ragpickerlaw08.AllocTakes'. -/
def allocTakesCard : Claim7 := { stood := { row := allocTakesRow, standIns := [], harness := (true, "c32d6f26b0c1f725c7fad0d0769da2e38cfdb9c5f511d7443c04610fff38ed07"), looks := false }, kinds := [], alts := [], laidByText := true, laidKinds := [.widerDeep], laidTests := true, laidLooks := .later }
def AllocTakesCardSaid : Prop := Claim7.holds Tryz.pinned (.plain (OpenSpec.ofChange allocTakesSpec)) allocTakesCard

/-- THE TIED CARD OF 'ragpickerlaw08.AllocFull'. -/
def allocFullCard : Claim7 := { stood := { row := allocFullRow, standIns := [], harness := (true, "c32d6f26b0c1f725c7fad0d0769da2e38cfdb9c5f511d7443c04610fff38ed07"), looks := false }, kinds := [], alts := [], laidByText := true, laidKinds := [.widerDeep], laidTests := true, laidLooks := .later }
def AllocFullCardSaid : Prop := Claim7.holds Tryz.pinned (.plain (OpenSpec.ofChange allocFullSpec)) allocFullCard

/-- THE TIED CARD OF 'ragpickerlaw08.AllocLeast'. -/
def allocLeastCard : Claim7 := { stood := { row := allocLeastRow, standIns := [], harness := (true, "c32d6f26b0c1f725c7fad0d0769da2e38cfdb9c5f511d7443c04610fff38ed07"), looks := false }, kinds := [], alts := [], laidByText := true, laidKinds := [.widerDeep], laidTests := true, laidLooks := .later }
def AllocLeastCardSaid : Prop := Claim7.holds Tryz.pinned (.plain (OpenSpec.ofChange allocLeastSpec)) allocLeastCard

/-- THE TIED CARD OF 'ragpickerlaw08.AllocTwice'. -/
def allocTwiceCard : Claim7 := { stood := { row := allocTwiceRow, standIns := [], harness := (true, "c32d6f26b0c1f725c7fad0d0769da2e38cfdb9c5f511d7443c04610fff38ed07"), looks := false }, kinds := [], alts := [], laidByText := true, laidKinds := [.widerDeep], laidTests := true, laidLooks := .later }
def AllocTwiceCardSaid : Prop := Claim7.holds Tryz.pinned (.plain (OpenSpec.ofChange allocTwiceSpec)) allocTwiceCard

/-- THE TIED CARD OF 'ragpickerlaw08.AllocHeads'. -/
def allocHeadsCard : Claim7 := { stood := { row := allocHeadsRow, standIns := [], harness := (true, "c32d6f26b0c1f725c7fad0d0769da2e38cfdb9c5f511d7443c04610fff38ed07"), looks := false }, kinds := [], alts := [], laidByText := true, laidKinds := [.widerDeep], laidTests := true, laidLooks := .later }
def AllocHeadsCardSaid : Prop := Claim7.holds Tryz.pinned (.plain (OpenSpec.ofChange allocHeadsSpec)) allocHeadsCard

/-- THE TIED CARD OF 'ragpickerlaw08.AllocKeeps'. -/
def allocKeepsCard : Claim7 := { stood := { row := allocKeepsRow, standIns := [], harness := (true, "c32d6f26b0c1f725c7fad0d0769da2e38cfdb9c5f511d7443c04610fff38ed07"), looks := false }, kinds := [], alts := [], laidByText := true, laidKinds := [.widerDeep], laidTests := true, laidLooks := .later }
def AllocKeepsCardSaid : Prop := Claim7.holds Tryz.pinned (.plain (OpenSpec.ofChange allocKeepsSpec)) allocKeepsCard

/-- THE TIED CARD OF 'ragpickerlaw09.ReapRoom'. -/
def reapRoomCard : Claim7 := { stood := { row := reapRoomRow, standIns := [], harness := (true, "c32d6f26b0c1f725c7fad0d0769da2e38cfdb9c5f511d7443c04610fff38ed07"), looks := false }, kinds := [], alts := [], laidByText := true, laidKinds := [.widerDeep], laidTests := true, laidLooks := .later }
def ReapRoomCardSaid : Prop := Claim7.holds Tryz.pinned (.plain (OpenSpec.ofChange reapRoomSpec)) reapRoomCard

/-- THE TIED CARD OF 'ragpickerlaw09.ReapBack'. -/
def reapBackCard : Claim7 := { stood := { row := reapBackRow, standIns := [], harness := (true, "c32d6f26b0c1f725c7fad0d0769da2e38cfdb9c5f511d7443c04610fff38ed07"), looks := false }, kinds := [], alts := [], laidByText := true, laidKinds := [.widerDeep], laidTests := true, laidLooks := .later }
def ReapBackCardSaid : Prop := Claim7.holds Tryz.pinned (.plain (OpenSpec.ofChange reapBackSpec)) reapBackCard

/-- THE SECOND FORM's CARD OF 'ragpickerlaw09.ReapFrees'. -/
def reapFreesUptoCard : Claim7 := { stood := { row := reapFreesUptoRow, standIns := [], harness := (true, "c32d6f26b0c1f725c7fad0d0769da2e38cfdb9c5f511d7443c04610fff38ed07"), looks := false }, kinds := [], alts := [], laidByText := true, laidKinds := [.widerDeep], laidTests := true, laidLooks := .later }
def ReapFreesUptoCardSaid : Prop := Claim7.holds Tryz.pinned (.plain (OpenSpec.upto reapFreesSpec)) reapFreesUptoCard

/-- THE SECOND FORM's CARD OF 'ragpickerlaw08.AllocTakes'. -/
def allocTakesUptoCard : Claim7 := { stood := { row := allocTakesUptoRow, standIns := [], harness := (true, "c32d6f26b0c1f725c7fad0d0769da2e38cfdb9c5f511d7443c04610fff38ed07"), looks := false }, kinds := [], alts := [], laidByText := true, laidKinds := [.widerDeep], laidTests := true, laidLooks := .later }
def AllocTakesUptoCardSaid : Prop := Claim7.holds Tryz.pinned (.plain (OpenSpec.upto allocTakesSpec)) allocTakesUptoCard

/-- THE SECOND FORM's CARD OF 'ragpickerlaw08.AllocFull'. -/
def allocFullUptoCard : Claim7 := { stood := { row := allocFullUptoRow, standIns := [], harness := (true, "c32d6f26b0c1f725c7fad0d0769da2e38cfdb9c5f511d7443c04610fff38ed07"), looks := false }, kinds := [], alts := [], laidByText := true, laidKinds := [.widerDeep], laidTests := true, laidLooks := .later }
def AllocFullUptoCardSaid : Prop := Claim7.holds Tryz.pinned (.plain (OpenSpec.upto allocFullSpec)) allocFullUptoCard

/-- THE SECOND FORM's CARD OF 'ragpickerlaw08.AllocLeast'. -/
def allocLeastUptoCard : Claim7 := { stood := { row := allocLeastUptoRow, standIns := [], harness := (true, "c32d6f26b0c1f725c7fad0d0769da2e38cfdb9c5f511d7443c04610fff38ed07"), looks := false }, kinds := [], alts := [], laidByText := true, laidKinds := [.widerDeep], laidTests := true, laidLooks := .later }
def AllocLeastUptoCardSaid : Prop := Claim7.holds Tryz.pinned (.plain (OpenSpec.upto allocLeastSpec)) allocLeastUptoCard

/-- THE SECOND FORM's CARD OF 'ragpickerlaw08.AllocTwice'. -/
def allocTwiceUptoCard : Claim7 := { stood := { row := allocTwiceUptoRow, standIns := [], harness := (true, "c32d6f26b0c1f725c7fad0d0769da2e38cfdb9c5f511d7443c04610fff38ed07"), looks := false }, kinds := [], alts := [], laidByText := true, laidKinds := [.widerDeep], laidTests := true, laidLooks := .later }
def AllocTwiceUptoCardSaid : Prop := Claim7.holds Tryz.pinned (.plain (OpenSpec.upto allocTwiceSpec)) allocTwiceUptoCard

/-- THE SECOND FORM's CARD OF 'ragpickerlaw08.AllocHeads'. -/
def allocHeadsUptoCard : Claim7 := { stood := { row := allocHeadsUptoRow, standIns := [], harness := (true, "c32d6f26b0c1f725c7fad0d0769da2e38cfdb9c5f511d7443c04610fff38ed07"), looks := false }, kinds := [], alts := [], laidByText := true, laidKinds := [.widerDeep], laidTests := true, laidLooks := .later }
def AllocHeadsUptoCardSaid : Prop := Claim7.holds Tryz.pinned (.plain (OpenSpec.upto allocHeadsSpec)) allocHeadsUptoCard

/-- THE SECOND FORM's CARD OF 'ragpickerlaw08.AllocKeeps'. -/
def allocKeepsUptoCard : Claim7 := { stood := { row := allocKeepsUptoRow, standIns := [], harness := (true, "c32d6f26b0c1f725c7fad0d0769da2e38cfdb9c5f511d7443c04610fff38ed07"), looks := false }, kinds := [], alts := [], laidByText := true, laidKinds := [.widerDeep], laidTests := true, laidLooks := .later }
def AllocKeepsUptoCardSaid : Prop := Claim7.holds Tryz.pinned (.plain (OpenSpec.upto allocKeepsSpec)) allocKeepsUptoCard

/-- THE SECOND FORM's CARD OF 'ragpickerlaw09.ReapRoom'. -/
def reapRoomUptoCard : Claim7 := { stood := { row := reapRoomUptoRow, standIns := [], harness := (true, "c32d6f26b0c1f725c7fad0d0769da2e38cfdb9c5f511d7443c04610fff38ed07"), looks := false }, kinds := [], alts := [], laidByText := true, laidKinds := [.widerDeep], laidTests := true, laidLooks := .later }
def ReapRoomUptoCardSaid : Prop := Claim7.holds Tryz.pinned (.plain (OpenSpec.upto reapRoomSpec)) reapRoomUptoCard

/-- THE SECOND FORM's CARD OF 'ragpickerlaw09.ReapBack'. -/
def reapBackUptoCard : Claim7 := { stood := { row := reapBackUptoRow, standIns := [], harness := (true, "c32d6f26b0c1f725c7fad0d0769da2e38cfdb9c5f511d7443c04610fff38ed07"), looks := false }, kinds := [], alts := [], laidByText := true, laidKinds := [.widerDeep], laidTests := true, laidLooks := .later }
def ReapBackUptoCardSaid : Prop := Claim7.holds Tryz.pinned (.plain (OpenSpec.upto reapBackSpec)) reapBackUptoCard
end Rows
end Go.Proofs.YtkahninpodhcmaaGreatDoor
