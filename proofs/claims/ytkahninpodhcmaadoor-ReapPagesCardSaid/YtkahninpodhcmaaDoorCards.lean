/-
  DERIVED. GIVEN WITH THE SEED: THE CARDS: each row of YtkahninpodhcmaaDoorRows.lean that lists a variable, with what it lists TIED to the program's text (the seventh form; the later family's looks); each row that meets fmt, with fmt's text TOLD by the authors' own Lean function (tested against real Go, not proved from fmt's source: count such statements apart). THE CARD IS WHAT COUNTS. Prove the row's statement (the work); the ties are given (YtkahninpodhcmaaDoorTie.lean); close each card by the builder's one call (the guide's Derived/Test/ToyasCard.lean, 'card_holds'). Laid BY PROGRAM, IN A SANDBOX (cutbox-door.mjs). By AI agents, Wed Nov 11 2026. No macro, syntax, notation, axiom, sorry.
-/
import Derived.Test.YtkahninpodhcmaaDoorRows
import GoSem.ClaimSeven
namespace Go.Proofs.YtkahninpodhcmaaDoor
namespace Rows

/-- THE TIED CARD OF 'ragpickerlaw09.ReapFlushes'. -/
def reapFlushesCard : Claim7 := { stood := { row := reapFlushesRow, standIns := [], harness := (true, "ecf9285dda421e29c671e473a4ae8982994007921c985d38168005ee9782b22b"), looks := false }, kinds := [], alts := [], laidByText := true, laidKinds := [.widerDeep], laidTests := true, laidLooks := .later }
def ReapFlushesCardSaid : Prop := Claim7.holds Tryd.pinned (.plain (OpenSpec.ofChange reapFlushesSpec)) reapFlushesCard

/-- THE TIED CARD OF 'ragpickerlaw09.ReapTwice'. -/
def reapTwiceCard : Claim7 := { stood := { row := reapTwiceRow, standIns := [], harness := (true, "ecf9285dda421e29c671e473a4ae8982994007921c985d38168005ee9782b22b"), looks := false }, kinds := [], alts := [], laidByText := true, laidKinds := [.widerDeep], laidTests := true, laidLooks := .later }
def ReapTwiceCardSaid : Prop := Claim7.holds Tryd.pinned (.plain (OpenSpec.ofChange reapTwiceSpec)) reapTwiceCard

/-- THE TIED CARD OF 'ragpickerlaw09.ReapKeeps'. -/
def reapKeepsCard : Claim7 := { stood := { row := reapKeepsRow, standIns := [], harness := (true, "ecf9285dda421e29c671e473a4ae8982994007921c985d38168005ee9782b22b"), looks := false }, kinds := [], alts := [], laidByText := true, laidKinds := [.widerDeep], laidTests := true, laidLooks := .later }
def ReapKeepsCardSaid : Prop := Claim7.holds Tryd.pinned (.plain (OpenSpec.ofChange reapKeepsSpec)) reapKeepsCard

/-- THE TIED CARD OF 'ragpickerlaw09.ReapPages'. -/
def reapPagesCard : Claim7 := { stood := { row := reapPagesRow, standIns := [], harness := (true, "ecf9285dda421e29c671e473a4ae8982994007921c985d38168005ee9782b22b"), looks := false }, kinds := [], alts := [], laidByText := true, laidKinds := [.widerDeep], laidTests := true, laidLooks := .later }
def ReapPagesCardSaid : Prop := Claim7.holds Tryd.pinned (.plain (OpenSpec.ofChange reapPagesSpec)) reapPagesCard

/-- THE SECOND FORM's CARD OF 'ragpickerlaw09.ReapFlushes'. -/
def reapFlushesUptoCard : Claim7 := { stood := { row := reapFlushesUptoRow, standIns := [], harness := (true, "ecf9285dda421e29c671e473a4ae8982994007921c985d38168005ee9782b22b"), looks := false }, kinds := [], alts := [], laidByText := true, laidKinds := [.widerDeep], laidTests := true, laidLooks := .later }
def ReapFlushesUptoCardSaid : Prop := Claim7.holds Tryd.pinned (.plain (OpenSpec.upto reapFlushesSpec)) reapFlushesUptoCard

/-- THE SECOND FORM's CARD OF 'ragpickerlaw09.ReapTwice'. -/
def reapTwiceUptoCard : Claim7 := { stood := { row := reapTwiceUptoRow, standIns := [], harness := (true, "ecf9285dda421e29c671e473a4ae8982994007921c985d38168005ee9782b22b"), looks := false }, kinds := [], alts := [], laidByText := true, laidKinds := [.widerDeep], laidTests := true, laidLooks := .later }
def ReapTwiceUptoCardSaid : Prop := Claim7.holds Tryd.pinned (.plain (OpenSpec.upto reapTwiceSpec)) reapTwiceUptoCard

/-- THE SECOND FORM's CARD OF 'ragpickerlaw09.ReapKeeps'. -/
def reapKeepsUptoCard : Claim7 := { stood := { row := reapKeepsUptoRow, standIns := [], harness := (true, "ecf9285dda421e29c671e473a4ae8982994007921c985d38168005ee9782b22b"), looks := false }, kinds := [], alts := [], laidByText := true, laidKinds := [.widerDeep], laidTests := true, laidLooks := .later }
def ReapKeepsUptoCardSaid : Prop := Claim7.holds Tryd.pinned (.plain (OpenSpec.upto reapKeepsSpec)) reapKeepsUptoCard

/-- THE SECOND FORM's CARD OF 'ragpickerlaw09.ReapPages'. -/
def reapPagesUptoCard : Claim7 := { stood := { row := reapPagesUptoRow, standIns := [], harness := (true, "ecf9285dda421e29c671e473a4ae8982994007921c985d38168005ee9782b22b"), looks := false }, kinds := [], alts := [], laidByText := true, laidKinds := [.widerDeep], laidTests := true, laidLooks := .later }
def ReapPagesUptoCardSaid : Prop := Claim7.holds Tryd.pinned (.plain (OpenSpec.upto reapPagesSpec)) reapPagesUptoCard
end Rows
end Go.Proofs.YtkahninpodhcmaaDoor
