/-
  NARROWER THAN 'FOR EVERY INPUT', by the rows' own cells (each row's printed sentence says how): CellsTile: laid · CellsStart: laid · CellsRooms: laid · CellsOn: laid · CellsTells: laid · CellsNext: laid · CellsBack: laid.
  DERIVED. THE GIVEN ROWS OF THIS SEAT. 7 by the template 'for every input the law returns true; each argument reads behind the call as it read before'; 0 by the template 'total and deterministic' (their statements: YtnfgbfmhnllnnabDoorTotals.lean).
  GIVEN WITH THE SEED: the statements are not yours to turn. If you find one false, say at which input.
  Laid BY PROGRAM, IN A SANDBOX (cutbox-rows.mjs): the forced cells as the released guide's own fill.sh prints them over the translation 5d597b9f7f91b3d2… (all of the seat's roots in one cut). By AI agents, Wed Nov 11 2026. No macro, syntax, notation, axiom, sorry.
-/
import Derived.Test.YtnfgbfmhnllnnabDoorChecked
import GoSem.Claim
import GoSem.ClaimJoined
import GoSem.ClaimMapViews
import Derived.JoinedTies
import Derived.KernelRfl
namespace Go.Proofs.YtnfgbfmhnllnnabDoor
/- THE CELL 'sum', in the pinned program and in every row, IS THE sha256 OF THE DUMP (.gsa) THAT YtnfgbfmhnllnnabDoorProg.lean LOADS. Nothing in Lean hashes anything: it is a label: what it is worth is what the hold of that sum in a sandbox is worth. -/
noncomputable def Tryd.pinned : Pinned := { name := "ytnfgbfmhnllnnabdoor", sum := "5d597b9f7f91b3d24f023b9468d0741fd1526b7abe25ac5ec4b22a0c40362304", checked := Tryd.checked }
namespace Rows
def none {H : Type} : Left H := { results := [], args := [] }

/- WHAT THE LISTED PACKAGE-LEVEL VARIABLES READ AS WHEN THE CALL BEGINS. Each datum BY PROGRAM (the guide's laid-datum.mjs) off the statement by which the dump's own 'gosem.cut.vars' lays the variable. In a bare row this is a premise. The card (YtnfgbfmhnllnnabDoorCards.lean) ties it to the program's text. -/
def laid_ragpicker_class_words {H : Type} : DataW H := .agg [.lit (.int .i64 2), .lit (.int .i64 4), .lit (.int .i64 8)]

/-- 'ragpickerlaw05.CellsTile': WHATEVER THE INPUT: true; the input reads as it did. -/
def cellsTileSpec : ChangeSpec := { name := "cellsTile", fn := fun _ => fun
  | [d] => { results := [.lit (.bool true)], args := [d] }
  | _ => none }
def cellsTileRow : OpenClaim := { program := "ytnfgbfmhnllnnabdoor", sum := "5d597b9f7f91b3d24f023b9468d0741fd1526b7abe25ac5ec4b22a0c40362304", func := "ragpicker/ragpickerlaw05.CellsTile", spec := "cellsTile", unfollowed := true, recurses := true, named := ["ragpicker/class.words"], apart := false, laid := [("ragpicker/class.words", laid_ragpicker_class_words)] }
def CellsTileSaid : Prop := cellsTileRow.holds Tryd.pinned (OpenSpec.ofChange cellsTileSpec)

/-- ITS FALSE NEIGHBOUR: 'it returns false'. Refute it at one input. -/
def cellsTileWrong : ChangeSpec := { name := "cellsTile", fn := fun _ => fun
  | [d] => { results := [.lit (.bool false)], args := [d] }
  | _ => none }
def CellsTileWrongFalsely : Prop := cellsTileRow.holds Tryd.pinned (OpenSpec.ofChange cellsTileWrong)

/-- 'ragpickerlaw05.CellsStart': WHATEVER THE INPUT: true; the input reads as it did. -/
def cellsStartSpec : ChangeSpec := { name := "cellsStart", fn := fun _ => fun
  | [d1, d2] => { results := [.lit (.bool true)], args := [d1, d2] }
  | _ => none }
def cellsStartRow : OpenClaim := { program := "ytnfgbfmhnllnnabdoor", sum := "5d597b9f7f91b3d24f023b9468d0741fd1526b7abe25ac5ec4b22a0c40362304", func := "ragpicker/ragpickerlaw05.CellsStart", spec := "cellsStart", unfollowed := true, recurses := true, named := ["ragpicker/class.words"], apart := false, laid := [("ragpicker/class.words", laid_ragpicker_class_words)] }
def CellsStartSaid : Prop := cellsStartRow.holds Tryd.pinned (OpenSpec.ofChange cellsStartSpec)

/-- ITS FALSE NEIGHBOUR: 'it returns false'. Refute it at one input. -/
def cellsStartWrong : ChangeSpec := { name := "cellsStart", fn := fun _ => fun
  | [d1, d2] => { results := [.lit (.bool false)], args := [d1, d2] }
  | _ => none }
def CellsStartWrongFalsely : Prop := cellsStartRow.holds Tryd.pinned (OpenSpec.ofChange cellsStartWrong)

/-- 'ragpickerlaw05.CellsRooms': WHATEVER THE INPUT: true; the input reads as it did. -/
def cellsRoomsSpec : ChangeSpec := { name := "cellsRooms", fn := fun _ => fun
  | [d] => { results := [.lit (.bool true)], args := [d] }
  | _ => none }
def cellsRoomsRow : OpenClaim := { program := "ytnfgbfmhnllnnabdoor", sum := "5d597b9f7f91b3d24f023b9468d0741fd1526b7abe25ac5ec4b22a0c40362304", func := "ragpicker/ragpickerlaw05.CellsRooms", spec := "cellsRooms", unfollowed := true, recurses := true, named := ["ragpicker/class.words"], apart := false, laid := [("ragpicker/class.words", laid_ragpicker_class_words)] }
def CellsRoomsSaid : Prop := cellsRoomsRow.holds Tryd.pinned (OpenSpec.ofChange cellsRoomsSpec)

/-- ITS FALSE NEIGHBOUR: 'it returns false'. Refute it at one input. -/
def cellsRoomsWrong : ChangeSpec := { name := "cellsRooms", fn := fun _ => fun
  | [d] => { results := [.lit (.bool false)], args := [d] }
  | _ => none }
def CellsRoomsWrongFalsely : Prop := cellsRoomsRow.holds Tryd.pinned (OpenSpec.ofChange cellsRoomsWrong)

/-- 'ragpickerlaw05.CellsOn': WHATEVER THE INPUT: true; the input reads as it did. -/
def cellsOnSpec : ChangeSpec := { name := "cellsOn", fn := fun _ => fun
  | [d1, d2] => { results := [.lit (.bool true)], args := [d1, d2] }
  | _ => none }
def cellsOnRow : OpenClaim := { program := "ytnfgbfmhnllnnabdoor", sum := "5d597b9f7f91b3d24f023b9468d0741fd1526b7abe25ac5ec4b22a0c40362304", func := "ragpicker/ragpickerlaw05.CellsOn", spec := "cellsOn", unfollowed := true, recurses := true, named := ["ragpicker/class.words"], apart := false, laid := [("ragpicker/class.words", laid_ragpicker_class_words)] }
def CellsOnSaid : Prop := cellsOnRow.holds Tryd.pinned (OpenSpec.ofChange cellsOnSpec)

/-- ITS FALSE NEIGHBOUR: 'it returns false'. Refute it at one input. -/
def cellsOnWrong : ChangeSpec := { name := "cellsOn", fn := fun _ => fun
  | [d1, d2] => { results := [.lit (.bool false)], args := [d1, d2] }
  | _ => none }
def CellsOnWrongFalsely : Prop := cellsOnRow.holds Tryd.pinned (OpenSpec.ofChange cellsOnWrong)

/-- 'ragpickerlaw05.CellsTells': WHATEVER THE INPUT: true; the input reads as it did. -/
def cellsTellsSpec : ChangeSpec := { name := "cellsTells", fn := fun _ => fun
  | [d1, d2, d3] => { results := [.lit (.bool true)], args := [d1, d2, d3] }
  | _ => none }
def cellsTellsRow : OpenClaim := { program := "ytnfgbfmhnllnnabdoor", sum := "5d597b9f7f91b3d24f023b9468d0741fd1526b7abe25ac5ec4b22a0c40362304", func := "ragpicker/ragpickerlaw05.CellsTells", spec := "cellsTells", unfollowed := true, recurses := true, named := ["ragpicker/class.words"], apart := false, laid := [("ragpicker/class.words", laid_ragpicker_class_words)] }
def CellsTellsSaid : Prop := cellsTellsRow.holds Tryd.pinned (OpenSpec.ofChange cellsTellsSpec)

/-- ITS FALSE NEIGHBOUR: 'it returns false'. Refute it at one input. -/
def cellsTellsWrong : ChangeSpec := { name := "cellsTells", fn := fun _ => fun
  | [d1, d2, d3] => { results := [.lit (.bool false)], args := [d1, d2, d3] }
  | _ => none }
def CellsTellsWrongFalsely : Prop := cellsTellsRow.holds Tryd.pinned (OpenSpec.ofChange cellsTellsWrong)

/-- 'ragpickerlaw05.CellsNext': WHATEVER THE INPUT: true; the input reads as it did. -/
def cellsNextSpec : ChangeSpec := { name := "cellsNext", fn := fun _ => fun
  | [d] => { results := [.lit (.bool true)], args := [d] }
  | _ => none }
def cellsNextRow : OpenClaim := { program := "ytnfgbfmhnllnnabdoor", sum := "5d597b9f7f91b3d24f023b9468d0741fd1526b7abe25ac5ec4b22a0c40362304", func := "ragpicker/ragpickerlaw05.CellsNext", spec := "cellsNext", unfollowed := true, recurses := true, named := ["ragpicker/class.words"], apart := false, laid := [("ragpicker/class.words", laid_ragpicker_class_words)] }
def CellsNextSaid : Prop := cellsNextRow.holds Tryd.pinned (OpenSpec.ofChange cellsNextSpec)

/-- ITS FALSE NEIGHBOUR: 'it returns false'. Refute it at one input. -/
def cellsNextWrong : ChangeSpec := { name := "cellsNext", fn := fun _ => fun
  | [d] => { results := [.lit (.bool false)], args := [d] }
  | _ => none }
def CellsNextWrongFalsely : Prop := cellsNextRow.holds Tryd.pinned (OpenSpec.ofChange cellsNextWrong)

/-- 'ragpickerlaw05.CellsBack': WHATEVER THE INPUT: true; the input reads as it did. -/
def cellsBackSpec : ChangeSpec := { name := "cellsBack", fn := fun _ => fun
  | [d1, d2, d3] => { results := [.lit (.bool true)], args := [d1, d2, d3] }
  | _ => none }
def cellsBackRow : OpenClaim := { program := "ytnfgbfmhnllnnabdoor", sum := "5d597b9f7f91b3d24f023b9468d0741fd1526b7abe25ac5ec4b22a0c40362304", func := "ragpicker/ragpickerlaw05.CellsBack", spec := "cellsBack", unfollowed := true, recurses := true, named := ["ragpicker/class.words"], apart := false, laid := [("ragpicker/class.words", laid_ragpicker_class_words)] }
def CellsBackSaid : Prop := cellsBackRow.holds Tryd.pinned (OpenSpec.ofChange cellsBackSpec)

/-- ITS FALSE NEIGHBOUR: 'it returns false'. Refute it at one input. -/
def cellsBackWrong : ChangeSpec := { name := "cellsBack", fn := fun _ => fun
  | [d1, d2, d3] => { results := [.lit (.bool false)], args := [d1, d2, d3] }
  | _ => none }
def CellsBackWrongFalsely : Prop := cellsBackRow.holds Tryd.pinned (OpenSpec.ofChange cellsBackWrong)

/- THE SECOND FORM. 'bulk': how many values and letters a reading holds, each counted each time it is reached (what is shared counts as often as it is met; a slice's spare places count too). A statement '..UptoSaid' is the law's where the arguments, and the package variables that the reading takes, are together of bulk at most 1048576: NARROWER than '..Said'. Prove '..Said' where nothing that the law and all that it calls make is longer than what came in: it says more and counts as full. Else prove '..UptoSaid'. A law counts once. -/
mutual
def uptoBulk {H : Type} : DataW H → Nat
  | .lit (.string bytes) => bytes.length + 1
  | .lit _ => 1
  | .nil => 1
  | .ptr d => uptoBulk d + 1
  | .slice elems spare => uptoBulkAll elems + uptoBulkAll spare + 1
  | .agg parts => uptoBulkAll parts + 1
  | .iface _ d => uptoBulk d + 1
  | .map entries => uptoBulkEntries entries + 1
  | .held _ => 1
def uptoBulkAll {H : Type} : List (DataW H) → Nat
  | [] => 0
  | d :: r => uptoBulk d + uptoBulkAll r
def uptoBulkEntries {H : Type} : List (Lit × DataW H) → Nat
  | [] => 0
  | x :: r => uptoBulkEntry x + uptoBulkEntries r
def uptoBulkEntry {H : Type} : Lit × DataW H → Nat
  | (.string bytes, d) => bytes.length + uptoBulk d + 1
  | (_, d) => uptoBulk d + 1
 end
def uptoSmall : (H : Type) → List (DataW H) → Bool := fun _ ds => decide (uptoBulkAll ds ≤ 1048576)
def OpenSpec.upto (s : _root_.Go.ChangeSpec) : _root_.Go.OpenSpec := { _root_.Go.OpenSpec.ofChange s with cond := some uptoSmall }

/-- 'ragpickerlaw05.CellsTile', WHERE WHAT IT READS IS OF BULK AT MOST 1048576: true; the input reads as it did. -/
def cellsTileUptoRow : OpenClaim := { program := "ytnfgbfmhnllnnabdoor", sum := "5d597b9f7f91b3d24f023b9468d0741fd1526b7abe25ac5ec4b22a0c40362304", func := "ragpicker/ragpickerlaw05.CellsTile", spec := "cellsTile", unfollowed := true, recurses := true, named := ["ragpicker/class.words"], apart := false, laid := [("ragpicker/class.words", laid_ragpicker_class_words)], narrowed := true }
def CellsTileUptoSaid : Prop := cellsTileUptoRow.holds Tryd.pinned (OpenSpec.upto cellsTileSpec)

/-- 'ragpickerlaw05.CellsStart', WHERE WHAT IT READS IS OF BULK AT MOST 1048576: true; the input reads as it did. -/
def cellsStartUptoRow : OpenClaim := { program := "ytnfgbfmhnllnnabdoor", sum := "5d597b9f7f91b3d24f023b9468d0741fd1526b7abe25ac5ec4b22a0c40362304", func := "ragpicker/ragpickerlaw05.CellsStart", spec := "cellsStart", unfollowed := true, recurses := true, named := ["ragpicker/class.words"], apart := false, laid := [("ragpicker/class.words", laid_ragpicker_class_words)], narrowed := true }
def CellsStartUptoSaid : Prop := cellsStartUptoRow.holds Tryd.pinned (OpenSpec.upto cellsStartSpec)

/-- 'ragpickerlaw05.CellsRooms', WHERE WHAT IT READS IS OF BULK AT MOST 1048576: true; the input reads as it did. -/
def cellsRoomsUptoRow : OpenClaim := { program := "ytnfgbfmhnllnnabdoor", sum := "5d597b9f7f91b3d24f023b9468d0741fd1526b7abe25ac5ec4b22a0c40362304", func := "ragpicker/ragpickerlaw05.CellsRooms", spec := "cellsRooms", unfollowed := true, recurses := true, named := ["ragpicker/class.words"], apart := false, laid := [("ragpicker/class.words", laid_ragpicker_class_words)], narrowed := true }
def CellsRoomsUptoSaid : Prop := cellsRoomsUptoRow.holds Tryd.pinned (OpenSpec.upto cellsRoomsSpec)

/-- 'ragpickerlaw05.CellsOn', WHERE WHAT IT READS IS OF BULK AT MOST 1048576: true; the input reads as it did. -/
def cellsOnUptoRow : OpenClaim := { program := "ytnfgbfmhnllnnabdoor", sum := "5d597b9f7f91b3d24f023b9468d0741fd1526b7abe25ac5ec4b22a0c40362304", func := "ragpicker/ragpickerlaw05.CellsOn", spec := "cellsOn", unfollowed := true, recurses := true, named := ["ragpicker/class.words"], apart := false, laid := [("ragpicker/class.words", laid_ragpicker_class_words)], narrowed := true }
def CellsOnUptoSaid : Prop := cellsOnUptoRow.holds Tryd.pinned (OpenSpec.upto cellsOnSpec)

/-- 'ragpickerlaw05.CellsTells', WHERE WHAT IT READS IS OF BULK AT MOST 1048576: true; the input reads as it did. -/
def cellsTellsUptoRow : OpenClaim := { program := "ytnfgbfmhnllnnabdoor", sum := "5d597b9f7f91b3d24f023b9468d0741fd1526b7abe25ac5ec4b22a0c40362304", func := "ragpicker/ragpickerlaw05.CellsTells", spec := "cellsTells", unfollowed := true, recurses := true, named := ["ragpicker/class.words"], apart := false, laid := [("ragpicker/class.words", laid_ragpicker_class_words)], narrowed := true }
def CellsTellsUptoSaid : Prop := cellsTellsUptoRow.holds Tryd.pinned (OpenSpec.upto cellsTellsSpec)

/-- 'ragpickerlaw05.CellsNext', WHERE WHAT IT READS IS OF BULK AT MOST 1048576: true; the input reads as it did. -/
def cellsNextUptoRow : OpenClaim := { program := "ytnfgbfmhnllnnabdoor", sum := "5d597b9f7f91b3d24f023b9468d0741fd1526b7abe25ac5ec4b22a0c40362304", func := "ragpicker/ragpickerlaw05.CellsNext", spec := "cellsNext", unfollowed := true, recurses := true, named := ["ragpicker/class.words"], apart := false, laid := [("ragpicker/class.words", laid_ragpicker_class_words)], narrowed := true }
def CellsNextUptoSaid : Prop := cellsNextUptoRow.holds Tryd.pinned (OpenSpec.upto cellsNextSpec)

/-- 'ragpickerlaw05.CellsBack', WHERE WHAT IT READS IS OF BULK AT MOST 1048576: true; the input reads as it did. -/
def cellsBackUptoRow : OpenClaim := { program := "ytnfgbfmhnllnnabdoor", sum := "5d597b9f7f91b3d24f023b9468d0741fd1526b7abe25ac5ec4b22a0c40362304", func := "ragpicker/ragpickerlaw05.CellsBack", spec := "cellsBack", unfollowed := true, recurses := true, named := ["ragpicker/class.words"], apart := false, laid := [("ragpicker/class.words", laid_ragpicker_class_words)], narrowed := true }
def CellsBackUptoSaid : Prop := cellsBackUptoRow.holds Tryd.pinned (OpenSpec.upto cellsBackSpec)

end Rows
end Go.Proofs.YtnfgbfmhnllnnabDoor
