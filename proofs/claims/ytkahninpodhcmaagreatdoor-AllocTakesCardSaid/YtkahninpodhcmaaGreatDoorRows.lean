/-
  NARROWER THAN 'FOR EVERY INPUT', by the rows' own cells (each row's printed sentence says how): ReapFrees: laid · AllocTakes: laid · AllocFull: laid · AllocLeast: laid · AllocTwice: laid · AllocHeads: laid · AllocKeeps: laid · ReapRoom: laid · ReapBack: laid.
  DERIVED. THE GIVEN ROWS OF THIS SEAT. 9 by the template 'for every input the law returns true; each argument reads behind the call as it read before'; 0 by the template 'total and deterministic' (their statements: YtkahninpodhcmaaGreatDoorTotals.lean).
  GIVEN WITH THE SEED: the statements are not yours to turn. If you find one false, say at which input.
  Laid BY PROGRAM, IN A SANDBOX (cutbox-rows.mjs): the forced cells as the released guide's own fill.sh prints them over the translation 893f74c93598ea75… (all of the seat's roots in one cut). By AI agents, Wed Nov 11 2026. No macro, syntax, notation, axiom, sorry.
-/
import Derived.Test.YtkahninpodhcmaaGreatDoorChecked
import GoSem.Claim
import GoSem.ClaimJoined
import GoSem.ClaimMapViews
import Derived.JoinedTies
import Derived.KernelRfl
namespace Go.Proofs.YtkahninpodhcmaaGreatDoor
/- THE CELL 'sum', in the pinned program and in every row, IS THE sha256 OF THE DUMP (.gsa) THAT YtkahninpodhcmaaGreatDoorProg.lean LOADS. Nothing in Lean hashes anything: it is a label: what it is worth is what the hold of that sum in a sandbox is worth. -/
noncomputable def Tryz.pinned : Pinned := { name := "ytkahninpodhcmaagreatdoor", sum := "893f74c93598ea750fc665e229e5b3e8e3be7825cda126646770193f1fb2d7f8", checked := Tryz.checked }
namespace Rows
def none {H : Type} : Left H := { results := [], args := [] }

/- WHAT THE LISTED PACKAGE-LEVEL VARIABLES READ AS WHEN THE CALL BEGINS. Each datum BY PROGRAM (the guide's laid-datum.mjs) off the statement by which the dump's own 'gosem.cut.vars' lays the variable. In a bare row this is a premise. The card (YtkahninpodhcmaaGreatDoorCards.lean) ties it to the program's text. -/
def laid_ragpicker_class_words {H : Type} : DataW H := .agg [.lit (.int .i64 2), .lit (.int .i64 4), .lit (.int .i64 8)]

/-- 'ragpickerlaw09.ReapFrees': WHATEVER THE INPUT: true; the input reads as it did. -/
def reapFreesSpec : ChangeSpec := { name := "reapFrees", fn := fun _ => fun
  | [d1, d2, d3] => { results := [.lit (.bool true)], args := [d1, d2, d3] }
  | _ => none }
def reapFreesRow : OpenClaim := { program := "ytkahninpodhcmaagreatdoor", sum := "893f74c93598ea750fc665e229e5b3e8e3be7825cda126646770193f1fb2d7f8", func := "ragpicker/ragpickerlaw09.ReapFrees", spec := "reapFrees", unfollowed := true, recurses := true, named := ["ragpicker/class.words"], apart := false, laid := [("ragpicker/class.words", laid_ragpicker_class_words)] }
def ReapFreesSaid : Prop := reapFreesRow.holds Tryz.pinned (OpenSpec.ofChange reapFreesSpec)

/-- ITS FALSE NEIGHBOUR: 'it returns false'. Refute it at one input. -/
def reapFreesWrong : ChangeSpec := { name := "reapFrees", fn := fun _ => fun
  | [d1, d2, d3] => { results := [.lit (.bool false)], args := [d1, d2, d3] }
  | _ => none }
def ReapFreesWrongFalsely : Prop := reapFreesRow.holds Tryz.pinned (OpenSpec.ofChange reapFreesWrong)

/-- 'ragpickerlaw08.AllocTakes': WHATEVER THE INPUT: true; the input reads as it did. -/
def allocTakesSpec : ChangeSpec := { name := "allocTakes", fn := fun _ => fun
  | [d1, d2, d3] => { results := [.lit (.bool true)], args := [d1, d2, d3] }
  | _ => none }
def allocTakesRow : OpenClaim := { program := "ytkahninpodhcmaagreatdoor", sum := "893f74c93598ea750fc665e229e5b3e8e3be7825cda126646770193f1fb2d7f8", func := "ragpicker/ragpickerlaw08.AllocTakes", spec := "allocTakes", unfollowed := true, recurses := true, named := ["ragpicker/class.words"], apart := false, laid := [("ragpicker/class.words", laid_ragpicker_class_words)] }
def AllocTakesSaid : Prop := allocTakesRow.holds Tryz.pinned (OpenSpec.ofChange allocTakesSpec)

/-- ITS FALSE NEIGHBOUR: 'it returns false'. Refute it at one input. -/
def allocTakesWrong : ChangeSpec := { name := "allocTakes", fn := fun _ => fun
  | [d1, d2, d3] => { results := [.lit (.bool false)], args := [d1, d2, d3] }
  | _ => none }
def AllocTakesWrongFalsely : Prop := allocTakesRow.holds Tryz.pinned (OpenSpec.ofChange allocTakesWrong)

/-- 'ragpickerlaw08.AllocFull': WHATEVER THE INPUT: true; the input reads as it did. -/
def allocFullSpec : ChangeSpec := { name := "allocFull", fn := fun _ => fun
  | [d1, d2, d3] => { results := [.lit (.bool true)], args := [d1, d2, d3] }
  | _ => none }
def allocFullRow : OpenClaim := { program := "ytkahninpodhcmaagreatdoor", sum := "893f74c93598ea750fc665e229e5b3e8e3be7825cda126646770193f1fb2d7f8", func := "ragpicker/ragpickerlaw08.AllocFull", spec := "allocFull", unfollowed := true, recurses := true, named := ["ragpicker/class.words"], apart := false, laid := [("ragpicker/class.words", laid_ragpicker_class_words)] }
def AllocFullSaid : Prop := allocFullRow.holds Tryz.pinned (OpenSpec.ofChange allocFullSpec)

/-- ITS FALSE NEIGHBOUR: 'it returns false'. Refute it at one input. -/
def allocFullWrong : ChangeSpec := { name := "allocFull", fn := fun _ => fun
  | [d1, d2, d3] => { results := [.lit (.bool false)], args := [d1, d2, d3] }
  | _ => none }
def AllocFullWrongFalsely : Prop := allocFullRow.holds Tryz.pinned (OpenSpec.ofChange allocFullWrong)

/-- 'ragpickerlaw08.AllocLeast': WHATEVER THE INPUT: true; the input reads as it did. -/
def allocLeastSpec : ChangeSpec := { name := "allocLeast", fn := fun _ => fun
  | [d1, d2, d3] => { results := [.lit (.bool true)], args := [d1, d2, d3] }
  | _ => none }
def allocLeastRow : OpenClaim := { program := "ytkahninpodhcmaagreatdoor", sum := "893f74c93598ea750fc665e229e5b3e8e3be7825cda126646770193f1fb2d7f8", func := "ragpicker/ragpickerlaw08.AllocLeast", spec := "allocLeast", unfollowed := true, recurses := true, named := ["ragpicker/class.words"], apart := false, laid := [("ragpicker/class.words", laid_ragpicker_class_words)] }
def AllocLeastSaid : Prop := allocLeastRow.holds Tryz.pinned (OpenSpec.ofChange allocLeastSpec)

/-- ITS FALSE NEIGHBOUR: 'it returns false'. Refute it at one input. -/
def allocLeastWrong : ChangeSpec := { name := "allocLeast", fn := fun _ => fun
  | [d1, d2, d3] => { results := [.lit (.bool false)], args := [d1, d2, d3] }
  | _ => none }
def AllocLeastWrongFalsely : Prop := allocLeastRow.holds Tryz.pinned (OpenSpec.ofChange allocLeastWrong)

/-- 'ragpickerlaw08.AllocTwice': WHATEVER THE INPUT: true; the input reads as it did. -/
def allocTwiceSpec : ChangeSpec := { name := "allocTwice", fn := fun _ => fun
  | [d1, d2, d3, d4] => { results := [.lit (.bool true)], args := [d1, d2, d3, d4] }
  | _ => none }
def allocTwiceRow : OpenClaim := { program := "ytkahninpodhcmaagreatdoor", sum := "893f74c93598ea750fc665e229e5b3e8e3be7825cda126646770193f1fb2d7f8", func := "ragpicker/ragpickerlaw08.AllocTwice", spec := "allocTwice", unfollowed := true, recurses := true, named := ["ragpicker/class.words"], apart := false, laid := [("ragpicker/class.words", laid_ragpicker_class_words)] }
def AllocTwiceSaid : Prop := allocTwiceRow.holds Tryz.pinned (OpenSpec.ofChange allocTwiceSpec)

/-- ITS FALSE NEIGHBOUR: 'it returns false'. Refute it at one input. -/
def allocTwiceWrong : ChangeSpec := { name := "allocTwice", fn := fun _ => fun
  | [d1, d2, d3, d4] => { results := [.lit (.bool false)], args := [d1, d2, d3, d4] }
  | _ => none }
def AllocTwiceWrongFalsely : Prop := allocTwiceRow.holds Tryz.pinned (OpenSpec.ofChange allocTwiceWrong)

/-- 'ragpickerlaw08.AllocHeads': WHATEVER THE INPUT: true; the input reads as it did. -/
def allocHeadsSpec : ChangeSpec := { name := "allocHeads", fn := fun _ => fun
  | [d1, d2, d3] => { results := [.lit (.bool true)], args := [d1, d2, d3] }
  | _ => none }
def allocHeadsRow : OpenClaim := { program := "ytkahninpodhcmaagreatdoor", sum := "893f74c93598ea750fc665e229e5b3e8e3be7825cda126646770193f1fb2d7f8", func := "ragpicker/ragpickerlaw08.AllocHeads", spec := "allocHeads", unfollowed := true, recurses := true, named := ["ragpicker/class.words"], apart := false, laid := [("ragpicker/class.words", laid_ragpicker_class_words)] }
def AllocHeadsSaid : Prop := allocHeadsRow.holds Tryz.pinned (OpenSpec.ofChange allocHeadsSpec)

/-- ITS FALSE NEIGHBOUR: 'it returns false'. Refute it at one input. -/
def allocHeadsWrong : ChangeSpec := { name := "allocHeads", fn := fun _ => fun
  | [d1, d2, d3] => { results := [.lit (.bool false)], args := [d1, d2, d3] }
  | _ => none }
def AllocHeadsWrongFalsely : Prop := allocHeadsRow.holds Tryz.pinned (OpenSpec.ofChange allocHeadsWrong)

/-- 'ragpickerlaw08.AllocKeeps': WHATEVER THE INPUT: true; the input reads as it did. -/
def allocKeepsSpec : ChangeSpec := { name := "allocKeeps", fn := fun _ => fun
  | [d1, d2, d3] => { results := [.lit (.bool true)], args := [d1, d2, d3] }
  | _ => none }
def allocKeepsRow : OpenClaim := { program := "ytkahninpodhcmaagreatdoor", sum := "893f74c93598ea750fc665e229e5b3e8e3be7825cda126646770193f1fb2d7f8", func := "ragpicker/ragpickerlaw08.AllocKeeps", spec := "allocKeeps", unfollowed := true, recurses := true, named := ["ragpicker/class.words"], apart := false, laid := [("ragpicker/class.words", laid_ragpicker_class_words)] }
def AllocKeepsSaid : Prop := allocKeepsRow.holds Tryz.pinned (OpenSpec.ofChange allocKeepsSpec)

/-- ITS FALSE NEIGHBOUR: 'it returns false'. Refute it at one input. -/
def allocKeepsWrong : ChangeSpec := { name := "allocKeeps", fn := fun _ => fun
  | [d1, d2, d3] => { results := [.lit (.bool false)], args := [d1, d2, d3] }
  | _ => none }
def AllocKeepsWrongFalsely : Prop := allocKeepsRow.holds Tryz.pinned (OpenSpec.ofChange allocKeepsWrong)

/-- 'ragpickerlaw09.ReapRoom': WHATEVER THE INPUT: true; the input reads as it did. -/
def reapRoomSpec : ChangeSpec := { name := "reapRoom", fn := fun _ => fun
  | [d1, d2, d3] => { results := [.lit (.bool true)], args := [d1, d2, d3] }
  | _ => none }
def reapRoomRow : OpenClaim := { program := "ytkahninpodhcmaagreatdoor", sum := "893f74c93598ea750fc665e229e5b3e8e3be7825cda126646770193f1fb2d7f8", func := "ragpicker/ragpickerlaw09.ReapRoom", spec := "reapRoom", unfollowed := true, recurses := true, named := ["ragpicker/class.words"], apart := false, laid := [("ragpicker/class.words", laid_ragpicker_class_words)] }
def ReapRoomSaid : Prop := reapRoomRow.holds Tryz.pinned (OpenSpec.ofChange reapRoomSpec)

/-- ITS FALSE NEIGHBOUR: 'it returns false'. Refute it at one input. -/
def reapRoomWrong : ChangeSpec := { name := "reapRoom", fn := fun _ => fun
  | [d1, d2, d3] => { results := [.lit (.bool false)], args := [d1, d2, d3] }
  | _ => none }
def ReapRoomWrongFalsely : Prop := reapRoomRow.holds Tryz.pinned (OpenSpec.ofChange reapRoomWrong)

/-- 'ragpickerlaw09.ReapBack': WHATEVER THE INPUT: true; the input reads as it did. -/
def reapBackSpec : ChangeSpec := { name := "reapBack", fn := fun _ => fun
  | [d1, d2, d3] => { results := [.lit (.bool true)], args := [d1, d2, d3] }
  | _ => none }
def reapBackRow : OpenClaim := { program := "ytkahninpodhcmaagreatdoor", sum := "893f74c93598ea750fc665e229e5b3e8e3be7825cda126646770193f1fb2d7f8", func := "ragpicker/ragpickerlaw09.ReapBack", spec := "reapBack", unfollowed := true, recurses := true, named := ["ragpicker/class.words"], apart := false, laid := [("ragpicker/class.words", laid_ragpicker_class_words)] }
def ReapBackSaid : Prop := reapBackRow.holds Tryz.pinned (OpenSpec.ofChange reapBackSpec)

/-- ITS FALSE NEIGHBOUR: 'it returns false'. Refute it at one input. -/
def reapBackWrong : ChangeSpec := { name := "reapBack", fn := fun _ => fun
  | [d1, d2, d3] => { results := [.lit (.bool false)], args := [d1, d2, d3] }
  | _ => none }
def ReapBackWrongFalsely : Prop := reapBackRow.holds Tryz.pinned (OpenSpec.ofChange reapBackWrong)

/- THE SECOND FORM. 'bulk': how many values and letters a reading holds, each counted each time it is reached (what is shared counts as often as it is met; a slice's spare places count too). A statement '..UptoSaid' is the law's where the arguments, and the package variables that the reading takes, are together of bulk at most 1048576: NARROWER than '..Said'. Prove '..Said' where nothing that the law and all that it calls make is longer than what came in: it says more and counts as full. Else prove '..UptoSaid'. A law counts once. -/
mutual
def uptoBulk {H : Type} : DataW H → Nat
  | .lit (.string bytes) => bytes.length + 1
  | .lit _ => 1
  | .nil => 1
  | .ptr d => uptoBulk d + 1
  | .slice elems spare => uptoBulkAll elems + uptoBulkAll spare + 1
  | .agg parts => uptoBulkAll parts + 1
  | .iface _ d => uptoBulk d + 1
  | .map entries => uptoBulkEntries entries + 1
  | .held _ => 1
def uptoBulkAll {H : Type} : List (DataW H) → Nat
  | [] => 0
  | d :: r => uptoBulk d + uptoBulkAll r
def uptoBulkEntries {H : Type} : List (Lit × DataW H) → Nat
  | [] => 0
  | x :: r => uptoBulkEntry x + uptoBulkEntries r
def uptoBulkEntry {H : Type} : Lit × DataW H → Nat
  | (.string bytes, d) => bytes.length + uptoBulk d + 1
  | (_, d) => uptoBulk d + 1
 end
def uptoSmall : (H : Type) → List (DataW H) → Bool := fun _ ds => decide (uptoBulkAll ds ≤ 1048576)
def OpenSpec.upto (s : _root_.Go.ChangeSpec) : _root_.Go.OpenSpec := { _root_.Go.OpenSpec.ofChange s with cond := some uptoSmall }

/-- 'ragpickerlaw09.ReapFrees', WHERE WHAT IT READS IS OF BULK AT MOST 1048576: true; the input reads as it did. -/
def reapFreesUptoRow : OpenClaim := { program := "ytkahninpodhcmaagreatdoor", sum := "893f74c93598ea750fc665e229e5b3e8e3be7825cda126646770193f1fb2d7f8", func := "ragpicker/ragpickerlaw09.ReapFrees", spec := "reapFrees", unfollowed := true, recurses := true, named := ["ragpicker/class.words"], apart := false, laid := [("ragpicker/class.words", laid_ragpicker_class_words)], narrowed := true }
def ReapFreesUptoSaid : Prop := reapFreesUptoRow.holds Tryz.pinned (OpenSpec.upto reapFreesSpec)

/-- 'ragpickerlaw08.AllocTakes', WHERE WHAT IT READS IS OF BULK AT MOST 1048576: true; the input reads as it did. -/
def allocTakesUptoRow : OpenClaim := { program := "ytkahninpodhcmaagreatdoor", sum := "893f74c93598ea750fc665e229e5b3e8e3be7825cda126646770193f1fb2d7f8", func := "ragpicker/ragpickerlaw08.AllocTakes", spec := "allocTakes", unfollowed := true, recurses := true, named := ["ragpicker/class.words"], apart := false, laid := [("ragpicker/class.words", laid_ragpicker_class_words)], narrowed := true }
def AllocTakesUptoSaid : Prop := allocTakesUptoRow.holds Tryz.pinned (OpenSpec.upto allocTakesSpec)

/-- 'ragpickerlaw08.AllocFull', WHERE WHAT IT READS IS OF BULK AT MOST 1048576: true; the input reads as it did. -/
def allocFullUptoRow : OpenClaim := { program := "ytkahninpodhcmaagreatdoor", sum := "893f74c93598ea750fc665e229e5b3e8e3be7825cda126646770193f1fb2d7f8", func := "ragpicker/ragpickerlaw08.AllocFull", spec := "allocFull", unfollowed := true, recurses := true, named := ["ragpicker/class.words"], apart := false, laid := [("ragpicker/class.words", laid_ragpicker_class_words)], narrowed := true }
def AllocFullUptoSaid : Prop := allocFullUptoRow.holds Tryz.pinned (OpenSpec.upto allocFullSpec)

/-- 'ragpickerlaw08.AllocLeast', WHERE WHAT IT READS IS OF BULK AT MOST 1048576: true; the input reads as it did. -/
def allocLeastUptoRow : OpenClaim := { program := "ytkahninpodhcmaagreatdoor", sum := "893f74c93598ea750fc665e229e5b3e8e3be7825cda126646770193f1fb2d7f8", func := "ragpicker/ragpickerlaw08.AllocLeast", spec := "allocLeast", unfollowed := true, recurses := true, named := ["ragpicker/class.words"], apart := false, laid := [("ragpicker/class.words", laid_ragpicker_class_words)], narrowed := true }
def AllocLeastUptoSaid : Prop := allocLeastUptoRow.holds Tryz.pinned (OpenSpec.upto allocLeastSpec)

/-- 'ragpickerlaw08.AllocTwice', WHERE WHAT IT READS IS OF BULK AT MOST 1048576: true; the input reads as it did. -/
def allocTwiceUptoRow : OpenClaim := { program := "ytkahninpodhcmaagreatdoor", sum := "893f74c93598ea750fc665e229e5b3e8e3be7825cda126646770193f1fb2d7f8", func := "ragpicker/ragpickerlaw08.AllocTwice", spec := "allocTwice", unfollowed := true, recurses := true, named := ["ragpicker/class.words"], apart := false, laid := [("ragpicker/class.words", laid_ragpicker_class_words)], narrowed := true }
def AllocTwiceUptoSaid : Prop := allocTwiceUptoRow.holds Tryz.pinned (OpenSpec.upto allocTwiceSpec)

/-- 'ragpickerlaw08.AllocHeads', WHERE WHAT IT READS IS OF BULK AT MOST 1048576: true; the input reads as it did. -/
def allocHeadsUptoRow : OpenClaim := { program := "ytkahninpodhcmaagreatdoor", sum := "893f74c93598ea750fc665e229e5b3e8e3be7825cda126646770193f1fb2d7f8", func := "ragpicker/ragpickerlaw08.AllocHeads", spec := "allocHeads", unfollowed := true, recurses := true, named := ["ragpicker/class.words"], apart := false, laid := [("ragpicker/class.words", laid_ragpicker_class_words)], narrowed := true }
def AllocHeadsUptoSaid : Prop := allocHeadsUptoRow.holds Tryz.pinned (OpenSpec.upto allocHeadsSpec)

/-- 'ragpickerlaw08.AllocKeeps', WHERE WHAT IT READS IS OF BULK AT MOST 1048576: true; the input reads as it did. -/
def allocKeepsUptoRow : OpenClaim := { program := "ytkahninpodhcmaagreatdoor", sum := "893f74c93598ea750fc665e229e5b3e8e3be7825cda126646770193f1fb2d7f8", func := "ragpicker/ragpickerlaw08.AllocKeeps", spec := "allocKeeps", unfollowed := true, recurses := true, named := ["ragpicker/class.words"], apart := false, laid := [("ragpicker/class.words", laid_ragpicker_class_words)], narrowed := true }
def AllocKeepsUptoSaid : Prop := allocKeepsUptoRow.holds Tryz.pinned (OpenSpec.upto allocKeepsSpec)

/-- 'ragpickerlaw09.ReapRoom', WHERE WHAT IT READS IS OF BULK AT MOST 1048576: true; the input reads as it did. -/
def reapRoomUptoRow : OpenClaim := { program := "ytkahninpodhcmaagreatdoor", sum := "893f74c93598ea750fc665e229e5b3e8e3be7825cda126646770193f1fb2d7f8", func := "ragpicker/ragpickerlaw09.ReapRoom", spec := "reapRoom", unfollowed := true, recurses := true, named := ["ragpicker/class.words"], apart := false, laid := [("ragpicker/class.words", laid_ragpicker_class_words)], narrowed := true }
def ReapRoomUptoSaid : Prop := reapRoomUptoRow.holds Tryz.pinned (OpenSpec.upto reapRoomSpec)

/-- 'ragpickerlaw09.ReapBack', WHERE WHAT IT READS IS OF BULK AT MOST 1048576: true; the input reads as it did. -/
def reapBackUptoRow : OpenClaim := { program := "ytkahninpodhcmaagreatdoor", sum := "893f74c93598ea750fc665e229e5b3e8e3be7825cda126646770193f1fb2d7f8", func := "ragpicker/ragpickerlaw09.ReapBack", spec := "reapBack", unfollowed := true, recurses := true, named := ["ragpicker/class.words"], apart := false, laid := [("ragpicker/class.words", laid_ragpicker_class_words)], narrowed := true }
def ReapBackUptoSaid : Prop := reapBackUptoRow.holds Tryz.pinned (OpenSpec.upto reapBackSpec)

end Rows
end Go.Proofs.YtkahninpodhcmaaGreatDoor
