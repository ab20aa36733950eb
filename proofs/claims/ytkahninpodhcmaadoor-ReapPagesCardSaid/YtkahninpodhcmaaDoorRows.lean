/-
  NARROWER THAN 'FOR EVERY INPUT', by the rows' own cells (each row's printed sentence says how): ReapFlushes: laid · ReapTwice: laid · ReapKeeps: laid · ReapPages: laid.
  DERIVED. THE GIVEN ROWS OF THIS SEAT. 4 by the template 'for every input the law returns true; each argument reads behind the call as it read before'; 0 by the template 'total and deterministic' (their statements: YtkahninpodhcmaaDoorTotals.lean).
  GIVEN WITH THE SEED: the statements are not yours to turn. If you find one false, say at which input.
  Laid BY PROGRAM, IN A SANDBOX (cutbox-rows.mjs): the forced cells as the released guide's own fill.sh prints them over the translation 8d9ec963d6be4ec9… (all of the seat's roots in one cut). By AI agents, Wed Nov 11 2026. No macro, syntax, notation, axiom, sorry.
-/
import Derived.Test.YtkahninpodhcmaaDoorChecked
import GoSem.Claim
import GoSem.ClaimJoined
import GoSem.ClaimMapViews
import Derived.JoinedTies
import Derived.KernelRfl
namespace Go.Proofs.YtkahninpodhcmaaDoor
/- THE CELL 'sum', in the pinned program and in every row, IS THE sha256 OF THE DUMP (.gsa) THAT YtkahninpodhcmaaDoorProg.lean LOADS. Nothing in Lean hashes anything: it is a label: what it is worth is what the hold of that sum in a sandbox is worth. -/
noncomputable def Tryd.pinned : Pinned := { name := "ytkahninpodhcmaadoor", sum := "8d9ec963d6be4ec9b43caa1decd818baedcaeb130cd485b67314d26c5655edaf", checked := Tryd.checked }
namespace Rows
def none {H : Type} : Left H := { results := [], args := [] }

/- WHAT THE LISTED PACKAGE-LEVEL VARIABLES READ AS WHEN THE CALL BEGINS. Each datum BY PROGRAM (the guide's laid-datum.mjs) off the statement by which the dump's own 'gosem.cut.vars' lays the variable. In a bare row this is a premise. The card (YtkahninpodhcmaaDoorCards.lean) ties it to the program's text. -/
def laid_ragpicker_class_words {H : Type} : DataW H := .agg [.lit (.int .i64 2), .lit (.int .i64 4), .lit (.int .i64 8)]

/-- 'ragpickerlaw09.ReapFlushes': WHATEVER THE INPUT: true; the input reads as it did. -/
def reapFlushesSpec : ChangeSpec := { name := "reapFlushes", fn := fun _ => fun
  | [d1, d2, d3] => { results := [.lit (.bool true)], args := [d1, d2, d3] }
  | _ => none }
def reapFlushesRow : OpenClaim := { program := "ytkahninpodhcmaadoor", sum := "8d9ec963d6be4ec9b43caa1decd818baedcaeb130cd485b67314d26c5655edaf", func := "ragpicker/ragpickerlaw09.ReapFlushes", spec := "reapFlushes", unfollowed := true, recurses := true, named := ["ragpicker/class.words"], apart := false, laid := [("ragpicker/class.words", laid_ragpicker_class_words)] }
def ReapFlushesSaid : Prop := reapFlushesRow.holds Tryd.pinned (OpenSpec.ofChange reapFlushesSpec)

/-- ITS FALSE NEIGHBOUR: 'it returns false'. Refute it at one input. -/
def reapFlushesWrong : ChangeSpec := { name := "reapFlushes", fn := fun _ => fun
  | [d1, d2, d3] => { results := [.lit (.bool false)], args := [d1, d2, d3] }
  | _ => none }
def ReapFlushesWrongFalsely : Prop := reapFlushesRow.holds Tryd.pinned (OpenSpec.ofChange reapFlushesWrong)

/-- 'ragpickerlaw09.ReapTwice': WHATEVER THE INPUT: true; the input reads as it did. -/
def reapTwiceSpec : ChangeSpec := { name := "reapTwice", fn := fun _ => fun
  | [d1, d2, d3, d4] => { results := [.lit (.bool true)], args := [d1, d2, d3, d4] }
  | _ => none }
def reapTwiceRow : OpenClaim := { program := "ytkahninpodhcmaadoor", sum := "8d9ec963d6be4ec9b43caa1decd818baedcaeb130cd485b67314d26c5655edaf", func := "ragpicker/ragpickerlaw09.ReapTwice", spec := "reapTwice", unfollowed := true, recurses := true, named := ["ragpicker/class.words"], apart := false, laid := [("ragpicker/class.words", laid_ragpicker_class_words)] }
def ReapTwiceSaid : Prop := reapTwiceRow.holds Tryd.pinned (OpenSpec.ofChange reapTwiceSpec)

/-- ITS FALSE NEIGHBOUR: 'it returns false'. Refute it at one input. -/
def reapTwiceWrong : ChangeSpec := { name := "reapTwice", fn := fun _ => fun
  | [d1, d2, d3, d4] => { results := [.lit (.bool false)], args := [d1, d2, d3, d4] }
  | _ => none }
def ReapTwiceWrongFalsely : Prop := reapTwiceRow.holds Tryd.pinned (OpenSpec.ofChange reapTwiceWrong)

/-- 'ragpickerlaw09.ReapKeeps': WHATEVER THE INPUT: true; the input reads as it did. -/
def reapKeepsSpec : ChangeSpec := { name := "reapKeeps", fn := fun _ => fun
  | [d1, d2, d3] => { results := [.lit (.bool true)], args := [d1, d2, d3] }
  | _ => none }
def reapKeepsRow : OpenClaim := { program := "ytkahninpodhcmaadoor", sum := "8d9ec963d6be4ec9b43caa1decd818baedcaeb130cd485b67314d26c5655edaf", func := "ragpicker/ragpickerlaw09.ReapKeeps", spec := "reapKeeps", unfollowed := true, recurses := true, named := ["ragpicker/class.words"], apart := false, laid := [("ragpicker/class.words", laid_ragpicker_class_words)] }
def ReapKeepsSaid : Prop := reapKeepsRow.holds Tryd.pinned (OpenSpec.ofChange reapKeepsSpec)

/-- ITS FALSE NEIGHBOUR: 'it returns false'. Refute it at one input. -/
def reapKeepsWrong : ChangeSpec := { name := "reapKeeps", fn := fun _ => fun
  | [d1, d2, d3] => { results := [.lit (.bool false)], args := [d1, d2, d3] }
  | _ => none }
def ReapKeepsWrongFalsely : Prop := reapKeepsRow.holds Tryd.pinned (OpenSpec.ofChange reapKeepsWrong)

/-- 'ragpickerlaw09.ReapPages': WHATEVER THE INPUT: true; the input reads as it did. -/
def reapPagesSpec : ChangeSpec := { name := "reapPages", fn := fun _ => fun
  | [d1, d2] => { results := [.lit (.bool true)], args := [d1, d2] }
  | _ => none }
def reapPagesRow : OpenClaim := { program := "ytkahninpodhcmaadoor", sum := "8d9ec963d6be4ec9b43caa1decd818baedcaeb130cd485b67314d26c5655edaf", func := "ragpicker/ragpickerlaw09.ReapPages", spec := "reapPages", unfollowed := true, recurses := true, named := ["ragpicker/class.words"], apart := false, laid := [("ragpicker/class.words", laid_ragpicker_class_words)] }
def ReapPagesSaid : Prop := reapPagesRow.holds Tryd.pinned (OpenSpec.ofChange reapPagesSpec)

/-- ITS FALSE NEIGHBOUR: 'it returns false'. Refute it at one input. -/
def reapPagesWrong : ChangeSpec := { name := "reapPages", fn := fun _ => fun
  | [d1, d2] => { results := [.lit (.bool false)], args := [d1, d2] }
  | _ => none }
def ReapPagesWrongFalsely : Prop := reapPagesRow.holds Tryd.pinned (OpenSpec.ofChange reapPagesWrong)

/- THE SECOND FORM. 'bulk': how many values and letters a reading holds, each counted each time it is reached (what is shared counts as often as it is met; a slice's spare places count too). A statement '..UptoSaid' is the law's where the arguments, and the package variables that the reading takes, are together of bulk at most 1048576: NARROWER than '..Said'. Prove '..Said' where nothing that the law and all that it calls make is longer than what came in: it says more and counts as full. Else prove '..UptoSaid'. A law counts once. -/
mutual
def uptoBulk {H : Type} : DataW H → Nat
  | .lit (.string bytes) => bytes.length + 1
  | .lit _ => 1
  | .nil => 1
  | .ptr d => uptoBulk d + 1
  | .slice elems spare => uptoBulkAll elems + uptoBulkAll spare + 1
  | .agg parts => uptoBulkAll parts + 1
  | .iface _ d => uptoBulk d + 1
  | .map entries => uptoBulkEntries entries + 1
  | .held _ => 1
def uptoBulkAll {H : Type} : List (DataW H) → Nat
  | [] => 0
  | d :: r => uptoBulk d + uptoBulkAll r
def uptoBulkEntries {H : Type} : List (Lit × DataW H) → Nat
  | [] => 0
  | x :: r => uptoBulkEntry x + uptoBulkEntries r
def uptoBulkEntry {H : Type} : Lit × DataW H → Nat
  | (.string bytes, d) => bytes.length + uptoBulk d + 1
  | (_, d) => uptoBulk d + 1
 end
def uptoSmall : (H : Type) → List (DataW H) → Bool := fun _ ds => decide (uptoBulkAll ds ≤ 1048576)
def OpenSpec.upto (s : _root_.Go.ChangeSpec) : _root_.Go.OpenSpec := { _root_.Go.OpenSpec.ofChange s with cond := some uptoSmall }

/-- 'ragpickerlaw09.ReapFlushes', WHERE WHAT IT READS IS OF BULK AT MOST 1048576: true; the input reads as it did. -/
def reapFlushesUptoRow : OpenClaim := { program := "ytkahninpodhcmaadoor", sum := "8d9ec963d6be4ec9b43caa1decd818baedcaeb130cd485b67314d26c5655edaf", func := "ragpicker/ragpickerlaw09.ReapFlushes", spec := "reapFlushes", unfollowed := true, recurses := true, named := ["ragpicker/class.words"], apart := false, laid := [("ragpicker/class.words", laid_ragpicker_class_words)], narrowed := true }
def ReapFlushesUptoSaid : Prop := reapFlushesUptoRow.holds Tryd.pinned (OpenSpec.upto reapFlushesSpec)

/-- 'ragpickerlaw09.ReapTwice', WHERE WHAT IT READS IS OF BULK AT MOST 1048576: true; the input reads as it did. -/
def reapTwiceUptoRow : OpenClaim := { program := "ytkahninpodhcmaadoor", sum := "8d9ec963d6be4ec9b43caa1decd818baedcaeb130cd485b67314d26c5655edaf", func := "ragpicker/ragpickerlaw09.ReapTwice", spec := "reapTwice", unfollowed := true, recurses := true, named := ["ragpicker/class.words"], apart := false, laid := [("ragpicker/class.words", laid_ragpicker_class_words)], narrowed := true }
def ReapTwiceUptoSaid : Prop := reapTwiceUptoRow.holds Tryd.pinned (OpenSpec.upto reapTwiceSpec)

/-- 'ragpickerlaw09.ReapKeeps', WHERE WHAT IT READS IS OF BULK AT MOST 1048576: true; the input reads as it did. -/
def reapKeepsUptoRow : OpenClaim := { program := "ytkahninpodhcmaadoor", sum := "8d9ec963d6be4ec9b43caa1decd818baedcaeb130cd485b67314d26c5655edaf", func := "ragpicker/ragpickerlaw09.ReapKeeps", spec := "reapKeeps", unfollowed := true, recurses := true, named := ["ragpicker/class.words"], apart := false, laid := [("ragpicker/class.words", laid_ragpicker_class_words)], narrowed := true }
def ReapKeepsUptoSaid : Prop := reapKeepsUptoRow.holds Tryd.pinned (OpenSpec.upto reapKeepsSpec)

/-- 'ragpickerlaw09.ReapPages', WHERE WHAT IT READS IS OF BULK AT MOST 1048576: true; the input reads as it did. -/
def reapPagesUptoRow : OpenClaim := { program := "ytkahninpodhcmaadoor", sum := "8d9ec963d6be4ec9b43caa1decd818baedcaeb130cd485b67314d26c5655edaf", func := "ragpicker/ragpickerlaw09.ReapPages", spec := "reapPages", unfollowed := true, recurses := true, named := ["ragpicker/class.words"], apart := false, laid := [("ragpicker/class.words", laid_ragpicker_class_words)], narrowed := true }
def ReapPagesUptoSaid : Prop := reapPagesUptoRow.holds Tryd.pinned (OpenSpec.upto reapPagesSpec)

end Rows
end Go.Proofs.YtkahninpodhcmaaDoor
