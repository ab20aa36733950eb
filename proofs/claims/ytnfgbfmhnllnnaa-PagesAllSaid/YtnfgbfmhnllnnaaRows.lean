/-
  No cell of these rows narrows 'for every input' (looked for: loops, veiled, ifaces, maps, wideKeys, modest, calm, conditions, laid).
  DERIVED. THE GIVEN ROWS OF THIS SEAT. 7 by the template 'for every input the law returns true; each argument reads behind the call as it read before'; 0 by the template 'total and deterministic' (their statements: YtnfgbfmhnllnnaaTotals.lean).
  GIVEN WITH THE SEED: the statements are not yours to turn. If you find one false, say at which input.
  Laid BY PROGRAM, IN A SANDBOX (cutbox-rows.mjs): the forced cells as the released guide's own fill.sh prints them over the translation a2b50fc36f9d6513… (all of the seat's roots in one cut). By AI agents, Wed Nov 11 2026. No macro, syntax, notation, axiom, sorry.
-/
import Derived.Test.YtnfgbfmhnllnnaaChecked
import GoSem.Claim
import GoSem.ClaimJoined
import GoSem.ClaimMapViews
import Derived.JoinedTies
import Derived.KernelRfl
namespace Go.Proofs.Ytnfgbfmhnllnnaa
/- THE CELL 'sum', in the pinned program and in every row, IS THE sha256 OF THE DUMP (.gsa) THAT YtnfgbfmhnllnnaaProg.lean LOADS. Nothing in Lean hashes anything: it is a label: what it is worth is what the hold of that sum in a sandbox is worth. -/
noncomputable def Try.pinned : Pinned := { name := "ytnfgbfmhnllnnaa", sum := "a2b50fc36f9d6513885ea89127f165daf477e46c2e2d4777c4f8a768dda87884", checked := Try.checked }
namespace Rows
def none {H : Type} : Left H := { results := [], args := [] }

/-- 'ragpickerlaw04.PagesTells': WHATEVER THE INPUT: true; the input reads as it did. -/
def pagesTellsSpec : ChangeSpec := { name := "pagesTells", fn := fun _ => fun
  | [d1, d2, d3] => { results := [.lit (.bool true)], args := [d1, d2, d3] }
  | _ => none }
def pagesTellsRow : OpenClaim := { program := "ytnfgbfmhnllnnaa", sum := "a2b50fc36f9d6513885ea89127f165daf477e46c2e2d4777c4f8a768dda87884", func := "ragpicker/ragpickerlaw04.PagesTells", spec := "pagesTells", apart := false }
def PagesTellsSaid : Prop := pagesTellsRow.holds Try.pinned (OpenSpec.ofChange pagesTellsSpec)

/-- ITS FALSE NEIGHBOUR: 'it returns false'. Refute it at one input. -/
def pagesTellsWrong : ChangeSpec := { name := "pagesTells", fn := fun _ => fun
  | [d1, d2, d3] => { results := [.lit (.bool false)], args := [d1, d2, d3] }
  | _ => none }
def PagesTellsWrongFalsely : Prop := pagesTellsRow.holds Try.pinned (OpenSpec.ofChange pagesTellsWrong)

/-- 'ragpickerlaw04.PagesFirst': WHATEVER THE INPUT: true; the input reads as it did. -/
def pagesFirstSpec : ChangeSpec := { name := "pagesFirst", fn := fun _ => fun
  | [d1, d2] => { results := [.lit (.bool true)], args := [d1, d2] }
  | _ => none }
def pagesFirstRow : OpenClaim := { program := "ytnfgbfmhnllnnaa", sum := "a2b50fc36f9d6513885ea89127f165daf477e46c2e2d4777c4f8a768dda87884", func := "ragpicker/ragpickerlaw04.PagesFirst", spec := "pagesFirst", apart := false }
def PagesFirstSaid : Prop := pagesFirstRow.holds Try.pinned (OpenSpec.ofChange pagesFirstSpec)

/-- ITS FALSE NEIGHBOUR: 'it returns false'. Refute it at one input. -/
def pagesFirstWrong : ChangeSpec := { name := "pagesFirst", fn := fun _ => fun
  | [d1, d2] => { results := [.lit (.bool false)], args := [d1, d2] }
  | _ => none }
def PagesFirstWrongFalsely : Prop := pagesFirstRow.holds Try.pinned (OpenSpec.ofChange pagesFirstWrong)

/-- 'ragpickerlaw04.PagesCount': WHATEVER THE INPUT: true; the input reads as it did. -/
def pagesCountSpec : ChangeSpec := { name := "pagesCount", fn := fun _ => fun
  | [d] => { results := [.lit (.bool true)], args := [d] }
  | _ => none }
def pagesCountRow : OpenClaim := { program := "ytnfgbfmhnllnnaa", sum := "a2b50fc36f9d6513885ea89127f165daf477e46c2e2d4777c4f8a768dda87884", func := "ragpicker/ragpickerlaw04.PagesCount", spec := "pagesCount", apart := false }
def PagesCountSaid : Prop := pagesCountRow.holds Try.pinned (OpenSpec.ofChange pagesCountSpec)

/-- ITS FALSE NEIGHBOUR: 'it returns false'. Refute it at one input. -/
def pagesCountWrong : ChangeSpec := { name := "pagesCount", fn := fun _ => fun
  | [d] => { results := [.lit (.bool false)], args := [d] }
  | _ => none }
def PagesCountWrongFalsely : Prop := pagesCountRow.holds Try.pinned (OpenSpec.ofChange pagesCountWrong)

/-- 'ragpickerlaw04.PagesAll': WHATEVER THE INPUT: true; the input reads as it did. -/
def pagesAllSpec : ChangeSpec := { name := "pagesAll", fn := fun _ => fun
  | [d1, d2] => { results := [.lit (.bool true)], args := [d1, d2] }
  | _ => none }
def pagesAllRow : OpenClaim := { program := "ytnfgbfmhnllnnaa", sum := "a2b50fc36f9d6513885ea89127f165daf477e46c2e2d4777c4f8a768dda87884", func := "ragpicker/ragpickerlaw04.PagesAll", spec := "pagesAll", apart := false }
def PagesAllSaid : Prop := pagesAllRow.holds Try.pinned (OpenSpec.ofChange pagesAllSpec)

/-- ITS FALSE NEIGHBOUR: 'it returns false'. Refute it at one input. -/
def pagesAllWrong : ChangeSpec := { name := "pagesAll", fn := fun _ => fun
  | [d1, d2] => { results := [.lit (.bool false)], args := [d1, d2] }
  | _ => none }
def PagesAllWrongFalsely : Prop := pagesAllRow.holds Try.pinned (OpenSpec.ofChange pagesAllWrong)

/-- 'ragpickerlaw04.PagesTakes': WHATEVER THE INPUT: true; the input reads as it did. -/
def pagesTakesSpec : ChangeSpec := { name := "pagesTakes", fn := fun _ => fun
  | [d1, d2, d3] => { results := [.lit (.bool true)], args := [d1, d2, d3] }
  | _ => none }
def pagesTakesRow : OpenClaim := { program := "ytnfgbfmhnllnnaa", sum := "a2b50fc36f9d6513885ea89127f165daf477e46c2e2d4777c4f8a768dda87884", func := "ragpicker/ragpickerlaw04.PagesTakes", spec := "pagesTakes", apart := false }
def PagesTakesSaid : Prop := pagesTakesRow.holds Try.pinned (OpenSpec.ofChange pagesTakesSpec)

/-- ITS FALSE NEIGHBOUR: 'it returns false'. Refute it at one input. -/
def pagesTakesWrong : ChangeSpec := { name := "pagesTakes", fn := fun _ => fun
  | [d1, d2, d3] => { results := [.lit (.bool false)], args := [d1, d2, d3] }
  | _ => none }
def PagesTakesWrongFalsely : Prop := pagesTakesRow.holds Try.pinned (OpenSpec.ofChange pagesTakesWrong)

/-- 'ragpickerlaw04.PagesBack': WHATEVER THE INPUT: true; the input reads as it did. -/
def pagesBackSpec : ChangeSpec := { name := "pagesBack", fn := fun _ => fun
  | [d1, d2, d3] => { results := [.lit (.bool true)], args := [d1, d2, d3] }
  | _ => none }
def pagesBackRow : OpenClaim := { program := "ytnfgbfmhnllnnaa", sum := "a2b50fc36f9d6513885ea89127f165daf477e46c2e2d4777c4f8a768dda87884", func := "ragpicker/ragpickerlaw04.PagesBack", spec := "pagesBack", apart := false }
def PagesBackSaid : Prop := pagesBackRow.holds Try.pinned (OpenSpec.ofChange pagesBackSpec)

/-- ITS FALSE NEIGHBOUR: 'it returns false'. Refute it at one input. -/
def pagesBackWrong : ChangeSpec := { name := "pagesBack", fn := fun _ => fun
  | [d1, d2, d3] => { results := [.lit (.bool false)], args := [d1, d2, d3] }
  | _ => none }
def PagesBackWrongFalsely : Prop := pagesBackRow.holds Try.pinned (OpenSpec.ofChange pagesBackWrong)

/-- 'ragpickerlaw04.PagesOther': WHATEVER THE INPUT: true; the input reads as it did. -/
def pagesOtherSpec : ChangeSpec := { name := "pagesOther", fn := fun _ => fun
  | [d1, d2, d3] => { results := [.lit (.bool true)], args := [d1, d2, d3] }
  | _ => none }
def pagesOtherRow : OpenClaim := { program := "ytnfgbfmhnllnnaa", sum := "a2b50fc36f9d6513885ea89127f165daf477e46c2e2d4777c4f8a768dda87884", func := "ragpicker/ragpickerlaw04.PagesOther", spec := "pagesOther", apart := false }
def PagesOtherSaid : Prop := pagesOtherRow.holds Try.pinned (OpenSpec.ofChange pagesOtherSpec)

/-- ITS FALSE NEIGHBOUR: 'it returns false'. Refute it at one input. -/
def pagesOtherWrong : ChangeSpec := { name := "pagesOther", fn := fun _ => fun
  | [d1, d2, d3] => { results := [.lit (.bool false)], args := [d1, d2, d3] }
  | _ => none }
def PagesOtherWrongFalsely : Prop := pagesOtherRow.holds Try.pinned (OpenSpec.ofChange pagesOtherWrong)

/- THE SECOND FORM. 'bulk': how many values and letters a reading holds, each counted each time it is reached (what is shared counts as often as it is met; a slice's spare places count too). A statement '..UptoSaid' is the law's where the arguments, and the package variables that the reading takes, are together of bulk at most 1048576: NARROWER than '..Said'. Prove '..Said' where nothing that the law and all that it calls make is longer than what came in: it says more and counts as full. Else prove '..UptoSaid'. A law counts once. -/
mutual
def uptoBulk {H : Type} : DataW H → Nat
  | .lit (.string bytes) => bytes.length + 1
  | .lit _ => 1
  | .nil => 1
  | .ptr d => uptoBulk d + 1
  | .slice elems spare => uptoBulkAll elems + uptoBulkAll spare + 1
  | .agg parts => uptoBulkAll parts + 1
  | .iface _ d => uptoBulk d + 1
  | .map entries => uptoBulkEntries entries + 1
  | .held _ => 1
def uptoBulkAll {H : Type} : List (DataW H) → Nat
  | [] => 0
  | d :: r => uptoBulk d + uptoBulkAll r
def uptoBulkEntries {H : Type} : List (Lit × DataW H) → Nat
  | [] => 0
  | x :: r => uptoBulkEntry x + uptoBulkEntries r
def uptoBulkEntry {H : Type} : Lit × DataW H → Nat
  | (.string bytes, d) => bytes.length + uptoBulk d + 1
  | (_, d) => uptoBulk d + 1
 end
def uptoSmall : (H : Type) → List (DataW H) → Bool := fun _ ds => decide (uptoBulkAll ds ≤ 1048576)
def OpenSpec.upto (s : _root_.Go.ChangeSpec) : _root_.Go.OpenSpec := { _root_.Go.OpenSpec.ofChange s with cond := some uptoSmall }

/-- 'ragpickerlaw04.PagesTells', WHERE WHAT IT READS IS OF BULK AT MOST 1048576: true; the input reads as it did. -/
def pagesTellsUptoRow : OpenClaim := { program := "ytnfgbfmhnllnnaa", sum := "a2b50fc36f9d6513885ea89127f165daf477e46c2e2d4777c4f8a768dda87884", func := "ragpicker/ragpickerlaw04.PagesTells", spec := "pagesTells", apart := false, narrowed := true }
def PagesTellsUptoSaid : Prop := pagesTellsUptoRow.holds Try.pinned (OpenSpec.upto pagesTellsSpec)

/-- 'ragpickerlaw04.PagesFirst', WHERE WHAT IT READS IS OF BULK AT MOST 1048576: true; the input reads as it did. -/
def pagesFirstUptoRow : OpenClaim := { program := "ytnfgbfmhnllnnaa", sum := "a2b50fc36f9d6513885ea89127f165daf477e46c2e2d4777c4f8a768dda87884", func := "ragpicker/ragpickerlaw04.PagesFirst", spec := "pagesFirst", apart := false, narrowed := true }
def PagesFirstUptoSaid : Prop := pagesFirstUptoRow.holds Try.pinned (OpenSpec.upto pagesFirstSpec)

/-- 'ragpickerlaw04.PagesCount', WHERE WHAT IT READS IS OF BULK AT MOST 1048576: true; the input reads as it did. -/
def pagesCountUptoRow : OpenClaim := { program := "ytnfgbfmhnllnnaa", sum := "a2b50fc36f9d6513885ea89127f165daf477e46c2e2d4777c4f8a768dda87884", func := "ragpicker/ragpickerlaw04.PagesCount", spec := "pagesCount", apart := false, narrowed := true }
def PagesCountUptoSaid : Prop := pagesCountUptoRow.holds Try.pinned (OpenSpec.upto pagesCountSpec)

/-- 'ragpickerlaw04.PagesAll', WHERE WHAT IT READS IS OF BULK AT MOST 1048576: true; the input reads as it did. -/
def pagesAllUptoRow : OpenClaim := { program := "ytnfgbfmhnllnnaa", sum := "a2b50fc36f9d6513885ea89127f165daf477e46c2e2d4777c4f8a768dda87884", func := "ragpicker/ragpickerlaw04.PagesAll", spec := "pagesAll", apart := false, narrowed := true }
def PagesAllUptoSaid : Prop := pagesAllUptoRow.holds Try.pinned (OpenSpec.upto pagesAllSpec)

/-- 'ragpickerlaw04.PagesTakes', WHERE WHAT IT READS IS OF BULK AT MOST 1048576: true; the input reads as it did. -/
def pagesTakesUptoRow : OpenClaim := { program := "ytnfgbfmhnllnnaa", sum := "a2b50fc36f9d6513885ea89127f165daf477e46c2e2d4777c4f8a768dda87884", func := "ragpicker/ragpickerlaw04.PagesTakes", spec := "pagesTakes", apart := false, narrowed := true }
def PagesTakesUptoSaid : Prop := pagesTakesUptoRow.holds Try.pinned (OpenSpec.upto pagesTakesSpec)

/-- 'ragpickerlaw04.PagesBack', WHERE WHAT IT READS IS OF BULK AT MOST 1048576: true; the input reads as it did. -/
def pagesBackUptoRow : OpenClaim := { program := "ytnfgbfmhnllnnaa", sum := "a2b50fc36f9d6513885ea89127f165daf477e46c2e2d4777c4f8a768dda87884", func := "ragpicker/ragpickerlaw04.PagesBack", spec := "pagesBack", apart := false, narrowed := true }
def PagesBackUptoSaid : Prop := pagesBackUptoRow.holds Try.pinned (OpenSpec.upto pagesBackSpec)

/-- 'ragpickerlaw04.PagesOther', WHERE WHAT IT READS IS OF BULK AT MOST 1048576: true; the input reads as it did. -/
def pagesOtherUptoRow : OpenClaim := { program := "ytnfgbfmhnllnnaa", sum := "a2b50fc36f9d6513885ea89127f165daf477e46c2e2d4777c4f8a768dda87884", func := "ragpicker/ragpickerlaw04.PagesOther", spec := "pagesOther", apart := false, narrowed := true }
def PagesOtherUptoSaid : Prop := pagesOtherUptoRow.holds Try.pinned (OpenSpec.upto pagesOtherSpec)

end Rows
end Go.Proofs.Ytnfgbfmhnllnnaa
