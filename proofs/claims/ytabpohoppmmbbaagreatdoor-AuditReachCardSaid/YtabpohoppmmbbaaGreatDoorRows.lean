/-
  NARROWER THAN 'FOR EVERY INPUT', by the rows' own cells (each row's printed sentence says how): AuditReach: laid · MutateSteps: laid · MutateErrors: laid · MutateEnds: laid · MutateReads: laid · MutateStores: laid · MutateNew: laid · MutateKeeps: laid · WorldDoes: laid · WorldRuns: laid · WorldKeeps: laid · WorldParts: laid · WorldNew: laid · WorldOthers: laid · WorldShares: laid.
  DERIVED. THE GIVEN ROWS OF THIS SEAT. 15 by the template 'for every input the law returns true; each argument reads behind the call as it read before'; 0 by the template 'total and deterministic' (their statements: YtabpohoppmmbbaaGreatDoorTotals.lean).
  GIVEN WITH THE SEED: the statements are not yours to turn. If you find one false, say at which input.
  Laid BY PROGRAM, IN A SANDBOX (cutbox-rows.mjs): the forced cells as the released guide's own fill.sh prints them over the translation c9a1a45f595096ed… (all of the seat's roots in one cut). By AI agents, Wed Nov 11 2026. No macro, syntax, notation, axiom, sorry.
-/
import Derived.Test.YtabpohoppmmbbaaGreatDoorChecked
import GoSem.Claim
import GoSem.ClaimJoined
import GoSem.ClaimMapViews
import Derived.JoinedTies
import Derived.KernelRfl
namespace Go.Proofs.YtabpohoppmmbbaaGreatDoor
/- THE CELL 'sum', in the pinned program and in every row, IS THE sha256 OF THE DUMP (.gsa) THAT YtabpohoppmmbbaaGreatDoorProg.lean LOADS. Nothing in Lean hashes anything: it is a label: what it is worth is what the hold of that sum in a sandbox is worth. -/
noncomputable def Tryz.pinned : Pinned := { name := "ytabpohoppmmbbaagreatdoor", sum := "c9a1a45f595096ed2b2ca324b176a4f3308a1bc125379c9bfc39f5f791824f1a", checked := Tryz.checked }
namespace Rows
def none {H : Type} : Left H := { results := [], args := [] }

/- WHAT THE LISTED PACKAGE-LEVEL VARIABLES READ AS WHEN THE CALL BEGINS. Each datum BY PROGRAM (the guide's laid-datum.mjs) off the statement by which the dump's own 'gosem.cut.vars' lays the variable. In a bare row this is a premise. The card (YtabpohoppmmbbaaGreatDoorCards.lean) ties it to the program's text. -/
def laid_ragpicker_class_words {H : Type} : DataW H := .agg [.lit (.int .i64 2), .lit (.int .i64 4), .lit (.int .i64 8)]

/-- 'ragpickerlaw22.AuditReach': WHATEVER THE INPUT: true; the input reads as it did. -/
def auditReachSpec : ChangeSpec := { name := "auditReach", fn := fun _ => fun
  | [d] => { results := [.lit (.bool true)], args := [d] }
  | _ => none }
def auditReachRow : OpenClaim := { program := "ytabpohoppmmbbaagreatdoor", sum := "c9a1a45f595096ed2b2ca324b176a4f3308a1bc125379c9bfc39f5f791824f1a", func := "ragpicker/ragpickerlaw22.AuditReach", spec := "auditReach", unfollowed := true, recurses := true, named := ["ragpicker/class.words"], apart := false, laid := [("ragpicker/class.words", laid_ragpicker_class_words)] }
def AuditReachSaid : Prop := auditReachRow.holds Tryz.pinned (OpenSpec.ofChange auditReachSpec)

/-- ITS FALSE NEIGHBOUR: 'it returns false'. Refute it at one input. -/
def auditReachWrong : ChangeSpec := { name := "auditReach", fn := fun _ => fun
  | [d] => { results := [.lit (.bool false)], args := [d] }
  | _ => none }
def AuditReachWrongFalsely : Prop := auditReachRow.holds Tryz.pinned (OpenSpec.ofChange auditReachWrong)

/-- 'ragpickerlaw14.MutateSteps': WHATEVER THE INPUT: true; the input reads as it did. -/
def mutateStepsSpec : ChangeSpec := { name := "mutateSteps", fn := fun _ => fun
  | [d1, d2, d3] => { results := [.lit (.bool true)], args := [d1, d2, d3] }
  | _ => none }
def mutateStepsRow : OpenClaim := { program := "ytabpohoppmmbbaagreatdoor", sum := "c9a1a45f595096ed2b2ca324b176a4f3308a1bc125379c9bfc39f5f791824f1a", func := "ragpicker/ragpickerlaw14.MutateSteps", spec := "mutateSteps", unfollowed := true, recurses := true, named := ["ragpicker/class.words"], apart := false, laid := [("ragpicker/class.words", laid_ragpicker_class_words)] }
def MutateStepsSaid : Prop := mutateStepsRow.holds Tryz.pinned (OpenSpec.ofChange mutateStepsSpec)

/-- ITS FALSE NEIGHBOUR: 'it returns false'. Refute it at one input. -/
def mutateStepsWrong : ChangeSpec := { name := "mutateSteps", fn := fun _ => fun
  | [d1, d2, d3] => { results := [.lit (.bool false)], args := [d1, d2, d3] }
  | _ => none }
def MutateStepsWrongFalsely : Prop := mutateStepsRow.holds Tryz.pinned (OpenSpec.ofChange mutateStepsWrong)

/-- 'ragpickerlaw14.MutateErrors': WHATEVER THE INPUT: true; the input reads as it did. -/
def mutateErrorsSpec : ChangeSpec := { name := "mutateErrors", fn := fun _ => fun
  | [d1, d2, d3] => { results := [.lit (.bool true)], args := [d1, d2, d3] }
  | _ => none }
def mutateErrorsRow : OpenClaim := { program := "ytabpohoppmmbbaagreatdoor", sum := "c9a1a45f595096ed2b2ca324b176a4f3308a1bc125379c9bfc39f5f791824f1a", func := "ragpicker/ragpickerlaw14.MutateErrors", spec := "mutateErrors", unfollowed := true, recurses := true, named := ["ragpicker/class.words"], apart := false, laid := [("ragpicker/class.words", laid_ragpicker_class_words)] }
def MutateErrorsSaid : Prop := mutateErrorsRow.holds Tryz.pinned (OpenSpec.ofChange mutateErrorsSpec)

/-- ITS FALSE NEIGHBOUR: 'it returns false'. Refute it at one input. -/
def mutateErrorsWrong : ChangeSpec := { name := "mutateErrors", fn := fun _ => fun
  | [d1, d2, d3] => { results := [.lit (.bool false)], args := [d1, d2, d3] }
  | _ => none }
def MutateErrorsWrongFalsely : Prop := mutateErrorsRow.holds Tryz.pinned (OpenSpec.ofChange mutateErrorsWrong)

/-- 'ragpickerlaw14.MutateEnds': WHATEVER THE INPUT: true; the input reads as it did. -/
def mutateEndsSpec : ChangeSpec := { name := "mutateEnds", fn := fun _ => fun
  | [d1, d2, d3] => { results := [.lit (.bool true)], args := [d1, d2, d3] }
  | _ => none }
def mutateEndsRow : OpenClaim := { program := "ytabpohoppmmbbaagreatdoor", sum := "c9a1a45f595096ed2b2ca324b176a4f3308a1bc125379c9bfc39f5f791824f1a", func := "ragpicker/ragpickerlaw14.MutateEnds", spec := "mutateEnds", unfollowed := true, recurses := true, named := ["ragpicker/class.words"], apart := false, laid := [("ragpicker/class.words", laid_ragpicker_class_words)] }
def MutateEndsSaid : Prop := mutateEndsRow.holds Tryz.pinned (OpenSpec.ofChange mutateEndsSpec)

/-- ITS FALSE NEIGHBOUR: 'it returns false'. Refute it at one input. -/
def mutateEndsWrong : ChangeSpec := { name := "mutateEnds", fn := fun _ => fun
  | [d1, d2, d3] => { results := [.lit (.bool false)], args := [d1, d2, d3] }
  | _ => none }
def MutateEndsWrongFalsely : Prop := mutateEndsRow.holds Tryz.pinned (OpenSpec.ofChange mutateEndsWrong)

/-- 'ragpickerlaw14.MutateReads': WHATEVER THE INPUT: true; the input reads as it did. -/
def mutateReadsSpec : ChangeSpec := { name := "mutateReads", fn := fun _ => fun
  | [d1, d2, d3] => { results := [.lit (.bool true)], args := [d1, d2, d3] }
  | _ => none }
def mutateReadsRow : OpenClaim := { program := "ytabpohoppmmbbaagreatdoor", sum := "c9a1a45f595096ed2b2ca324b176a4f3308a1bc125379c9bfc39f5f791824f1a", func := "ragpicker/ragpickerlaw14.MutateReads", spec := "mutateReads", unfollowed := true, recurses := true, named := ["ragpicker/class.words"], apart := false, laid := [("ragpicker/class.words", laid_ragpicker_class_words)] }
def MutateReadsSaid : Prop := mutateReadsRow.holds Tryz.pinned (OpenSpec.ofChange mutateReadsSpec)

/-- ITS FALSE NEIGHBOUR: 'it returns false'. Refute it at one input. -/
def mutateReadsWrong : ChangeSpec := { name := "mutateReads", fn := fun _ => fun
  | [d1, d2, d3] => { results := [.lit (.bool false)], args := [d1, d2, d3] }
  | _ => none }
def MutateReadsWrongFalsely : Prop := mutateReadsRow.holds Tryz.pinned (OpenSpec.ofChange mutateReadsWrong)

/-- 'ragpickerlaw14.MutateStores': WHATEVER THE INPUT: true; the input reads as it did. -/
def mutateStoresSpec : ChangeSpec := { name := "mutateStores", fn := fun _ => fun
  | [d1, d2, d3] => { results := [.lit (.bool true)], args := [d1, d2, d3] }
  | _ => none }
def mutateStoresRow : OpenClaim := { program := "ytabpohoppmmbbaagreatdoor", sum := "c9a1a45f595096ed2b2ca324b176a4f3308a1bc125379c9bfc39f5f791824f1a", func := "ragpicker/ragpickerlaw14.MutateStores", spec := "mutateStores", unfollowed := true, recurses := true, named := ["ragpicker/class.words"], apart := false, laid := [("ragpicker/class.words", laid_ragpicker_class_words)] }
def MutateStoresSaid : Prop := mutateStoresRow.holds Tryz.pinned (OpenSpec.ofChange mutateStoresSpec)

/-- ITS FALSE NEIGHBOUR: 'it returns false'. Refute it at one input. -/
def mutateStoresWrong : ChangeSpec := { name := "mutateStores", fn := fun _ => fun
  | [d1, d2, d3] => { results := [.lit (.bool false)], args := [d1, d2, d3] }
  | _ => none }
def MutateStoresWrongFalsely : Prop := mutateStoresRow.holds Tryz.pinned (OpenSpec.ofChange mutateStoresWrong)

/-- 'ragpickerlaw14.MutateNew': WHATEVER THE INPUT: true; the input reads as it did. -/
def mutateNewSpec : ChangeSpec := { name := "mutateNew", fn := fun _ => fun
  | [d1, d2, d3] => { results := [.lit (.bool true)], args := [d1, d2, d3] }
  | _ => none }
def mutateNewRow : OpenClaim := { program := "ytabpohoppmmbbaagreatdoor", sum := "c9a1a45f595096ed2b2ca324b176a4f3308a1bc125379c9bfc39f5f791824f1a", func := "ragpicker/ragpickerlaw14.MutateNew", spec := "mutateNew", unfollowed := true, recurses := true, named := ["ragpicker/class.words"], apart := false, laid := [("ragpicker/class.words", laid_ragpicker_class_words)] }
def MutateNewSaid : Prop := mutateNewRow.holds Tryz.pinned (OpenSpec.ofChange mutateNewSpec)

/-- ITS FALSE NEIGHBOUR: 'it returns false'. Refute it at one input. -/
def mutateNewWrong : ChangeSpec := { name := "mutateNew", fn := fun _ => fun
  | [d1, d2, d3] => { results := [.lit (.bool false)], args := [d1, d2, d3] }
  | _ => none }
def MutateNewWrongFalsely : Prop := mutateNewRow.holds Tryz.pinned (OpenSpec.ofChange mutateNewWrong)

/-- 'ragpickerlaw14.MutateKeeps': WHATEVER THE INPUT: true; the input reads as it did. -/
def mutateKeepsSpec : ChangeSpec := { name := "mutateKeeps", fn := fun _ => fun
  | [d1, d2, d3, d4] => { results := [.lit (.bool true)], args := [d1, d2, d3, d4] }
  | _ => none }
def mutateKeepsRow : OpenClaim := { program := "ytabpohoppmmbbaagreatdoor", sum := "c9a1a45f595096ed2b2ca324b176a4f3308a1bc125379c9bfc39f5f791824f1a", func := "ragpicker/ragpickerlaw14.MutateKeeps", spec := "mutateKeeps", unfollowed := true, recurses := true, named := ["ragpicker/class.words"], apart := false, laid := [("ragpicker/class.words", laid_ragpicker_class_words)] }
def MutateKeepsSaid : Prop := mutateKeepsRow.holds Tryz.pinned (OpenSpec.ofChange mutateKeepsSpec)

/-- ITS FALSE NEIGHBOUR: 'it returns false'. Refute it at one input. -/
def mutateKeepsWrong : ChangeSpec := { name := "mutateKeeps", fn := fun _ => fun
  | [d1, d2, d3, d4] => { results := [.lit (.bool false)], args := [d1, d2, d3, d4] }
  | _ => none }
def MutateKeepsWrongFalsely : Prop := mutateKeepsRow.holds Tryz.pinned (OpenSpec.ofChange mutateKeepsWrong)

/-- 'ragpickerlaw20.WorldDoes': WHATEVER THE INPUT: true; the input reads as it did. -/
def worldDoesSpec : ChangeSpec := { name := "worldDoes", fn := fun _ => fun
  | [d1, d2] => { results := [.lit (.bool true)], args := [d1, d2] }
  | _ => none }
def worldDoesRow : OpenClaim := { program := "ytabpohoppmmbbaagreatdoor", sum := "c9a1a45f595096ed2b2ca324b176a4f3308a1bc125379c9bfc39f5f791824f1a", func := "ragpicker/ragpickerlaw20.WorldDoes", spec := "worldDoes", unfollowed := true, recurses := true, named := ["ragpicker/class.words"], apart := false, laid := [("ragpicker/class.words", laid_ragpicker_class_words)] }
def WorldDoesSaid : Prop := worldDoesRow.holds Tryz.pinned (OpenSpec.ofChange worldDoesSpec)

/-- ITS FALSE NEIGHBOUR: 'it returns false'. Refute it at one input. -/
def worldDoesWrong : ChangeSpec := { name := "worldDoes", fn := fun _ => fun
  | [d1, d2] => { results := [.lit (.bool false)], args := [d1, d2] }
  | _ => none }
def WorldDoesWrongFalsely : Prop := worldDoesRow.holds Tryz.pinned (OpenSpec.ofChange worldDoesWrong)

/-- 'ragpickerlaw20.WorldRuns': WHATEVER THE INPUT: true; the input reads as it did. -/
def worldRunsSpec : ChangeSpec := { name := "worldRuns", fn := fun _ => fun
  | [d1, d2, d3] => { results := [.lit (.bool true)], args := [d1, d2, d3] }
  | _ => none }
def worldRunsRow : OpenClaim := { program := "ytabpohoppmmbbaagreatdoor", sum := "c9a1a45f595096ed2b2ca324b176a4f3308a1bc125379c9bfc39f5f791824f1a", func := "ragpicker/ragpickerlaw20.WorldRuns", spec := "worldRuns", unfollowed := true, recurses := true, named := ["ragpicker/class.words"], apart := false, laid := [("ragpicker/class.words", laid_ragpicker_class_words)] }
def WorldRunsSaid : Prop := worldRunsRow.holds Tryz.pinned (OpenSpec.ofChange worldRunsSpec)

/-- ITS FALSE NEIGHBOUR: 'it returns false'. Refute it at one input. -/
def worldRunsWrong : ChangeSpec := { name := "worldRuns", fn := fun _ => fun
  | [d1, d2, d3] => { results := [.lit (.bool false)], args := [d1, d2, d3] }
  | _ => none }
def WorldRunsWrongFalsely : Prop := worldRunsRow.holds Tryz.pinned (OpenSpec.ofChange worldRunsWrong)

/-- 'ragpickerlaw20.WorldKeeps': WHATEVER THE INPUT: true; the input reads as it did. -/
def worldKeepsSpec : ChangeSpec := { name := "worldKeeps", fn := fun _ => fun
  | [d1, d2, d3] => { results := [.lit (.bool true)], args := [d1, d2, d3] }
  | _ => none }
def worldKeepsRow : OpenClaim := { program := "ytabpohoppmmbbaagreatdoor", sum := "c9a1a45f595096ed2b2ca324b176a4f3308a1bc125379c9bfc39f5f791824f1a", func := "ragpicker/ragpickerlaw20.WorldKeeps", spec := "worldKeeps", unfollowed := true, recurses := true, named := ["ragpicker/class.words"], apart := false, laid := [("ragpicker/class.words", laid_ragpicker_class_words)] }
def WorldKeepsSaid : Prop := worldKeepsRow.holds Tryz.pinned (OpenSpec.ofChange worldKeepsSpec)

/-- ITS FALSE NEIGHBOUR: 'it returns false'. Refute it at one input. -/
def worldKeepsWrong : ChangeSpec := { name := "worldKeeps", fn := fun _ => fun
  | [d1, d2, d3] => { results := [.lit (.bool false)], args := [d1, d2, d3] }
  | _ => none }
def WorldKeepsWrongFalsely : Prop := worldKeepsRow.holds Tryz.pinned (OpenSpec.ofChange worldKeepsWrong)

/-- 'ragpickerlaw20.WorldParts': WHATEVER THE INPUT: true; the input reads as it did. -/
def worldPartsSpec : ChangeSpec := { name := "worldParts", fn := fun _ => fun
  | [d1, d2, d3, d4] => { results := [.lit (.bool true)], args := [d1, d2, d3, d4] }
  | _ => none }
def worldPartsRow : OpenClaim := { program := "ytabpohoppmmbbaagreatdoor", sum := "c9a1a45f595096ed2b2ca324b176a4f3308a1bc125379c9bfc39f5f791824f1a", func := "ragpicker/ragpickerlaw20.WorldParts", spec := "worldParts", unfollowed := true, recurses := true, named := ["ragpicker/class.words"], apart := false, laid := [("ragpicker/class.words", laid_ragpicker_class_words)] }
def WorldPartsSaid : Prop := worldPartsRow.holds Tryz.pinned (OpenSpec.ofChange worldPartsSpec)

/-- ITS FALSE NEIGHBOUR: 'it returns false'. Refute it at one input. -/
def worldPartsWrong : ChangeSpec := { name := "worldParts", fn := fun _ => fun
  | [d1, d2, d3, d4] => { results := [.lit (.bool false)], args := [d1, d2, d3, d4] }
  | _ => none }
def WorldPartsWrongFalsely : Prop := worldPartsRow.holds Tryz.pinned (OpenSpec.ofChange worldPartsWrong)

/-- 'ragpickerlaw20.WorldNew': WHATEVER THE INPUT: true; the input reads as it did. -/
def worldNewSpec : ChangeSpec := { name := "worldNew", fn := fun _ => fun
  | [d1, d2] => { results := [.lit (.bool true)], args := [d1, d2] }
  | _ => none }
def worldNewRow : OpenClaim := { program := "ytabpohoppmmbbaagreatdoor", sum := "c9a1a45f595096ed2b2ca324b176a4f3308a1bc125379c9bfc39f5f791824f1a", func := "ragpicker/ragpickerlaw20.WorldNew", spec := "worldNew", unfollowed := true, recurses := true, named := ["ragpicker/class.words"], apart := false, laid := [("ragpicker/class.words", laid_ragpicker_class_words)] }
def WorldNewSaid : Prop := worldNewRow.holds Tryz.pinned (OpenSpec.ofChange worldNewSpec)

/-- ITS FALSE NEIGHBOUR: 'it returns false'. Refute it at one input. -/
def worldNewWrong : ChangeSpec := { name := "worldNew", fn := fun _ => fun
  | [d1, d2] => { results := [.lit (.bool false)], args := [d1, d2] }
  | _ => none }
def WorldNewWrongFalsely : Prop := worldNewRow.holds Tryz.pinned (OpenSpec.ofChange worldNewWrong)

/-- 'ragpickerlaw20.WorldOthers': WHATEVER THE INPUT: true; the input reads as it did. -/
def worldOthersSpec : ChangeSpec := { name := "worldOthers", fn := fun _ => fun
  | [d1, d2, d3, d4] => { results := [.lit (.bool true)], args := [d1, d2, d3, d4] }
  | _ => none }
def worldOthersRow : OpenClaim := { program := "ytabpohoppmmbbaagreatdoor", sum := "c9a1a45f595096ed2b2ca324b176a4f3308a1bc125379c9bfc39f5f791824f1a", func := "ragpicker/ragpickerlaw20.WorldOthers", spec := "worldOthers", unfollowed := true, recurses := true, named := ["ragpicker/class.words"], apart := false, laid := [("ragpicker/class.words", laid_ragpicker_class_words)] }
def WorldOthersSaid : Prop := worldOthersRow.holds Tryz.pinned (OpenSpec.ofChange worldOthersSpec)

/-- ITS FALSE NEIGHBOUR: 'it returns false'. Refute it at one input. -/
def worldOthersWrong : ChangeSpec := { name := "worldOthers", fn := fun _ => fun
  | [d1, d2, d3, d4] => { results := [.lit (.bool false)], args := [d1, d2, d3, d4] }
  | _ => none }
def WorldOthersWrongFalsely : Prop := worldOthersRow.holds Tryz.pinned (OpenSpec.ofChange worldOthersWrong)

/-- 'ragpickerlaw20.WorldShares': WHATEVER THE INPUT: true; the input reads as it did. -/
def worldSharesSpec : ChangeSpec := { name := "worldShares", fn := fun _ => fun
  | [d1, d2, d3, d4] => { results := [.lit (.bool true)], args := [d1, d2, d3, d4] }
  | _ => none }
def worldSharesRow : OpenClaim := { program := "ytabpohoppmmbbaagreatdoor", sum := "c9a1a45f595096ed2b2ca324b176a4f3308a1bc125379c9bfc39f5f791824f1a", func := "ragpicker/ragpickerlaw20.WorldShares", spec := "worldShares", unfollowed := true, recurses := true, named := ["ragpicker/class.words"], apart := false, laid := [("ragpicker/class.words", laid_ragpicker_class_words)] }
def WorldSharesSaid : Prop := worldSharesRow.holds Tryz.pinned (OpenSpec.ofChange worldSharesSpec)

/-- ITS FALSE NEIGHBOUR: 'it returns false'. Refute it at one input. -/
def worldSharesWrong : ChangeSpec := { name := "worldShares", fn := fun _ => fun
  | [d1, d2, d3, d4] => { results := [.lit (.bool false)], args := [d1, d2, d3, d4] }
  | _ => none }
def WorldSharesWrongFalsely : Prop := worldSharesRow.holds Tryz.pinned (OpenSpec.ofChange worldSharesWrong)

/- THE SECOND FORM. 'bulk': how many values and letters a reading holds, each counted each time it is reached (what is shared counts as often as it is met; a slice's spare places count too). A statement '..UptoSaid' is the law's where the arguments, and the package variables that the reading takes, are together of bulk at most 1048576: NARROWER than '..Said'. Prove '..Said' where nothing that the law and all that it calls make is longer than what came in: it says more and counts as full. Else prove '..UptoSaid'. A law counts once. -/
mutual
def uptoBulk {H : Type} : DataW H → Nat
  | .lit (.string bytes) => bytes.length + 1
  | .lit _ => 1
  | .nil => 1
  | .ptr d => uptoBulk d + 1
  | .slice elems spare => uptoBulkAll elems + uptoBulkAll spare + 1
  | .agg parts => uptoBulkAll parts + 1
  | .iface _ d => uptoBulk d + 1
  | .map entries => uptoBulkEntries entries + 1
  | .held _ => 1
def uptoBulkAll {H : Type} : List (DataW H) → Nat
  | [] => 0
  | d :: r => uptoBulk d + uptoBulkAll r
def uptoBulkEntries {H : Type} : List (Lit × DataW H) → Nat
  | [] => 0
  | x :: r => uptoBulkEntry x + uptoBulkEntries r
def uptoBulkEntry {H : Type} : Lit × DataW H → Nat
  | (.string bytes, d) => bytes.length + uptoBulk d + 1
  | (_, d) => uptoBulk d + 1
 end
def uptoSmall : (H : Type) → List (DataW H) → Bool := fun _ ds => decide (uptoBulkAll ds ≤ 1048576)
def OpenSpec.upto (s : _root_.Go.ChangeSpec) : _root_.Go.OpenSpec := { _root_.Go.OpenSpec.ofChange s with cond := some uptoSmall }

/-- 'ragpickerlaw22.AuditReach', WHERE WHAT IT READS IS OF BULK AT MOST 1048576: true; the input reads as it did. -/
def auditReachUptoRow : OpenClaim := { program := "ytabpohoppmmbbaagreatdoor", sum := "c9a1a45f595096ed2b2ca324b176a4f3308a1bc125379c9bfc39f5f791824f1a", func := "ragpicker/ragpickerlaw22.AuditReach", spec := "auditReach", unfollowed := true, recurses := true, named := ["ragpicker/class.words"], apart := false, laid := [("ragpicker/class.words", laid_ragpicker_class_words)], narrowed := true }
def AuditReachUptoSaid : Prop := auditReachUptoRow.holds Tryz.pinned (OpenSpec.upto auditReachSpec)

/-- 'ragpickerlaw14.MutateSteps', WHERE WHAT IT READS IS OF BULK AT MOST 1048576: true; the input reads as it did. -/
def mutateStepsUptoRow : OpenClaim := { program := "ytabpohoppmmbbaagreatdoor", sum := "c9a1a45f595096ed2b2ca324b176a4f3308a1bc125379c9bfc39f5f791824f1a", func := "ragpicker/ragpickerlaw14.MutateSteps", spec := "mutateSteps", unfollowed := true, recurses := true, named := ["ragpicker/class.words"], apart := false, laid := [("ragpicker/class.words", laid_ragpicker_class_words)], narrowed := true }
def MutateStepsUptoSaid : Prop := mutateStepsUptoRow.holds Tryz.pinned (OpenSpec.upto mutateStepsSpec)

/-- 'ragpickerlaw14.MutateErrors', WHERE WHAT IT READS IS OF BULK AT MOST 1048576: true; the input reads as it did. -/
def mutateErrorsUptoRow : OpenClaim := { program := "ytabpohoppmmbbaagreatdoor", sum := "c9a1a45f595096ed2b2ca324b176a4f3308a1bc125379c9bfc39f5f791824f1a", func := "ragpicker/ragpickerlaw14.MutateErrors", spec := "mutateErrors", unfollowed := true, recurses := true, named := ["ragpicker/class.words"], apart := false, laid := [("ragpicker/class.words", laid_ragpicker_class_words)], narrowed := true }
def MutateErrorsUptoSaid : Prop := mutateErrorsUptoRow.holds Tryz.pinned (OpenSpec.upto mutateErrorsSpec)

/-- 'ragpickerlaw14.MutateEnds', WHERE WHAT IT READS IS OF BULK AT MOST 1048576: true; the input reads as it did. -/
def mutateEndsUptoRow : OpenClaim := { program := "ytabpohoppmmbbaagreatdoor", sum := "c9a1a45f595096ed2b2ca324b176a4f3308a1bc125379c9bfc39f5f791824f1a", func := "ragpicker/ragpickerlaw14.MutateEnds", spec := "mutateEnds", unfollowed := true, recurses := true, named := ["ragpicker/class.words"], apart := false, laid := [("ragpicker/class.words", laid_ragpicker_class_words)], narrowed := true }
def MutateEndsUptoSaid : Prop := mutateEndsUptoRow.holds Tryz.pinned (OpenSpec.upto mutateEndsSpec)

/-- 'ragpickerlaw14.MutateReads', WHERE WHAT IT READS IS OF BULK AT MOST 1048576: true; the input reads as it did. -/
def mutateReadsUptoRow : OpenClaim := { program := "ytabpohoppmmbbaagreatdoor", sum := "c9a1a45f595096ed2b2ca324b176a4f3308a1bc125379c9bfc39f5f791824f1a", func := "ragpicker/ragpickerlaw14.MutateReads", spec := "mutateReads", unfollowed := true, recurses := true, named := ["ragpicker/class.words"], apart := false, laid := [("ragpicker/class.words", laid_ragpicker_class_words)], narrowed := true }
def MutateReadsUptoSaid : Prop := mutateReadsUptoRow.holds Tryz.pinned (OpenSpec.upto mutateReadsSpec)

/-- 'ragpickerlaw14.MutateStores', WHERE WHAT IT READS IS OF BULK AT MOST 1048576: true; the input reads as it did. -/
def mutateStoresUptoRow : OpenClaim := { program := "ytabpohoppmmbbaagreatdoor", sum := "c9a1a45f595096ed2b2ca324b176a4f3308a1bc125379c9bfc39f5f791824f1a", func := "ragpicker/ragpickerlaw14.MutateStores", spec := "mutateStores", unfollowed := true, recurses := true, named := ["ragpicker/class.words"], apart := false, laid := [("ragpicker/class.words", laid_ragpicker_class_words)], narrowed := true }
def MutateStoresUptoSaid : Prop := mutateStoresUptoRow.holds Tryz.pinned (OpenSpec.upto mutateStoresSpec)

/-- 'ragpickerlaw14.MutateNew', WHERE WHAT IT READS IS OF BULK AT MOST 1048576: true; the input reads as it did. -/
def mutateNewUptoRow : OpenClaim := { program := "ytabpohoppmmbbaagreatdoor", sum := "c9a1a45f595096ed2b2ca324b176a4f3308a1bc125379c9bfc39f5f791824f1a", func := "ragpicker/ragpickerlaw14.MutateNew", spec := "mutateNew", unfollowed := true, recurses := true, named := ["ragpicker/class.words"], apart := false, laid := [("ragpicker/class.words", laid_ragpicker_class_words)], narrowed := true }
def MutateNewUptoSaid : Prop := mutateNewUptoRow.holds Tryz.pinned (OpenSpec.upto mutateNewSpec)

/-- 'ragpickerlaw14.MutateKeeps', WHERE WHAT IT READS IS OF BULK AT MOST 1048576: true; the input reads as it did. -/
def mutateKeepsUptoRow : OpenClaim := { program := "ytabpohoppmmbbaagreatdoor", sum := "c9a1a45f595096ed2b2ca324b176a4f3308a1bc125379c9bfc39f5f791824f1a", func := "ragpicker/ragpickerlaw14.MutateKeeps", spec := "mutateKeeps", unfollowed := true, recurses := true, named := ["ragpicker/class.words"], apart := false, laid := [("ragpicker/class.words", laid_ragpicker_class_words)], narrowed := true }
def MutateKeepsUptoSaid : Prop := mutateKeepsUptoRow.holds Tryz.pinned (OpenSpec.upto mutateKeepsSpec)

/-- 'ragpickerlaw20.WorldDoes', WHERE WHAT IT READS IS OF BULK AT MOST 1048576: true; the input reads as it did. -/
def worldDoesUptoRow : OpenClaim := { program := "ytabpohoppmmbbaagreatdoor", sum := "c9a1a45f595096ed2b2ca324b176a4f3308a1bc125379c9bfc39f5f791824f1a", func := "ragpicker/ragpickerlaw20.WorldDoes", spec := "worldDoes", unfollowed := true, recurses := true, named := ["ragpicker/class.words"], apart := false, laid := [("ragpicker/class.words", laid_ragpicker_class_words)], narrowed := true }
def WorldDoesUptoSaid : Prop := worldDoesUptoRow.holds Tryz.pinned (OpenSpec.upto worldDoesSpec)

/-- 'ragpickerlaw20.WorldRuns', WHERE WHAT IT READS IS OF BULK AT MOST 1048576: true; the input reads as it did. -/
def worldRunsUptoRow : OpenClaim := { program := "ytabpohoppmmbbaagreatdoor", sum := "c9a1a45f595096ed2b2ca324b176a4f3308a1bc125379c9bfc39f5f791824f1a", func := "ragpicker/ragpickerlaw20.WorldRuns", spec := "worldRuns", unfollowed := true, recurses := true, named := ["ragpicker/class.words"], apart := false, laid := [("ragpicker/class.words", laid_ragpicker_class_words)], narrowed := true }
def WorldRunsUptoSaid : Prop := worldRunsUptoRow.holds Tryz.pinned (OpenSpec.upto worldRunsSpec)

/-- 'ragpickerlaw20.WorldKeeps', WHERE WHAT IT READS IS OF BULK AT MOST 1048576: true; the input reads as it did. -/
def worldKeepsUptoRow : OpenClaim := { program := "ytabpohoppmmbbaagreatdoor", sum := "c9a1a45f595096ed2b2ca324b176a4f3308a1bc125379c9bfc39f5f791824f1a", func := "ragpicker/ragpickerlaw20.WorldKeeps", spec := "worldKeeps", unfollowed := true, recurses := true, named := ["ragpicker/class.words"], apart := false, laid := [("ragpicker/class.words", laid_ragpicker_class_words)], narrowed := true }
def WorldKeepsUptoSaid : Prop := worldKeepsUptoRow.holds Tryz.pinned (OpenSpec.upto worldKeepsSpec)

/-- 'ragpickerlaw20.WorldParts', WHERE WHAT IT READS IS OF BULK AT MOST 1048576: true; the input reads as it did. -/
def worldPartsUptoRow : OpenClaim := { program := "ytabpohoppmmbbaagreatdoor", sum := "c9a1a45f595096ed2b2ca324b176a4f3308a1bc125379c9bfc39f5f791824f1a", func := "ragpicker/ragpickerlaw20.WorldParts", spec := "worldParts", unfollowed := true, recurses := true, named := ["ragpicker/class.words"], apart := false, laid := [("ragpicker/class.words", laid_ragpicker_class_words)], narrowed := true }
def WorldPartsUptoSaid : Prop := worldPartsUptoRow.holds Tryz.pinned (OpenSpec.upto worldPartsSpec)

/-- 'ragpickerlaw20.WorldNew', WHERE WHAT IT READS IS OF BULK AT MOST 1048576: true; the input reads as it did. -/
def worldNewUptoRow : OpenClaim := { program := "ytabpohoppmmbbaagreatdoor", sum := "c9a1a45f595096ed2b2ca324b176a4f3308a1bc125379c9bfc39f5f791824f1a", func := "ragpicker/ragpickerlaw20.WorldNew", spec := "worldNew", unfollowed := true, recurses := true, named := ["ragpicker/class.words"], apart := false, laid := [("ragpicker/class.words", laid_ragpicker_class_words)], narrowed := true }
def WorldNewUptoSaid : Prop := worldNewUptoRow.holds Tryz.pinned (OpenSpec.upto worldNewSpec)

/-- 'ragpickerlaw20.WorldOthers', WHERE WHAT IT READS IS OF BULK AT MOST 1048576: true; the input reads as it did. -/
def worldOthersUptoRow : OpenClaim := { program := "ytabpohoppmmbbaagreatdoor", sum := "c9a1a45f595096ed2b2ca324b176a4f3308a1bc125379c9bfc39f5f791824f1a", func := "ragpicker/ragpickerlaw20.WorldOthers", spec := "worldOthers", unfollowed := true, recurses := true, named := ["ragpicker/class.words"], apart := false, laid := [("ragpicker/class.words", laid_ragpicker_class_words)], narrowed := true }
def WorldOthersUptoSaid : Prop := worldOthersUptoRow.holds Tryz.pinned (OpenSpec.upto worldOthersSpec)

/-- 'ragpickerlaw20.WorldShares', WHERE WHAT IT READS IS OF BULK AT MOST 1048576: true; the input reads as it did. -/
def worldSharesUptoRow : OpenClaim := { program := "ytabpohoppmmbbaagreatdoor", sum := "c9a1a45f595096ed2b2ca324b176a4f3308a1bc125379c9bfc39f5f791824f1a", func := "ragpicker/ragpickerlaw20.WorldShares", spec := "worldShares", unfollowed := true, recurses := true, named := ["ragpicker/class.words"], apart := false, laid := [("ragpicker/class.words", laid_ragpicker_class_words)], narrowed := true }
def WorldSharesUptoSaid : Prop := worldSharesUptoRow.holds Tryz.pinned (OpenSpec.upto worldSharesSpec)

end Rows
end Go.Proofs.YtabpohoppmmbbaaGreatDoor
