/- Pages, as they are read; the frame of a row that lists a variable. -/
import Derived.Test.YtnfgbfmhnllnnabDoorCgA
import Derived.Test.YtnfgbfmhnllnnabDoorCards
import Derived.Test.YtnfgbfmhnllnnabDoorTie
import Derived.WalkKit
import Derived.ProofKit
import Derived.OpenShut
import Derived.Deep.DeepHandedRow
import Derived.Lib.LaidTab
namespace Go.Proofs.YtnfgbfmhnllnnabDoor
open Go Go.Ab Go.ChangeShapes Go.WideShapes Go.ChangeAt Go.RowKit

theorem own0 : ownKnob Tryd.prog.godebug = none := by kernel_rfl
theorem laidOut0 : laidOutB Tryd.prog = true := by kernel_rfl

/-- Pages, as they are read. -/
theorem open_pages {H : Type} {enc : TypeId × Value → H} {w w' : World} {r : Reach} {b0 base : Nat} {spare : Nat → Bool} {held : Bool} {v : Value} {d : DataW H} {ps : List MemPlace} (hval : Value.okWide Tryd.prog w' r b0 22 v) (h : DataW.Trod enc Tryd.prog w base spare held 22 v d ps) :
    ∃ l : List Pg, CR w (fun _ => False) (.sl 2 (l.map encP)) v := by
  obtain ⟨a, len, cap, rfl⟩ := okWide_slice Tryd.underlying22 hval
  obtain ⟨fuel, h⟩ := h
  obtain ⟨f0, f1, h1, o0, o1, c0, c1, h6, h7⟩ : ∃ f0 f1 : Field, Tryd.prog.underlying 28 = some (.struct #[f0, f1]) ∧ f0.offset = 0 ∧ f1.offset = 1 ∧ Tryd.prog.cellsOf f0.type = 1 ∧ Tryd.prog.cellsOf f1.type = 1 ∧ Tryd.prog.underlying f0.type = some (.int .i64) ∧
      Tryd.prog.underlying f1.type = some (.int .i64) := ⟨_, _, Tryd.underlying28, rfl, rfl, by kernel_rfl, by kernel_rfl, by kernel_rfl, by kernel_rfl⟩
  obtain ⟨v', L, hv, hc, he, _⟩ := open_sl (M := fun _ => False) Tryd.underlying22 (by kernel_rfl : Tryd.prog.cellsOf 28 = 2) (by omega) (elt_two h1 o0 o1 (by kernel_rfl) c0 c1 h6 h7) (fun _ h => h) h
  obtain ⟨l, rfl⟩ := map_of (enc := encP) fun l hl => by
    obtain ⟨n, m, rfl, _, _⟩ := he l hl
    exact ⟨(n, m), rfl⟩
  simp [Value.cells] at hv
  subst hv
  exact ⟨l, hc⟩

theorem cr_int {w : World} {M : Nat → Prop} (n : Int) : CR w M (.int .i64 n) (.int .i64 n) := .int _ _

theorem gTab : Tryd.prog.globalNamed "ragpicker/class.words" = some 0 := by kernel_rfl
theorem gTabType : (Tryd.prog.globals[0]?).map (·.type) = some 56 := by kernel_rfl
theorem cells56 : Tryd.prog.cellsOf 56 = 3 := by kernel_rfl
theorem cells3 : Tryd.prog.cellsOf 3 = 1 := by kernel_rfl

abbrev laidW : List (String × DataW Unit) := [("ragpicker/class.words", Rows.laid_ragpicker_class_words)]

/-- What the row's list gives. -/
theorem table {W : World} (h : laidMetH Tryd.prog laidW W) : Lib.TabIs Tryd.prog W "ragpicker/class.words" .i64 [2, 4, 8] :=
  Lib.tabIs_of_head (rest := []) gTab gTabType Tryd.underlying56 Tryd.underlying3 cells3 cells56 h

theorem glob_of {W : World} (h : laidMetH Tryd.prog laidW W) : GlobR W fun _ => False := fun g cs hg => by
  unfold GL at hg
  cases hb : Nat.beq g 0 with
  | false => rw [hb] at hg; cases hg
  | true =>
    rw [hb] at hg
    have hg0 := beq_true hb
    subst hg0
    cases hg
    have hc := fun i hi => (table h).cell gTab i hi
    refine .pc _ 0 0 0 (fun j => .int .i64 ([2, 4, 8].getD j 0)) (fun h => h) (World.block_lt_of_cell? W ⟨0, 0, none⟩ (hc 0 (by decide))) (fun j x hx => ?_) (fun j x hx => rfl) (fun j x hx => ?_)
    · have hj : j < 3 := by simpa using (List.getElem?_eq_some_iff.1 hx).1
      rw [Nat.zero_add]
      exact hc j hj
    · have hj : j < 3 := by simpa using (List.getElem?_eq_some_iff.1 hx).1
      match j, hj, hx with
      | 0, _, hx => cases hx; exact .int _ _
      | 1, _, hx => cases hx; exact .int _ _
      | 2, _, hx => cases hx; exact .int _ _

/-- A world for the witness. -/
noncomputable def laidWorld (os : Os) : World :=
  { World.holding Tryd.prog os ⟨#[], #[], []⟩ with heap := (World.holding Tryd.prog os ⟨#[], #[], []⟩).heap.modify 0 fun
      | .cells _ t frozen => .cells #[.int .i64 2, .int .i64 4, .int .i64 8] t frozen
      | o => o }

theorem rg_wf {a : Int} (h : (Lit.int .i64 a).wf = true) : rg a := by
  simp only [Lit.wf, Bool.and_eq_true, decide_eq_true_eq] at h
  have h1 : IntKind.i64.min = -9223372036854775808 := by decide
  have h2 : IntKind.i64.max = 9223372036854775807 := by decide
  rw [h1, h2] at h
  exact h
end Go.Proofs.YtnfgbfmhnllnnabDoor
