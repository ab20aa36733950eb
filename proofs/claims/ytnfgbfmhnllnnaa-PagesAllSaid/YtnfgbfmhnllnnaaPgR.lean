/- Pages, as they are read; the frame of a row. -/
import Derived.Test.YtnfgbfmhnllnnaaPgA
import Derived.Test.YtnfgbfmhnllnnaaAbB
import Derived.Test.YtnfgbfmhnllnnaaRows
namespace Go.Proofs.Ytnfgbfmhnllnnaa
open Go Go.Ab Go.ChangeShapes Go.WideShapes Go.ChangeAt Go.RowKit

theorem own0 : ownKnob Try.prog.godebug = none := by kernel_rfl
theorem laidOut0 : laidOutB Try.prog = true := by kernel_rfl

/-- Pages, as they are read. -/
theorem open_pages {H : Type} {enc : TypeId × Value → H} {w w' : World} {r : Reach} {b0 base : Nat} {spare : Nat → Bool} {held : Bool} {v : Value} {d : DataW H} {ps : List MemPlace} (hval : Value.okWide Try.prog w' r b0 22 v) (h : DataW.Trod enc Try.prog w base spare held 22 v d ps) :
    ∃ l : List Pg, CR w (fun _ => False) (.sl 2 (l.map encP)) v := by
  obtain ⟨a, len, cap, rfl⟩ := okWide_slice Try.underlying22 hval
  obtain ⟨fuel, h⟩ := h
  obtain ⟨f0, f1, h1, o0, o1, c0, c1, h6, h7⟩ : ∃ f0 f1 : Field, Try.prog.underlying 34 = some (.struct #[f0, f1]) ∧ f0.offset = 0 ∧ f1.offset = 1 ∧ Try.prog.cellsOf f0.type = 1 ∧ Try.prog.cellsOf f1.type = 1 ∧ Try.prog.underlying f0.type = some (.int .i64) ∧
      Try.prog.underlying f1.type = some (.int .i64) := ⟨_, _, Try.underlying34, rfl, rfl, by kernel_rfl, by kernel_rfl, by kernel_rfl, by kernel_rfl⟩
  obtain ⟨v', L, hv, hc, he, _⟩ := open_sl (M := fun _ => False) Try.underlying22 (by kernel_rfl : Try.prog.cellsOf 34 = 2) (by omega) (elt_two h1 o0 o1 (by kernel_rfl) c0 c1 h6 h7) (fun _ h => h) h
  obtain ⟨l, rfl⟩ := map_of (enc := encP) fun l hl => by
    obtain ⟨n, m, rfl, _, _⟩ := he l hl
    exact ⟨(n, m), rfl⟩
  simp [Value.cells] at hv
  subst hv
  exact ⟨l, hc⟩

theorem cr_int {w : World} {M : Nat → Prop} (n : Int) : CR w M (.int .i64 n) (.int .i64 n) := .int _ _
end Go.Proofs.Ytnfgbfmhnllnnaa
