/- Heaps and lists, as they are read; the frame of a row that lists a variable. -/
import Derived.Test.YtkahninpodhcmaaDoorHgD
import Derived.Test.YtkahninpodhcmaaDoorCards
import Derived.Test.YtkahninpodhcmaaDoorTie
import Derived.WalkKit
import Derived.ProofKit
import Derived.OpenShut
import Derived.Deep.DeepHandedRow
import Derived.Lib.LaidTab
namespace Go.Proofs.YtkahninpodhcmaaDoor
set_option maxRecDepth 100000
open Go Go.Ab Go.ChangeShapes Go.WideShapes Go.ChangeAt Go.RowKit

theorem own0 : ownKnob Tryd.prog.godebug = none := by kernel_rfl
theorem laidOut0 : laidOutB Tryd.prog = true := by kernel_rfl

section
variable {H : Type} {enc : TypeId × Value → H} {w w' : World} {r : Reach} {b0 base : Nat} {spare : Nat → Bool} {held : Bool}

/-- Cells and what is known of each. -/
def All2 (w : World) (M : Nat → Prop) : List CV → List Value → Prop
  | [], [] => True
  | x :: xs, v :: vs => (plain v ∧ CR w M x v) ∧ All2 w M xs vs
  | _, _ => False
theorem All2.len {M : Nat → Prop} : ∀ {xs : List CV} {vs : List Value}, All2 w M xs vs → vs.length = xs.length
  | [], [], _ => rfl
  | [], _ :: _, h => h.elim
  | _ :: _, [], h => h.elim
  | _ :: _, _ :: _, h => by simp [All2.len h.2]
theorem All2.at {M : Nat → Prop} : ∀ {xs : List CV} {vs : List Value}, All2 w M xs vs → ∀ (j : Nat) (x : CV), xs[j]? = some x → ∃ v, vs[j]? = some v ∧ plain v ∧ CR w M x v
  | [], _, _, j, x, hx => by simp at hx
  | _ :: _, [], h, _, _, _ => h.elim
  | y :: xs, v :: vs, h, 0, x, hx => by
    simp at hx
    subst hx
    exact ⟨v, rfl, h.1⟩
  | y :: xs, v :: vs, h, j + 1, x, hx => by
    obtain ⟨u, hu, hq⟩ := All2.at h.2 j x (by simpa using hx)
    exact ⟨u, by simpa using hu, hq⟩
theorem agg_of {M : Nat → Prop} {xs : List CV} {vs : List Value} (h : All2 w M xs vs) : CR w M (.agg xs) (.agg vs.toArray) := by
  refine .agg xs _ (by simpa using h.len) (fun j x hx => ?_) fun j x hx => ?_
  · obtain ⟨v, hv, hp, _⟩ := h.at j x hx
    simpa [hv] using hp
  · obtain ⟨v, hv, _, hq⟩ := h.at j x hx
    simpa [hv] using hq
theorem sl_plain {M : Nat → Prop} {sz : Nat} {L : List (List CV)} {v : Value} (h : CR w M (.sl sz L) v) : plain v := by
  cases h <;> rfl

/-- Numbers. -/
theorem read_ints {fuel : Nat} {cs : List Value} {x : DataW H × List MemPlace} (h : DataW.trod enc Tryd.prog w base spare held fuel 22 cs = some x) : ∃ v xs, cs = [v] ∧ CR w (fun _ => False) (.sl 1 (Ab.encI xs)) v ∧ xs.length ≤ maxLen := by
  obtain ⟨v, L, hv, hc, he, hl⟩ := open_sl (M := fun _ => False) Tryd.underlying22 (by kernel_rfl : Tryd.prog.cellsOf 3 = 1) (by omega) (elt_int Tryd.underlying3) (fun _ h => h) h
  obtain ⟨xs, rfl⟩ := map_of (enc := fun n => [CV.int .i64 n]) fun l hl => by
    obtain ⟨n, rfl, _⟩ := he l hl
    exact ⟨n, rfl⟩
  exact ⟨v, xs, hv, hc, by simpa using hl⟩

/-- Pages. -/
theorem read_pages {fuel : Nat} {cs : List Value} {x : DataW H × List MemPlace} (h : DataW.trod enc Tryd.prog w base spare held fuel 23 cs = some x) : ∃ v ps, cs = [v] ∧ CR w (fun _ => False) (.sl 2 (List.map encP ps)) v := by
  obtain ⟨f0, f1, h1, o0, o1, c0, c1, h6, h7⟩ : ∃ f0 f1 : Field, Tryd.prog.underlying 50 = some (.struct #[f0, f1]) ∧ f0.offset = 0 ∧ f1.offset = 1 ∧ Tryd.prog.cellsOf f0.type = 1 ∧ Tryd.prog.cellsOf f1.type = 1 ∧ Tryd.prog.underlying f0.type = some (.int .i64) ∧
      Tryd.prog.underlying f1.type = some (.int .i64) := ⟨_, _, Tryd.underlying50, rfl, rfl, by kernel_rfl, by kernel_rfl, by kernel_rfl, by kernel_rfl⟩
  obtain ⟨v, L, hv, hc, he, _⟩ := open_sl (M := fun _ => False) Tryd.underlying23 (by kernel_rfl : Tryd.prog.cellsOf 50 = 2) (by omega) (elt_two h1 o0 o1 (by kernel_rfl) c0 c1 h6 h7) (fun _ h => h) h
  obtain ⟨l, rfl⟩ := map_of (enc := encP) fun l hl => by
    obtain ⟨n, m, rfl, _, _⟩ := he l hl
    exact ⟨(n, m), rfl⟩
  exact ⟨v, l, hv, hc⟩

/-- Truth values. -/
theorem read_bools {fuel : Nat} {cs : List Value} {x : DataW H × List MemPlace} (h : DataW.trod enc Tryd.prog w base spare held fuel 26 cs = some x) : ∃ v xs, cs = [v] ∧ CR w (fun _ => False) (.sl 1 (encBs xs)) v := by
  obtain ⟨v, L, hv, hc, he, hl⟩ := open_sl (M := fun _ => False) Tryd.underlying26 (by kernel_rfl : Tryd.prog.cellsOf 4 = 1) (by omega) (elt_bool Tryd.underlying4) (fun _ h => h) h
  obtain ⟨xs, rfl⟩ := map_of (enc := fun n => [CV.bool n]) fun l hl => by
    obtain ⟨n, rfl⟩ := he l hl
    exact ⟨n, rfl⟩
  exact ⟨v, xs, hv, hc⟩

/-- Three lists. -/
theorem read_lists {fuel : Nat} {cs : List Value} {x : DataW H × List MemPlace} (h : DataW.trod enc Tryd.prog w base spare held fuel 25 cs = some x) : ∃ (v0 v1 v2 : Value) (l : Ls), cs = [v0, v1, v2] ∧ CR w (fun _ => False) (.sl 1 (Ab.encI l.a)) v0 ∧ CR w (fun _ => False) (.sl 1 (Ab.encI l.b)) v1 ∧ CR w (fun _ => False) (.sl 1 (Ab.encI l.c)) v2 := by
  obtain ⟨xs, m, _, _, hcl, hxl, hf⟩ := DataW.trod_array Tryd.underlying25 h
  rw [show Tryd.prog.cellsOf 25 = 3 by kernel_rfl] at hcl
  have c1 : Tryd.prog.cellsOf 22 = 1 := by kernel_rfl
  match cs, hcl with
  | [u0, u1, u2], _ =>
    have g0 := hf 0 (by omega)
    have g1 := hf 1 (by omega)
    have g2 := hf 2 (by omega)
    rw [c1] at g0 g1 g2
    obtain ⟨y0, hy0⟩ : ∃ y0, xs[0]? = some y0 := ⟨xs[0]'(by omega), by simp⟩
    obtain ⟨y1, hy1⟩ : ∃ y1, xs[1]? = some y1 := ⟨xs[1]'(by omega), by simp⟩
    obtain ⟨y2, hy2⟩ : ∃ y2, xs[2]? = some y2 := ⟨xs[2]'(by omega), by simp⟩
    rw [hy0] at g0
    rw [hy1] at g1
    rw [hy2] at g2
    obtain ⟨v0, l0, e0, q0, _⟩ := read_ints g0
    obtain ⟨v1, l1, e1, q1, _⟩ := read_ints g1
    obtain ⟨v2, l2, e2, q2, _⟩ := read_ints g2
    simp at e0 e1 e2
    subst e0 e1 e2
    exact ⟨_, _, _, ⟨l0, l1, l2⟩, rfl, q0, q1, q2⟩

theorem okWide_agg {t : TypeId} {v : Value} (h : (∃ fs, Tryd.prog.underlying t = some (.struct fs)) ∨ ∃ n e, Tryd.prog.underlying t = some (.array n e)) (hv : Value.okWide Tryd.prog w' r b0 t v) : ∃ cs : Array Value, v = .agg cs := by
  unfold Value.okWide at hv
  rcases h with ⟨fs, h⟩ | ⟨n, e, h⟩
  · rw [h] at hv
    obtain ⟨cs, rfl, _⟩ := hv
    exact ⟨cs, rfl⟩
  · rw [h] at hv
    obtain ⟨cs, rfl, _⟩ := hv
    exact ⟨cs, rfl⟩

/-- Lists, as an argument. -/
theorem open_lists {v : Value} {d : DataW H} {ps : List MemPlace} (hval : Value.okWide Tryd.prog w' r b0 25 v) (h : DataW.Trod enc Tryd.prog w base spare held 25 v d ps) :
    ∃ l : Ls, CR w (fun _ => False) (cLs.enc l) v := by
  obtain ⟨cs, rfl⟩ := okWide_agg (.inr ⟨_, _, Tryd.underlying25⟩) hval
  obtain ⟨fuel, h⟩ := h
  obtain ⟨v0, v1, v2, l, hv, q0, q1, q2⟩ := read_lists h
  have hcs : cs = #[v0, v1, v2] := by
    have : cs.toList = [v0, v1, v2] := by simpa [Value.cells] using hv
    rw [← Array.toList_inj]; simpa using this
  subst hcs
  exact ⟨l, agg_of (vs := [v0, v1, v2]) ⟨⟨sl_plain q0, q0⟩, ⟨sl_plain q1, q1⟩, ⟨sl_plain q2, q2⟩, trivial⟩⟩

/-- A heap, as an argument. -/
theorem open_heap {v : Value} {d : DataW H} {ps : List MemPlace} (hval : Value.okWide Tryd.prog w' r b0 28 v) (h : DataW.Trod enc Tryd.prog w base spare held 28 v d ps) :
    ∃ hh : Hp, CR w (fun _ => False) (cHp.enc hh) v := by
  obtain ⟨f0, f1, f2, f3, h1, o0, o1, o2, o3, t0, t1, t2, t3⟩ : ∃ f0 f1 f2 f3 : Field, Tryd.prog.underlying 28 = some (.struct #[f0, f1, f2, f3]) ∧ f0.offset = 0 ∧ f1.offset = 1 ∧ f2.offset = 2 ∧ f3.offset = 5 ∧ f0.type = 22 ∧ f1.type = 23 ∧ f2.type = 25 ∧ f3.type = 26 :=
    ⟨_, _, _, _, Tryd.underlying28, rfl, rfl, rfl, rfl, rfl, rfl, rfl, rfl⟩
  obtain ⟨cs, rfl⟩ := okWide_agg (.inl ⟨_, h1⟩) hval
  obtain ⟨fuel, h⟩ := h
  obtain ⟨xs, m, _, _, hcl, hxl, hf⟩ := DataW.trod_struct h1 h
  rw [show Tryd.prog.cellsOf 28 = 6 by kernel_rfl] at hcl
  have c0 : Tryd.prog.cellsOf 22 = 1 := by kernel_rfl
  have c1 : Tryd.prog.cellsOf 23 = 1 := by kernel_rfl
  have c2 : Tryd.prog.cellsOf 25 = 3 := by kernel_rfl
  have c3 : Tryd.prog.cellsOf 26 = 1 := by kernel_rfl
  obtain ⟨u0, u1, u2, u3, u4, u5, rfl⟩ : ∃ u0 u1 u2 u3 u4 u5, cs = #[u0, u1, u2, u3, u4, u5] := by
    have hl : cs.toList.length = 6 := by simpa [Value.cells] using hcl
    match hc : cs.toList, hl with
    | [u0, u1, u2, u3, u4, u5], _ => exact ⟨u0, u1, u2, u3, u4, u5, by rw [← Array.toList_inj]; simpa using hc⟩
  have g0 := hf 0 f0 rfl
  have g1 := hf 1 f1 rfl
  have g2 := hf 2 f2 rfl
  have g3 := hf 3 f3 rfl
  rw [o0, t0, c0] at g0
  rw [o1, t1, c1] at g1
  rw [o2, t2, c2] at g2
  rw [o3, t3, c3] at g3
  have hx4 : xs.length = 4 := hxl
  obtain ⟨y0, hy0⟩ : ∃ y0, xs[0]? = some y0 := ⟨xs[0]'(by omega), by simp⟩
  obtain ⟨y1, hy1⟩ : ∃ y1, xs[1]? = some y1 := ⟨xs[1]'(by omega), by simp⟩
  obtain ⟨y2, hy2⟩ : ∃ y2, xs[2]? = some y2 := ⟨xs[2]'(by omega), by simp⟩
  obtain ⟨y3, hy3⟩ : ∃ y3, xs[3]? = some y3 := ⟨xs[3]'(by omega), by simp⟩
  rw [hy0] at g0
  rw [hy1] at g1
  rw [hy2] at g2
  rw [hy3] at g3
  obtain ⟨v0, l0, e0, q0, _⟩ := read_ints g0
  obtain ⟨v1, l1, e1, q1⟩ := read_pages g1
  obtain ⟨v2, v3, v4, l2, e2, q2, q3, q4⟩ := read_lists g2
  obtain ⟨v5, l3, e3, q5⟩ := read_bools g3
  simp [Value.cells] at e0 e1 e2 e3
  obtain ⟨rfl, rfl, rfl⟩ := e2
  subst e0 e1 e3
  exact ⟨⟨l0, l1, l2, l3⟩, agg_of (vs := [u0, u1, u2, u3, u4, u5]) ⟨⟨sl_plain q0, q0⟩, ⟨sl_plain q1, q1⟩, ⟨sl_plain q2, q2⟩, ⟨sl_plain q3, q3⟩, ⟨sl_plain q4, q4⟩, ⟨sl_plain q5, q5⟩, trivial⟩⟩
end

section
variable {H : Type} {enc : TypeId × Value → H} {w w' : World} {r : Reach} {b0 base : Nat} {spare : Nat → Bool} {held : Bool}
/-- Some caches, as an argument. -/
theorem open_some {v : Value} {d : DataW H} {ps : List MemPlace} (_hval : Value.okWide Tryd.prog w' r b0 31 v) (h : DataW.Trod enc Tryd.prog w base spare held 31 v d ps) :
    ∃ ls : List Ls, CR w (fun _ => False) (cLss.enc ls) v ∧ ls.length ≤ 9223372036854775807 := by
  obtain ⟨fuel, h⟩ := h
  have hel : EltR Tryd.prog enc w (fun _ => False) base spare held 25 3 (fun l => ∃ x : Ls, l = encLs x) := fun n cs x hx => by
    obtain ⟨v0, v1, v2, l, rfl, q0, q1, q2⟩ := read_lists hx
    refine ⟨encLs l, rfl, ⟨l, rfl⟩, fun j y hy => ?_⟩
    match j, hy with
    | 0, hy => cases hy; exact ⟨_, rfl, sl_plain q0, q0⟩
    | 1, hy => cases hy; exact ⟨_, rfl, sl_plain q1, q1⟩
    | 2, hy => cases hy; exact ⟨_, rfl, sl_plain q2, q2⟩
  obtain ⟨v', L, hv, hc, he, hl⟩ := open_sl (M := fun _ => False) Tryd.underlying31 (by kernel_rfl : Tryd.prog.cellsOf 25 = 3) (by omega) hel (fun _ h => h) h
  obtain ⟨l, rfl⟩ := map_of (enc := encLs) he
  have hcs : v = v' := by
    have hp := sl_plain hc
    cases v with
    | agg cs =>
      exfalso
      have hv : cs.toList = [v'] := by simpa [Value.cells] using hv
      have : Value.okWide Tryd.prog w' r b0 31 (.agg cs) := _hval
      unfold Value.okWide at this
      rw [Tryd.underlying31] at this
      exact this.elim
    | _ => simpa [Value.cells] using hv
  subst hcs
  exact ⟨l, hc, by simpa [maxLen] using hl⟩
end

theorem args_four {w : World} {M : Nat → Prop} {x x' x'' x3 : CV} {v v' v'' v3 : Value} (h : CR w M x v) (h' : CR w M x' v') (h'' : CR w M x'' v'') (h3 : CR w M x3 v3) : ∀ (j : Nat) (y : CV), [x, x', x'', x3][j]? = some y → CR w M y (#[v, v', v'', v3].getD j undef)
  | 0, y, hy => by cases hy; exact h
  | 1, y, hy => by cases hy; exact h'
  | 2, y, hy => by cases hy; exact h''
  | 3, y, hy => by cases hy; exact h3

theorem cr_int {w : World} {M : Nat → Prop} (n : Int) : CR w M (.int .i64 n) (.int .i64 n) := .int _ _

theorem gTab : Tryd.prog.globalNamed "ragpicker/class.words" = some 0 := by kernel_rfl
theorem gTabType : (Tryd.prog.globals[0]?).map (·.type) = some 111 := by kernel_rfl
theorem cellsTab : Tryd.prog.cellsOf 111 = 3 := by kernel_rfl
theorem cells3 : Tryd.prog.cellsOf 3 = 1 := by kernel_rfl

abbrev laidW : List (String × DataW Unit) := [("ragpicker/class.words", Rows.laid_ragpicker_class_words)]

/-- What the row's list gives. -/
theorem table {W : World} (h : laidMetH Tryd.prog laidW W) : Lib.TabIs Tryd.prog W "ragpicker/class.words" .i64 [2, 4, 8] :=
  Lib.tabIs_of_head (rest := []) gTab gTabType Tryd.underlying111 Tryd.underlying3 cells3 cellsTab h

theorem glob_of {W : World} (h : laidMetH Tryd.prog laidW W) : GlobR W fun _ => False := fun g cs hg => by
  unfold GL at hg
  cases hb : Nat.beq g 0 with
  | false => rw [hb] at hg; cases hg
  | true =>
    rw [hb] at hg
    have hg0 := beq_true hb
    subst hg0
    cases hg
    have hc := fun i hi => (table h).cell gTab i hi
    refine .pc _ 0 0 0 (fun j => .int .i64 ([2, 4, 8].getD j 0)) (fun h => h) (World.block_lt_of_cell? W ⟨0, 0, none⟩ (hc 0 (by decide))) (fun j x hx => ?_) (fun j x hx => rfl) (fun j x hx => ?_)
    · have hj : j < 3 := by simpa using (List.getElem?_eq_some_iff.1 hx).1
      rw [Nat.zero_add]
      exact hc j hj
    · have hj : j < 3 := by simpa using (List.getElem?_eq_some_iff.1 hx).1
      match j, hj, hx with
      | 0, _, hx => cases hx; exact .int _ _
      | 1, _, hx => cases hx; exact .int _ _
      | 2, _, hx => cases hx; exact .int _ _

/-- A world for the witness. -/
noncomputable def laidWorld (os : Os) : World :=
  { World.holding Tryd.prog os ⟨#[], #[], []⟩ with heap := (World.holding Tryd.prog os ⟨#[], #[], []⟩).heap.modify 0 fun
      | .cells _ t frozen => .cells #[.int .i64 2, .int .i64 4, .int .i64 8] t frozen
      | o => o }
end Go.Proofs.YtkahninpodhcmaaDoor
