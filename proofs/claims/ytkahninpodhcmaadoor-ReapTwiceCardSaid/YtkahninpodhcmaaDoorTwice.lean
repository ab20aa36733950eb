/- ReapTwice: for every input it returns true, and each argument reads behind the call as it read before; the table of the classes' rooms holds what its own initialiser lays. No other condition. -/
import Derived.Test.YtkahninpodhcmaaDoorHgR
import Derived.Test.YtkahninpodhcmaaDoorHgE
import Derived.Carry
namespace Go.Proofs.YtkahninpodhcmaaDoor
set_option maxRecDepth 100000
open Go Go.Ab Go.ChangeShapes Go.WideShapes Go.ChangeAt Go.RowKit

theorem laid_met4 (os : Os) : laidMet Tryd.prog Rows.reapTwiceRow.laid ((laidWorld os).forCall (fun _ _ => 0) ⟨#[], #[(.agg #[.slice none 0 0, .slice none 0 0, .slice none 0 0, .slice none 0 0, .slice none 0 0, .slice none 0 0]), (.slice none 0 0), (.int .i64 0), (.int .i64 0)], []⟩).memory :=
  laidMet_of_run' 8 (by kernel_rfl) (by kernel_rfl)
theorem reads4 (os : Os) {H : Type} (enc : TypeId × Value → H) : ∃ places, DataW.whole enc Tryd.prog ((laidWorld os).forCall (fun _ _ => 0) ⟨#[], #[(.agg #[.slice none 0 0, .slice none 0 0, .slice none 0 0, .slice none 0 0, .slice none 0 0, .slice none 0 0]), (.slice none 0 0), (.int .i64 0), (.int .i64 0)], []⟩).memory Tryd.f4.params.toList Rows.reapTwiceSpec.vars false (#[(.agg #[.slice none 0 0, .slice none 0 0, .slice none 0 0, .slice none 0 0, .slice none 0 0, .slice none 0 0]), (.slice none 0 0), (.int .i64 0), (.int .i64 0)] : Array Value).toList 8 = some ([.agg [.nil, .nil, .agg [.nil, .nil, .nil], .nil], .nil, .lit (.int .i64 0), .lit (.int .i64 0)], [], places) :=
  ⟨[], by kernel_rfl⟩

theorem twice_lifted (os : Os) (started : os.Started) (H : Type) (enc : TypeId × Value → H) (F : Stop.Interp) :
    ReturnsInHanded {} Tryd.checked os 4 .any ((OpenSpec.ofChange Rows.reapTwiceSpec).preRow enc Tryd.prog Tryd.f4 Rows.reapTwiceRow.domain false Rows.reapTwiceRow.laid) (((OpenSpec.ofChange Rows.reapTwiceSpec).at F).post enc Tryd.prog Tryd.f4 false true false false) := by
  obtain ⟨places, hx⟩ := reads4 os enc
  refine returnsInHanded_of_row (C := Tryd.checked) (s := OpenSpec.ofChange Rows.reapTwiceSpec) own0 started (by kernel_rfl) Tryd.func4
    (witness_row_at (enc := enc) (C := Tryd.checked) false (laidWorld os) #[(.agg #[.slice none 0 0, .slice none 0 0, .slice none 0 0, .slice none 0 0, .slice none 0 0, .slice none 0 0]), (.slice none 0 0), (.int .i64 0), (.int .i64 0)] rfl (by kernel_rfl) (by kernel_rfl) (by kernel_rfl)
      (OpenSpec.preRow_of_cond 8 hx (by kernel_rfl) (fun k hk => by cases hk) (by kernel_rfl) (laid_met4 os))) ?_
  intro W base args ds gs before hval0 hW _ _ _ hLd _ _
  have hval : ∀ (j : Nat) t v, Tryd.f4.params[j]? = some t → args[j]? = some v → Value.okWide Tryd.prog W .any base t v := hval0
  have hW' := hW
  obtain ⟨p, q, hA0, hV, rfl, hfz, hnd⟩ := hW
  have hA : DataW.TrodAll enc Tryd.prog W 0 (fun _ => true) true Tryd.f4.params.toList args.toList ds p := hA0
  rw [Tryd.params4] at hA hval
  obtain ⟨v0, v1, v2, v3, d0, d1, d2, d3, p0, p1, p2, p3, rfl, rfl, rfl, h0, h1, h2, h3⟩ := trodAll_four hA
  obtain ⟨rfl, rfl⟩ := trodVars_none hV
  obtain ⟨x0, c0⟩ := open_heap (hval 0 28 v0 rfl rfl) h0
  obtain ⟨x1, c1, l1⟩ := open_some (hval 1 31 v1 rfl rfl) h1
  obtain ⟨x2, rfl, rfl, rfl, w2⟩ := open_int Tryd.underlying3 (hval 2 3 v2 rfl rfl) h2
  obtain ⟨x3, rfl, rfl, rfl, w3⟩ := open_int Tryd.underlying3 (hval 3 3 v3 rfl rfl) h3
  refine (law_calls (args := [cHp.enc x0, cLss.enc x1, cI.enc x2, cI.enc x3]) law4_good.s (law4_run x0 x1 x2 x3 l1) (glob_of hLd) rfl (args_four c0 c1 (cr_int x2) (cr_int x3))).mono fun e W' ⟨he, hw⟩ => ?_
  subst he
  exact ⟨_, rfl, post_true laidOut0 (fun t ht => by rw [Tryd.params4] at ht; simp at ht; rcases ht with rfl | rfl | rfl <;> exact ⟨by kernel_rfl, of_decide_eq_true (by kernel_rfl)⟩) hW' rfl ⟨rfl, rfl, rfl⟩ (by kernel_rfl) Tryd.underlying4 hw⟩

theorem twice_said : Rows.ReapTwiceSaid :=
  OpenClaim.holds_of_cond 4 Tryd.f4 rfl rfl rfl rfl rfl rfl rfl ⟨rfl, rfl, rfl, rfl, rfl⟩ rfl rfl rfl rfl rfl (by kernel_rfl) Tryd.func4 (by kernel_rfl)
    (of_decide_eq_true (by kernel_rfl)) (by unfold Func.isWrapper; first | (rw [if_pos (by decide +kernel)]; kernel_rfl) | (rw [if_neg (by decide +kernel)]; exact ⟨rfl, rfl⟩))
    (fun os started H enc _ F => by rw [OpenClaim.pre_eq_preRow]; exact twice_lifted os started H enc F)

theorem twice_plain (f : FuncId) (fn : Func) (hf : Tryd.pinned.checked.prog.funcNamed "ragpicker/ragpickerlaw09.ReapTwice" = some f) (hfn : Tryd.pinned.checked.prog.funcs[f]? = some fn) :
    false = Tryd.pinned.checked.prog.looks [] ∧ ∀ (j : Nat) t, fn.params[j]? = some t → Tryd.pinned.checked.prog.wantsStandIn t = false := by
  obtain rfl : f = 4 := Option.some.inj ((show Tryd.prog.funcNamed "ragpicker/ragpickerlaw09.ReapTwice" = some 4 by kernel_rfl).symm.trans hf) |>.symm
  obtain rfl : fn = Tryd.f4 := (Option.some.inj (Tryd.func4.symm.trans hfn)).symm
  refine ⟨by kernel_rfl, fun j t ht => ?_⟩
  rw [Tryd.params4] at ht
  replace ht := Array.mem_of_getElem? ht
  have ht2 : t = 28 ∨ t = 31 ∨ t = 3 := by simpa using ht
  rcases ht2 with rfl | rfl | rfl
  · exact (show Tryd.prog.wantsStandIn 28 = false by kernel_rfl)
  · exact (show Tryd.prog.wantsStandIn 31 = false by kernel_rfl)
  · exact (show Tryd.prog.wantsStandIn 3 = false by kernel_rfl)

theorem twice_holds : Rows.ReapTwiceCardSaid :=
  Claim7.holds_tied_plain_at .later [] _ _ _ _ twice_said (fun _ h => by cases h) (by kernel_rfl) (fun _ h => by cases h) reapTwice_row_tie rfl ⟨rfl, rfl⟩ (by kernel_rfl) rfl twice_plain (by kernel_rfl)
end Go.Proofs.YtkahninpodhcmaaDoor
