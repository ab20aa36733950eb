/- ReapPages: for every input it returns true, and each argument reads behind the call as it read before; the table of the classes' rooms holds what its own initialiser lays. No other condition. -/
import Derived.Test.YtkahninpodhcmaaDoorHgR
import Derived.Test.YtkahninpodhcmaaDoorHgG
namespace Go.Proofs.YtkahninpodhcmaaDoor
set_option maxRecDepth 100000
open Go Go.Ab Go.ChangeShapes Go.WideShapes Go.ChangeAt Go.RowKit

theorem laid_met6 (os : Os) : laidMet Tryd.prog Rows.reapPagesRow.laid ((laidWorld os).forCall (fun _ _ => 0) ⟨#[], #[(.agg #[.slice none 0 0, .slice none 0 0, .slice none 0 0, .slice none 0 0, .slice none 0 0, .slice none 0 0]), (.slice none 0 0)], []⟩).memory :=
  laidMet_of_run' 8 (by kernel_rfl) (by kernel_rfl)
theorem reads6 (os : Os) {H : Type} (enc : TypeId × Value → H) : ∃ places, DataW.whole enc Tryd.prog ((laidWorld os).forCall (fun _ _ => 0) ⟨#[], #[(.agg #[.slice none 0 0, .slice none 0 0, .slice none 0 0, .slice none 0 0, .slice none 0 0, .slice none 0 0]), (.slice none 0 0)], []⟩).memory Tryd.f6.params.toList Rows.reapPagesSpec.vars false (#[(.agg #[.slice none 0 0, .slice none 0 0, .slice none 0 0, .slice none 0 0, .slice none 0 0, .slice none 0 0]), (.slice none 0 0)] : Array Value).toList 8 = some ([.agg [.nil, .nil, .agg [.nil, .nil, .nil], .nil], .nil], [], places) :=
  ⟨[], by kernel_rfl⟩

theorem pages_lifted (os : Os) (started : os.Started) (H : Type) (enc : TypeId × Value → H) (F : Stop.Interp) :
    ReturnsInHanded {} Tryd.checked os 6 .any ((OpenSpec.ofChange Rows.reapPagesSpec).preRow enc Tryd.prog Tryd.f6 Rows.reapPagesRow.domain false Rows.reapPagesRow.laid) (((OpenSpec.ofChange Rows.reapPagesSpec).at F).post enc Tryd.prog Tryd.f6 false true false false) := by
  obtain ⟨places, hx⟩ := reads6 os enc
  refine returnsInHanded_of_row (C := Tryd.checked) (s := OpenSpec.ofChange Rows.reapPagesSpec) own0 started (by kernel_rfl) Tryd.func6
    (witness_row_at (enc := enc) (C := Tryd.checked) false (laidWorld os) #[(.agg #[.slice none 0 0, .slice none 0 0, .slice none 0 0, .slice none 0 0, .slice none 0 0, .slice none 0 0]), (.slice none 0 0)] rfl (by kernel_rfl) (by kernel_rfl) (by kernel_rfl)
      (OpenSpec.preRow_of_cond 8 hx (by kernel_rfl) (fun k hk => by cases hk) (by kernel_rfl) (laid_met6 os))) ?_
  intro W base args ds gs before hval0 hW _ _ _ hLd _ _
  have hval : ∀ (j : Nat) t v, Tryd.f6.params[j]? = some t → args[j]? = some v → Value.okWide Tryd.prog W .any base t v := hval0
  have hW' := hW
  obtain ⟨p, q, hA0, hV, rfl, hfz, hnd⟩ := hW
  have hA : DataW.TrodAll enc Tryd.prog W 0 (fun _ => true) true Tryd.f6.params.toList args.toList ds p := hA0
  rw [Tryd.params6] at hA hval
  obtain ⟨v0, v1, d0, d1, p0, p1, rfl, rfl, rfl, h0, h1⟩ := trodAll_two hA
  obtain ⟨rfl, rfl⟩ := trodVars_none hV
  obtain ⟨x0, c0⟩ := open_heap (hval 0 28 v0 rfl rfl) h0
  obtain ⟨x1, c1, l1⟩ := open_some (hval 1 31 v1 rfl rfl) h1
  refine (law_calls (args := [cHp.enc x0, cLss.enc x1]) law6_good.s (law6_run x0 x1 l1) (glob_of hLd) rfl (args_two c0 c1)).mono fun e W' ⟨he, hw⟩ => ?_
  subst he
  exact ⟨_, rfl, post_true laidOut0 (fun t ht => by rw [Tryd.params6] at ht; simp at ht; rcases ht with rfl | rfl <;> exact ⟨by kernel_rfl, of_decide_eq_true (by kernel_rfl)⟩) hW' rfl ⟨rfl, rfl, rfl⟩ (by kernel_rfl) Tryd.underlying4 hw⟩

theorem pages_said : Rows.ReapPagesSaid :=
  OpenClaim.holds_of_cond 6 Tryd.f6 rfl rfl rfl rfl rfl rfl rfl ⟨rfl, rfl, rfl, rfl, rfl⟩ rfl rfl rfl rfl rfl (by kernel_rfl) Tryd.func6 (by kernel_rfl)
    (of_decide_eq_true (by kernel_rfl)) (by unfold Func.isWrapper; first | (rw [if_pos (by decide +kernel)]; kernel_rfl) | (rw [if_neg (by decide +kernel)]; exact ⟨rfl, rfl⟩))
    (fun os started H enc _ F => by rw [OpenClaim.pre_eq_preRow]; exact pages_lifted os started H enc F)

theorem pages_plain (f : FuncId) (fn : Func) (hf : Tryd.pinned.checked.prog.funcNamed "ragpicker/ragpickerlaw09.ReapPages" = some f) (hfn : Tryd.pinned.checked.prog.funcs[f]? = some fn) :
    false = Tryd.pinned.checked.prog.looks [] ∧ ∀ (j : Nat) t, fn.params[j]? = some t → Tryd.pinned.checked.prog.wantsStandIn t = false := by
  obtain rfl : f = 6 := Option.some.inj ((show Tryd.prog.funcNamed "ragpicker/ragpickerlaw09.ReapPages" = some 6 by kernel_rfl).symm.trans hf) |>.symm
  obtain rfl : fn = Tryd.f6 := (Option.some.inj (Tryd.func6.symm.trans hfn)).symm
  refine ⟨by kernel_rfl, fun j t ht => ?_⟩
  rw [Tryd.params6] at ht
  replace ht := Array.mem_of_getElem? ht
  have ht2 : t = 28 ∨ t = 31 := by simpa using ht
  rcases ht2 with rfl | rfl
  · exact (show Tryd.prog.wantsStandIn 28 = false by kernel_rfl)
  · exact (show Tryd.prog.wantsStandIn 31 = false by kernel_rfl)

theorem pages_holds : Rows.ReapPagesCardSaid :=
  Claim7.holds_tied_plain_at .later [] _ _ _ _ pages_said (fun _ h => by cases h) (by kernel_rfl) (fun _ h => by cases h) reapPages_row_tie rfl ⟨rfl, rfl⟩ (by kernel_rfl) rfl pages_plain (by kernel_rfl)
end Go.Proofs.YtkahninpodhcmaaDoor
