/- ReapFlushes: for every input it returns true, and each argument reads behind the call as it read before; the table of the classes' rooms holds what its own initialiser lays. No other condition. -/
import Derived.Test.YtkahninpodhcmaaDoorHgR
namespace Go.Proofs.YtkahninpodhcmaaDoor
set_option maxRecDepth 100000
open Go Go.Ab Go.ChangeShapes Go.WideShapes Go.ChangeAt Go.RowKit

theorem laid_met3 (os : Os) : laidMet Tryd.prog Rows.reapFlushesRow.laid ((laidWorld os).forCall (fun _ _ => 0) ⟨#[], #[(.agg #[.slice none 0 0, .slice none 0 0, .slice none 0 0, .slice none 0 0, .slice none 0 0, .slice none 0 0]), (.agg #[.slice none 0 0, .slice none 0 0, .slice none 0 0]), (.agg #[.slice none 0 0, .slice none 0 0, .slice none 0 0])], []⟩).memory :=
  laidMet_of_run' 8 (by kernel_rfl) (by kernel_rfl)
theorem reads3 (os : Os) {H : Type} (enc : TypeId × Value → H) : ∃ places, DataW.whole enc Tryd.prog ((laidWorld os).forCall (fun _ _ => 0) ⟨#[], #[(.agg #[.slice none 0 0, .slice none 0 0, .slice none 0 0, .slice none 0 0, .slice none 0 0, .slice none 0 0]), (.agg #[.slice none 0 0, .slice none 0 0, .slice none 0 0]), (.agg #[.slice none 0 0, .slice none 0 0, .slice none 0 0])], []⟩).memory Tryd.f3.params.toList Rows.reapFlushesSpec.vars false (#[(.agg #[.slice none 0 0, .slice none 0 0, .slice none 0 0, .slice none 0 0, .slice none 0 0, .slice none 0 0]), (.agg #[.slice none 0 0, .slice none 0 0, .slice none 0 0]), (.agg #[.slice none 0 0, .slice none 0 0, .slice none 0 0])] : Array Value).toList 8 = some ([.agg [.nil, .nil, .agg [.nil, .nil, .nil], .nil], .agg [.nil, .nil, .nil], .agg [.nil, .nil, .nil]], [], places) :=
  ⟨[], by kernel_rfl⟩

theorem flushes_lifted (os : Os) (started : os.Started) (H : Type) (enc : TypeId × Value → H) (F : Stop.Interp) :
    ReturnsInHanded {} Tryd.checked os 3 .any ((OpenSpec.ofChange Rows.reapFlushesSpec).preRow enc Tryd.prog Tryd.f3 Rows.reapFlushesRow.domain false Rows.reapFlushesRow.laid) (((OpenSpec.ofChange Rows.reapFlushesSpec).at F).post enc Tryd.prog Tryd.f3 false true false false) := by
  obtain ⟨places, hx⟩ := reads3 os enc
  refine returnsInHanded_of_row (C := Tryd.checked) (s := OpenSpec.ofChange Rows.reapFlushesSpec) own0 started (by kernel_rfl) Tryd.func3
    (witness_row_at (enc := enc) (C := Tryd.checked) false (laidWorld os) #[(.agg #[.slice none 0 0, .slice none 0 0, .slice none 0 0, .slice none 0 0, .slice none 0 0, .slice none 0 0]), (.agg #[.slice none 0 0, .slice none 0 0, .slice none 0 0]), (.agg #[.slice none 0 0, .slice none 0 0, .slice none 0 0])] rfl (by kernel_rfl) (by kernel_rfl) (by kernel_rfl)
      (OpenSpec.preRow_of_cond 8 hx (by kernel_rfl) (fun k hk => by cases hk) (by kernel_rfl) (laid_met3 os))) ?_
  intro W base args ds gs before hval0 hW _ _ _ hLd _ _
  have hval : ∀ (j : Nat) t v, Tryd.f3.params[j]? = some t → args[j]? = some v → Value.okWide Tryd.prog W .any base t v := hval0
  have hW' := hW
  obtain ⟨p, q, hA0, hV, rfl, hfz, hnd⟩ := hW
  have hA : DataW.TrodAll enc Tryd.prog W 0 (fun _ => true) true Tryd.f3.params.toList args.toList ds p := hA0
  rw [Tryd.params3] at hA hval
  obtain ⟨v0, v1, v2, d0, d1, d2, p0, p1, p2, rfl, rfl, rfl, h0, h1, h2⟩ := trodAll_three hA
  obtain ⟨rfl, rfl⟩ := trodVars_none hV
  obtain ⟨x0, c0⟩ := open_heap (hval 0 28 v0 rfl rfl) h0
  obtain ⟨x1, c1⟩ := open_lists (hval 1 25 v1 rfl rfl) h1
  obtain ⟨x2, c2⟩ := open_lists (hval 2 25 v2 rfl rfl) h2
  refine (law_calls (args := [cHp.enc x0, cLs.enc x1, cLs.enc x2]) law3_good.s (law3_run x0 x1 x2) (glob_of hLd) rfl (args_three c0 c1 c2)).mono fun e W' ⟨he, hw⟩ => ?_
  subst he
  exact ⟨_, rfl, post_true laidOut0 (fun t ht => by rw [Tryd.params3] at ht; simp at ht; rcases ht with rfl | rfl <;> exact ⟨by kernel_rfl, of_decide_eq_true (by kernel_rfl)⟩) hW' rfl ⟨rfl, rfl, rfl⟩ (by kernel_rfl) Tryd.underlying4 hw⟩

theorem flushes_said : Rows.ReapFlushesSaid :=
  OpenClaim.holds_of_cond 3 Tryd.f3 rfl rfl rfl rfl rfl rfl rfl ⟨rfl, rfl, rfl, rfl, rfl⟩ rfl rfl rfl rfl rfl (by kernel_rfl) Tryd.func3 (by kernel_rfl)
    (of_decide_eq_true (by kernel_rfl)) (by unfold Func.isWrapper; first | (rw [if_pos (by decide +kernel)]; kernel_rfl) | (rw [if_neg (by decide +kernel)]; exact ⟨rfl, rfl⟩))
    (fun os started H enc _ F => by rw [OpenClaim.pre_eq_preRow]; exact flushes_lifted os started H enc F)

theorem flushes_plain (f : FuncId) (fn : Func) (hf : Tryd.pinned.checked.prog.funcNamed "ragpicker/ragpickerlaw09.ReapFlushes" = some f) (hfn : Tryd.pinned.checked.prog.funcs[f]? = some fn) :
    false = Tryd.pinned.checked.prog.looks [] ∧ ∀ (j : Nat) t, fn.params[j]? = some t → Tryd.pinned.checked.prog.wantsStandIn t = false := by
  obtain rfl : f = 3 := Option.some.inj ((show Tryd.prog.funcNamed "ragpicker/ragpickerlaw09.ReapFlushes" = some 3 by kernel_rfl).symm.trans hf) |>.symm
  obtain rfl : fn = Tryd.f3 := (Option.some.inj (Tryd.func3.symm.trans hfn)).symm
  refine ⟨by kernel_rfl, fun j t ht => ?_⟩
  rw [Tryd.params3] at ht
  replace ht := Array.mem_of_getElem? ht
  have ht2 : t = 28 ∨ t = 25 := by simpa using ht
  rcases ht2 with rfl | rfl
  · exact (show Tryd.prog.wantsStandIn 28 = false by kernel_rfl)
  · exact (show Tryd.prog.wantsStandIn 25 = false by kernel_rfl)

theorem flushes_holds : Rows.ReapFlushesCardSaid :=
  Claim7.holds_tied_plain_at .later [] _ _ _ _ flushes_said (fun _ h => by cases h) (by kernel_rfl) (fun _ h => by cases h) reapFlushes_row_tie rfl ⟨rfl, rfl⟩ (by kernel_rfl) rfl flushes_plain (by kernel_rfl)
end Go.Proofs.YtkahninpodhcmaaDoor
