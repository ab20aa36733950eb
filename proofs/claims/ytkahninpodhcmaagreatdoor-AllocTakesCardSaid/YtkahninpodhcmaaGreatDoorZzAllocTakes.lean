/- AllocTakes: for every input it returns true, and each argument reads behind the call as it read before; the table of the classes' rooms holds what its own initialiser lays. No other condition. -/
import Derived.Test.YtkahninpodhcmaaGreatDoorTf
namespace Go.Proofs.YtkahninpodhcmaaGreatDoor
set_option maxRecDepth 100000
open Go Go.Ab Go.ChangeShapes Go.WideShapes Go.ChangeAt Go.RowKit

theorem laid_met4 (os : Os) : laidMet Tryz.prog Rows.allocTakesRow.laid ((laidWorld os).forCall (fun _ _ => 0) ⟨#[], #[(.agg #[.slice none 0 0, .slice none 0 0, .slice none 0 0, .slice none 0 0, .slice none 0 0, .slice none 0 0]), (.agg #[.slice none 0 0, .slice none 0 0, .slice none 0 0]), (.agg #[.bool false, .bool false, .bool false, .int .i64 0, .int .i64 0, .int .i64 0])], []⟩).memory :=
  laidMet_of_run' 8 (by kernel_rfl) (by kernel_rfl)
theorem reads4 (os : Os) {H : Type} (enc : TypeId × Value → H) : ∃ places, DataW.whole enc Tryz.prog ((laidWorld os).forCall (fun _ _ => 0) ⟨#[], #[(.agg #[.slice none 0 0, .slice none 0 0, .slice none 0 0, .slice none 0 0, .slice none 0 0, .slice none 0 0]), (.agg #[.slice none 0 0, .slice none 0 0, .slice none 0 0]), (.agg #[.bool false, .bool false, .bool false, .int .i64 0, .int .i64 0, .int .i64 0])], []⟩).memory Tryz.f4.params.toList Rows.allocTakesSpec.vars false (#[(.agg #[.slice none 0 0, .slice none 0 0, .slice none 0 0, .slice none 0 0, .slice none 0 0, .slice none 0 0]), (.agg #[.slice none 0 0, .slice none 0 0, .slice none 0 0]), (.agg #[.bool false, .bool false, .bool false, .int .i64 0, .int .i64 0, .int .i64 0])] : Array Value).toList 8 = some ([.agg [.nil, .nil, .agg [.nil, .nil, .nil], .nil], .agg [.nil, .nil, .nil], .agg [.lit (.bool false), .lit (.bool false), .lit (.bool false), .lit (.int .i64 0), .lit (.int .i64 0), .lit (.int .i64 0)]], [], places) :=
  ⟨[], by kernel_rfl⟩

theorem takes_lifted (os : Os) (started : os.Started) (H : Type) (enc : TypeId × Value → H) (F : Stop.Interp) :
    ReturnsInHanded {} Tryz.checked os 4 .any ((OpenSpec.ofChange Rows.allocTakesSpec).preRow enc Tryz.prog Tryz.f4 Rows.allocTakesRow.domain false Rows.allocTakesRow.laid) (((OpenSpec.ofChange Rows.allocTakesSpec).at F).post enc Tryz.prog Tryz.f4 false true false false) := by
  obtain ⟨places, hx⟩ := reads4 os enc
  refine returnsInHanded_of_row (C := Tryz.checked) (s := OpenSpec.ofChange Rows.allocTakesSpec) own0 started (by kernel_rfl) Tryz.func4
    (witness_row_at (enc := enc) (C := Tryz.checked) false (laidWorld os) #[(.agg #[.slice none 0 0, .slice none 0 0, .slice none 0 0, .slice none 0 0, .slice none 0 0, .slice none 0 0]), (.agg #[.slice none 0 0, .slice none 0 0, .slice none 0 0]), (.agg #[.bool false, .bool false, .bool false, .int .i64 0, .int .i64 0, .int .i64 0])] rfl (by kernel_rfl) (by kernel_rfl) (by kernel_rfl)
      (OpenSpec.preRow_of_cond 8 hx (by kernel_rfl) (fun k hk => by cases hk) (by kernel_rfl) (laid_met4 os))) ?_
  intro W base args ds gs before hval0 hW _ _ _ hLd _ _
  have hval : ∀ (j : Nat) t v, Tryz.f4.params[j]? = some t → args[j]? = some v → Value.okWide Tryz.prog W .any base t v := hval0
  have hW' := hW
  obtain ⟨p, q, hA0, hV, rfl, hfz, hnd⟩ := hW
  have hA : DataW.TrodAll enc Tryz.prog W 0 (fun _ => true) true Tryz.f4.params.toList args.toList ds p := hA0
  rw [Tryz.params4] at hA hval
  obtain ⟨v0, v1, v2, d0, d1, d2, p0, p1, p2, rfl, rfl, rfl, h0, h1, h2⟩ := trodAll_three hA
  obtain ⟨rfl, rfl⟩ := trodVars_none hV
  obtain ⟨x0, c0, l0⟩ := open_heapW (hval 0 28 v0 rfl rfl) h0
  obtain ⟨x1, c1⟩ := open_lists (hval 1 25 v1 rfl rfl) h1
  obtain ⟨x2, c2⟩ := open_head (hval 2 41 v2 rfl rfl) h2
  refine (law_calls (args := [cHp.enc x0, cLs.enc x1, cHd.enc x2]) lawF4_good.s (lawF4_run x0 x1 x2 l0) (glob_of hLd) rfl (args_three c0 c1 c2)).mono fun e W' ⟨he, hw⟩ => ?_
  subst he
  exact ⟨_, rfl, post_true laidOut0 (fun t ht => by rw [Tryz.params4] at ht; simp at ht; rcases ht with rfl | rfl | rfl <;> exact ⟨by kernel_rfl, of_decide_eq_true (by kernel_rfl)⟩) hW' rfl ⟨rfl, rfl, rfl⟩ (by kernel_rfl) Tryz.underlying4 hw⟩

theorem takes_said : Rows.AllocTakesSaid :=
  OpenClaim.holds_of_cond 4 Tryz.f4 rfl rfl rfl rfl rfl rfl rfl ⟨rfl, rfl, rfl, rfl, rfl⟩ rfl rfl rfl rfl rfl (by kernel_rfl) Tryz.func4 (by kernel_rfl)
    (of_decide_eq_true (by kernel_rfl)) (by unfold Func.isWrapper; first | (rw [if_pos (by decide +kernel)]; kernel_rfl) | (rw [if_neg (by decide +kernel)]; exact ⟨rfl, rfl⟩))
    (fun os started H enc _ F => by rw [OpenClaim.pre_eq_preRow]; exact takes_lifted os started H enc F)

theorem takes_plain (f : FuncId) (fn : Func) (hf : Tryz.pinned.checked.prog.funcNamed "ragpicker/ragpickerlaw08.AllocTakes" = some f) (hfn : Tryz.pinned.checked.prog.funcs[f]? = some fn) :
    false = Tryz.pinned.checked.prog.looks [] ∧ ∀ (j : Nat) t, fn.params[j]? = some t → Tryz.pinned.checked.prog.wantsStandIn t = false := by
  obtain rfl : f = 4 := Option.some.inj ((show Tryz.prog.funcNamed "ragpicker/ragpickerlaw08.AllocTakes" = some 4 by kernel_rfl).symm.trans hf) |>.symm
  obtain rfl : fn = Tryz.f4 := (Option.some.inj (Tryz.func4.symm.trans hfn)).symm
  refine ⟨by kernel_rfl, fun j t ht => ?_⟩
  rw [Tryz.params4] at ht
  replace ht := Array.mem_of_getElem? ht
  have ht2 : t = 28 ∨ t = 25 ∨ t = 41 := by simpa using ht
  rcases ht2 with rfl | rfl | rfl
  · exact (show Tryz.prog.wantsStandIn 28 = false by kernel_rfl)
  · exact (show Tryz.prog.wantsStandIn 25 = false by kernel_rfl)
  · exact (show Tryz.prog.wantsStandIn 41 = false by kernel_rfl)

theorem takes_holds : Rows.AllocTakesCardSaid :=
  Claim7.holds_tied_plain_at .later [] _ _ _ _ takes_said (fun _ h => by cases h) (by kernel_rfl) (fun _ h => by cases h) allocTakes_row_tie rfl ⟨rfl, rfl⟩ (by kernel_rfl) rfl takes_plain (by kernel_rfl)
end Go.Proofs.YtkahninpodhcmaaGreatDoor
