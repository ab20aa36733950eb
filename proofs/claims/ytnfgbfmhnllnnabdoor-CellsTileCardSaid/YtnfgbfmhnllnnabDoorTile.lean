/- CellsTile: for every input it returns true, and each argument reads behind the call as it read before; the table of the classes' rooms holds what its own initialiser lays. No other condition. -/
import Derived.Test.YtnfgbfmhnllnnabDoorCgR
import Derived.Test.YtnfgbfmhnllnnabDoorCgC
namespace Go.Proofs.YtnfgbfmhnllnnabDoor
open Go Go.Ab Go.ChangeShapes Go.WideShapes Go.ChangeAt Go.RowKit

theorem sound3 : SoundC Tryd.prog 3 (fnC c3 Tryd.f3) := ok3.sound Tryd.func3 (by kernel_rfl) (by kernel_rfl) rfl (by kernel_rfl)

theorem laid_met3 (os : Os) : laidMet Tryd.prog Rows.cellsTileRow.laid ((laidWorld os).forCall (fun _ _ => 0) ⟨#[], #[.slice none 0 0], []⟩).memory :=
  laidMet_of_run' 8 (by kernel_rfl) (by kernel_rfl)
theorem reads3 (os : Os) {H : Type} (enc : TypeId × Value → H) : ∃ places, DataW.whole enc Tryd.prog ((laidWorld os).forCall (fun _ _ => 0) ⟨#[], #[.slice none 0 0], []⟩).memory Tryd.f3.params.toList Rows.cellsTileSpec.vars false #[Value.slice none 0 0].toList 8 = some ([.nil], [], places) :=
  ⟨[], by kernel_rfl⟩

set_option maxRecDepth 100000 in
theorem tile_lifted (os : Os) (started : os.Started) (H : Type) (enc : TypeId × Value → H) (F : Stop.Interp) :
    ReturnsInHanded {} Tryd.checked os 3 .any ((OpenSpec.ofChange Rows.cellsTileSpec).preRow enc Tryd.prog Tryd.f3 Rows.cellsTileRow.domain false Rows.cellsTileRow.laid) (((OpenSpec.ofChange Rows.cellsTileSpec).at F).post enc Tryd.prog Tryd.f3 false true false false) := by
  obtain ⟨places, hx⟩ := reads3 os enc
  refine returnsInHanded_of_row (C := Tryd.checked) (s := OpenSpec.ofChange Rows.cellsTileSpec) own0 started (by kernel_rfl) Tryd.func3
    (witness_row_at (enc := enc) (C := Tryd.checked) false (laidWorld os) #[.slice none 0 0] rfl (by kernel_rfl) (by kernel_rfl) (by kernel_rfl)
      (OpenSpec.preRow_of_cond 8 hx (by kernel_rfl) (fun k hk => by cases hk) (by kernel_rfl) (laid_met3 os))) ?_
  intro W base args ds gs before hval0 hW _ _ _ hLd _ _
  have hval : ∀ (j : Nat) t v, Tryd.f3.params[j]? = some t → args[j]? = some v → Value.okWide Tryd.prog W .any base t v := hval0
  have hW' := hW
  obtain ⟨p, q, hA0, hV, rfl, hfz, hnd⟩ := hW
  have hA : DataW.TrodAll enc Tryd.prog W 0 (fun _ => true) true Tryd.f3.params.toList args.toList ds p := hA0
  rw [Tryd.params3] at hA hval
  obtain ⟨v0, d0, rfl, rfl, h0⟩ := trodAll_one hA
  obtain ⟨rfl, rfl⟩ := trodVars_none hV
  obtain ⟨x0, c0⟩ := open_pages (hval 0 22 v0 rfl rfl) h0
  refine (law_calls (args := [.sl 2 (x0.map encP)]) sound3 (law3 x0) (glob_of hLd) rfl (args_one c0)).mono fun e W' ⟨he, hw⟩ => ?_
  subst he
  exact ⟨_, rfl, post_true laidOut0 (fun t ht => by rw [Tryd.params3] at ht; simp at ht; subst ht; exact ⟨by kernel_rfl, of_decide_eq_true (by kernel_rfl)⟩) hW' rfl ⟨rfl, rfl, rfl⟩ (by kernel_rfl) Tryd.underlying4 hw⟩

theorem tile_said : Rows.CellsTileSaid :=
  OpenClaim.holds_of_cond 3 Tryd.f3 rfl rfl rfl rfl rfl rfl rfl ⟨rfl, rfl, rfl, rfl, rfl⟩ rfl rfl rfl rfl rfl (by kernel_rfl) Tryd.func3 (by kernel_rfl)
    (of_decide_eq_true (by kernel_rfl)) (by unfold Func.isWrapper; first | (rw [if_pos (by decide +kernel)]; kernel_rfl) | (rw [if_neg (by decide +kernel)]; exact ⟨rfl, rfl⟩))
    (fun os started H enc _ F => by rw [OpenClaim.pre_eq_preRow]; exact tile_lifted os started H enc F)

theorem tile_plain (f : FuncId) (fn : Func) (hf : Tryd.pinned.checked.prog.funcNamed "ragpicker/ragpickerlaw05.CellsTile" = some f) (hfn : Tryd.pinned.checked.prog.funcs[f]? = some fn) :
    false = Tryd.pinned.checked.prog.looks [] ∧ ∀ (j : Nat) t, fn.params[j]? = some t → Tryd.pinned.checked.prog.wantsStandIn t = false := by
  obtain rfl : f = 3 := Option.some.inj ((show Tryd.prog.funcNamed "ragpicker/ragpickerlaw05.CellsTile" = some 3 by kernel_rfl).symm.trans hf) |>.symm
  obtain rfl : fn = Tryd.f3 := (Option.some.inj (Tryd.func3.symm.trans hfn)).symm
  refine ⟨by kernel_rfl, fun j t ht => ?_⟩
  rw [Tryd.params3] at ht
  replace ht := Array.mem_of_getElem? ht
  simp at ht
  subst ht
  exact (show Tryd.prog.wantsStandIn 22 = false by kernel_rfl)

theorem tile_holds : Rows.CellsTileCardSaid :=
  Claim7.holds_tied_plain_at .later [] _ _ _ _ tile_said (fun _ h => by cases h) (by kernel_rfl) (fun _ h => by cases h) cellsTile_row_tie rfl ⟨rfl, rfl⟩ (by kernel_rfl) rfl tile_plain (by kernel_rfl)
end Go.Proofs.YtnfgbfmhnllnnabDoor
