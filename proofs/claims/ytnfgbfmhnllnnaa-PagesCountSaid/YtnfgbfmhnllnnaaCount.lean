/- PagesCount: for every input it returns true, and each argument reads behind the call as it read before. No condition. -/
import Derived.Test.YtnfgbfmhnllnnaaPgR
import Derived.Test.YtnfgbfmhnllnnaaPgD
namespace Go.Proofs.Ytnfgbfmhnllnnaa
open Go Go.Ab Go.ChangeShapes Go.WideShapes Go.ChangeAt Go.RowKit

theorem sound5 : SoundC Try.prog 5 (fnC cx5 Try.f5) :=
  fnSound (cx := cx5) (fn := Try.f5) ΓL_sound ΓL_nat (eqOK_none fun _ => rfl) loops5 (fun q L h => by obtain ⟨_, rfl⟩ := cond_some2 h; exact loop5_nat)
    Try.func5 (by kernel_rfl) (by kernel_rfl) (by kernel_rfl) (Nat.le_of_ble_eq_true (by kernel_rfl))

set_option maxRecDepth 100000 in
theorem count_lifted (os : Os) (started : os.Started) (H : Type) (enc : TypeId × Value → H) :
    ReturnsInHanded {} Try.checked os 5 .any (Rows.pagesCountSpec.pre6 enc Try.prog Try.f5 Rows.pagesCountRow.domain false) (Rows.pagesCountSpec.post enc Try.prog Try.f5 false true false false) := by
  refine returnsInHanded_of_change (C := Try.checked) own0 started (by kernel_rfl) Try.func5
    (ChangeSpec.witness6 (enc := enc) (C := Try.checked) false ⟨#[], #[.slice none 0 0], []⟩ 8 (by kernel_rfl) (by kernel_rfl) (by kernel_rfl) (by kernel_rfl)) ?_
  intro W base args ds gs before hval0 hW hcnd _
  have hval : ∀ (j : Nat) t v, Try.f5.params[j]? = some t → args[j]? = some v → Value.okWide Try.prog W .any base t v := hval0
  have hW' := hW
  obtain ⟨p, q, hA0, hV, rfl, hfz, hnd⟩ := hW
  have hA : DataW.TrodAll enc Try.prog W 0 (fun _ => true) true Try.f5.params.toList args.toList ds p := hA0
  rw [Try.params5] at hA hval
  obtain ⟨v0, d0, rfl, rfl, h0⟩ := trodAll_one hA
  obtain ⟨rfl, rfl⟩ := trodVars_none hV
  obtain ⟨x0, c0⟩ := open_pages (hval 0 22 v0 rfl rfl) h0
  refine (law_calls (args := [.sl 2 (x0.map encP)]) sound5 (law5 x0) rfl (args_one c0)).mono fun e W' ⟨he, hw⟩ => ?_
  subst he
  exact ⟨_, rfl, post_true laidOut0 (fun t ht => by rw [Try.params5] at ht; simp at ht; subst ht; exact ⟨by kernel_rfl, of_decide_eq_true (by kernel_rfl)⟩) hW' rfl ⟨rfl, rfl, rfl⟩ (by kernel_rfl) Try.underlying4 hw⟩

theorem count_holds : Rows.PagesCountSaid :=
  OpenClaim.holds_of_wide 5 Try.f5 rfl rfl rfl rfl rfl rfl rfl ⟨rfl, rfl, rfl, rfl, rfl⟩ rfl rfl rfl rfl rfl (by kernel_rfl) Try.func5 (by kernel_rfl)
    (of_decide_eq_true (by kernel_rfl)) (by unfold Func.isWrapper; first | (rw [if_pos (by decide +kernel)]; kernel_rfl) | (rw [if_neg (by decide +kernel)]; exact ⟨rfl, rfl⟩))
    (fun os started H enc _ => count_lifted os started H enc)
end Go.Proofs.Ytnfgbfmhnllnnaa
