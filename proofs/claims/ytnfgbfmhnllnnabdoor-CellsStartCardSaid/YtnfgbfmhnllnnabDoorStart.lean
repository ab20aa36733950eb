/- CellsStart comes to true.
CellsStart: for every input it returns true, and each argument reads behind the call as it read before; the table of the classes' rooms holds what its own initialiser lays. No other condition. -/
import Derived.Test.YtnfgbfmhnllnnabDoorCgA
import Derived.Test.YtnfgbfmhnllnnabDoorCgR
namespace Go.Ab
open Go

noncomputable abbrev cx4 : Cx := cxT 77 (bodyOf Go.Proofs.Tryd.f4) ΓL (fun _ => false)

set_option maxRecDepth 100000 in
theorem step4f (L : List (List CV)) (a : Int) (β : Type) (K : CV → List (List CV) → Option β) : fnK cx4 Go.Proofs.Tryd.f4 [.sl 2 L, .int .i64 a] [] K =
  bif decide ((↑(List.length L) : Int) > 64) then K (CV.bool true) []
  else
    Option.bind (decP L) fun ps =>
      bif Nat.ble (List.length ps) 200 then
        Option.bind (decP L) fun ps_1 =>
          bif Nat.ble (List.length ps_1) 200 then
            bif !Prod.snd (startA ps a) then
              bif Prod.fst (startA ps a) == 0 then K (CV.bool (roomA ps_1 a == 0)) [] else K (CV.bool false) []
            else
              Option.bind (decP L) fun ps_2 =>
                bif Nat.ble (List.length ps_2) 200 then
                  Option.bind (decP L) fun ps_3 =>
                    bif Nat.ble (List.length ps_3) 200 then
                      bif decide (roomA ps_2 (Prod.fst (startA ps a)) ≥ 2) then
                        bif decide (a ≥ Prod.fst (startA ps a)) then
                          bif
                              decide
                                (IntKind.wrap IntKind.i64 (a - Prod.fst (startA ps a)) <
                                  roomA ps_2 (Prod.fst (startA ps a))) then
                            bif decide (roomA ps_1 a > 0) == (a == Prod.fst (startA ps a)) then
                              bif Prod.snd (startA ps_3 (Prod.fst (startA ps a))) then
                                K (CV.bool (Prod.fst (startA ps_3 (Prod.fst (startA ps a))) == Prod.fst (startA ps a)))
                                  []
                              else K (CV.bool false) []
                            else K (CV.bool false) []
                          else K (CV.bool false) []
                        else K (CV.bool false) []
                      else K (CV.bool false) []
                    else none
                else none
          else none
      else none := by kernel_rfl

theorem startA_some {ps : List Pg} {a : Int} {c : Cell} (h : firstC 30 a (allCs ps) = some c) : startA ps a = (c.1, true) := by simp [startA, h, optE]
theorem startA_none {ps : List Pg} {a : Int} (h : firstC 30 a (allCs ps) = none) : startA ps a = (0, false) := by simp [startA, h, optE]
theorem roomA_some {ps : List Pg} {a : Int} {c : Cell} (h : firstC 29 a (allCs ps) = some c) : roomA ps a = c.2 := by simp [roomA, h, optE]
theorem roomA_none {ps : List Pg} {a : Int} (h : firstC 29 a (allCs ps) = none) : roomA ps a = 0 := by simp [roomA, h, optE]

theorem rg_of {a : Int} (h : 0 ≤ a ∧ a ≤ 100000) : rg a := by unfold rg; omega

/-- Where a cell begins, in its room. -/
theorem start_mem {ps : List Pg} {a : Int} (ha : rg a) {c : Cell} (hc : c ∈ allCs ps) (h1 : c.1 ≤ a) (h2 : a < c.1 + c.2) : startA ps a = (c.1, true) := startA_some (find30 ha (by omega) (all_chain ps) c hc h1 h2)
theorem room_mem {ps : List Pg} {c : Cell} (hc : c ∈ allCs ps) : roomA ps c.1 = c.2 := roomA_some (find29 (all_chain ps) c hc)
theorem all_mem {ps : List Pg} {c : Cell} (hc : c ∈ allCs ps) : 16 ≤ c.1 ∧ 2 ≤ c.2 ∧ c.1 ≤ 65536 ∧ c.2 ≤ 64 := chain_mem (all_chain ps) c hc

theorem law4 (ps : List Pg) (a : Int) (ha : rg a) (β : Type) (K : CV → List (List CV) → Option β) : (fnC cx4 Go.Proofs.Tryd.f4).run [.sl 2 (ps.map encP), .int .i64 a] [] β K = K (.bool true) [] := by
  rw [fnC_run, step4f]
  simp only [List.length_map, decP_map, Option.bind_some]
  by_cases hl : (ps.length : Int) > 64
  · rw [decide_eq_true hl]; rfl
  · rw [decide_eq_false hl, cond_false, show Nat.ble ps.length 200 = true from Nat.ble_eq_true_of_le (by omega)]
    simp only [cond_true]
    cases h30 : firstC 30 a (allCs ps) with
    | none =>
      have h29 : firstC 29 a (allCs ps) = none := by
        cases h : firstC 29 a (allCs ps) with
        | none => rfl
        | some c =>
          obtain ⟨hc, he⟩ := of29 h
          have := all_mem hc
          rw [find30 ha (by omega) (all_chain ps) c hc (by omega) (by omega)] at h30
          cases h30
      rw [startA_none h30, roomA_none h29]
      rfl
    | some c =>
      obtain ⟨hc, h1, h2⟩ := of30 ha (by omega) (all_chain ps) h30
      have hm := all_mem hc
      rw [startA_some h30]
      dsimp only
      rw [room_mem hc, start_mem (rg_of (by omega)) hc (Int.le_refl _) (by omega), IntWalk.i64_in (a - c.1) (by unfold rg at ha; omega)]
      have hr : decide (roomA ps a > 0) = (a == c.1) := by
        cases h : firstC 29 a (allCs ps) with
        | none =>
          rw [roomA_none h]
          have : a ≠ c.1 := fun e => by
            rw [e, find29 (all_chain ps) c hc] at h
            cases h
          simp [this]
        | some d =>
          obtain ⟨hd, he⟩ := of29 h
          have hmd := all_mem hd
          have := find30 ha (by omega) (all_chain ps) d hd (by omega) (by omega)
          rw [h30] at this
          cases this
          rw [roomA_some h, he]
          simp
          omega
      rw [hr, decide_eq_true (show c.2 ≥ 2 by omega), decide_eq_true (show a ≥ c.1 from h1), decide_eq_true (show a - c.1 < c.2 by omega)]
      simp
end Go.Ab

namespace Go.Proofs.YtnfgbfmhnllnnabDoor
open Go Go.Ab Go.ChangeShapes Go.WideShapes Go.ChangeAt Go.RowKit

theorem sound4 : SoundC Tryd.prog 4 (fnC cx4 Tryd.f4) :=
  fnSound (cx := cx4) (fn := Tryd.f4) ΓL_sound ΓL_nat (eqOK_none fun _ => rfl) (fun p L b h => by cases h) (fun q L h => by cases h)
    Tryd.func4 (by kernel_rfl) (by kernel_rfl) (by kernel_rfl) (Nat.le_of_ble_eq_true (by kernel_rfl))

theorem laid_met4 (os : Os) : laidMet Tryd.prog Rows.cellsStartRow.laid ((laidWorld os).forCall (fun _ _ => 0) ⟨#[], #[.slice none 0 0, .int .i64 0], []⟩).memory :=
  laidMet_of_run' 8 (by kernel_rfl) (by kernel_rfl)
theorem reads4 (os : Os) {H : Type} (enc : TypeId × Value → H) : ∃ places, DataW.whole enc Tryd.prog ((laidWorld os).forCall (fun _ _ => 0) ⟨#[], #[.slice none 0 0, .int .i64 0], []⟩).memory Tryd.f4.params.toList Rows.cellsStartSpec.vars false #[Value.slice none 0 0, Value.int .i64 0].toList 8 = some ([.nil, .lit (.int .i64 0)], [], places) :=
  ⟨[], by kernel_rfl⟩

set_option maxRecDepth 100000 in
theorem start_lifted (os : Os) (started : os.Started) (H : Type) (enc : TypeId × Value → H) (F : Stop.Interp) :
    ReturnsInHanded {} Tryd.checked os 4 .any ((OpenSpec.ofChange Rows.cellsStartSpec).preRow enc Tryd.prog Tryd.f4 Rows.cellsStartRow.domain false Rows.cellsStartRow.laid) (((OpenSpec.ofChange Rows.cellsStartSpec).at F).post enc Tryd.prog Tryd.f4 false true false false) := by
  obtain ⟨places, hx⟩ := reads4 os enc
  refine returnsInHanded_of_row (C := Tryd.checked) (s := OpenSpec.ofChange Rows.cellsStartSpec) own0 started (by kernel_rfl) Tryd.func4
    (witness_row_at (enc := enc) (C := Tryd.checked) false (laidWorld os) #[.slice none 0 0, .int .i64 0] rfl (by kernel_rfl) (by kernel_rfl) (by kernel_rfl)
      (OpenSpec.preRow_of_cond 8 hx (by kernel_rfl) (fun k hk => by cases hk) (by kernel_rfl) (laid_met4 os))) ?_
  intro W base args ds gs before hval0 hW _ _ _ hLd _ _
  have hval : ∀ (j : Nat) t v, Tryd.f4.params[j]? = some t → args[j]? = some v → Value.okWide Tryd.prog W .any base t v := hval0
  have hW' := hW
  obtain ⟨p, q, hA0, hV, rfl, hfz, hnd⟩ := hW
  have hA : DataW.TrodAll enc Tryd.prog W 0 (fun _ => true) true Tryd.f4.params.toList args.toList ds p := hA0
  rw [Tryd.params4] at hA hval
  obtain ⟨v0, v1, d0, d1, p0, p1, rfl, rfl, rfl, h0, h1⟩ := trodAll_two hA
  obtain ⟨rfl, rfl⟩ := trodVars_none hV
  obtain ⟨x0, c0⟩ := open_pages (hval 0 22 v0 rfl rfl) h0
  obtain ⟨x1, rfl, rfl, rfl, w1⟩ := open_int Tryd.underlying3 (hval 1 3 v1 rfl rfl) h1
  refine (law_calls (args := [.sl 2 (x0.map encP), .int .i64 x1]) sound4 (law4 x0 x1 (rg_wf w1)) (glob_of hLd) rfl (args_two c0 (cr_int x1))).mono fun e W' ⟨he, hw⟩ => ?_
  subst he
  exact ⟨_, rfl, post_true laidOut0 (fun t ht => by rw [Tryd.params4] at ht; simp at ht; rcases ht with rfl | rfl <;> exact ⟨by kernel_rfl, of_decide_eq_true (by kernel_rfl)⟩) hW' rfl ⟨rfl, rfl, rfl⟩ (by kernel_rfl) Tryd.underlying4 hw⟩

theorem start_said : Rows.CellsStartSaid :=
  OpenClaim.holds_of_cond 4 Tryd.f4 rfl rfl rfl rfl rfl rfl rfl ⟨rfl, rfl, rfl, rfl, rfl⟩ rfl rfl rfl rfl rfl (by kernel_rfl) Tryd.func4 (by kernel_rfl)
    (of_decide_eq_true (by kernel_rfl)) (by unfold Func.isWrapper; first | (rw [if_pos (by decide +kernel)]; kernel_rfl) | (rw [if_neg (by decide +kernel)]; exact ⟨rfl, rfl⟩))
    (fun os started H enc _ F => by rw [OpenClaim.pre_eq_preRow]; exact start_lifted os started H enc F)

theorem start_plain (f : FuncId) (fn : Func) (hf : Tryd.pinned.checked.prog.funcNamed "ragpicker/ragpickerlaw05.CellsStart" = some f) (hfn : Tryd.pinned.checked.prog.funcs[f]? = some fn) :
    false = Tryd.pinned.checked.prog.looks [] ∧ ∀ (j : Nat) t, fn.params[j]? = some t → Tryd.pinned.checked.prog.wantsStandIn t = false := by
  obtain rfl : f = 4 := Option.some.inj ((show Tryd.prog.funcNamed "ragpicker/ragpickerlaw05.CellsStart" = some 4 by kernel_rfl).symm.trans hf) |>.symm
  obtain rfl : fn = Tryd.f4 := (Option.some.inj (Tryd.func4.symm.trans hfn)).symm
  refine ⟨by kernel_rfl, fun j t ht => ?_⟩
  rw [Tryd.params4] at ht
  replace ht := Array.mem_of_getElem? ht
  have ht2 : t = 22 ∨ t = 3 := by simpa using ht
  rcases ht2 with rfl | rfl
  · exact (show Tryd.prog.wantsStandIn 22 = false by kernel_rfl)
  · exact (show Tryd.prog.wantsStandIn 3 = false by kernel_rfl)

theorem start_holds : Rows.CellsStartCardSaid :=
  Claim7.holds_tied_plain_at .later [] _ _ _ _ start_said (fun _ h => by cases h) (by kernel_rfl) (fun _ h => by cases h) cellsStart_row_tie rfl ⟨rfl, rfl⟩ (by kernel_rfl) rfl start_plain (by kernel_rfl)
end Go.Proofs.YtnfgbfmhnllnnabDoor
