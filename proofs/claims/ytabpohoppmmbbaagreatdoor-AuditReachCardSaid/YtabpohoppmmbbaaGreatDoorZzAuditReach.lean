/- AuditReach: for every input it returns true, and each argument reads behind the call as it read before; the table of the classes' rooms holds what its own initialiser lays. No other condition. -/
import Derived.Test.YtabpohoppmmbbaaGreatDoorTa
import Derived.Test.YtabpohoppmmbbaaGreatDoorTe
namespace Go.Proofs.YtabpohoppmmbbaaGreatDoor
set_option maxRecDepth 100000
open Go Go.Ab Go.ChangeShapes Go.WideShapes Go.ChangeAt Go.RowKit

theorem laid_met3 (os : Os) : laidMet Tryz.prog Rows.auditReachRow.laid ((laidWorld os).forCall (fun _ _ => 0) ⟨#[], #[(.agg #[.slice none 0 0, .slice none 0 0, .slice none 0 0, .slice none 0 0, .slice none 0 0, .slice none 0 0, .int .i64 0, .int .i64 0, .bool false, .slice none 0 0, .bool false, .int .i64 0, .int .i64 0, .int .i64 0, .int .i64 0, .bool false, .slice none 0 0, .slice none 0 0])], []⟩).memory :=
  laidMet_of_run' 8 (by kernel_rfl) (by kernel_rfl)
theorem reads3 (os : Os) {H : Type} (enc : TypeId × Value → H) : ∃ places, DataW.whole enc Tryz.prog ((laidWorld os).forCall (fun _ _ => 0) ⟨#[], #[(.agg #[.slice none 0 0, .slice none 0 0, .slice none 0 0, .slice none 0 0, .slice none 0 0, .slice none 0 0, .int .i64 0, .int .i64 0, .bool false, .slice none 0 0, .bool false, .int .i64 0, .int .i64 0, .int .i64 0, .int .i64 0, .bool false, .slice none 0 0, .slice none 0 0])], []⟩).memory Tryz.f3.params.toList Rows.auditReachSpec.vars false (#[(.agg #[.slice none 0 0, .slice none 0 0, .slice none 0 0, .slice none 0 0, .slice none 0 0, .slice none 0 0, .int .i64 0, .int .i64 0, .bool false, .slice none 0 0, .bool false, .int .i64 0, .int .i64 0, .int .i64 0, .int .i64 0, .bool false, .slice none 0 0, .slice none 0 0])] : Array Value).toList 8 = some ([.agg [.agg [.nil, .nil, .agg [.nil, .nil, .nil], .nil], .agg [.lit (.int .i64 0), .lit (.int .i64 0), .lit (.bool false), .nil, .lit (.bool false), .lit (.int .i64 0), .lit (.int .i64 0), .lit (.int .i64 0), .lit (.int .i64 0), .lit (.bool false)], .nil, .nil]], [], places) :=
  ⟨[], by kernel_rfl⟩

theorem reach_lifted (os : Os) (started : os.Started) (H : Type) (enc : TypeId × Value → H) (F : Stop.Interp) :
    ReturnsInHanded {} Tryz.checked os 3 .any ((OpenSpec.ofChange Rows.auditReachSpec).preRow enc Tryz.prog Tryz.f3 Rows.auditReachRow.domain false Rows.auditReachRow.laid) (((OpenSpec.ofChange Rows.auditReachSpec).at F).post enc Tryz.prog Tryz.f3 false true false false) := by
  obtain ⟨places, hx⟩ := reads3 os enc
  refine returnsInHanded_of_row (C := Tryz.checked) (s := OpenSpec.ofChange Rows.auditReachSpec) own0 started (by kernel_rfl) Tryz.func3
    (witness_row_at (enc := enc) (C := Tryz.checked) false (laidWorld os) #[(.agg #[.slice none 0 0, .slice none 0 0, .slice none 0 0, .slice none 0 0, .slice none 0 0, .slice none 0 0, .int .i64 0, .int .i64 0, .bool false, .slice none 0 0, .bool false, .int .i64 0, .int .i64 0, .int .i64 0, .int .i64 0, .bool false, .slice none 0 0, .slice none 0 0])] rfl (by kernel_rfl) (by kernel_rfl) (by kernel_rfl)
      (OpenSpec.preRow_of_cond 8 hx (by kernel_rfl) (fun k hk => by cases hk) (by kernel_rfl) (laid_met3 os))) ?_
  intro W base args ds gs before hval0 hW _ _ _ hLd _ _
  have hval : ∀ (j : Nat) t v, Tryz.f3.params[j]? = some t → args[j]? = some v → Value.okWide Tryz.prog W .any base t v := hval0
  have hW' := hW
  obtain ⟨p, q, hA0, hV, rfl, hfz, hnd⟩ := hW
  have hA : DataW.TrodAll enc Tryz.prog W 0 (fun _ => true) true Tryz.f3.params.toList args.toList ds p := hA0
  rw [Tryz.params3] at hA hval
  obtain ⟨v0, d0, rfl, rfl, h0⟩ := trodAll_one hA
  obtain ⟨rfl, rfl⟩ := trodVars_none hV
  obtain ⟨x0, c0⟩ := open_world (hval 0 34 v0 rfl rfl) h0
  refine (law_calls (args := [cWl.enc x0]) lawA3_good.s (lawA3_run x0) (glob_of hLd) rfl (args_one c0)).mono fun e W' ⟨he, hw⟩ => ?_
  subst he
  exact ⟨_, rfl, post_true laidOut0 (fun t ht => by rw [Tryz.params3] at ht; simp at ht; subst ht <;> exact ⟨by kernel_rfl, of_decide_eq_true (by kernel_rfl)⟩) hW' rfl ⟨rfl, rfl, rfl⟩ (by kernel_rfl) Tryz.underlying4 hw⟩

theorem reach_k1 : (Rows.auditReachRow.wf (OpenSpec.ofChange (OpenSpec.ofChange Rows.auditReachSpec).bare) && laidOutB Tryz.prog) = true := by kernel_rfl
theorem reach_k3 : (Tryz.f3.params.all (Tryz.prog.readableRec ·) && namedTie Tryz.prog Rows.auditReachRow.named (OpenSpec.ofChange Rows.auditReachSpec).bare.vars && (Rows.auditReachRow.stops == []) && (Tryz.prog.stops == []) && (Rows.auditReachRow.knobs == []) && (Tryz.prog.stopKnobs == [])) = true := by kernel_rfl
theorem reach_k4 : (Rows.auditReachRow.inPlace == Tryz.prog.inPlace 3) = true := by kernel_rfl
theorem reach_k5 : (Rows.auditReachRow.unfollowed == Tryz.prog.unfollowed 3) = true := by kernel_rfl
theorem reach_k6 : (Rows.auditReachRow.recurses == Tryz.prog.recurses 3) = true := by kernel_rfl
theorem reach_k7 : (Rows.auditReachRow.named == Tryz.prog.varsNamed 3) = true := by kernel_rfl
theorem reach_k8 : ((Rows.auditReachRow.maps == (Tryz.f3.params.toList ++ (OpenSpec.ofChange Rows.auditReachSpec).bare.plain.varTypes Tryz.prog).any (Tryz.prog.mapsRec ·)) && (Rows.auditReachRow.ifaces == (Tryz.f3.params.toList ++ (OpenSpec.ofChange Rows.auditReachSpec).bare.plain.varTypes Tryz.prog).any (Tryz.prog.ifacesRec ·)) && (Rows.auditReachRow.mapsOut == Tryz.prog.mapsAmong Tryz.f3.resultTypes.toList)) = true := by kernel_rfl
theorem reach_h1 : Rows.auditReachRow.wfByText (OpenSpec.ofChange Rows.auditReachSpec) = true := by kernel_rfl
theorem reach_h2 : Tryz.pinned.checked.prog.mainIs = some (Rows.auditReachCard.stood.harness.1, Rows.auditReachCard.stood.harness.2.toList) := by kernel_rfl
theorem reach_h3 : false = Rows.auditReachRow.goesBy Tryz.pinned.checked.prog := by kernel_rfl
theorem reach_k2 : mapsRowed Tryz.prog = true := by kernel_rfl
theorem reach_k9 : ((Rows.auditReachRow.loops == (Tryz.f3.params.toList ++ (OpenSpec.ofChange Rows.auditReachSpec).bare.plain.varTypes Tryz.prog).any (Tryz.prog.loopsFrom ·)) && (Rows.auditReachRow.wideKeys == (Tryz.f3.params.toList ++ (OpenSpec.ofChange Rows.auditReachSpec).bare.plain.varTypes Tryz.prog ++ Tryz.f3.resultTypes.toList).any (Tryz.prog.wideKeysFrom ·))) = true := by kernel_rfl
theorem reach_k10 : ((OpenSpec.ofChange Rows.auditReachSpec).bare.vars.all (Tryz.prog.varReadable ·) && Tryz.f3.resultTypes.all (fun t => Tryz.prog.readableRec t && decide (t < Tryz.prog.types.size)) && (Rows.auditReachRow.ifacesOut == Tryz.f3.resultTypes.toList.any (Tryz.prog.ifacesRec ·)) && (Rows.auditReachRow.loopsOut == Tryz.f3.resultTypes.toList.any (Tryz.prog.loopsFrom ·))) = true := by kernel_rfl
theorem reach_k11 : (Rows.auditReachRow.plainKeys == Tryz.prog.plainKeys) = true := by kernel_rfl
theorem reach_k12 : (Rows.auditReachRow.shortTexts.isNone && Tryz.prog.stopsHeard) = true := by kernel_rfl
theorem reach_k13 : Tryz.prog.mayEnter = true := by kernel_rfl
theorem reach_k14 : (Rows.auditReachRow.lifted == Tryz.prog.liftsFinal) = true := by kernel_rfl
theorem reach_k15 : (Tryz.prog.make == some Rows.auditReachRow.make) = true := by kernel_rfl
theorem reach_k18 : (Rows.auditReachRow.veiled == (Tryz.f3.params.toList ++ (OpenSpec.ofChange Rows.auditReachSpec).bare.plain.varTypes Tryz.prog ++ Tryz.f3.resultTypes.toList).any (Tryz.prog.veiledRec ·)) = true := by kernel_rfl
theorem reach_k19 : Rows.auditReachRow.veiledFits Tryz.prog Tryz.f3.params.toList (Tryz.f3.params.toList ++ (OpenSpec.ofChange Rows.auditReachSpec).bare.plain.varTypes Tryz.prog ++ Tryz.f3.resultTypes.toList) = true := by kernel_rfl
theorem reach_closed : joinedFacts Tryz.prog 3 Tryz.f3 (OpenSpec.ofChange Rows.auditReachSpec).bare Rows.auditReachRow = true :=
  joinedFacts_of reach_k1 reach_k2 reach_k3 reach_k4 reach_k5 reach_k6 reach_k7 reach_k8 reach_k9 reach_k10 reach_k11 reach_k12 reach_k13 reach_k14 reach_k15 (by kernel_rfl) (by kernel_rfl) reach_k18 reach_k19

theorem reach_said : Rows.AuditReachSaid :=
  OpenClaim.holds_of_cond 3 Tryz.f3 rfl rfl rfl rfl rfl rfl rfl ⟨rfl, rfl, rfl, rfl, rfl⟩ rfl rfl rfl rfl rfl (by kernel_rfl) Tryz.func3 reach_closed
    (of_decide_eq_true (by kernel_rfl)) (by unfold Func.isWrapper; first | (rw [if_pos (by decide +kernel)]; kernel_rfl) | (rw [if_neg (by decide +kernel)]; exact ⟨rfl, rfl⟩))
    (fun os started H enc _ F => by rw [OpenClaim.pre_eq_preRow]; exact reach_lifted os started H enc F)

theorem reach_plain (f : FuncId) (fn : Func) (hf : Tryz.pinned.checked.prog.funcNamed "ragpicker/ragpickerlaw22.AuditReach" = some f) (hfn : Tryz.pinned.checked.prog.funcs[f]? = some fn) :
    false = Tryz.pinned.checked.prog.looks [] ∧ ∀ (j : Nat) t, fn.params[j]? = some t → Tryz.pinned.checked.prog.wantsStandIn t = false := by
  obtain rfl : f = 3 := Option.some.inj ((show Tryz.prog.funcNamed "ragpicker/ragpickerlaw22.AuditReach" = some 3 by kernel_rfl).symm.trans hf) |>.symm
  obtain rfl : fn = Tryz.f3 := (Option.some.inj (Tryz.func3.symm.trans hfn)).symm
  refine ⟨by kernel_rfl, fun j t ht => ?_⟩
  rw [Tryz.params3] at ht
  replace ht := Array.mem_of_getElem? ht
  have ht2 : t = 34 := by simpa using ht
  rcases ht2 with rfl
  · exact (show Tryz.prog.wantsStandIn 34 = false by kernel_rfl)

theorem reach_holds : Rows.AuditReachCardSaid :=
  Claim7.holds_tied_plain_at .later [] _ _ _ _ reach_said (fun _ h => by cases h) reach_h1 (fun _ h => by cases h) auditReach_row_tie rfl ⟨rfl, rfl⟩ reach_h2 rfl reach_plain reach_h3
end Go.Proofs.YtabpohoppmmbbaaGreatDoor
