/- PagesFirst: its loop.
PagesFirst comes to true. -/
import Derived.Test.YtnfgbfmhnllnnaaPgB
namespace Go.Ab
open Go

abbrev path4 : List Bool := [false, true, false, true, true, true, true]
noncomputable abbrev body4 : Code := (codeAt (bodyOf Go.Proofs.Try.f4) (false :: path4)).getD .skip
def outs4 : Exit → List Nat := fun e => match e with | .ret => [4] | _ => [0, 1, 6, 7]

def loop4 : LoopSem := ⟨[8, 0, 1, 6, 7], outs4, fun vs cs _ K => match vs, cs with
  | [.int .i64 i, .sl 2 L, .int .i64 n, .int .i64 a, .bool is], [] => (decP L).bind fun ps => bif decide (i = 0) && Nat.ble ps.length 200 && may ps && in3 n 1 4 && decide (a = (findR ps n).1) && decide (is = (findR ps n).2) then
      K (.exit 0) [.sl 2 (ps.map encP), .int .i64 n, .int .i64 a, .bool is] [] else none
  | _, _ => none⟩

noncomputable def cx4 : Cx := cxP 94 (bodyOf Go.Proofs.Try.f4) ΓL (fun q => bif Nat.beq q 250 then some loop4 else none) (fun _ => false)

noncomputable def LB4 (L : List (List CV)) (n a : Int) (is : Bool) (β : Type) (K : Exit → List CV → List (List CV) → Option β) (m : Nat) (i : Int) : Option β :=
  loopB cx4 [8, 0, 1, 6, 7] outs4 path4 body4 m [.int .i64 i, .sl 2 L, .int .i64 n, .int .i64 a, .bool is] [] K

set_option maxRecDepth 100000 in
theorem step4 (L : List (List CV)) (n a : Int) (is : Bool) (β : Type) (K : Exit → List CV → List (List CV) → Option β) (m : Nat) (i : Int) : LB4 L n a is β K (m + 1) i =
    cond (decide (i < (L.length : Int))) (cond (!is)
        ((decP L).bind fun ps => cond (Nat.ble ps.length 200) (cond ((largeE ps i n).1 == 0) (K .ret [.bool false] []) (LB4 L n a is β K m (IntKind.i64.wrap (i + 1)))) none)
        (cond (decide (i < a)) ((decP L).bind fun ps => cond (Nat.ble ps.length 200) (cond ((largeE ps i n).1 == 0) (K .ret [.bool false] []) (LB4 L n a is β K m (IntKind.i64.wrap (i + 1)))) none)
          (K (.exit 0) [.sl 2 L, .int .i64 n, .int .i64 a, .bool is] [])))
      (K (.exit 0) [.sl 2 L, .int .i64 n, .int .i64 a, .bool is] []) := by kernel_rfl

theorem largeE_ok {ps : List Pg} {a n : Int} (h : (largeE ps a n).1 = 0) : 1 ≤ n ∧ n ≤ 4 ∧ 0 ≤ a ∧ allFree n.toNat (ps.drop a.toNat) = true := by
  unfold largeE at h
  cases hm : may ps with
  | false => rw [hm] at h; simp at h
  | true =>
    cases hn : in3 n 1 4 with
    | false => rw [hm, hn] at h; simp at h
    | true =>
      obtain ⟨h1, h4⟩ := in3_iff.1 hn
      cases hf : freeE ps a n != 0 with
      | true =>
        rw [hm, hn, hf] at h
        have h : freeE ps a n = 0 := h
        rw [h] at hf
        cases hf
      | false =>
        obtain ⟨h0, _, ha⟩ := freeE_in (by simpa using hf)
        exact ⟨h1, h4, h0, ha⟩

/-- Ahead of what is found nothing is taken. -/
theorem none_ahead {ps : List Pg} {n : Int} (hm : may ps = true) (h1 : 1 ≤ n) (h4 : n ≤ 4) {i : Nat} (h : (findR ps n).2 = false ∨ (i : Int) < (findR ps n).1) : ((largeE ps i n).1 == 0) = false := by
  cases hz : (largeE ps i n).1 == 0 with
  | false => rfl
  | true =>
    obtain ⟨_, _, _, ha⟩ := largeE_ok (by simpa using hz : (largeE ps i n).1 = 0)
    rw [Int.toNat_natCast] at ha
    rw [findR_may hm h1 h4] at h
    cases hf : findL n.toNat ps with
    | none =>
      rw [findL_none (by omega) hf i] at ha
      cases ha
    | some k =>
      rw [hf] at h
      rcases h with h | h
      · cases h
      · have := (findL_some hf).2 i (by simp at h; omega)
        rw [this] at ha
        cases ha

theorem loop4_spec (ps : List Pg) (n : Int) (hs : ps.length ≤ 200) (hm : may ps = true) (h1 : 1 ≤ n) (h4 : n ≤ 4) (β : Type) (K : Exit → List CV → List (List CV) → Option β) : ∀ (m i : Nat), ps.length - i ≤ m → i ≤ ps.length →
    LB4 (ps.map encP) n (findR ps n).1 (findR ps n).2 β K (m + 1) i = K (.exit 0) [.sl 2 (ps.map encP), .int .i64 n, .int .i64 (findR ps n).1, .bool (findR ps n).2] [] := by
  have hb : Nat.ble ps.length 200 = true := Nat.ble_eq_true_of_le hs
  intro m
  have fin : ∀ (m i : Nat), i = ps.length → LB4 (ps.map encP) n (findR ps n).1 (findR ps n).2 β K (m + 1) i = K (.exit 0) [.sl 2 (ps.map encP), .int .i64 n, .int .i64 (findR ps n).1, .bool (findR ps n).2] [] := fun m i hi => by
    subst hi
    rw [step4]
    simp
  induction m with
  | zero => exact fun i hm hi => fin 0 i (by omega)
  | succ m ih =>
    intro i hm' hi
    by_cases hl : i < ps.length
    · have e1 : decide ((i : Int) < ((ps.map encP).length : Int)) = true := by simp; omega
      have w1 : IntKind.i64.wrap ((i : Int) + 1) = ((i + 1 : Nat) : Int) := by rw [IntWalk.i64_in]; simp; omega
      rw [step4, e1, decP_map, w1, ih (i + 1) (by omega) (by omega)]
      simp only [cond_true, Option.bind_some, hb]
      cases his : (findR ps n).2 with
      | false =>
        rw [none_ahead hm h1 h4 (.inl his)]
        rfl
      | true =>
        by_cases hlt : (i : Int) < (findR ps n).1
        · rw [none_ahead hm h1 h4 (.inr hlt)]
          simp only [hlt, decide_true]
          rfl
        · simp only [hlt, decide_false]
          rfl
    · exact fin (m + 1) i (by omega)

theorem loop4_nat : NatL loop4 := fun vs cs => by
  unfold loop4
  dsimp only
  split
  · exact .bind _ fun _ => .cond _ (.ret _ _ _) .none
  · exact .none

theorem loops4 : LoopsS cx4 := .of fun k L h => by
  obtain ⟨hk, rfl⟩ := cond_some2 h
  refine ⟨path4, beq_true hk, fun vs cs β K r hr => ?_⟩
  unfold loop4 at hr
  dsimp only at hr
  split at hr
  · rename_i i L n a is
    replace hr := bind_some' hr
    obtain ⟨ps, hps, hr⟩ := hr
    replace hr := cond_some hr
    obtain ⟨hb, hr⟩ := hr
    simp only [Bool.and_eq_true, decide_eq_true_eq] at hb
    obtain ⟨⟨⟨⟨⟨rfl, hs⟩, hm⟩, hn⟩, rfl⟩, rfl⟩ := hb
    have hs := Nat.le_of_ble_eq_true hs
    obtain ⟨h1, h4⟩ := in3_iff.1 hn
    rw [decP_enc hps]
    refine ⟨ps.length + 1, ?_⟩
    exact (loop4_spec ps n hs hm h1 h4 β K ps.length 0 (by omega) (by omega)).trans hr
  · cases hr
end Go.Ab

namespace Go.Ab
open Go

set_option maxRecDepth 100000 in
theorem step4f (L : List (List CV)) (n : Int) (β : Type) (K : CV → List (List CV) → Option β) : fnK cx4 Go.Proofs.Try.f4 [.sl 2 L, .int .i64 n] [] K =
  bif decide ((↑(List.length L) : Int) > 64) then K (CV.bool true) []
  else
    Option.bind (decP L) fun ps =>
      bif Nat.ble (List.length ps) 200 then
        bif !may ps then K (CV.bool true) []
        else
          bif decide (n < 1) then K (CV.bool true) []
          else
            bif decide (n > 4) then K (CV.bool true) []
            else
              Option.bind (decP L) fun ps =>
                bif Nat.ble (List.length ps) 200 then
                  Option.bind (decP L) fun ps_1 =>
                    bif
                        decide ((0 : Int) = 0) && Nat.ble (List.length ps_1) 200 && may ps_1 && in3 n 1 4 &&
                            decide (Prod.fst (findR ps n) = Prod.fst (findR ps_1 n)) &&
                          decide (Prod.snd (findR ps n) = Prod.snd (findR ps_1 n)) then
                      Option.bind (decP (List.map encP ps_1)) fun ps_2 =>
                        bif Nat.ble (List.length ps_2) 200 then
                          bif decide (n > 1) then
                            bif Prod.snd (findR ps n) then
                              bif !Prod.snd (findR ps_2 (IntKind.wrap IntKind.i64 (n - 1))) then K (CV.bool false) []
                              else
                                bif
                                    decide
                                      (Prod.fst (findR ps_2 (IntKind.wrap IntKind.i64 (n - 1))) >
                                        Prod.fst (findR ps n)) then
                                  K (CV.bool false) []
                                else
                                  bif !Prod.snd (findR ps n) then K (CV.bool true) []
                                  else
                                    Option.bind (decP (List.map encP ps_1)) fun ps =>
                                      bif Nat.ble (List.length ps) 200 then
                                        K (CV.bool (decide ((↑(cnt ps 0) : Int) ≥ n))) []
                                      else none
                            else
                              bif !Prod.snd (findR ps n) then K (CV.bool true) []
                              else
                                Option.bind (decP (List.map encP ps_1)) fun ps =>
                                  bif Nat.ble (List.length ps) 200 then
                                    K (CV.bool (decide ((↑(cnt ps 0) : Int) ≥ n))) []
                                  else none
                          else
                            bif !Prod.snd (findR ps n) then K (CV.bool true) []
                            else
                              Option.bind (decP (List.map encP ps_1)) fun ps =>
                                bif Nat.ble (List.length ps) 200 then K (CV.bool (decide ((↑(cnt ps 0) : Int) ≥ n))) []
                                else none
                        else none
                    else none
                else none
      else none := by kernel_rfl

theorem allFree_less : ∀ {n m : Nat} {ps : List Pg}, m ≤ n → allFree n ps = true → allFree m ps = true
  | _, 0, _, _, _ => rfl
  | 0, m + 1, _, h, _ => by omega
  | n + 1, m + 1, [], _, h => by cases h
  | n + 1, m + 1, p :: ps, hl, h => by
    rw [allFree] at h ⊢
    cases hp : p.1 == 0 with
    | false => rw [hp] at h; cases h
    | true =>
      rw [hp] at h
      exact allFree_less (m := m) (by omega) h

theorem findL_less {n m : Nat} {ps : List Pg} {k : Nat} (h1 : 1 ≤ m) (hl : m ≤ n) (h : findL n ps = some k) : ∃ j, findL m ps = some j ∧ j ≤ k := by
  have ha := allFree_less hl (findL_some h).1
  cases hf : findL m ps with
  | none => rw [findL_none h1 hf k] at ha; cases ha
  | some j =>
    refine ⟨j, rfl, ?_⟩
    by_cases hj : k < j
    · rw [(findL_some hf).2 k hj] at ha
      cases ha
    · omega

theorem law4 (l : List Pg) (n : Int) (β : Type) (K : CV → List (List CV) → Option β) : fnK cx4 Go.Proofs.Try.f4 [.sl 2 (l.map encP), .int .i64 n] [] K = K (.bool true) [] := by
  rw [step4f]
  simp only [decP_map, List.length_map]
  by_cases h : (l.length : Int) > 64
  · simp only [h, decide_true, cond_true]
  have hs : Nat.ble l.length 200 = true := Nat.ble_eq_true_of_le (by omega)
  simp only [h, decide_false, cond_false, Option.bind_some, hs, cond_true]
  cases hm : may l with
  | false => rfl
  | true =>
  by_cases h1 : n < 1
  · simp only [h1, decide_true, cond_true, Bool.not_true, cond_false]
  by_cases h4 : n > 4
  · simp only [h1, h4, decide_true, decide_false, cond_true, Bool.not_true, cond_false]
  have n1 : 1 ≤ n := by omega
  have n4 : n ≤ 4 := by omega
  have hin : in3 n 1 4 = true := in3_iff.2 ⟨n1, n4⟩
  simp only [h1, h4, decide_false, Bool.not_true, cond_false, decide_true, Bool.true_and, hin, cond_true, decP_map, Option.bind_some, hs]
  rw [IntWalk.i64_in (n - 1) (by omega)]
  have hcnt : (findR l n).2 = true → decide (((cnt l 0 : Nat) : Int) ≥ n) = true := fun hf => by
    rw [findR_may hm n1 n4] at hf
    cases hk : findL n.toNat l with
    | none => rw [hk] at hf; cases hf
    | some k =>
      obtain ⟨X, Z, rfl, _, _, _⟩ := may_free (may_go hm) (by omega) (findL_some hk).1
      simp only [cnt_append, cnt_zeros]
      simp
      omega
  cases hf : (findR l n).2 with
  | false => cases decide (n > 1) <;> rfl
  | true =>
    rw [hcnt hf]
    by_cases hn : n > 1
    · have hless : (findR l (n - 1)).2 = true ∧ (findR l (n - 1)).1 ≤ (findR l n).1 := by
        rw [findR_may hm n1 n4] at hf ⊢
        rw [findR_may hm (by omega) (by omega)]
        cases hk : findL n.toNat l with
        | none => rw [hk] at hf; cases hf
        | some k =>
          obtain ⟨j, hj, hjk⟩ := findL_less (m := (n - 1).toNat) (by omega) (by omega) hk
          rw [hj]
          exact ⟨rfl, by simp; omega⟩
      have e2 : decide ((findR l (n - 1)).1 > (findR l n).1) = false := by simp; omega
      simp only [hn, decide_true, cond_true, hless.1, Bool.not_true, cond_false, e2]
    · simp only [hn, decide_false, cond_false, Bool.not_true]
end Go.Ab
