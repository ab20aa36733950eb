/- PagesAll: its loop. -/
import Derived.Test.YtnfgbfmhnllnnaaPgE
namespace Go.Ab
open Go

/-- All free pages, taken. -/
def fillAll (c : Int) (ps : List Pg) : List Pg := ps.map fun p => cond (p.1 == 0) (1, c) p

abbrev path6 : List Bool := [false, true, false, true, true, true, true, true]
noncomputable abbrev body6 : Code := (codeAt (bodyOf Go.Proofs.Try.f6) (false :: path6)).getD .skip
def outs6 : Exit → List Nat := fun e => match e with | .ret => [4] | _ => [0]

def loop6 : LoopSem := ⟨[8, 6, 0, 1, 7], outs6, fun vs cs _ K => match vs, cs with
  | [.int .i64 i, .int .i64 f, .sl 2 L, .int .i64 c, .int .i64 last], [] => (decP L).bind fun ps => bif decide (i = 0) && may ps && in3 c 0 2 && decide (last = -1) && decide (f = (cnt ps 0 : Nat)) then
      cond (f == 0) (K (.exit 0) [.sl 2 (ps.map encP)] []) (K (.exit 0) [.own 2 ((fillAll c ps).map encP)] []) else none
  | _, _ => none⟩

noncomputable def cx6 : Cx := cxP 85 (bodyOf Go.Proofs.Try.f6) ΓL (fun q => bif Nat.beq q 506 then some loop6 else none) (fun _ => false)

noncomputable def LB6s (f c : Int) (β : Type) (K : Exit → List CV → List (List CV) → Option β) (m : Nat) (i : Int) (L : List (List CV)) (last : Int) : Option β :=
  loopB cx6 [8, 6, 0, 1, 7] outs6 path6 body6 m [.int .i64 i, .int .i64 f, .sl 2 L, .int .i64 c, .int .i64 last] [] K

noncomputable def LB6o (f c : Int) (β : Type) (K : Exit → List CV → List (List CV) → Option β) (m : Nat) (i : Int) (L : List (List CV)) (last : Int) : Option β :=
  loopB cx6 [8, 6, 0, 1, 7] outs6 path6 body6 m [.int .i64 i, .int .i64 f, .own 2 L, .int .i64 c, .int .i64 last] [] K

/-- A round, but for how it goes on. -/
def round6 {β : Type} (L : List (List CV)) (c last : Int) (R : Option β) (k : List (List CV) → Int → Option β) : Option β :=
  (decP L).bind fun ps => cond (Nat.ble ps.length 200) ((decP L).bind fun qs => cond (Nat.ble qs.length 200)
    (cond (!(findR ps 1).2) R (cond ((smallE qs (findR ps 1).1 c).1 != 0) R (cond (decide ((findR ps 1).1 ≤ last)) R (k ((smallE qs (findR ps 1).1 c).2.map encP) (findR ps 1).1)))) none) none

set_option maxRecDepth 100000 in
theorem step6s (f c : Int) (β : Type) (K : Exit → List CV → List (List CV) → Option β) (m : Nat) (i : Int) (L : List (List CV)) (last : Int) : LB6s f c β K (m + 1) i L last =
    cond (decide (i < f)) (round6 L c last (K .ret [.bool false] []) fun L' a => LB6o f c β K m (IntKind.i64.wrap (i + 1)) L' a) (K (.exit 0) [.sl 2 L] []) := by kernel_rfl

set_option maxRecDepth 100000 in
theorem step6o (f c : Int) (β : Type) (K : Exit → List CV → List (List CV) → Option β) (m : Nat) (i : Int) (L : List (List CV)) (last : Int) : LB6o f c β K (m + 1) i L last =
    cond (decide (i < f)) (round6 L c last (K .ret [.bool false] []) fun L' a => LB6o f c β K m (IntKind.i64.wrap (i + 1)) L' a) (K (.exit 0) [.own 2 L] []) := by kernel_rfl

theorem cnt_zero {ps : List Pg} {k : Int} (h : cnt ps k = 0) : ∀ p ∈ ps, (p.1 == k) = false := fun p hp => by
  unfold cnt at h
  rw [List.length_eq_zero_iff, List.filter_eq_nil_iff] at h
  simpa using h p hp

theorem fillAll_none {c : Int} {ps : List Pg} (h : cnt ps 0 = 0) : fillAll c ps = ps := by
  unfold fillAll
  have := cnt_zero h
  induction ps with
  | nil => rfl
  | cons p ps ih =>
    rw [List.map_cons, this p (by simp), ih (by
      have hp := this p (by simp)
      simp only [cnt, List.filter_cons, hp] at h
      exact h) (fun q hq => this q (by simp [hq]))]
    rfl

theorem allFree_one {ps : List Pg} {i : Nat} {p : Pg} (h : ps[i]? = some p) : allFree 1 (ps.drop i) = (p.1 == 0) := by
  obtain ⟨hl, hg⟩ := List.getElem?_eq_some_iff.1 h
  rw [ΓR_one hl, hg]

theorem find_free {ps : List Pg} (h : cnt ps 0 ≠ 0) : ∃ k, findL 1 ps = some k := by
  cases hf : findL 1 ps with
  | some k => exact ⟨k, rfl⟩
  | none =>
    exfalso
    apply h
    unfold cnt
    rw [List.length_eq_zero_iff, List.filter_eq_nil_iff]
    intro p hp
    obtain ⟨i, hi⟩ := List.mem_iff_getElem?.1 hp
    have := findL_none (Nat.le_refl 1) hf i
    rw [allFree_one hi] at this
    simpa using this

/-- A round, where a page is free. -/
theorem round6_ok {β : Type} {ps : List Pg} {c last : Int} (hm : may ps = true) (h0 : 0 ≤ c) (h2 : c ≤ 2) (hc : cnt ps 0 ≠ 0) (hlast : ∀ (j : Nat) (p : Pg), ps[j]? = some p → p.1 = 0 → last < (j : Int)) :
    ∃ (k : Nat) (ps' : List Pg), may ps' = true ∧ cnt ps' 0 + 1 = cnt ps 0 ∧ fillAll c ps' = fillAll c ps ∧ (∀ (j : Nat) (p : Pg), ps'[j]? = some p → p.1 = 0 → (k : Int) < (j : Int)) ∧
      ∀ (R : Option β) (g : List (List CV) → Int → Option β), round6 (ps.map encP) c last R g = g (ps'.map encP) k := by
  obtain ⟨k, hk⟩ := find_free hc
  obtain ⟨ha, hahead⟩ := findL_some hk
  obtain ⟨X, Z, hps, hX, mX, mZ⟩ := may_free (may_go hm) (Nat.le_refl 1) ha
  have hps' : ps = X ++ [(0, 0)] ++ Z := hps
  have hlen := may_len hm
  have hl : ps.length = X.length + 1 + Z.length := by rw [hps]; simp; omega
  have hma : may (X ++ [(1, c)] ++ Z) = true := go_may (by simp; omega) (by simp; omega) (mayGo_join mX (mayGo_small h0 h2) mZ)
  refine ⟨k, X ++ [(1, c)] ++ Z, hma, ?_, ?_, ?_, fun R g => ?_⟩
  · rw [hps']
    simp only [cnt_append]
    have e1 : cnt [((1 : Int), c)] 0 = 0 := by simp [cnt]
    have e2 : cnt [((0 : Int), (0 : Int))] 0 = 1 := by simp [cnt]
    omega
  · rw [hps']
    simp [fillAll]
  · intro j p hj hp
    by_cases h : j < k
    · exfalso
      have hg : ps[j]? = some p := by
        rw [← hj, hps']
        exact (get_mid X [(0, 0)] Z [(1, c)] rfl (.inl (by omega))).symm
      have := hahead j h
      rw [allFree_one hg] at this
      simp [hp] at this
    · by_cases h' : j = k
      · exfalso
        subst h'
        rw [← hX, List.append_assoc, List.getElem?_append_right (Nat.le_refl _), Nat.sub_self] at hj
        simp at hj
        rw [← hj] at hp
        cases hp
      · omega
  · have e1 : findR ps 1 = (((k : Nat) : Int), true) := by
      rw [findR_may (n := 1) hm (by omega) (by omega), show (1 : Int).toNat = 1 from rfl, hk]
    have e2 : smallE ps (k : Nat) c = (0, X ++ [(1, c)] ++ Z) := by
      rw [hps'] at hm ⊢
      rw [← hX]
      exact small_parts h0 h2 hm
    have e3 : last < (k : Int) := by
      refine hlast k (0, 0) ?_ rfl
      rw [hps', ← hX, List.append_assoc, List.getElem?_append_right (Nat.le_refl _), Nat.sub_self]
      rfl
    have e4 : decide ((k : Int) ≤ last) = false := by simp; omega
    unfold round6
    rw [decP_map]
    simp only [Option.bind_some, Nat.ble_eq_true_of_le (show ps.length ≤ 200 by omega), e1, e2, e4]
    rfl

theorem loop6_own (f c : Int) (h0 : 0 ≤ c) (h2 : c ≤ 2) (hf : f ≤ 64) (β : Type) (K : Exit → List CV → List (List CV) → Option β) : ∀ (m : Nat) (i : Int) (ps : List Pg) (last : Int), may ps = true → cnt ps 0 = m → 0 ≤ i → i + m = f → (∀ (j : Nat) (p : Pg), ps[j]? = some p → p.1 = 0 → last < (j : Int)) →
    LB6o f c β K (m + 1) i (ps.map encP) last = K (.exit 0) [.own 2 ((fillAll c ps).map encP)] [] := by
  intro m
  induction m with
  | zero =>
    intro i ps last hm hc hi hif hlast
    rw [step6o, decide_eq_false (by omega : ¬ i < f), fillAll_none hc]
    rfl
  | succ m ih =>
    intro i ps last hm hc hi hif hlast
    obtain ⟨k, ps', hm', hc', hfill, hk, hround⟩ := round6_ok (β := β) hm h0 h2 (by omega : cnt ps 0 ≠ 0) hlast
    rw [step6o, decide_eq_true (by omega : i < f), hround, IntWalk.i64_in (i + 1) (by omega), cond_true, ih (i + 1) ps' k hm' (by omega) (by omega) (by omega) hk, hfill]

theorem loop6_spec (ps : List Pg) (c : Int) (hm : may ps = true) (h0 : 0 ≤ c) (h2 : c ≤ 2) (β : Type) (K : Exit → List CV → List (List CV) → Option β) :
    LB6s (cnt ps 0 : Nat) c β K (cnt ps 0 + 1) 0 (ps.map encP) (-1) = cond ((((cnt ps 0 : Nat) : Int)) == 0) (K (.exit 0) [.sl 2 (ps.map encP)] []) (K (.exit 0) [.own 2 ((fillAll c ps).map encP)] []) := by
  have hl := cnt_le ps 0
  have hlen := may_len hm
  by_cases hz : cnt ps 0 = 0
  · rw [step6s, hz]
    rfl
  · obtain ⟨k, ps', hm', hc', hfill, hk, hround⟩ := round6_ok (β := β) (last := -1) hm h0 h2 hz (fun j p _ _ => by omega)
    have e : (((cnt ps 0 : Nat) : Int) == 0) = false := by simpa using hz
    have e2 : cnt ps 0 = cnt ps' 0 + 1 := hc'.symm
    rw [step6s, decide_eq_true (by omega : (0 : Int) < ((cnt ps 0 : Nat) : Int)), hround, IntWalk.i64_in (0 + 1) (by omega), cond_true, e, cond_false, e2]
    rw [loop6_own _ c h0 h2 (by omega) β K (cnt ps' 0) (0 + 1) ps' k hm' rfl (by omega) (by omega) hk, hfill]

theorem loop6_nat : NatL loop6 := fun vs cs => by
  unfold loop6
  dsimp only
  split
  · exact .bind _ fun _ => .cond _ (.cond _ (.ret _ _ _) (.ret _ _ _)) .none
  · exact .none

theorem loops6 : LoopsS cx6 := .of fun k L h => by
  obtain ⟨hk, rfl⟩ := cond_some2 h
  refine ⟨path6, beq_true hk, fun vs cs β K r hr => ?_⟩
  unfold loop6 at hr
  dsimp only at hr
  split at hr
  · rename_i i f L c last
    replace hr := bind_some' hr
    obtain ⟨ps, hps, hr⟩ := hr
    replace hr := cond_some hr
    obtain ⟨hb, hr⟩ := hr
    simp only [Bool.and_eq_true, decide_eq_true_eq] at hb
    obtain ⟨⟨⟨⟨rfl, hm⟩, hc⟩, rfl⟩, rfl⟩ := hb
    obtain ⟨h0, h2⟩ := in3_iff.1 hc
    rw [decP_enc hps]
    exact ⟨cnt ps 0 + 1, (loop6_spec ps c hm h0 h2 β K).trans hr⟩
  · cases hr

def fin6 {β : Type} (L : List (List CV)) (K : CV → List (List CV) → Option β) : Option β :=
  (decP L).bind fun ps => cond (Nat.ble ps.length 200) (cond (!(findR ps 1).2) ((decP L).bind fun ps => cond (Nat.ble ps.length 200) (cond (((cnt ps 0 : Nat) : Int) == 0) ((decP L).bind fun ps => cond (Nat.ble ps.length 200) (K (.bool (may ps)) []) none) (K (.bool false) [])) none) (K (.bool false) [])) none

set_option maxRecDepth 100000 in
theorem step6f (L : List (List CV)) (c : Int) (β : Type) (K : CV → List (List CV) → Option β) : fnK cx6 Go.Proofs.Try.f6 [.sl 2 L, .int .i64 c] [] K =
    cond (decide ((L.length : Int) > 64)) (K (.bool true) []) ((decP L).bind fun ps => cond (Nat.ble ps.length 200) (cond (!(may ps)) (K (.bool true) []) (cond (decide (c < 0)) (K (.bool true) []) (cond (decide (c > 2)) (K (.bool true) [])
      ((decP L).bind fun p1 => cond (Nat.ble p1.length 200) ((decP L).bind fun ps => cond (decide ((0 : Int) = 0) && may ps && in3 c 0 2 && decide ((-1 : Int) = -1) && decide (((cnt p1 0 : Nat) : Int) = (cnt ps 0 : Nat)))
        (cond (((cnt p1 0 : Nat) : Int) == 0) (fin6 (ps.map encP) K) (fin6 ((fillAll c ps).map encP) K)) none) none)))) none) := by kernel_rfl

theorem may_fillAll {c : Int} (h0 : 0 ≤ c) (h2 : c ≤ 2) : ∀ (m : Nat) (ps : List Pg), may ps = true → cnt ps 0 = m → may (fillAll c ps) = true
  | 0, ps, hm, hc => by rw [fillAll_none hc]; exact hm
  | m + 1, ps, hm, hc => by
    obtain ⟨k, ps', hm', hc', hfill, _, _⟩ := round6_ok (β := Unit) (last := -1) hm h0 h2 (by omega : cnt ps 0 ≠ 0) (fun j p _ _ => by omega)
    rw [← hfill]
    exact may_fillAll h0 h2 m ps' hm' (by omega)

theorem cnt_fillAll (c : Int) : ∀ ps : List Pg, cnt (fillAll c ps) 0 = 0
  | [] => rfl
  | p :: ps => by
    have ih := cnt_fillAll c ps
    have e : fillAll c (p :: ps) = cond (p.1 == 0) (1, c) p :: fillAll c ps := rfl
    have : ((cond (p.1 == 0) (1, c) p : Pg).1 == 0) = false := by
      cases hp : p.1 == 0 with
      | true => rfl
      | false => exact hp
    rw [e]
    simp only [cnt, List.filter_cons, this] at ih ⊢
    exact ih

theorem fin6_ok {β : Type} {ps : List Pg} (K : CV → List (List CV) → Option β) (hm : may ps = true) (hc : cnt ps 0 = 0) : fin6 (ps.map encP) K = K (.bool true) [] := by
  have hlen := may_len hm
  have e : findR ps 1 = (0, false) := by
    rw [findR_may hm (by omega) (by omega), show (1 : Int).toNat = 1 from rfl]
    cases hf : findL 1 ps with
    | none => rfl
    | some k =>
      exfalso
      obtain ⟨X, Z, rfl, _, _, _⟩ := may_free (may_go hm) (Nat.le_refl 1) (findL_some hf).1
      simp only [cnt_append, cnt_zeros] at hc
      omega
  unfold fin6
  rw [decP_map]
  simp only [Option.bind_some, Nat.ble_eq_true_of_le (show ps.length ≤ 200 by omega), e, hc, hm]
  rfl

theorem law6 (l : List Pg) (c : Int) (β : Type) (K : CV → List (List CV) → Option β) : fnK cx6 Go.Proofs.Try.f6 [.sl 2 (l.map encP), .int .i64 c] [] K = K (.bool true) [] := by
  rw [step6f]
  simp only [decP_map, List.length_map]
  by_cases h : (l.length : Int) > 64
  · simp only [h, decide_true, cond_true]
  have hs : Nat.ble l.length 200 = true := Nat.ble_eq_true_of_le (by omega)
  simp only [h, decide_false, cond_false, Option.bind_some, hs, cond_true]
  cases hm : may l with
  | false => rfl
  | true =>
  by_cases hc0 : c < 0
  · simp only [hc0, decide_true, cond_true, Bool.not_true, cond_false]
  by_cases hc2 : c > 2
  · simp only [hc0, hc2, decide_true, decide_false, cond_true, Bool.not_true, cond_false]
  have h0 : 0 ≤ c := by omega
  have h2 : c ≤ 2 := by omega
  simp only [hc0, hc2, decide_false, Bool.not_true, cond_false, in3_iff.2 ⟨h0, h2⟩, decide_true, Bool.and_self, cond_true]
  cases hz : ((cnt l 0 : Nat) : Int) == 0 with
  | true => exact fin6_ok K hm (by simpa using hz)
  | false => exact fin6_ok K (may_fillAll h0 h2 _ l hm rfl) (cnt_fillAll c l)
end Go.Ab
