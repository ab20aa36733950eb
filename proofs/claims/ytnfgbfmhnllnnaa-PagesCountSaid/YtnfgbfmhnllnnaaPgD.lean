/- PagesCount: its loops.
PagesCount comes to true. -/
import Derived.Test.YtnfgbfmhnllnnaaPgB
namespace Go.Ab
open Go

/-- In how many pages large objects go on. -/
def runSum : List Pg → Int
  | [] => 0
  | p :: ps => cond (p.1 == 2) (p.2 - 1 + runSum ps) (runSum ps)

abbrev path5 : List Bool := [false, true, false, true, true, true, true, true, true]
noncomputable abbrev body5 : Code := (codeAt (bodyOf Go.Proofs.Try.f5) (false :: path5)).getD .skip
def outs5 : Exit → List Nat := fun _ => [4, 0, 6]

def loop5 : LoopSem := ⟨[7, 0, 6, 4], outs5, fun vs cs _ K => match vs, cs with
  | [.int .i64 i, .sl 2 L, .int .i64 s, .int .i64 c], [] => (decP L).bind fun ps => bif decide (i = 0) && decide (s = 0) && Nat.ble ps.length 200 && may ps then
      K (.exit 2) [.int .i64 c, .sl 2 (ps.map encP), .int .i64 (runSum ps)] [] else none
  | _, _ => none⟩

noncomputable def cx5 : Cx := { P := Go.Proofs.Try.prog, nt := 71, Γ := ΓL, Λ := fun q => bif Nat.beq q 1018 then some loop5 else none, un := fun q => Nat.beq q 250, root := bodyOf Go.Proofs.Try.f5, wr := fun _ => false, eqT := fun _ => false }

noncomputable def LB5 (L : List (List CV)) (c : Int) (β : Type) (K : Exit → List CV → List (List CV) → Option β) (m : Nat) (i s : Int) : Option β :=
  loopB cx5 [7, 0, 6, 4] outs5 path5 body5 m [.int .i64 i, .sl 2 L, .int .i64 s, .int .i64 c] [] K

set_option maxRecDepth 100000 in
theorem step5 (L : List (List CV)) (c : Int) (β : Type) (K : Exit → List CV → List (List CV) → Option β) (m : Nat) (i s : Int) : LB5 L c β K (m + 1) i s =
    cond (decide (i < (L.length : Int))) ((rdE L i).bind fun e => (e[0]?).bind fun x => (asI .i64 x).bind fun a => cond (a == 2)
        ((rdE L i).bind fun e => (e[1]?).bind fun x => (asI .i64 x).bind fun b => LB5 L c β K m (IntKind.i64.wrap (i + 1)) (IntKind.i64.wrap (IntKind.i64.wrap (s + b) - 1)))
        (LB5 L c β K m (IntKind.i64.wrap (i + 1)) s))
      (K (.exit 2) [.int .i64 c, .sl 2 L, .int .i64 s] []) := by kernel_rfl

theorem loop5_spec (ps : List Pg) (c : Int) (hs : ps.length ≤ 200) (hr : ∀ (i : Nat) (b : Int), ps[i]? = some (2, b) → 1 ≤ b ∧ b ≤ 4) (β : Type) (K : Exit → List CV → List (List CV) → Option β) : ∀ (m i : Nat) (s : Int), ps.length - i ≤ m → i ≤ ps.length → 0 ≤ s → s ≤ 3 * i →
    LB5 (ps.map encP) c β K (m + 1) i s = K (.exit 2) [.int .i64 c, .sl 2 (ps.map encP), .int .i64 (s + runSum (ps.drop i))] [] := by
  intro m
  have fin : ∀ (m i : Nat) (s : Int), i = ps.length → LB5 (ps.map encP) c β K (m + 1) i s = K (.exit 2) [.int .i64 c, .sl 2 (ps.map encP), .int .i64 (s + runSum (ps.drop i))] [] := fun m i s hi => by
    subst hi
    rw [step5]
    simp [runSum]
  induction m with
  | zero => exact fun i s hm hi _ _ => fin 0 i s (by omega)
  | succ m ih =>
    intro i s hm' hi h0 h3
    by_cases hl : i < ps.length
    · have e1 : decide ((i : Int) < ((ps.map encP).length : Int)) = true := by simp; omega
      have w1 : IntKind.i64.wrap ((i : Int) + 1) = ((i + 1 : Nat) : Int) := by rw [IntWalk.i64_in]; simp; omega
      have hd : ps.drop i = ps[i] :: ps.drop (i + 1) := List.drop_eq_getElem_cons hl
      have hg : ps[i]? = some ps[i] := List.getElem?_eq_getElem hl
      rw [step5, e1, cond_true]
      simp only [rdE_map hl]
      simp only [encP, List.getElem?_cons_zero, List.getElem?_cons_succ, Option.bind_some, asI, if_true, w1]
      rw [hd, runSum]
      generalize hp : ps[i] = p at hg
      obtain ⟨a, b⟩ := p
      cases ha : a == 2 with
      | false =>
        simp only [cond_false]
        exact ih (i + 1) s (by omega) (by omega) h0 (by omega)
      | true =>
        have ha2 : a = 2 := by simpa using ha
        subst ha2
        obtain ⟨b1, b4⟩ := hr i b hg
        simp only [cond_true]
        rw [IntWalk.i64_in (s + b) (by omega), IntWalk.i64_in (s + b - 1) (by omega)]
        refine (ih (i + 1) (s + b - 1) (by omega) (by omega) (by omega) (by omega)).trans ?_
        rw [show s + b - 1 + runSum (ps.drop (i + 1)) = s + (b - 1 + runSum (ps.drop (i + 1))) by omega]
    · exact fin (m + 1) i s (by omega)

theorem loop5_nat : NatL loop5 := fun vs cs => by
  unfold loop5
  dsimp only
  split
  · exact .bind _ fun _ => .cond _ (.ret _ _ _) .none
  · exact .none

theorem loops5 : LoopsS cx5 := .of fun k L h => by
  obtain ⟨hk, rfl⟩ := cond_some2 h
  refine ⟨path5, beq_true hk, fun vs cs β K r hr => ?_⟩
  unfold loop5 at hr
  dsimp only at hr
  split at hr
  · rename_i i L s c
    replace hr := bind_some' hr
    obtain ⟨ps, hps, hr⟩ := hr
    replace hr := cond_some hr
    obtain ⟨hb, hr⟩ := hr
    simp only [Bool.and_eq_true, decide_eq_true_eq] at hb
    obtain ⟨⟨⟨rfl, rfl⟩, hs⟩, hm⟩ := hb
    have hs := Nat.le_of_ble_eq_true hs
    rw [decP_enc hps]
    refine ⟨ps.length + 1, ?_⟩
    have := loop5_spec ps c hs (fun i b hi => by obtain ⟨b1, b4, _⟩ := mayGo_at (may_go hm) hi; exact ⟨b1, b4⟩) β K ps.length 0 0 (by omega) (by omega) (by omega) (by omega)
    rw [List.drop_zero, Int.zero_add] at this
    exact this.trans hr
  · cases hr

theorem cnt_cons (p : Pg) (ps : List Pg) (k : Int) : cnt (p :: ps) k = (if p.1 == k then 1 else 0) + cnt ps k := by
  simp only [cnt, List.filter_cons]
  split <;> simp <;> omega

theorem cnt_runs : ∀ {ps : List Pg} {r s : Int}, 0 ≤ r → mayGo r ps = some s → ((cnt ps 3 : Nat) : Int) + s = r + runSum ps
  | [], r, s, _, h => by
    simp only [mayGo, Option.some.injEq] at h
    simp [cnt, runSum, h]
  | (a, b) :: ps, r, s, h0, h => by
    rw [cnt_cons, runSum]
    by_cases h2 : a = 2
    · subst h2
      have e' : (bif !(in3 b 1 4) then none else bif decide (r > 0) then none else mayGo (b - 1) ps) = some s := h
      cases hi : in3 b 1 4 with
      | false => rw [hi] at e'; cases e'
      | true =>
        obtain ⟨h1, h4⟩ := in3_iff.1 hi
        rw [hi] at e'
        cases hr : decide (r > 0) with
        | true => rw [hr] at e'; cases e'
        | false =>
          rw [hr] at e'
          have ih := cnt_runs (show 0 ≤ b - 1 by omega) e'
          simp at hr
          simp
          omega
    · have e2 : (a == 2) = false := by simpa using h2
      simp only [e2, cond_false]
      by_cases h3 : a = 3
      · subst h3
        have e' : (bif r == 0 then none else bif b != 0 then none else mayGo (r - 1) ps) = some s := h
        cases hr : r == 0 with
        | true => rw [hr] at e'; cases e'
        | false =>
          rw [hr] at e'
          cases hb : b != 0 with
          | true => rw [hb] at e'; cases e'
          | false =>
            rw [hb] at e'
            simp at hr
            have ih := cnt_runs (show 0 ≤ r - 1 by omega) e'
            simp
            omega
      · have e3 : (a == 3) = false := by simpa using h3
        simp only [mayGo, e2, e3, Bool.cond_eq_ite] at h
        have key : mayGo r ps = some s := by
          simp only [Bool.false_eq_true, if_false] at h
          repeat' (split at h)
          all_goals first | exact h | contradiction
        have ih := cnt_runs h0 key
        simp [e3]
        omega

theorem cnt_all : ∀ {ps : List Pg}, (∀ p ∈ ps, p.1 = 0 ∨ p.1 = 1 ∨ p.1 = 2 ∨ p.1 = 3) → cnt ps 0 + cnt ps 1 + cnt ps 2 + cnt ps 3 = ps.length ∧ cnt ps (-1) = 0 ∧ cnt ps 4 = 0
  | [], _ => ⟨rfl, rfl, rfl⟩
  | (a, b) :: ps, h => by
    obtain ⟨h1, h2, h3⟩ := cnt_all (ps := ps) fun p hp => h p (by simp [hp])
    have ha := h (a, b) (by simp)
    simp only [cnt_cons, List.length_cons]
    rcases ha with ha | ha | ha | ha <;> (replace ha : a = _ := ha; subst ha; refine ⟨?_, ?_, ?_⟩ <;> simp <;> omega)

theorem may_kinds {ps : List Pg} (hm : may ps = true) : ∀ p ∈ ps, p.1 = 0 ∨ p.1 = 1 ∨ p.1 = 2 ∨ p.1 = 3 := fun p hp => by
  obtain ⟨i, hi⟩ := List.mem_iff_getElem?.1 hp
  exact mayGo_kind (may_go hm) hi
end Go.Ab

namespace Go.Ab
open Go

set_option maxRecDepth 100000 in
theorem step5f (L : List (List CV)) (β : Type) (K : CV → List (List CV) → Option β) : fnK cx5 Go.Proofs.Try.f5 [.sl 2 L] [] K =
  bif decide ((↑(List.length L) : Int) > 64) then K (CV.bool true) []
  else
    Option.bind (decP L) fun ps =>
      bif Nat.ble (List.length ps) 200 then
        bif !may ps then K (CV.bool true) []
        else
          Option.bind (decP L) fun ps =>
            bif Nat.ble (List.length ps) 200 then
              Option.bind (decP L) fun ps_1 =>
                bif Nat.ble (List.length ps_1) 200 then
                  Option.bind (decP L) fun ps_2 =>
                    bif Nat.ble (List.length ps_2) 200 then
                      Option.bind (decP L) fun ps_3 =>
                        bif Nat.ble (List.length ps_3) 200 then
                          Option.bind (decP L) fun ps_4 =>
                            bif decide ((0 : Int) = 0) && decide ((0 : Int) = 0) && Nat.ble (List.length ps_4) 200 && may ps_4 then
                              bif
                                  IntKind.wrap IntKind.i64
                                      (IntKind.wrap IntKind.i64
                                          (IntKind.wrap IntKind.i64
                                              (IntKind.wrap IntKind.i64 ((0 : Int) + (↑(cnt ps 0) : Int)) +
                                                (↑(cnt ps_1 (IntKind.wrap IntKind.i64 ((0 : Int) + 1))) : Int)) +
                                            (↑(cnt ps_2
                                                  (IntKind.wrap IntKind.i64 (IntKind.wrap IntKind.i64 ((0 : Int) + 1) + 1))) :
                                              Int)) +
                                        (↑(cnt ps_3
                                              (IntKind.wrap IntKind.i64
                                                (IntKind.wrap IntKind.i64 (IntKind.wrap IntKind.i64 ((0 : Int) + 1) + 1) +
                                                  1))) :
                                          Int)) ==
                                    (↑(List.length (List.map encP ps_4)) : Int) then
                                Option.bind (decP (List.map encP ps_4)) fun ps =>
                                  bif Nat.ble (List.length ps) 200 then
                                    bif runSum ps_4 == (↑(cnt ps 3) : Int) then
                                      Option.bind (decP (List.map encP ps_4)) fun ps =>
                                        bif Nat.ble (List.length ps) 200 then
                                          bif (↑(cnt ps (-1)) : Int) == 0 then
                                            Option.bind (decP (List.map encP ps_4)) fun ps =>
                                              bif Nat.ble (List.length ps) 200 then
                                                K (CV.bool ((↑(cnt ps 4) : Int) == 0)) []
                                              else none
                                          else K (CV.bool false) []
                                        else none
                                    else K (CV.bool false) []
                                  else none
                              else K (CV.bool false) []
                            else none
                        else none
                    else none
                else none
            else none
      else none := by kernel_rfl

theorem law5 (l : List Pg) (β : Type) (K : CV → List (List CV) → Option β) : fnK cx5 Go.Proofs.Try.f5 [.sl 2 (l.map encP)] [] K = K (.bool true) [] := by
  rw [step5f]
  simp only [decP_map, List.length_map]
  by_cases h : (l.length : Int) > 64
  · simp only [h, decide_true, cond_true]
  have hs : Nat.ble l.length 200 = true := Nat.ble_eq_true_of_le (by omega)
  simp only [h, decide_false, cond_false, Option.bind_some, hs, cond_true]
  cases hm : may l with
  | false => rfl
  | true =>
  obtain ⟨h1, h2, h3⟩ := cnt_all (may_kinds hm)
  have hr := cnt_runs (Int.le_refl 0) (may_go hm)
  simp only [Int.add_zero, Int.zero_add] at hr
  have l0 := cnt_le l 0
  have l1 := cnt_le l 1
  have l2 := cnt_le l 2
  have l3 := cnt_le l 3
  have k1 : IntKind.i64.wrap 1 = 1 := IntWalk.i64_in 1 (by omega)
  have k2 : IntKind.i64.wrap 2 = 2 := IntWalk.i64_in 2 (by omega)
  have k3 : IntKind.i64.wrap 3 = 3 := IntWalk.i64_in 3 (by omega)
  simp only [Int.zero_add, k1, show (1 : Int) + 1 = 2 from rfl, k2, show (2 : Int) + 1 = 3 from rfl, k3, h2, h3, decide_true, Bool.true_and, Bool.not_true, cond_false, cond_true, decP_map, Option.bind_some, hs]
  rw [IntWalk.i64_in ((cnt l 0 : Nat) : Int) (by omega), IntWalk.i64_in (((cnt l 0 : Nat) : Int) + ((cnt l 1 : Nat) : Int)) (by omega), IntWalk.i64_in (((cnt l 0 : Nat) : Int) + ((cnt l 1 : Nat) : Int) + ((cnt l 2 : Nat) : Int)) (by omega), IntWalk.i64_in (((cnt l 0 : Nat) : Int) + ((cnt l 1 : Nat) : Int) + ((cnt l 2 : Nat) : Int) + ((cnt l 3 : Nat) : Int)) (by omega), ← h1]
  simp [hr]
end Go.Ab
