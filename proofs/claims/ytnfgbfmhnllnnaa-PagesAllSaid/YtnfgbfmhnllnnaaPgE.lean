/- PagesOther: a round of its loop.
PagesOther: its loop's answer.
PagesOther comes to true. -/
import Derived.Test.YtnfgbfmhnllnnaaPgB
namespace Go.Ab
open Go

abbrev path9 : List Bool := [false, true, false, true, true, true, true, true, true]
noncomputable abbrev body9 : Code := (codeAt (bodyOf Go.Proofs.Try.f9) (false :: path9)).getD .skip
def outs9 : Exit → List Nat := fun e => match e with | .ret => [6] | _ => [8, 9, 10, 11, 12, 13]
abbrev ins9 : List Nat := [14, 0, 1, 2, 8, 9, 10, 11, 12, 13]

def loop9 : LoopSem := ⟨ins9, outs9, fun vs cs _ K => match vs, cs with
  | [.int .i64 i, .sl 2 L, .int .i64 a, .int .i64 n, .own 2 A, .int .i64 e, .own 2 B, .int .i64 f, .own 2 C, .int .i64 g], [] => (decP L).bind fun ps => (decP A).bind fun qa => (decP B).bind fun qb => (decP C).bind fun qc =>
      bif decide (i = 0) && Nat.ble ps.length 64 && may ps && decide ((e, qa) = smallE ps a n) && decide ((f, qb) = largeE ps a n) && decide ((g, qc) = dropE ps a) then
      K (.exit 0) [.own 2 A, .int .i64 e, .own 2 B, .int .i64 f, .own 2 C, .int .i64 g] [] else none
  | _, _ => none⟩

noncomputable def cx9 : Cx := cxE 183 (bodyOf Go.Proofs.Try.f9) ΓL (fun q => bif Nat.beq q 1018 then some loop9 else none) (fun _ => false)

/-- Is an element not as another one's? -/
def neAt {β : Type} (A L : List (List CV)) (i : Int) (t f : Option β) : Option β :=
  if 0 ≤ i ∧ i < (A.length : Int) then (A[i.toNat]?).bind fun c => (c[0]?).bind fun x => (asI .i64 x).bind fun a => (c[1]?).bind fun x => (asI .i64 x).bind fun b =>
    (rdE L i).bind fun c => (c[0]?).bind fun x => (asI .i64 x).bind fun a' => (c[1]?).bind fun x => (asI .i64 x).bind fun b' => cond (!(a == a' && (b == b' && true))) t f else none

def part1 {β : Type} (A L : List (List CV)) (e i a : Int) (R k : Option β) : Option β :=
  cond (e == 0) (cond ((A.length : Int) != (L.length : Int)) R (cond (i != a) (neAt A L i R k) k)) k

def part2 {β : Type} (B L : List (List CV)) (f i a n : Int) (R k : Option β) : Option β :=
  cond (f == 0) (cond ((B.length : Int) != (L.length : Int)) R (cond (decide (i < a)) (neAt B L i R k) (cond (decide (i ≥ IntKind.i64.wrap (a + n))) (neAt B L i R k) k))) k

def part3b {β : Type} (C L : List (List CV)) (i a : Int) (R k : Option β) : Option β :=
  cond (decide (i > a)) (neAt C L i ((rdE L i).bind fun c => (c[0]?).bind fun x => (asI .i64 x).bind fun q => cond (q != 3) R k) k) k

def part3 {β : Type} (C L : List (List CV)) (g i a : Int) (R k : Option β) : Option β :=
  cond (g == 0) (cond ((C.length : Int) != (L.length : Int)) R (cond (decide (i < a)) (neAt C L i R (part3b C L i a R k)) (part3b C L i a R k))) k

noncomputable def LB9 (L : List (List CV)) (a n : Int) (A : List (List CV)) (e : Int) (B : List (List CV)) (f : Int) (C : List (List CV)) (g : Int) (β : Type) (K : Exit → List CV → List (List CV) → Option β) (m : Nat) (i : Int) : Option β :=
  loopB cx9 ins9 outs9 path9 body9 m [.int .i64 i, .sl 2 L, .int .i64 a, .int .i64 n, .own 2 A, .int .i64 e, .own 2 B, .int .i64 f, .own 2 C, .int .i64 g] [] K

set_option maxRecDepth 100000 in
theorem step9 (L : List (List CV)) (a n : Int) (A : List (List CV)) (e : Int) (B : List (List CV)) (f : Int) (C : List (List CV)) (g : Int) (β : Type) (K : Exit → List CV → List (List CV) → Option β) (m : Nat) (i : Int) :
    LB9 L a n A e B f C g β K (m + 1) i = cond (decide (i < (L.length : Int)))
      (part1 A L e i a (K .ret [.bool false] []) (part2 B L f i a n (K .ret [.bool false] []) (part3 C L g i a (K .ret [.bool false] []) (LB9 L a n A e B f C g β K m (IntKind.i64.wrap (i + 1))))))
      (K (.exit 0) [.own 2 A, .int .i64 e, .own 2 B, .int .i64 f, .own 2 C, .int .i64 g] []) := by kernel_rfl
end Go.Ab

namespace Go.Ab
open Go

theorem eat_rep : ∀ {k : Nat} {ps rest : List Pg}, eat k ps = some rest → ps = List.replicate k (3, 0) ++ rest
  | 0, ps, rest, h => by
    simp only [eat, Option.some.injEq] at h
    simp [h]
  | k + 1, [], rest, h => by simp [eat] at h
  | k + 1, (a, b) :: ps, rest, h => by
    simp only [eat] at h
    replace h := cond_some h
    obtain ⟨hc, h⟩ := h
    simp at hc
    obtain ⟨rfl, rfl⟩ := hc
    rw [eat_rep h]
    rfl

/-- Pages of which one is taken, in parts. -/
theorem may_taken {l : List Pg} {k : Nat} {p : Pg} (hm : mayGo 0 l = some 0) (hk : l[k]? = some p) (hp : p.1 = 1 ∨ p.1 = 2) : ∃ X F' Z, l = X ++ (p :: F') ++ Z ∧ X.length = k ∧ (∀ q ∈ F', q.1 = 3) ∧ runOf p = ((p :: F').length : Int) ∧ mayGo 0 X = some 0 ∧ mayGo 0 Z = some 0 := by
  obtain ⟨hlt, hg⟩ := List.getElem?_eq_some_iff.1 hk
  have hd : l.drop k = p :: l.drop (k + 1) := by rw [List.drop_eq_getElem_cons hlt, hg]
  have hs : l = l.take k ++ (p :: l.drop (k + 1)) := by rw [← hd, List.take_append_drop]
  rw [hs, mayGo_append] at hm
  obtain ⟨r, hr, hm⟩ := bind_some' hm
  have h0 := mayGo_nonneg (Int.le_refl 0) hr
  obtain ⟨a, b⟩ := p
  rcases hp with hp | hp
  · replace hp : a = 1 := hp
    subst hp
    have e' : (bif !(in3 b 0 2) then none else bif decide (r > 0) then none else mayGo r (l.drop (k + 1))) = some 0 := hm
    cases hi : in3 b 0 2 with
    | false => rw [hi] at e'; cases e'
    | true =>
      rw [hi] at e'
      cases hr' : decide (r > 0) with
      | true => rw [hr'] at e'; cases e'
      | false =>
        rw [hr'] at e'
        simp at hr'
        have : r = 0 := by omega
        subst this
        exact ⟨l.take k, [], l.drop (k + 1), by rw [List.append_assoc]; exact hs, by simp; omega, by simp, rfl, hr, e'⟩
  · replace hp : a = 2 := hp
    subst hp
    have e' : (bif !(in3 b 1 4) then none else bif decide (r > 0) then none else mayGo (b - 1) (l.drop (k + 1))) = some 0 := hm
    cases hr' : decide (r > 0) with
    | true => rw [hr'] at e'; cases hi : in3 b 1 4 <;> rw [hi] at e' <;> cases e'
    | false =>
      simp at hr'
      have : r = 0 := by omega
      subst this
      obtain ⟨h1, h4, rest, he, hz⟩ := mayGo_large hm
      have hrep := eat_rep he
      refine ⟨l.take k, List.replicate (b - 1).toNat (3, 0), rest, ?_, by simp; omega, ?_, ?_, hr, hz⟩
      · rw [List.append_assoc, List.cons_append, ← hrep]
        exact hs
      · intro q hq
        rw [List.mem_replicate] at hq
        rw [hq.2]
      · simp [runOf]
        omega

theorem get_mid {α : Type} (X F Z Y : List α) (h : Y.length = F.length) {i : Nat} (hi : i < X.length ∨ X.length + F.length ≤ i) : (X ++ Y ++ Z)[i]? = (X ++ F ++ Z)[i]? := by
  rcases hi with hi | hi
  · rw [List.append_assoc, List.append_assoc, List.getElem?_append_left hi, List.getElem?_append_left hi]
  · rw [List.getElem?_append_right (by simp; omega), List.getElem?_append_right (by simp; omega)]
    simp [h]

/-- What is taken as a page of cells, in parts. -/
theorem small_ok {ps : List Pg} {a c : Int} (h : (smallE ps a c).1 = 0) : may ps = true ∧ 0 ≤ c ∧ c ≤ 2 ∧ ∃ X Z, ps = X ++ [(0, 0)] ++ Z ∧ a = (X.length : Nat) ∧ (smallE ps a c).2 = X ++ [(1, c)] ++ Z ∧ mayGo 0 X = some 0 ∧ mayGo 0 Z = some 0 := by
  have h' := h
  unfold smallE at h
  cases hm : may ps with
  | false => rw [hm] at h; simp at h
  | true =>
    cases hn : in3 c 0 2 with
    | false => rw [hm, hn] at h; simp at h
    | true =>
      obtain ⟨h0, h2⟩ := in3_iff.1 hn
      cases hf : freeE ps a 1 != 0 with
      | true =>
        rw [hm, hn, hf] at h
        have h : freeE ps a 1 = 0 := h
        rw [h] at hf
        cases hf
      | false =>
        obtain ⟨ha, _, hfr⟩ := freeE_in (by simpa using hf)
        obtain ⟨X, Z, hps, hX, mX, mZ⟩ := may_free (may_go hm) (Nat.le_refl 1) hfr
        have hps' : ps = X ++ [(0, 0)] ++ Z := hps
        have haX : a = (X.length : Nat) := by omega
        refine ⟨rfl, h0, h2, X, Z, hps', haX, ?_, mX, mZ⟩
        rw [hps'] at hm ⊢
        rw [haX, small_parts h0 h2 hm]

theorem large_ok {ps : List Pg} {a n : Int} (h : (largeE ps a n).1 = 0) : may ps = true ∧ 1 ≤ n ∧ n ≤ 4 ∧ ∃ X Z, ps = X ++ List.replicate n.toNat (0, 0) ++ Z ∧ a = (X.length : Nat) ∧ (largeE ps a n).2 = X ++ ownL n ++ Z ∧ mayGo 0 X = some 0 ∧ mayGo 0 Z = some 0 := by
  have h' := h
  unfold largeE at h
  cases hm : may ps with
  | false => rw [hm] at h; simp at h
  | true =>
    cases hn : in3 n 1 4 with
    | false => rw [hm, hn] at h; simp at h
    | true =>
      obtain ⟨h1, h4⟩ := in3_iff.1 hn
      cases hf : freeE ps a n != 0 with
      | true =>
        rw [hm, hn, hf] at h
        have h : freeE ps a n = 0 := h
        rw [h] at hf
        cases hf
      | false =>
        obtain ⟨ha, _, hfr⟩ := freeE_in (by simpa using hf)
        obtain ⟨X, Z, hps, hX, mX, mZ⟩ := may_free (may_go hm) (by omega) hfr
        have haX : a = (X.length : Nat) := by omega
        refine ⟨rfl, h1, h4, X, Z, hps, haX, ?_, mX, mZ⟩
        rw [hps] at hm ⊢
        rw [haX, large_parts h1 h4 hm]

theorem drop_ok {ps : List Pg} {a : Int} (h : (dropE ps a).1 = 0) : may ps = true ∧ ∃ X p F' Z, ps = X ++ (p :: F') ++ Z ∧ a = (X.length : Nat) ∧ (∀ q ∈ F', q.1 = 3) ∧ (dropE ps a).2 = X ++ List.replicate (p :: F').length (0, 0) ++ Z ∧ mayGo 0 X = some 0 ∧ mayGo 0 Z = some 0 := by
  have h' := h
  unfold dropE at h
  cases hm : may ps with
  | false => rw [hm] at h; simp at h
  | true =>
    by_cases h1 : a < 0
    · rw [hm] at h; simp [h1] at h
    by_cases h2 : a ≥ (ps.length : Int)
    · rw [hm] at h; simp [h2] at h
    have e1 : decide (a < 0) = false := by simpa using h1
    have e2 : decide (a ≥ (ps.length : Int)) = false := by simpa using h2
    have hl : a.toNat < ps.length := by omega
    have hg : ps[a.toNat]? = some ps[a.toNat] := List.getElem?_eq_getElem hl
    rw [hm, e1, e2, hg] at h
    have hkind := mayGo_kind (may_go hm) hg
    generalize ps[a.toNat] = p at hg h hkind
    have hp : p.1 = 1 ∨ p.1 = 2 := by
      rcases hkind with hk | hk | hk | hk
      · simp [hk] at h
      · exact .inl hk
      · exact .inr hk
      · simp [hk] at h
    obtain ⟨X, F', Z, hps, hX, h3, hn, mX, mZ⟩ := may_taken (may_go hm) hg hp
    have haX : a = (X.length : Nat) := by omega
    refine ⟨rfl, X, p, F', Z, hps, haX, h3, ?_, mX, mZ⟩
    rw [hps] at hm ⊢
    rw [haX, drop_parts rfl hp hn hm]

/-- An element that is as the other one's. -/
theorem neAt_same {β : Type} {qa ps : List Pg} {i : Nat} (hl : i < ps.length) (h : qa[i]? = ps[i]?) (t f : Option β) : neAt (qa.map encP) (ps.map encP) i t f = f := by
  have hg : ps[i]? = some ps[i] := List.getElem?_eq_getElem hl
  rw [hg] at h
  obtain ⟨hla, hga⟩ := List.getElem?_eq_some_iff.1 h
  unfold neAt
  rw [if_pos ⟨by omega, by simp; omega⟩, Int.toNat_natCast]
  have : (qa.map encP)[i]? = some (encP ps[i]) := by simp [h]
  rw [this]
  simp only [rdE_map hl]
  simp [encP, asI]

/-- An element, however it is. -/
theorem neAt_any {β : Type} {qa ps : List Pg} {i : Nat} (hl : i < ps.length) (hla : i < qa.length) (x : Option β) : neAt (qa.map encP) (ps.map encP) i x x = x := by
  unfold neAt
  rw [if_pos ⟨by omega, by simp; omega⟩, Int.toNat_natCast]
  have : (qa.map encP)[i]? = some (encP qa[i]) := by simp [hla]
  rw [this]
  simp only [rdE_map hl]
  simp only [encP, asI, List.getElem?_cons_zero, List.getElem?_cons_succ, Option.bind_some, if_true]
  cases (!(qa[i].1 == ps[i].1 && (qa[i].2 == ps[i].2 && true))) <;> rfl

theorem part1_skip {β : Type} {ps : List Pg} {a n : Int} {i : Nat} (hi : i < ps.length) (R k : Option β) : part1 ((smallE ps a n).2.map encP) (ps.map encP) (smallE ps a n).1 i a R k = k := by
  unfold part1
  cases he : (smallE ps a n).1 == 0 with
  | false => rfl
  | true =>
    obtain ⟨_, _, _, X, Z, hps, hX, hq, _, _⟩ := small_ok (by simpa using he : (smallE ps a n).1 = 0)
    rw [hq]
    have e1 : ((((X ++ [(1, n)] ++ Z).map encP).length : Int) != ((ps.map encP).length : Int)) = false := by rw [hps]; simp
    rw [e1, cond_true, cond_false]
    cases h : (i : Int) != a with
    | false => rfl
    | true =>
      have hne : (i : Int) ≠ a := by simpa using h
      rw [cond_true, neAt_same hi]
      rw [hps]
      exact get_mid X [(0, 0)] Z [(1, n)] rfl (by simp only [List.length_singleton]; omega)

theorem part2_skip {β : Type} {ps : List Pg} {a n : Int} {i : Nat} (hi : i < ps.length) (hs : ps.length ≤ 64) (R k : Option β) : part2 ((largeE ps a n).2.map encP) (ps.map encP) (largeE ps a n).1 i a n R k = k := by
  unfold part2
  cases he : (largeE ps a n).1 == 0 with
  | false => rfl
  | true =>
    obtain ⟨_, h1, h4, X, Z, hps, hX, hq, _, _⟩ := large_ok (by simpa using he : (largeE ps a n).1 = 0)
    have ho := ownL_len h1
    have hlen : ps.length = X.length + n.toNat + Z.length := by rw [hps]; simp; omega
    have e1 : ((((X ++ ownL n ++ Z).map encP).length : Int) != ((ps.map encP).length : Int)) = false := by rw [hps]; simp [ho]
    rw [hq, e1, IntWalk.i64_in (a + n) (by omega)]
    simp only [cond_true, cond_false]
    by_cases h : (i : Int) < a
    · rw [decide_eq_true h, cond_true, neAt_same hi]
      rw [hps]
      exact get_mid _ _ _ _ (by simp [ho]) (.inl (by omega))
    · rw [decide_eq_false h, cond_false]
      by_cases h2 : (i : Int) ≥ a + n
      · rw [decide_eq_true h2, cond_true, neAt_same hi]
        rw [hps]
        exact get_mid _ _ _ _ (by simp [ho]) (.inr (by simp; omega))
      · rw [decide_eq_false h2, cond_false]

theorem part3_skip {β : Type} {ps : List Pg} {a : Int} {i : Nat} (hi : i < ps.length) (R k : Option β) : part3 ((dropE ps a).2.map encP) (ps.map encP) (dropE ps a).1 i a R k = k := by
  unfold part3
  cases he : (dropE ps a).1 == 0 with
  | false => rfl
  | true =>
    obtain ⟨_, X, p, F', Z, hps, hX, h3, hq, _, _⟩ := drop_ok (by simpa using he : (dropE ps a).1 = 0)
    have e1 : ((((X ++ List.replicate (p :: F').length (0, 0) ++ Z).map encP).length : Int) != ((ps.map encP).length : Int)) = false := by rw [hps]; simp; omega
    rw [hq, e1]
    simp only [cond_true, cond_false]
    have hb : part3b ((X ++ List.replicate (p :: F').length (0, 0) ++ Z).map encP) (ps.map encP) i a R k = k := by
      unfold part3b
      by_cases h : (i : Int) > a
      · rw [decide_eq_true h, cond_true]
        by_cases h2 : X.length + (p :: F').length ≤ i
        · rw [neAt_same hi]
          rw [hps]
          exact get_mid _ _ _ _ (by simp) (.inr h2)
        · have hk : ps[i].1 = 3 := by
            have hg : ps[i]? = some ps[i] := List.getElem?_eq_getElem hi
            generalize ps[i] = q at hg ⊢
            rw [hps, List.getElem?_append_left (by simp at h2 ⊢; omega), List.getElem?_append_right (by omega)] at hg
            have : i - X.length = (i - X.length - 1) + 1 := by omega
            rw [this, List.getElem?_cons_succ] at hg
            exact h3 q (List.mem_of_getElem? hg)
          have e2 : ((rdE (ps.map encP) (i : Int)).bind fun c => (c[0]?).bind fun x => (asI .i64 x).bind fun q => cond (q != 3) R k) = k := by
            rw [rdE_map hi]
            simp [encP, asI, hk]
          rw [e2, neAt_any hi (by rw [hps] at hi; simp at hi ⊢; omega)]
      · rw [decide_eq_false h, cond_false]
    rw [hb]
    by_cases h : (i : Int) < a
    · rw [decide_eq_true h, cond_true, neAt_same hi]
      rw [hps]
      exact get_mid _ _ _ _ (by simp) (.inl (by omega))
    · rw [decide_eq_false h, cond_false]

theorem loop9_spec (ps : List Pg) (a n : Int) (hs : ps.length ≤ 64) (β : Type) (K : Exit → List CV → List (List CV) → Option β) : ∀ (m i : Nat), ps.length - i ≤ m → i ≤ ps.length →
    LB9 (ps.map encP) a n ((smallE ps a n).2.map encP) (smallE ps a n).1 ((largeE ps a n).2.map encP) (largeE ps a n).1 ((dropE ps a).2.map encP) (dropE ps a).1 β K (m + 1) i =
      K (.exit 0) [.own 2 ((smallE ps a n).2.map encP), .int .i64 (smallE ps a n).1, .own 2 ((largeE ps a n).2.map encP), .int .i64 (largeE ps a n).1, .own 2 ((dropE ps a).2.map encP), .int .i64 (dropE ps a).1] [] := by
  intro m
  have fin : ∀ (m i : Nat), i = ps.length → LB9 (ps.map encP) a n ((smallE ps a n).2.map encP) (smallE ps a n).1 ((largeE ps a n).2.map encP) (largeE ps a n).1 ((dropE ps a).2.map encP) (dropE ps a).1 β K (m + 1) i =
      K (.exit 0) [.own 2 ((smallE ps a n).2.map encP), .int .i64 (smallE ps a n).1, .own 2 ((largeE ps a n).2.map encP), .int .i64 (largeE ps a n).1, .own 2 ((dropE ps a).2.map encP), .int .i64 (dropE ps a).1] [] := fun m i hi => by
    subst hi
    rw [step9]
    simp
  induction m with
  | zero => exact fun i hm hi => fin 0 i (by omega)
  | succ m ih =>
    intro i hm hi
    by_cases hl : i < ps.length
    · have e1 : decide ((i : Int) < ((ps.map encP).length : Int)) = true := by simp; omega
      have w1 : IntKind.i64.wrap ((i : Int) + 1) = ((i + 1 : Nat) : Int) := by rw [IntWalk.i64_in]; simp; omega
      rw [step9, e1, w1, ih (i + 1) (by omega) (by omega), cond_true, part1_skip hl, part2_skip hl hs, part3_skip hl]
    · exact fin (m + 1) i (by omega)

theorem loop9_nat : NatL loop9 := fun vs cs => by
  unfold loop9
  dsimp only
  split
  · exact .bind _ fun _ => .bind _ fun _ => .bind _ fun _ => .bind _ fun _ => .cond _ (.ret _ _ _) .none
  · exact .none

theorem loops9 : LoopsS cx9 := .of fun k L h => by
  obtain ⟨hk, rfl⟩ := cond_some2 h
  refine ⟨path9, beq_true hk, fun vs cs β K r hr => ?_⟩
  unfold loop9 at hr
  dsimp only at hr
  split at hr
  · rename_i i L a n A e B f C g
    replace hr := bind_some' hr
    obtain ⟨ps, hps, hr⟩ := hr
    replace hr := bind_some' hr
    obtain ⟨qa, hqa, hr⟩ := hr
    replace hr := bind_some' hr
    obtain ⟨qb, hqb, hr⟩ := hr
    replace hr := bind_some' hr
    obtain ⟨qc, hqc, hr⟩ := hr
    replace hr := cond_some hr
    obtain ⟨hb, hr⟩ := hr
    simp only [Bool.and_eq_true, decide_eq_true_eq] at hb
    obtain ⟨⟨⟨⟨⟨rfl, hs⟩, hm⟩, h1⟩, h2⟩, h3⟩ := hb
    have hs := Nat.le_of_ble_eq_true hs
    obtain rfl : e = (smallE ps a n).1 := congrArg Prod.fst h1
    obtain rfl : qa = (smallE ps a n).2 := congrArg Prod.snd h1
    obtain rfl : f = (largeE ps a n).1 := congrArg Prod.fst h2
    obtain rfl : qb = (largeE ps a n).2 := congrArg Prod.snd h2
    obtain rfl : g = (dropE ps a).1 := congrArg Prod.fst h3
    obtain rfl : qc = (dropE ps a).2 := congrArg Prod.snd h3
    have ea := decP_enc hqa
    have eb := decP_enc hqb
    have ec := decP_enc hqc
    subst ea eb ec
    rw [decP_enc hps]
    refine ⟨ps.length + 1, ?_⟩
    exact (loop9_spec ps a n hs β K ps.length 0 (by omega) (by omega)).trans hr
  · cases hr
end Go.Ab

namespace Go.Ab
open Go

def fin9 {β : Type} (A : List (List CV)) (e : Int) (K : CV → List (List CV) → Option β) (k : Option β) : Option β :=
  cond (e != 0) k ((decP A).bind fun x => cond (Nat.ble x.length 200) (cond (may x) k (K (.bool false) [])) none)

def fin9c {β : Type} (A : List (List CV)) (e : Int) (K : CV → List (List CV) → Option β) : Option β :=
  cond (e != 0) (K (.bool true) []) ((decP A).bind fun x => cond (Nat.ble x.length 200) (K (.bool (may x)) []) none)

set_option maxRecDepth 100000 in
theorem step9f (L : List (List CV)) (a n : Int) (β : Type) (K : CV → List (List CV) → Option β) : fnK cx9 Go.Proofs.Try.f9 [.sl 2 L, .int .i64 a, .int .i64 n] [] K =
    cond (decide ((L.length : Int) > 64)) (K (.bool true) []) ((decP L).bind fun ps => cond (Nat.ble ps.length 200) (cond (!(may ps)) (K (.bool true) [])
      ((decP L).bind fun p1 => cond (Nat.ble p1.length 200) ((decP L).bind fun p2 => cond (Nat.ble p2.length 200) ((decP L).bind fun p3 => cond (Nat.ble p3.length 200)
        ((decP L).bind fun ps => (decP ((smallE p1 a n).2.map encP)).bind fun qa => (decP ((largeE p2 a n).2.map encP)).bind fun qb => (decP ((dropE p3 a).2.map encP)).bind fun qc =>
          cond (decide ((0 : Int) = 0) && Nat.ble ps.length 64 && may ps && decide (((smallE p1 a n).1, qa) = smallE ps a n) && decide (((largeE p2 a n).1, qb) = largeE ps a n) && decide (((dropE p3 a).1, qc) = dropE ps a))
            (fin9 ((smallE p1 a n).2.map encP) (smallE p1 a n).1 K (fin9 ((largeE p2 a n).2.map encP) (largeE p2 a n).1 K (fin9c ((dropE p3 a).2.map encP) (dropE p3 a).1 K))) none) none) none) none)) none) := by kernel_rfl

theorem law9 (l : List Pg) (a n : Int) (β : Type) (K : CV → List (List CV) → Option β) : fnK cx9 Go.Proofs.Try.f9 [.sl 2 (l.map encP), .int .i64 a, .int .i64 n] [] K = K (.bool true) [] := by
  rw [step9f]
  simp only [decP_map, List.length_map]
  by_cases h : (l.length : Int) > 64
  · simp only [h, decide_true, cond_true]
  have hs : Nat.ble l.length 200 = true := Nat.ble_eq_true_of_le (by omega)
  have hs' : Nat.ble l.length 64 = true := Nat.ble_eq_true_of_le (by omega)
  simp only [h, decide_false, cond_false, Option.bind_some, hs, cond_true]
  cases hm : may l with
  | false => rfl
  | true =>
  have hlen := may_len hm
  simp only [Bool.not_true, cond_false, hs', decide_true, Bool.and_self, cond_true]
  have f1 : ∀ k, fin9 ((smallE l a n).2.map encP) (smallE l a n).1 K k = k := fun k => by
    unfold fin9
    cases he : (smallE l a n).1 != 0 with
    | true => rfl
    | false =>
      obtain ⟨_, h0, h2, X, Z, hps, hX, hq, mX, mZ⟩ := small_ok (by simpa using he : (smallE l a n).1 = 0)
      have hl : l.length = X.length + 1 + Z.length := by rw [hps]; simp; omega
      have hma : may (X ++ [(1, n)] ++ Z) = true := go_may (by simp; omega) (by simp; omega) (mayGo_join mX (mayGo_small h0 h2) mZ)
      rw [hq, decP_map, cond_false, Option.bind_some, Nat.ble_eq_true_of_le (by simp; omega), hma]
      rfl
  have f2 : ∀ k, fin9 ((largeE l a n).2.map encP) (largeE l a n).1 K k = k := fun k => by
    unfold fin9
    cases he : (largeE l a n).1 != 0 with
    | true => rfl
    | false =>
      obtain ⟨_, h1, h4, X, Z, hps, hX, hq, mX, mZ⟩ := large_ok (by simpa using he : (largeE l a n).1 = 0)
      have ho := ownL_len h1
      have hl : l.length = X.length + n.toNat + Z.length := by rw [hps]; simp; omega
      have hma : may (X ++ ownL n ++ Z) = true := go_may (by simp [ho]; omega) (by simp [ho]; omega) (mayGo_join mX (mayGo_ownL h1 h4) mZ)
      rw [hq, decP_map, cond_false, Option.bind_some, Nat.ble_eq_true_of_le (by simp [ho]; omega), hma]
      rfl
  have f3 : fin9c ((dropE l a).2.map encP) (dropE l a).1 K = K (.bool true) [] := by
    unfold fin9c
    cases he : (dropE l a).1 != 0 with
    | true => rfl
    | false =>
      obtain ⟨_, X, p, F', Z, hps, hX, _, hq, mX, mZ⟩ := drop_ok (by simpa using he : (dropE l a).1 = 0)
      have hl : l.length = X.length + (p :: F').length + Z.length := by rw [hps]; simp; omega
      have hma : may (X ++ List.replicate (p :: F').length (0, 0) ++ Z) = true := go_may (by simp; omega) (by simp at hl ⊢; omega) (mayGo_join mX (mayGo_zeros _) mZ)
      rw [hq, decP_map, cond_false, Option.bind_some, Nat.ble_eq_true_of_le (by simp at hl ⊢; omega), hma]
      rfl
  rw [f1, f2, f3]
end Go.Ab
