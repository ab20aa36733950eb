/- ReapTwice.
What an object's room that is given back leaves: pages and words.
What may be may be behind an object that is given back.
heap.Free's result: what goes, what stays.
Of two objects that are given back the order does not matter.
The law ReapTwice. -/
import Derived.Test.YtkahninpodhcmaaDoorHgD
import Derived.Test.YtkahninpodhcmaaDoorHgC
import Derived.Test.YtkahninpodhcmaaDoorHgB
namespace Go.Ab
open Go
open Go.Proofs
noncomputable abbrev k4 : Cx := cxG Pr Tryd.f4 [(7, gAwake), (8, gFew), (12, gWhole), (13, gFree), (14, gHead), (15, gCountP), (16, gUsed), (17, gKept)]
set_option maxRecDepth 100000 in
theorem r4 (h : Hp) (ls : List Ls) (a b : Int) (β : Type) (K : CV → List (List CV) → Option β) : fnK k4 Tryd.f4 [cHp.enc h, cLss.enc ls, cI.enc a, cI.enc b] [] K =
 Option.bind (Option.bind (decI (encI (Hp.w h))) fun w =>
 Option.bind (decP (List.map encP (Hp.p h))) fun p =>
 Option.bind (decI (encI (Ls.a (Hp.f h)))) fun a =>
 Option.bind (decI (encI (Ls.b (Hp.f h)))) fun b =>
 Option.bind (decI (encI (Ls.c (Hp.f h)))) fun c =>
 Option.bind (decBs (encBs (Hp.c h))) fun d => some { w := w, p := p, f := { a := a, b := b, c := c }, c := d }) fun a_1 =>
 Option.bind (decLs (List.map encLs ls)) fun b_1 =>
 bif Nat.ble (List.length b_1) 9223372036854775807 then
 bif !fewV a_1 b_1 then K (CV.bool true) []
 else
 bif a == b then K (CV.bool true) []
 else
 Option.bind (Option.bind (decI (encI (Hp.w h))) fun w =>
 Option.bind (decP (List.map encP (Hp.p h))) fun p =>
 Option.bind (decI (encI (Ls.a (Hp.f h)))) fun a =>
 Option.bind (decI (encI (Ls.b (Hp.f h)))) fun b =>
 Option.bind (decI (encI (Ls.c (Hp.f h)))) fun c =>
 Option.bind (decBs (encBs (Hp.c h))) fun d => some { w := w, p := p, f := { a := a, b := b, c := c }, c := d }) fun a_2 =>
 Option.bind (decLs (List.map encLs ls)) fun b_2 =>
 bif smH a_2 && smLs (Hp.f a_2 :: b_2) then
 bif !wholeHV a_2 b_2 then K (CV.bool true) []
 else
 Option.bind (Option.bind (decI (encI (Hp.w h))) fun w =>
 Option.bind (decP (List.map encP (Hp.p h))) fun p =>
 Option.bind (decI (encI (Ls.a (Hp.f h)))) fun a =>
 Option.bind (decI (encI (Ls.b (Hp.f h)))) fun b =>
 Option.bind (decI (encI (Ls.c (Hp.f h)))) fun c =>
 Option.bind (decBs (encBs (Hp.c h))) fun d => some { w := w, p := p, f := { a := a, b := b, c := c }, c := d }) fun a_3 =>
 bif smH a_3 && smL1 (Hp.f a_3) then
 Option.bind (Option.bind (decI (encI (Hp.w h))) fun w =>
 Option.bind (decP (List.map encP (Hp.p h))) fun p =>
 Option.bind (decI (encI (Ls.a (Hp.f h)))) fun a =>
 Option.bind (decI (encI (Ls.b (Hp.f h)))) fun b =>
 Option.bind (decI (encI (Ls.c (Hp.f h)))) fun c =>
 Option.bind (decBs (encBs (Hp.c h))) fun d => some { w := w, p := p, f := { a := a, b := b, c := c }, c := d }) fun a_4 =>
 bif smH a_4 && smL1 (Hp.f a_4) then
 bif Prod.snd (freeHE a_3 a) != 0 then K (CV.bool true) []
 else
 bif Prod.snd (freeHE a_4 b) != 0 then K (CV.bool true) []
 else
 Option.bind (Option.bind (decI (encI (Hp.w (Prod.fst (freeHE a_3 a))))) fun w =>
 Option.bind (decP (List.map encP (Hp.p (Prod.fst (freeHE a_3 a))))) fun p =>
 Option.bind (decI (encI (Ls.a (Hp.f (Prod.fst (freeHE a_3 a)))))) fun a_5 =>
 Option.bind (decI (encI (Ls.b (Hp.f (Prod.fst (freeHE a_3 a)))))) fun b =>
 Option.bind (decI (encI (Ls.c (Hp.f (Prod.fst (freeHE a_3 a)))))) fun c =>
 Option.bind (decBs (encBs (Hp.c (Prod.fst (freeHE a_3 a))))) fun d => some { w := w, p := p, f := { a := a_5, b := b, c := c }, c := d }) fun a_5 =>
 bif smH a_5 && smL1 (Hp.f a_5) then
 Option.bind (Option.bind (decI (encI (Hp.w (Prod.fst (freeHE a_4 b))))) fun w =>
 Option.bind (decP (List.map encP (Hp.p (Prod.fst (freeHE a_4 b))))) fun p =>
 Option.bind (decI (encI (Ls.a (Hp.f (Prod.fst (freeHE a_4 b)))))) fun a =>
 Option.bind (decI (encI (Ls.b (Hp.f (Prod.fst (freeHE a_4 b)))))) fun b_3 =>
 Option.bind (decI (encI (Ls.c (Hp.f (Prod.fst (freeHE a_4 b)))))) fun c =>
 Option.bind (decBs (encBs (Hp.c (Prod.fst (freeHE a_4 b))))) fun d => some { w := w, p := p, f := { a := a, b := b_3, c := c }, c := d }) fun a_6 =>
 bif smH a_6 && smL1 (Hp.f a_6) then
 bif Prod.snd (freeHE a_5 b) != 0 then K (CV.bool false) []
 else
 bif Prod.snd (freeHE a_6 a) != 0 then K (CV.bool false) []
 else
 Option.bind (Option.bind (decI (encI (Hp.w (Prod.fst (freeHE a_5 b))))) fun w =>
 Option.bind (decP (List.map encP (Hp.p (Prod.fst (freeHE a_5 b))))) fun p =>
 Option.bind (decI (encI (Ls.a (Hp.f (Prod.fst (freeHE a_5 b)))))) fun a =>
 Option.bind (decI (encI (Ls.b (Hp.f (Prod.fst (freeHE a_5 b)))))) fun b_3 =>
 Option.bind (decI (encI (Ls.c (Hp.f (Prod.fst (freeHE a_5 b)))))) fun c =>
 Option.bind (decBs (encBs (Hp.c (Prod.fst (freeHE a_5 b))))) fun d => some { w := w, p := p, f := { a := a, b := b_3, c := c }, c := d }) fun a_7 =>
 bif smH a_7 && smLs [Hp.f a_7] then
 Option.bind (Option.bind (decI (encI (Hp.w (Prod.fst (freeHE a_5 b))))) fun w =>
 Option.bind (decP (List.map encP (Hp.p (Prod.fst (freeHE a_5 b))))) fun p =>
 Option.bind (decI (encI (Ls.a (Hp.f (Prod.fst (freeHE a_5 b)))))) fun a =>
 Option.bind (decI (encI (Ls.b (Hp.f (Prod.fst (freeHE a_5 b)))))) fun b_3 =>
 Option.bind (decI (encI (Ls.c (Hp.f (Prod.fst (freeHE a_5 b)))))) fun c =>
 Option.bind (decBs (encBs (Hp.c (Prod.fst (freeHE a_5 b))))) fun d => some { w := w, p := p, f := { a := a, b := b_3, c := c }, c := d }) fun a_8 =>
 bif smH a_8 && smLs [Hp.f a_8] then
 Option.bind (decP (List.map encP (Hp.p (Prod.fst (freeHE a_5 b))))) fun a_9 =>
 bif sm a_9 then
 Option.bind (decP (List.map encP (Hp.p (Prod.fst (freeHE a_6 a))))) fun a_10 =>
 bif sm a_10 then
 bif Prod.snd (headE a_7 a) == 3 then
 bif Prod.snd (headE a_8 b) == 3 then
 bif (↑(cnt a_9 0) : Int) == (↑(cnt a_10 0) : Int) then
 Option.bind (Option.bind (decI (encI (Hp.w (Prod.fst (freeHE a_5 b))))) fun w =>
 Option.bind (decP (List.map encP (Hp.p (Prod.fst (freeHE a_5 b))))) fun p =>
 Option.bind (decI (encI (Ls.a (Hp.f (Prod.fst (freeHE a_5 b)))))) fun a =>
 Option.bind (decI (encI (Ls.b (Hp.f (Prod.fst (freeHE a_5 b)))))) fun b_3 =>
 Option.bind (decI (encI (Ls.c (Hp.f (Prod.fst (freeHE a_5 b)))))) fun c =>
 Option.bind (decBs (encBs (Hp.c (Prod.fst (freeHE a_5 b))))) fun d => some { w := w, p := p, f := { a := a, b := b_3, c := c }, c := d }) fun a_11 =>
 bif smH a_11 && smLs [Hp.f a_11] then
 Option.bind (Option.bind (decI (encI (Hp.w (Prod.fst (freeHE a_6 a))))) fun w =>
 Option.bind (decP (List.map encP (Hp.p (Prod.fst (freeHE a_6 a))))) fun p =>
 Option.bind (decI (encI (Ls.a (Hp.f (Prod.fst (freeHE a_6 a)))))) fun a_12 =>
 Option.bind (decI (encI (Ls.b (Hp.f (Prod.fst (freeHE a_6 a)))))) fun b =>
 Option.bind (decI (encI (Ls.c (Hp.f (Prod.fst (freeHE a_6 a)))))) fun c =>
 Option.bind (decBs (encBs (Hp.c (Prod.fst (freeHE a_6 a))))) fun d => some { w := w, p := p, f := { a := a_12, b := b, c := c }, c := d }) fun a_12 =>
 bif smH a_12 && smLs [Hp.f a_12] then
 bif (↑(List.length (encI (usedE a_11))) : Int) == (↑(List.length (encI (usedE a_12))) : Int) then
 Option.bind (Option.bind (decI (encI (Hp.w (Prod.fst (freeHE a_5 b))))) fun w =>
 Option.bind (decP (List.map encP (Hp.p (Prod.fst (freeHE a_5 b))))) fun p =>
 Option.bind (decI (encI (Ls.a (Hp.f (Prod.fst (freeHE a_5 b)))))) fun a =>
 Option.bind (decI (encI (Ls.b (Hp.f (Prod.fst (freeHE a_5 b)))))) fun b_3 =>
 Option.bind (decI (encI (Ls.c (Hp.f (Prod.fst (freeHE a_5 b)))))) fun c =>
 Option.bind (decBs (encBs (Hp.c (Prod.fst (freeHE a_5 b))))) fun d => some { w := w, p := p, f := { a := a, b := b_3, c := c }, c := d }) fun a_13 =>
 Option.bind (Option.bind (decI (encI (Hp.w (Prod.fst (freeHE a_6 a))))) fun w =>
 Option.bind (decP (List.map encP (Hp.p (Prod.fst (freeHE a_6 a))))) fun p =>
 Option.bind (decI (encI (Ls.a (Hp.f (Prod.fst (freeHE a_6 a)))))) fun a_14 =>
 Option.bind (decI (encI (Ls.b (Hp.f (Prod.fst (freeHE a_6 a)))))) fun b =>
 Option.bind (decI (encI (Ls.c (Hp.f (Prod.fst (freeHE a_6 a)))))) fun c =>
 Option.bind (decBs (encBs (Hp.c (Prod.fst (freeHE a_6 a))))) fun d => some { w := w, p := p, f := { a := a_14, b := b, c := c }, c := d }) fun b =>
 bif smH a_13 && smLs [Hp.f a_13] && smH b then
 K (CV.bool (keptV a_13 b 0)) []
 else none
 else K (CV.bool false) []
 else none
 else none
 else K (CV.bool false) []
 else K (CV.bool false) []
 else K (CV.bool false) []
 else none
 else none
 else none
 else none
 else none
 else none
 else none
 else none
 else none
 else none := by kernel_rfl

end Go.Ab

namespace Go.Ab
open Go
open Go.Proofs
theorem eat_tails : ∀ (k : Nat) (ps rest : List Pg), eat k ps = some rest → ∀ j, j < k → ps[j]? = some (3, 0)
  | 0, _, _, _, _, h => absurd h (by omega)
  | _ + 1, [], _, e, _, _ => by cases e
  | k + 1, (x, y) :: ps, rest, e, j, h => by
    have e : cond (x == 3 && (y == 0 && true)) (eat k ps) none = some rest := e
    cases hq : (x == 3 && (y == 0 && true)) with
    | false => rw [hq] at e; cases e
    | true =>
      rw [hq] at e
      simp only [Bool.and_eq_true, beq_iff_eq, and_true] at hq
      cases j with
      | zero => rw [hq.1, hq.2]; rfl
      | succ j => simpa using eat_tails k ps rest e j (by omega)
/-- A large one's pages, and what is left where they are dropped. -/
theorem large_drop {ps : List Pg} {i : Nat} {n : Int} (hm : may ps = true) (hi : ps[i]? = some (2, n)) : 1 ≤ n ∧ i + n.toNat ≤ ps.length ∧ (∀ j, i < j → j < i + n.toNat → ps[j]? = some (3, 0)) ∧
    (dropE ps (i : Int)).2.length = ps.length ∧ may (dropE ps (i : Int)).2 = true ∧ ∀ j, (dropE ps (i : Int)).2[j]? = if i ≤ j ∧ j < i + n.toNat then some (0, 0) else ps[j]? := by
  obtain ⟨b1, b4, hlen⟩ := may_run hm hi
  have h0 := may_go0 hm
  obtain ⟨_, _, rest, he, hr⟩ := mayGo_at h0 hi
  obtain ⟨hr1, hr2⟩ := eat_len _ _ _ he
  have ht := eat_tails _ _ _ he
  obtain ⟨hlt, hg⟩ := List.getElem?_eq_some_iff.1 hi
  have htail : ∀ j, i < j → j < i + n.toNat → ps[j]? = some (3, 0) := fun j h1 h2 => by
    have := ht (j - (i + 1)) (by omega)
    rw [List.getElem?_drop, show i + 1 + (j - (i + 1)) = j by omega] at this
    exact this
  have hXl : (ps.take i).length = i := by simp; omega
  have hZ : rest = ps.drop (i + n.toNat) := by
    rw [hr1, List.drop_drop]
    congr 1; omega
  have hY : ps.drop i = (2, n) :: ps.drop (i + 1) := by
    rw [List.drop_eq_getElem_cons hlt, hg]
  have hYs : (ps.drop i).take n.toNat = (2, n) :: (ps.drop (i + 1)).take (n.toNat - 1) := by
    rw [hY, show n.toNat = (n.toNat - 1) + 1 by omega]
    rfl
  have hYl : ((ps.drop i).take n.toNat).length = n.toNat := by simp; omega
  have e1 : ps = ps.take i ++ (ps.drop i).take n.toNat ++ ps.drop (i + n.toNat) := by
    rw [List.append_assoc, ← List.drop_drop, List.take_append_drop, List.take_append_drop]
  have h1 := drop_parts (X := ps.take i) (Y := (ps.drop i).take n.toNat) (Z := ps.drop (i + n.toNat)) (p := (2, n)) hYs (.inr rfl) (by rw [hYl]; show n = _; omega) (by rw [← e1]; exact hm)
  rw [← e1, hXl, hYl] at h1
  have hX : mayGo 0 (ps.take i) = some 0 := by
    have e2 : ps = ps.take i ++ (2, n) :: ps.drop (i + 1) := by rw [← hY, List.take_append_drop]
    rw [e2, mayGo_append] at h0
    replace h0 := bind_some' h0
    obtain ⟨r1, h0, h2⟩ := h0
    have h3 : (cond (!(cond (decide (n ≥ 1)) (decide (n ≤ 4)) false)) none (cond (decide (r1 > 0)) none (mayGo (n - 1) (ps.drop (i + 1))))) = some 0 := h2
    have hr1 : ¬ r1 > 0 := fun hq => by
      rw [decide_eq_true hq] at h3
      cases hq2 : (!(cond (decide (n ≥ 1)) (decide (n ≤ 4)) false)) with
      | true => rw [hq2] at h3; cases h3
      | false => rw [hq2] at h3; cases h3
    have := mayGo_nonneg (Int.le_refl 0) h0
    have : r1 = 0 := by omega
    subst this
    exact h0
  obtain ⟨l1, l2⟩ := may_len hm
  have hdl : (ps.take i ++ List.replicate n.toNat (0, 0) ++ ps.drop (i + n.toNat)).length = ps.length := by simp; omega
  refine ⟨b1, hlen, htail, ?_, ?_, fun j => ?_⟩
  · rw [h1]; exact hdl
  · rw [h1]
    refine go_may (by rw [hdl]; exact l1) (by rw [hdl]; exact l2) ?_
    exact mayGo_join hX (mayGo_zeros _) (by rw [← hZ]; exact hr)
  · rw [h1]
    show (ps.take i ++ List.replicate n.toNat (0, 0) ++ ps.drop (i + n.toNat))[j]? = _
    by_cases g1 : j < i
    · rw [if_neg (by omega), List.append_assoc, List.getElem?_append_left (by omega), List.getElem?_take_of_lt g1]
    · by_cases g2 : j < i + n.toNat
      · rw [if_pos ⟨by omega, g2⟩, List.getElem?_append_left (by simp; omega), List.getElem?_append_right (by omega), List.getElem?_replicate, if_pos (by omega)]
      · rw [if_neg (by omega), List.getElem?_append_right (by simp; omega), List.getElem?_drop]
        congr 1
        simp; omega
/-- Two cells lie apart. -/
theorem cells_apart {ps : List Pg} {a e : Int} (ha : roomA ps a > 0) (he : roomA ps e > 0) (hne : e ≠ a) : e < a ∨ a + roomA ps a ≤ e := by
  obtain ⟨hm, a1, a2, a3, p, a4, _, a6⟩ := cell_facts ha
  obtain ⟨_, e1, e2, e3, q, e4, _, e6⟩ := cell_facts he
  rcases a6 with ⟨k2, k3, k4, k5, k6, k7⟩ | ⟨k1, k2, k3, k4, k5⟩
  · obtain ⟨p1, n⟩ := p
    have k2 : p1 = 2 := k2
    subst k2
    obtain ⟨_, _, ht, _⟩ := large_drop hm a4
    by_cases h1 : e < a
    · exact .inl h1
    · by_cases h2 : a + roomA ps a ≤ e
      · exact .inr h2
      · exfalso
        rw [k4] at h2
        have k4' : roomA ps a = 16 * n := k4
        by_cases h3 : (e / 16 - 1).toNat = (a / 16 - 1).toNat
        · rw [h3, a4] at e4
          injection e4 with e4
          subst e4
          rcases e6 with ⟨_, g, _⟩ | ⟨g, _⟩
          · omega
          · cases g
        · have h2' : ¬ a + 16 * n ≤ e := h2
          have := ht (e / 16 - 1).toNat (by omega) (by omega)
          rw [e4] at this
          injection this with this
          subst this
          rcases e6 with ⟨g, _⟩ | ⟨g, _⟩ <;> cases g
  · by_cases h1 : e < a
    · exact .inl h1
    · right
      rw [k5]
      by_cases h3 : (e / 16 - 1).toNat = (a / 16 - 1).toNat
      · rw [h3, a4] at e4
        injection e4 with e4
        subst e4
        rcases e6 with ⟨g, _⟩ | ⟨_, _, _, g, _⟩
        · rw [k1] at g; cases g
        · rcases words_val k2 k3 with ⟨_, w⟩ | ⟨_, w⟩ | ⟨_, w⟩ <;> rw [w] at k4 g ⊢ <;> omega
      · rcases words_val k2 k3 with ⟨_, w⟩ | ⟨_, w⟩ | ⟨_, w⟩ <;> rw [w] at k4 ⊢ <;> omega
theorem zero_len {w : List Int} {a n : Int} (h16 : 16 ≤ a) (hn : 0 ≤ n) (hl : a - 16 + n ≤ (w.length : Int)) : (zeroW w a n).length = w.length := by
  unfold zeroW
  exact splice_len _ _ _ (by simp; omega)
theorem zero_get' {w : List Int} {a n : Int} (h16 : 16 ≤ a) (hn : 0 ≤ n) (hl : a - 16 + n ≤ (w.length : Int)) (j : Nat) : (zeroW w a n)[j]? = if (a - 16 ≤ (j : Int) ∧ (j : Int) < a - 16 + n) then some 0 else w[j]? := by
  unfold zeroW splice
  rw [List.length_replicate]
  have ht : (w.take (a - 16).toNat).length = (a - 16).toNat := by simp; omega
  by_cases g1 : j < (a - 16).toNat
  · rw [if_neg (by omega), List.append_assoc, List.getElem?_append_left (by omega), List.getElem?_take_of_lt g1]
  · by_cases g2 : j < (a - 16).toNat + n.toNat
    · rw [if_pos (by omega), List.getElem?_append_left (by simp; omega), List.getElem?_append_right (by omega), List.getElem?_replicate, if_pos (by omega)]
    · rw [if_neg (by omega), List.getElem?_append_right (by simp; omega), List.getElem?_drop]
      congr 1
      simp; omega
end Go.Ab

namespace Go.Ab
open Go
open Go.Proofs
abbrev zeroH (h : Hp) (a : Int) : Hp := { h with w := zeroW h.w a (roomA h.p a) }
/-- Lists of one cell of a class. -/
def oneL (c a : Int) : Ls := (⟨[], [], []⟩ : Ls).set [a] c.toNat
theorem oneL_get {c a : Int} (h0 : 0 ≤ c) (h2 : c ≤ 2) {k : Nat} (hk : k < 3) : (oneL c a).get k = if (k : Int) = c then [a] else [] := by
  unfold oneL
  rw [get_set hk (by omega)]
  by_cases h : k = c.toNat
  · rw [if_pos h, if_pos (by omega)]
  · rw [if_neg h, if_neg (by omega)]
    have : k = 0 ∨ k = 1 ∨ k = 2 := by omega
    rcases this with rfl | rfl | rfl <;> rfl
theorem push_one (l : Ls) {c : Int} (a : Int) (h0 : 0 ≤ c) (h2 : c ≤ 2) : pushL l c [a] = app3 l (oneL c a) := by
  have : c = 0 ∨ c = 1 ∨ c = 2 := by omega
  rcases this with rfl | rfl | rfl <;> simp [pushL, app3, oneL, Ls.set, Ls.get]
theorem shaped_w {h : Hp} (hs : shapedE h = true) : h.w.length = 16 * h.p.length := by
  simp only [shapedE, Bool.and_eq_true] at hs
  exact Nat.eq_of_beq_eq_true hs.2.2.1
theorem zero_in {h : Hp} {a : Int} (hs : shapedE h = true) (hr : roomA h.p a > 0) : 16 ≤ a ∧ 0 ≤ roomA h.p a ∧ a - 16 + roomA h.p a ≤ (h.w.length : Int) := by
  have h1 := (room_in hr).1
  have h2 := cell_end hr
  have h3 := shaped_w hs
  omega
theorem word_zero {h : Hp} {a : Int} (hs : shapedE h = true) (hr : roomA h.p a > 0) {e : Int} (h16 : 16 ≤ e) : wordE (zeroH h a) e = if a ≤ e ∧ e < a + roomA h.p a then 0 else wordE h e := by
  obtain ⟨z1, z2, z3⟩ := zero_in hs hr
  unfold wordE
  rw [List.getD_eq_getElem?_getD, List.getD_eq_getElem?_getD]
  show ((zeroW h.w a (roomA h.p a))[(e - 16).toNat]?).getD 0 = _
  rw [zero_get' z1 z2 z3]
  by_cases g : a ≤ e ∧ e < a + roomA h.p a
  · rw [if_pos g, if_pos (by omega)]; rfl
  · rw [if_neg g, if_neg (by omega)]
theorem word_keep {h : Hp} {a e : Int} (hs : shapedE h = true) (hr : roomA h.p a > 0) (he : roomA h.p e > 0) (hne : e ≠ a) : wordE (zeroH h a) e = wordE h e := by
  rw [word_zero hs hr (room_in he).1, if_neg]
  intro g
  rcases cells_apart hr he hne with g2 | g2 <;> omega
theorem word_gone {h : Hp} {a : Int} (hs : shapedE h = true) (hr : roomA h.p a > 0) : wordE (zeroH h a) a = 0 := by
  rw [word_zero hs hr (room_in hr).1, if_pos (by omega)]
theorem cell_mem {ps : List Pg} {e : Int} : e ∈ cellAs ps ↔ roomA ps e > 0 := by
  have h1 := room_pos ps e
  constructor
  · intro h
    rw [decide_eq_true (show e ∈ (allCs ps).map (·.1) from h)] at h1
    exact of_decide_eq_true h1
  · intro h
    rw [decide_eq_true h] at h1
    exact of_decide_eq_true h1.symm
theorem shaped_zero {h : Hp} {a : Int} (hs : shapedE h = true) (hr : roomA h.p a > 0) : shapedE (zeroH h a) = true := by
  obtain ⟨z1, z2, z3⟩ := zero_in hs hr
  have hl := zero_len (w := h.w) z1 z2 z3
  unfold shapedE at hs ⊢
  show (mayA (zeroW h.w a (roomA h.p a)).length && (may h.p && (Nat.beq (zeroW h.w a (roomA h.p a)).length (16 * h.p.length) && Nat.beq h.c.length ((zeroW h.w a (roomA h.p a)).length / 8)))) = true
  rw [hl]; exact hs
theorem MayF.zero {h : Hp} {ls : List Ls} (hm : MayF h ls) {a c : Int} (hr : roomA h.p a > 0) (hp : pageE h a = (1, c)) (hc0 : 0 ≤ c) (hc2 : c ≤ 2) (hw : wordE h a ≠ 0) : MayF (zeroH h a) (oneL c a :: ls) := by
  have hk : ∀ k : Nat, k < 3 → ∀ l ∈ h.f :: ls, ∀ e ∈ l.get k, e ≠ a := fun k hk l hl e he h1 => by
    subst h1
    exact hw (listV_facts (listed_iff.1 (hm.li l hl) k hk e he)).2.2
  have hlv : ∀ l ∈ h.f :: ls, listedV (zeroH h a) l = true := fun l hl => listed_iff.2 fun k hk' e he => by
    have h1 := listed_iff.1 (hm.li l hl) k hk' e he
    have h2 := word_keep hm.sh hr (listV_facts h1).1 (hk k hk' l hl e he)
    unfold listV at h1 ⊢
    rw [h2]; exact h1
  refine ⟨shaped_zero hm.sh hr, fun l hl => ?_, fun e he => ?_, ?_⟩
  · rcases List.mem_cons.1 hl with rfl | hl
    · exact hlv h.f (by simp)
    · rcases List.mem_cons.1 hl with rfl | hl
      · refine listed_iff.2 fun k hk' e he => ?_
        rw [oneL_get hc0 hc2 hk'] at he
        by_cases hkc : (k : Int) = c
        · rw [if_pos hkc] at he
          have he := List.mem_singleton.1 he
          subst he
          unfold listV
          rw [word_gone hm.sh hr]
          show (decide (roomA h.p e > 0) && (((pageE h e).1 == 1 && (pageE h e).2 == (k : Int)) && (0 : Int) == 0)) = true
          rw [decide_eq_true hr, hp, hkc]
          simp
        · rw [if_neg hkc] at he; cases he
      · exact hlv l (by simp [hl])
  · have he' : roomA h.p e > 0 := cell_mem.1 he
    by_cases h1 : e = a
    · subst h1
      unfold mayV
      rw [word_gone hm.sh hr]
      show (unpOK 0 && bif (unp 0).a then fitsE (pageE h e) (unp 0).x else (pageE h e).1 == 1) = true
      rw [hp]; rfl
    · have := hm.ce e (cell_mem.2 he')
      unfold mayV at this ⊢
      rw [word_keep hm.sh hr he' h1]; exact this
  · have hnd := hm.nd
    rw [catI_cons] at hnd
    show (catI (h.f :: oneL c a :: ls)).Nodup
    rw [catI_cons, catI_cons]
    have ho : one3 (oneL c a) = [a] := by
      have : c = 0 ∨ c = 1 ∨ c = 2 := by omega
      rcases this with rfl | rfl | rfl <;> rfl
    rw [ho]
    have hp2 : (one3 h.f ++ ([a] ++ catI ls)).Perm ([a] ++ (one3 h.f ++ catI ls)) := swp _ _ _
    rw [hp2.nodup_iff, List.singleton_append, List.nodup_cons]
    refine ⟨fun hin => ?_, hnd⟩
    rcases List.mem_append.1 hin with hin | hin
    · obtain ⟨k, hk', he⟩ := one3_mem.1 hin
      exact hk k hk' h.f (by simp) a he rfl
    · obtain ⟨l, hl, he⟩ := List.mem_flatMap.1 hin
      obtain ⟨k, hk', he⟩ := one3_mem.1 he
      exact hk k hk' l (by simp [hl]) a he rfl
theorem MayF.absorb {h : Hp} {a : Ls} {ls : List Ls} (hm : MayF h (a :: ls)) : MayF (addF h a) ls := by
  refine ⟨hm.sh, fun l hl => ?_, hm.ce, ?_⟩
  · rcases List.mem_cons.1 hl with rfl | hl
    · refine listed_iff.2 fun k hk e he => ?_
      have he : e ∈ (app3 h.f a).get k := he
      rw [app3_get] at he
      rcases List.mem_append.1 he with h1 | h1
      · exact listed_iff.1 (hm.li h.f (by simp)) k hk e h1
      · exact listed_iff.1 (hm.li a (by simp)) k hk e h1
    · exact hm.li l (by simp [hl])
  · have hnd := hm.nd
    rw [catI_cons, catI_cons, ← List.append_assoc] at hnd
    show (catI (app3 h.f a :: ls)).Nodup
    rw [catI_cons]
    exact ((one3_app h.f a).append_right (catI ls)).nodup_iff.2 hnd
def Ls.e : Ls := ⟨[], [], []⟩
theorem MayF.nil {h : Hp} {ls : List Ls} (hm : MayF h ls) : MayF h (Ls.e :: ls) := by
  refine ⟨hm.sh, fun l hl => ?_, hm.ce, ?_⟩
  · rcases List.mem_cons.1 hl with rfl | hl
    · exact hm.li _ (by simp)
    · rcases List.mem_cons.1 hl with rfl | hl
      · rfl
      · exact hm.li l (by simp [hl])
  · have hnd := hm.nd
    rw [catI_cons] at hnd ⊢
    exact hnd
theorem addF_nil (h : Hp) : addF h Ls.e = h := by
  obtain ⟨w, p, ⟨a, b, c⟩, d⟩ := h
  simp [addF, app3, Ls.e]
theorem MayF.alone0 {h : Hp} {ls : List Ls} (hm : MayF h ls) {l : Ls} (hl : l ∈ ls) {k : Nat} (hk : k < 3) {e : Int} (he : e ∈ l.get k) {j : Nat} (hj : e / 16 - 1 = (j : Int)) : hitE h j = false := by
  have := hm.nil.alone hl hk he hj
  rwa [addF_nil] at this
/-- Pages that are given back, and the cells on them. -/
structure Gone (h x : Hp) (D : Nat → Bool) : Prop where
  w : x.w = h.w
  c : x.c = h.c
  m : may x.p = true
  l : x.p.length = h.p.length
  p : ∀ j, x.p[j]? = if D j = true then some (0, 0) else h.p[j]?
  f : ∀ k, k < 3 → x.f.get k = (h.f.get k).filter fun e => !D (e / 16 - 1).toNat
theorem Gone.same {h x : Hp} {D : Nat → Bool} (g : Gone h x D) (hm : may h.p = true) {e : Int} (hd : D (e / 16 - 1).toNat = false) : roomA x.p e = roomA h.p e ∧ pageE x e = pageE h e ∧ wordE x e = wordE h e :=
  same_at g.w g.l (by rw [g.m, hm]) (by rw [g.p, if_neg (by rw [hd]; simp)])
theorem Gone.cell {h x : Hp} {D : Nat → Bool} (g : Gone h x D) {e : Int} (he : roomA x.p e > 0) : D (e / 16 - 1).toNat = false := by
  cases hd : D (e / 16 - 1).toNat with
  | false => rfl
  | true =>
    obtain ⟨_, _, _, _, p, g4, _, g6⟩ := cell_facts he
    rw [g.p, if_pos hd] at g4
    cases g4
    rcases g6 with ⟨k2, _⟩ | ⟨k1, _⟩
    · cases k2
    · cases k1
theorem MayF.gone {h x : Hp} {D : Nat → Bool} {ls : List Ls} (hm : MayF h ls) (g : Gone h x D) (hal : ∀ l ∈ ls, ∀ k, k < 3 → ∀ e ∈ l.get k, D (e / 16 - 1).toNat = false) : MayF x ls := by
  obtain ⟨q1, _, _⟩ := shaped_ne hm.sh
  have hlist : ∀ (k : Nat) (e : Int), listV h k e = true → D (e / 16 - 1).toNat = false → listV x k e = true := fun k e hl hd => by
    obtain ⟨r1, r2, r3⟩ := g.same q1 hd
    unfold listV at hl ⊢
    rw [r1, r2, r3]; exact hl
  refine ⟨?_, fun l hl => listed_iff.2 fun k hk e he => ?_, fun c hc => ?_, ?_⟩
  · have h1 := hm.sh
    unfold shapedE at h1 ⊢
    rw [g.w, g.c, g.l, g.m]
    rw [q1] at h1; exact h1
  · rcases List.mem_cons.1 hl with rfl | hl
    · rw [g.f k hk] at he
      obtain ⟨h1, h2⟩ := List.mem_filter.1 he
      exact hlist k e (listed_iff.1 (hm.li h.f (by simp)) k hk e h1) (by simpa using h2)
    · exact hlist k e (listed_iff.1 (hm.li l (by simp [hl])) k hk e he) (hal l hl k hk e he)
  · have h1 := cell_mem.1 hc
    have hd := g.cell h1
    obtain ⟨r1, r2, r3⟩ := g.same q1 hd
    have := hm.ce c (cell_mem.2 (by rw [← r1]; exact h1))
    unfold mayV at this ⊢
    rw [r2, r3]; exact this
  · have hnd := hm.nd
    rw [catI_cons] at hnd ⊢
    have hg : ∀ k, k < 3 → (x.f.get k).Sublist (h.f.get k) := fun k hk => by
      rw [g.f k hk]; exact List.filter_sublist
    have hsub : (one3 x.f).Sublist (one3 h.f) := ((hg 0 (by omega)).append (hg 1 (by omega))).append (hg 2 (by omega))
    exact hnd.sublist (hsub.append (List.Sublist.refl _))
theorem back_gone {h : Hp} {ls : List Ls} (hm : MayF h ls) (hk : okW h = true) (i : Nat) : Gone h (backH h i) (fun j => Nat.beq j i && hitE h i) := by
  obtain ⟨b1, b2⟩ := back_ok hk i
  have hmx : may (backH h i).p = true := by
    simp only [okW, Bool.and_eq_true] at b1
    exact b1.1
  cases hh : hitE h i with
  | false =>
    have e : backH h i = h := by unfold backH; rw [hh]; rfl
    rw [e] at hmx ⊢
    refine ⟨rfl, rfl, hmx, rfl, fun j => by simp, fun k _ => ?_⟩
    rw [List.filter_eq_self.2]
    intro x _
    simp
  | true =>
    have e : backH h i = { h with p := h.p.set i (0, 0), f := partL h.f (h.p.getD i (0, 0)).2 (loE i) (loE i + 16) } := by unfold backH; rw [hh]; rfl
    obtain ⟨c, hc, _⟩ := hit_small hh
    simp only [okW, Bool.and_eq_true] at hk
    obtain ⟨_, _, q3⟩ := small_drop hk.1 hc
    have hc3 : c.toNat < 3 := by rcases isC_cases q3 with rfl | rfl | rfl <;> decide
    have hcn : 0 ≤ c := by rcases isC_cases q3 with rfl | rfl | rfl <;> decide
    have hgd : h.p.getD i (0, 0) = (1, c) := by rw [List.getD_eq_getElem?_getD, hc]; rfl
    refine ⟨by rw [e], by rw [e], hmx, b2, fun j => ?_, fun k hk => ?_⟩
    · rw [e]
      show (h.p.set i (0, 0))[j]? = _
      rw [List.getElem?_set]
      by_cases hj : i = j
      · subst hj
        rw [if_pos rfl, if_pos (List.getElem?_eq_some_iff.1 hc).1, if_pos (by simp)]
      · rw [if_neg hj, if_neg]
        simp only [Bool.and_true, Nat.beq_eq]
        exact fun q => hj q.symm
    · rw [e]
      show (partL h.f (h.p.getD i (0, 0)).2 (loE i) (loE i + 16)).get k = _
      rw [hgd]
      unfold partL
      rw [get_set hk hc3]
      by_cases hkc : k = c.toNat
      · rw [if_pos hkc, ← hkc]
        refine List.filter_congr fun x hx => ?_
        have := listed_iff.1 (hm.li h.f (by simp)) k hk x hx
        obtain ⟨j, hj, _⟩ := listV_at this
        have h1 : (inR (loE i) (loE i + 16) x = true) ↔ (Nat.beq (x / 16 - 1).toNat i && true) = true := by
          rw [inR_iff]
          simp only [Bool.and_true, Nat.beq_eq]
          omega
        rw [Bool.eq_iff_iff.2 h1]
      · rw [if_neg hkc, List.filter_eq_self.2]
        intro x hx
        have := listed_iff.1 (hm.li h.f (by simp)) k hk x hx
        obtain ⟨j, hj, hp, _⟩ := listV_at this
        simp only [Bool.and_true, Bool.not_eq_true', ← Bool.not_eq_true, Nat.beq_eq]
        intro hq
        have : j = i := by omega
        subst this
        rw [hc] at hp
        injection hp with hp
        have := (Prod.mk.inj hp).2
        omega
theorem large_gone {h : Hp} {ls : List Ls} (hm : MayF h ls) {i : Nat} {n : Int} (hi : h.p[i]? = some (2, n)) : Gone h { h with p := (dropE h.p (i : Int)).2 } (fun j => decide (i ≤ j) && decide (j < i + n.toNat)) := by
  obtain ⟨q1, _, _⟩ := shaped_ne hm.sh
  obtain ⟨n1, _, ht, hl, hmx, hp⟩ := large_drop q1 hi
  refine ⟨rfl, rfl, hmx, hl, fun j => ?_, fun k hk => ?_⟩
  · refine (hp j).trans ?_
    by_cases hj : i ≤ j ∧ j < i + n.toNat
    · rw [if_pos hj, if_pos (by simp [hj])]
    · rw [if_neg hj, if_neg (by simpa using hj)]
  · show h.f.get k = _
    rw [List.filter_eq_self.2]
    intro x hx
    obtain ⟨j, hj, hpj, _⟩ := listV_at (listed_iff.1 (hm.li h.f (by simp)) k hk x hx)
    rw [show (x / 16 - 1).toNat = j by omega]
    by_cases g : i ≤ j ∧ j < i + n.toNat
    · exfalso
      by_cases hij : i = j
      · subst hij; rw [hi] at hpj; cases hpj
      · rw [ht j (by omega) g.2] at hpj; cases hpj
    · rw [Bool.not_eq_true', Bool.and_eq_false_iff, decide_eq_false_iff_not, decide_eq_false_iff_not]
      omega
theorem MayF.words {x : Hp} {ls : List Ls} (hm : MayF x ls) {w : List Int} (hl : w.length = x.w.length) (hw : ∀ e, roomA x.p e > 0 → wordE { x with w := w } e = wordE x e) : MayF { x with w := w } ls := by
  refine ⟨?_, fun l hl => listed_iff.2 fun k hk e he => ?_, fun e he => ?_, hm.nd⟩
  · have := hm.sh
    unfold shapedE at this ⊢
    show (mayA w.length && (may x.p && (Nat.beq w.length (16 * x.p.length) && Nat.beq x.c.length (w.length / 8)))) = true
    rw [hl]; exact this
  · have h1 := listed_iff.1 (hm.li l hl) k hk e he
    have := hw e (listV_facts h1).1
    unfold listV at h1 ⊢
    rw [this]; exact h1
  · have h1 := hm.ce e he
    have := hw e (cell_mem.1 he)
    unfold mayV at h1 ⊢
    rw [this]; exact h1
end Go.Ab

namespace Go.Ab
open Go
open Go.Proofs
/-- An object: a cell whose word is not nought. -/
structure Obj (h : Hp) (a : Int) : Prop where
  r : roomA h.p a > 0
  u : (unpX h a).a = true
theorem unp_zero : (bif unpOK 0 then unp 0 else Hd.z0).a = false := by rfl
theorem Obj.w {h : Hp} {a : Int} (o : Obj h a) : wordE h a ≠ 0 := fun e => by
  have := o.u
  unfold unpX at this
  rw [e, unp_zero] at this
  cases this
abbrev pgN (a : Int) : Nat := (a / 16 - 1).toNat
/-- The lists, with a small one's cell. -/
def freeL (h : Hp) (a : Int) : Ls := bif (pageE h a).1 == 2 then h.f else app3 h.f (oneL (pageE h a).2 a)
/-- The pages that go with an object. -/
def freeD (h : Hp) (a : Int) (j : Nat) : Bool := bif (pageE h a).1 == 2 then decide (pgN a ≤ j) && decide (j < pgN a + (pageE h a).2.toNat) else Nat.beq j (pgN a) && hitE (addF h (oneL (pageE h a).2 a)) (pgN a)
theorem freeL_len (h : Hp) (a : Int) {k : Nat} (hk : k < 3) : ((freeL h a).get k).length ≤ (h.f.get k).length + 1 := by
  unfold freeL
  cases (pageE h a).1 == 2 with
  | true => show (h.f.get k).length ≤ _; omega
  | false =>
    show ((app3 h.f (oneL (pageE h a).2 a)).get k).length ≤ _
    rw [app3_get, List.length_append]
    have : ((oneL (pageE h a).2 a).get k).length ≤ 1 := by
      unfold oneL
      match (pageE h a).2.toNat with
      | 0 => match k with
        | 0 => exact Nat.le_refl _
        | 1 => exact Nat.zero_le _
        | _ + 2 => exact Nat.zero_le _
      | 1 => match k with
        | 0 => exact Nat.zero_le _
        | 1 => exact Nat.le_refl _
        | _ + 2 => exact Nat.zero_le _
      | _ + 2 => match k with
        | 0 => exact Nat.zero_le _
        | 1 => exact Nat.zero_le _
        | _ + 2 => exact Nat.le_refl _
    omega
/-- An object's page. -/
theorem obj_page {h : Hp} {a : Int} (hr : roomA h.p a > 0) : ((pgN a : Nat) : Int) = a / 16 - 1 ∧ h.p[pgN a]? = some (pageE h a) ∧ ((∃ n, pageE h a = (2, n)) ∨ ∃ c, pageE h a = (1, c) ∧ 0 ≤ c ∧ c ≤ 2) := by
  obtain ⟨_, _, _, h3, p, h4, h5, h6⟩ := cell_facts hr
  have hp : pageE h a = p := h5
  refine ⟨h3, by rw [hp]; exact h4, ?_⟩
  obtain ⟨x, y⟩ := p
  rcases h6 with ⟨k1, _⟩ | ⟨k1, k2, k3, _⟩
  · have k1 : x = 2 := k1
    exact .inl ⟨y, by rw [hp, k1]⟩
  · have k1 : x = 1 := k1
    exact .inr ⟨y, by rw [hp, k1], k2, k3⟩
theorem free_fin {h : Hp} {ls : List Ls} (hm : MayF h ls) {a : Int} (ho : Obj h a) (hs : smL (freeL h a) = true) :
    MayF (freeH h a) ls ∧ (freeH h a).w = zeroW h.w a (roomA h.p a) ∧ (freeH h a).c = h.c ∧ (freeH h a).p.length = h.p.length ∧ may (freeH h a).p = true ∧
    (∀ j, (freeH h a).p[j]? = if freeD h a j = true then some (0, 0) else h.p[j]?) ∧ (∀ k, k < 3 → (freeH h a).f.get k = ((freeL h a).get k).filter fun e => !freeD h a (pgN e)) ∧
    ∀ e, roomA (freeH h a).p e > 0 → e ≠ a → roomA h.p e > 0 ∧ freeD h a (pgN e) = false := by
  obtain ⟨p1, p2, p3⟩ := obj_page ho.r
  obtain ⟨z1, z2, z3⟩ := zero_in hm.sh ho.r
  have hzl := zero_len (w := h.w) z1 z2 z3
  obtain ⟨q1, _, _⟩ := shaped_ne hm.sh
  rcases p3 with ⟨n, hn⟩ | ⟨c, hc, c0, c2⟩
  · have e2 : (pageE h a).1 == 2 := by rw [hn]; rfl
    have ex : freeH h a = { h with w := zeroW h.w a (roomA h.p a), p := (dropE h.p ((pgN a : Nat) : Int)).2 } := by unfold freeH; rw [e2]; rfl
    have eL : freeL h a = h.f := by unfold freeL; rw [e2]; rfl
    have eD : ∀ j, freeD h a j = (decide (pgN a ≤ j) && decide (j < pgN a + n.toNat)) := fun j => by unfold freeD; rw [e2, hn]; rfl
    rw [hn] at p2
    have g := large_gone hm p2
    obtain ⟨n1, n2, ht, _⟩ := large_drop q1 p2
    have hm1 : MayF { h with p := (dropE h.p ((pgN a : Nat) : Int)).2 } ls := hm.gone g fun l hl k hk e he => by
      obtain ⟨j, hj, hpj, _⟩ := listV_at (listed_iff.1 (hm.li l (by simp [hl])) k hk e he)
      rw [show (e / 16 - 1).toNat = j by omega, Bool.and_eq_false_iff, decide_eq_false_iff_not, decide_eq_false_iff_not]
      by_cases gg : pgN a ≤ j ∧ j < pgN a + n.toNat
      · exfalso
        by_cases hij : pgN a = j
        · rw [← hij, p2] at hpj; cases hpj
        · rw [ht j (by omega) gg.2] at hpj; cases hpj
      · omega
    have hcell : ∀ e, roomA (dropE h.p ((pgN a : Nat) : Int)).2 e > 0 → e ≠ a ∧ roomA h.p e > 0 ∧ freeD h a (pgN e) = false := fun e he => by
      have hd := g.cell (e := e) he
      obtain ⟨r1, _, _⟩ := g.same q1 (e := e) hd
      refine ⟨fun hq => ?_, by rw [← r1]; exact he, by rw [eD]; exact hd⟩
      subst hq
      have hd : (decide (pgN e ≤ pgN e) && decide (pgN e < pgN e + n.toNat)) = false := hd
      rw [decide_eq_true (Nat.le_refl _), decide_eq_true (by omega)] at hd
      cases hd
    have hm2 : MayF { h with w := zeroW h.w a (roomA h.p a), p := (dropE h.p ((pgN a : Nat) : Int)).2 } ls := hm1.words (w := zeroW h.w a (roomA h.p a)) hzl fun e he => by
      obtain ⟨g1, g2, _⟩ := hcell e he
      exact word_keep hm.sh ho.r g2 g1
    rw [ex, eL]
    refine ⟨hm2, rfl, rfl, g.l, g.m, fun j => ?_, fun k hk => ?_, fun e he _ => (hcell e he).2⟩
    · rw [eD]; exact g.p j
    · refine (g.f k hk).trans (List.filter_congr fun x _ => ?_)
      rw [eD]
  · have e2 : ((pageE h a).1 == 2) = false := by rw [hc]; rfl
    have eL : freeL h a = app3 h.f (oneL c a) := by unfold freeL; rw [e2, hc]; rfl
    have eD : ∀ j, freeD h a j = (Nat.beq j (pgN a) && hitE (addF h (oneL c a)) (pgN a)) := fun j => by unfold freeD; rw [e2, hc]; rfl
    have ex : freeH h a = backH (addF (zeroH h a) (oneL c a)) (pgN a) := by
      unfold freeH
      rw [e2, hc, push_one _ _ c0 c2]; rfl
    rw [eL] at hs
    have hm0 : MayF (addF (zeroH h a) (oneL c a)) ls := (hm.zero ho.r hc c0 c2 ho.w).absorb
    have hk : okW (addF (zeroH h a) (oneL c a)) = true := by
      show (may h.p && smL (app3 h.f (oneL c a))) = true
      rw [q1, hs]; rfl
    have g := back_gone hm0 hk (pgN a)
    rw [ex, eL]
    refine ⟨hm0.gone g fun l hl k hk' e he => ?_, g.w, g.c, g.l, g.m, fun j => ?_, fun k hk' => ?_, fun e he hne => ?_⟩
    · obtain ⟨j, hj, _⟩ := listV_at (listed_iff.1 (hm0.li l (by simp [hl])) k hk' e he)
      have := hm0.alone0 hl hk' he hj
      rw [show (e / 16 - 1).toNat = j by omega]
      cases hb : Nat.beq j (pgN a) with
      | false => rfl
      | true =>
        rw [← Nat.eq_of_beq_eq_true hb, this]; rfl
    · rw [eD]; exact g.p j
    · refine (g.f k hk').trans (List.filter_congr fun x _ => ?_)
      rw [eD]; rfl
    · have hd := g.cell he
      obtain ⟨r1, _, _⟩ := g.same q1 (e := e) hd
      refine ⟨by rw [r1] at he; exact he, ?_⟩
      rw [eD]; exact hd
/-- Another object's page stays. -/
theorem free_stays {h : Hp} (hm : MayF h []) {a b : Int} (ha : Obj h a) (hr : roomA h.p b > 0) (hw : wordE h b ≠ 0) (hne : b ≠ a) : freeD h a (pgN b) = false := by
  obtain ⟨p1, p2, p3⟩ := obj_page ha.r
  obtain ⟨t1, t2, t3⟩ := obj_page hr
  obtain ⟨q1, _, _⟩ := shaped_ne hm.sh
  rcases p3 with ⟨n, hn⟩ | ⟨c, hc, c0, c2⟩
  · unfold freeD
    rw [hn] at p2 ⊢
    obtain ⟨n1, n2, ht, _⟩ := large_drop q1 p2
    show (decide (pgN a ≤ pgN b) && decide (pgN b < pgN a + n.toNat)) = false
    rw [Bool.and_eq_false_iff, decide_eq_false_iff_not, decide_eq_false_iff_not]
    by_cases gg : pgN a ≤ pgN b ∧ pgN b < pgN a + n.toNat
    · exfalso
      obtain ⟨_, _, _, _, p, h4, _, h6⟩ := cell_facts hr
      obtain ⟨_, _, _, _, p', h4', _, h6'⟩ := cell_facts ha.r
      have h4 : h.p[pgN b]? = some p := h4
      have h4' : h.p[pgN a]? = some p' := h4'
      by_cases hij : pgN a = pgN b
      · rw [← hij, p2] at h4
        rw [p2] at h4'
        cases h4
        cases h4'
        rcases h6 with ⟨_, g, _⟩ | ⟨g, _⟩
        · rcases h6' with ⟨_, g', _⟩ | ⟨g', _⟩
          · omega
          · cases g'
        · cases g
      · rw [ht _ (by omega) gg.2] at h4
        cases h4
        rcases h6 with ⟨g, _⟩ | ⟨g, _⟩ <;> cases g
    · omega
  · unfold freeD
    rw [hc]
    show (Nat.beq (pgN b) (pgN a) && hitE (addF h (oneL c a)) (pgN a)) = false
    cases hb : Nat.beq (pgN b) (pgN a) with
    | false => rfl
    | true =>
      have hb := Nat.eq_of_beq_eq_true hb
      have hpb : pageE h b = (1, c) := by
        rw [hb, p2, hc] at t2
        exact (Option.some.inj t2).symm
      have m1 : MayF (zeroH h b) [oneL c b] := hm.zero hr hpb c0 c2 hw
      have hwa : wordE (zeroH h b) a ≠ 0 := by
        rw [word_keep hm.sh hr ha.r hne.symm]; exact ha.w
      have m2 : MayF (zeroH (zeroH h b) a) (oneL c a :: [oneL c b]) := m1.zero (h := zeroH h b) ha.r hc c0 c2 hwa
      have := m2.alone (l := oneL c b) (by simp) (k := c.toNat) (by omega) (e := b) (by
        rw [oneL_get c0 c2 (by omega), if_pos (by omega)]; simp) (j := pgN a) (by rw [← hb]; omega)
      rw [Bool.true_and]
      exact this
end Go.Ab

namespace Go.Ab
open Go
open Go.Proofs
theorem free_same {h : Hp} {ls : List Ls} (hm : MayF h ls) {a : Int} (ho : Obj h a) (hs : smL (freeL h a) = true) {e : Int} (he : roomA h.p e > 0) (hne : e ≠ a) (hd : freeD h a (pgN e) = false) :
    roomA (freeH h a).p e = roomA h.p e ∧ pageE (freeH h a) e = pageE h e ∧ wordE (freeH h a) e = wordE h e := by
  obtain ⟨f1, f2, f3, f4, f5, f6, f7, f8⟩ := free_fin hm ho hs
  obtain ⟨q1, _, _⟩ := shaped_ne hm.sh
  have h2 : (freeH h a).p[(e / 16 - 1).toNat]? = h.p[(e / 16 - 1).toNat]? := by
    rw [f6, if_neg]
    show ¬ freeD h a (pgN e) = true
    rw [hd]; simp
  have hg : (freeH h a).p.getD (e / 16 - 1).toNat (0, 0) = h.p.getD (e / 16 - 1).toNat (0, 0) := by rw [List.getD_eq_getElem?_getD, List.getD_eq_getElem?_getD, h2]
  refine ⟨?_, hg, ?_⟩
  · rw [roomA_doc, roomA_doc, f5, q1, f4, hg]
  · have : wordE (freeH h a) e = wordE (zeroH h a) e := by unfold wordE; rw [f2]
    rw [this, word_keep hm.sh ho.r he hne]
theorem Obj.stays {h : Hp} {ls : List Ls} (hm : MayF h ls) (hm0 : MayF h []) {a b : Int} (ha : Obj h a) (hb : Obj h b) (hne : b ≠ a) (hs : smL (freeL h a) = true) : Obj (freeH h a) b := by
  obtain ⟨r1, _, r3⟩ := free_same hm ha hs hb.r hne (free_stays hm0 ha hb.r hb.w hne)
  refine ⟨by rw [r1]; exact hb.r, ?_⟩
  have := hb.u
  unfold unpX at this ⊢
  rw [r3]; exact this
/-- How many of a small one's page are told of, with it. -/
theorem freeD_small {h : Hp} {b c : Int} (hp : h.p[pgN b]? = some (1, c)) (hpe : pageE h b = (1, c)) (hb : ((pgN b : Nat) : Int) = b / 16 - 1) (c0 : 0 ≤ c) (c2 : c ≤ 2) (j : Nat) :
    freeD h b j = (Nat.beq j (pgN b) && (((((h.f.get c.toNat).filter (inR (loE (pgN b)) (loE (pgN b) + 16))).length + 1 : Nat) : Int) == cellsN c)) := by
  unfold freeD
  rw [hpe]
  show (Nat.beq j (pgN b) && hitE (addF h (oneL c b)) (pgN b)) = _
  rw [hit_eq (h := addF h (oneL c b)) hp, partOut_eq]
  show (Nat.beq j (pgN b) && ((((((app3 h.f (oneL c b)).get c.toNat).filter (inR (loE (pgN b)) (loE (pgN b) + 16))).length : Nat) : Int) == cellsN c)) = _
  rw [app3_get, oneL_get c0 c2 (by omega), if_pos (by omega), List.filter_append, List.length_append]
  have : ([b].filter (inR (loE (pgN b)) (loE (pgN b) + 16))) = [b] := by
    rw [List.filter_eq_self]
    intro x hx
    rw [List.mem_singleton.1 hx]
    exact inR_iff.2 hb.symm
  rw [this]
  rfl
section
variable {h : Hp} {a b : Int}
theorem freeD_next (hm : MayF h []) (ha : Obj h a) (hb : Obj h b) (hne : b ≠ a) (hs : smL (freeL h a) = true) {c : Int} (hpe : pageE h b = (1, c)) (c0 : 0 ≤ c) (c2 : c ≤ 2) (j : Nat) :
    freeD (freeH h a) b j = (Nat.beq j (pgN b) && ((((((freeL h a).get c.toNat).filter (inR (loE (pgN b)) (loE (pgN b) + 16))).length + 1 : Nat) : Int) == cellsN c)) := by
  obtain ⟨f1, f2, f3, f4, f5, f6, f7, f8⟩ := free_fin hm ha hs
  have hd := free_stays hm ha hb.r hb.w hne
  obtain ⟨r1, r2, r3⟩ := free_same hm ha hs hb.r hne hd
  obtain ⟨p1, p2, _⟩ := obj_page hb.r
  rw [freeD_small (by rw [f6, if_neg (by rw [hd]; simp), p2, hpe]) (by rw [r2, hpe]) p1 c0 c2, f7 _ (by omega)]
  rw [filt_in]
  intro e _ he
  have : pgN e = pgN b := by
    show (e / 16 - 1).toNat = pgN b
    omega
  rw [this, hd]; rfl
/-- On different pages, or large ones. -/
theorem freeD_other (hm : MayF h []) (ha : Obj h a) (hb : Obj h b) (hne : b ≠ a) (hs : smL (freeL h a) = true) (hpg : ¬ ((pageE h a).1 = 1 ∧ (pageE h b).1 = 1 ∧ pgN a = pgN b)) (j : Nat) : freeD (freeH h a) b j = freeD h b j := by
  obtain ⟨p1, p2, p3⟩ := obj_page hb.r
  obtain ⟨r1, r2, r3⟩ := free_same hm ha hs hb.r hne (free_stays hm ha hb.r hb.w hne)
  rcases p3 with ⟨n, hn⟩ | ⟨c, hc, c0, c2⟩
  · unfold freeD
    rw [r2, hn]; rfl
  · rw [freeD_next hm ha hb hne hs hc c0 c2, freeD_small (by rw [p2, hc]) hc p1 c0 c2]
    obtain ⟨t1, t2, t3⟩ := obj_page ha.r
    have : ((freeL h a).get c.toNat).filter (inR (loE (pgN b)) (loE (pgN b) + 16)) = (h.f.get c.toNat).filter (inR (loE (pgN b)) (loE (pgN b) + 16)) := by
      rcases t3 with ⟨n, hn⟩ | ⟨d, hd, d0, d2⟩
      · unfold freeL; rw [hn]; rfl
      · unfold freeL; rw [hd]
        show ((app3 h.f (oneL d a)).get c.toNat).filter _ = _
        rw [app3_get, List.filter_append]
        have : ((oneL d a).get c.toNat).filter (inR (loE (pgN b)) (loE (pgN b) + 16)) = [] := by
          rw [oneL_get d0 d2 (by omega), List.filter_eq_nil_iff]
          intro x hx
          have : x = a := by
            by_cases hq : ((c.toNat : Nat) : Int) = d
            · rw [if_pos hq] at hx; exact List.mem_singleton.1 hx
            · rw [if_neg hq] at hx; cases hx
          subst this
          rw [inR_iff]
          intro hq
          exact hpg ⟨by rw [hd], by rw [hc], by omega⟩
        rw [this, List.append_nil]
    rw [this]
theorem freeD_same (hm : MayF h []) (ha : Obj h a) (hb : Obj h b) (hne : b ≠ a) (hs : smL (freeL h a) = true) (h1 : (pageE h a).1 = 1) (hpg : pgN a = pgN b) (j : Nat) :
    freeD h a j = false ∧ freeD (freeH h a) b j = (Nat.beq j (pgN b) && (((((h.f.get (pageE h b).2.toNat).filter (inR (loE (pgN b)) (loE (pgN b) + 16))).length + 2 : Nat) : Int) == cellsN (pageE h b).2)) := by
  obtain ⟨p1, p2, p3⟩ := obj_page hb.r
  obtain ⟨t1, t2, t3⟩ := obj_page ha.r
  have hpe : pageE h a = pageE h b := by rw [hpg, p2] at t2; exact (Option.some.inj t2).symm
  rcases p3 with ⟨n, hn⟩ | ⟨c, hc, c0, c2⟩
  · rw [hpe, hn] at h1; cases h1
  · constructor
    · have := free_stays hm ha hb.r hb.w hne
      rw [freeD_small (by rw [t2, hpe, hc]) (by rw [hpe, hc]) t1 c0 c2] at this ⊢
      rw [← hpg, Nat.beq_refl, Bool.true_and] at this
      rw [this, Bool.and_false]
    · rw [freeD_next hm ha hb hne hs hc c0 c2, hc]
      have : ((freeL h a).get c.toNat).filter (inR (loE (pgN b)) (loE (pgN b) + 16)) = (h.f.get c.toNat).filter (inR (loE (pgN b)) (loE (pgN b) + 16)) ++ [a] := by
        unfold freeL
        rw [hpe, hc]
        show ((app3 h.f (oneL c a)).get c.toNat).filter _ = _
        rw [app3_get, List.filter_append, oneL_get c0 c2 (by omega), if_pos (by omega)]
        congr 1
        rw [List.filter_eq_self]
        intro x hx
        rw [List.mem_singleton.1 hx]
        exact inR_iff.2 (by rw [← hpg]; exact t1.symm)
      rw [this, List.length_append]
      rfl
theorem twice_pages (hm : MayF h []) (ha : Obj h a) (hb : Obj h b) (hne : b ≠ a) (hs : smL (freeL h a) = true) (hs2 : smL (freeL h b) = true) (j : Nat) :
    (freeD h a j || freeD (freeH h a) b j) = (freeD h b j || freeD (freeH h b) a j) := by
  by_cases hpg : (pageE h a).1 = 1 ∧ (pageE h b).1 = 1 ∧ pgN a = pgN b
  · obtain ⟨g1, g2, g3⟩ := hpg
    obtain ⟨x1, x2⟩ := freeD_same hm ha hb hne hs g1 g3 j
    obtain ⟨y1, y2⟩ := freeD_same hm hb ha hne.symm hs2 g2 g3.symm j
    obtain ⟨_, p2, _⟩ := obj_page hb.r
    obtain ⟨_, t2, _⟩ := obj_page ha.r
    have hpe : pageE h a = pageE h b := by rw [g3, p2] at t2; exact (Option.some.inj t2).symm
    rw [x1, x2, y1, y2, hpe, g3]
  · rw [freeD_other hm ha hb hne hs hpg, freeD_other hm hb ha hne.symm hs2 (fun q => hpg ⟨q.2.1, q.1, q.2.2.symm⟩), Bool.or_comm]
theorem twice (hm : MayF h []) (ha : Obj h a) (hb : Obj h b) (hne : b ≠ a) (hs : smL (freeL h a) = true) (hs2 : smL (freeL h b) = true) (hs3 : smL (freeL (freeH h a) b) = true) (hs4 : smL (freeL (freeH h b) a) = true) :
    (freeH (freeH h a) b).w = (freeH (freeH h b) a).w ∧ (freeH (freeH h a) b).p = (freeH (freeH h b) a).p ∧ MayF (freeH (freeH h a) b) [] ∧ MayF (freeH (freeH h b) a) [] ∧
    wordE (freeH (freeH h a) b) a = 0 ∧ wordE (freeH (freeH h a) b) b = 0 := by
  obtain ⟨f1, f2, _, f4, _, f6, _⟩ := free_fin hm ha hs
  obtain ⟨g1, g2, _, g4, _, g6, _⟩ := free_fin hm hb hs2
  have ob := Obj.stays hm hm ha hb hne hs
  have oa := Obj.stays hm hm hb ha hne.symm hs2
  obtain ⟨x1, x2, _, x4, _, x6, _⟩ := free_fin f1 ob hs3
  obtain ⟨y1, y2, _, y4, _, y6, _⟩ := free_fin g1 oa hs4
  obtain ⟨r1, _, _⟩ := free_same hm ha hs hb.r hne (free_stays hm ha hb.r hb.w hne)
  obtain ⟨s1, _, _⟩ := free_same hm hb hs2 ha.r hne.symm (free_stays hm hb ha.r ha.w hne.symm)
  obtain ⟨a1, a2, a3⟩ := zero_in hm.sh ha.r
  obtain ⟨b1, b2, b3⟩ := zero_in hm.sh hb.r
  have la := zero_len (w := h.w) a1 a2 a3
  have lb := zero_len (w := h.w) b1 b2 b3
  have hw : ∀ j : Nat, (freeH (freeH h a) b).w[j]? = if (b - 16 ≤ (j : Int) ∧ (j : Int) < b - 16 + roomA h.p b) then some 0 else if (a - 16 ≤ (j : Int) ∧ (j : Int) < a - 16 + roomA h.p a) then some 0 else h.w[j]? := fun j => by
    rw [x2, f2, r1, zero_get' b1 b2 (by rw [la]; exact b3), zero_get' a1 a2 a3]
  refine ⟨List.ext_getElem? fun j => ?_, List.ext_getElem? fun j => ?_, x1, y1, ?_, ?_⟩
  · rw [hw, y2, g2, s1, zero_get' a1 a2 (by rw [lb]; exact a3), zero_get' b1 b2 b3]
    split <;> split <;> rfl
  · rw [x6, y6, f6, g6]
    have := twice_pages hm ha hb hne hs hs2 j
    revert this
    generalize freeD h a j = u
    generalize freeD (freeH h a) b j = v
    generalize freeD h b j = u'
    generalize freeD (freeH h b) a j = v'
    cases u <;> cases v <;> cases u' <;> cases v' <;> simp
  · unfold wordE
    rw [List.getD_eq_getElem?_getD, hw]
    have hr := ha.r
    rw [if_pos (show (a - 16 ≤ ((a - 16).toNat : Int) ∧ ((a - 16).toNat : Int) < a - 16 + roomA h.p a) by omega)]
    split <;> rfl
  · unfold wordE
    rw [List.getD_eq_getElem?_getD, hw]
    have hr := hb.r
    rw [if_pos (show (b - 16 ≤ ((b - 16).toNat : Int) ∧ ((b - 16).toNat : Int) < b - 16 + roomA h.p b) by omega)]
    rfl
end
end Go.Ab

namespace Go.Ab
open Go
open Go.Proofs
theorem eqR_same {s : HH} (h : s.k.w = s.h.w) (u : Int) : ∀ m j, eqR s u m j = true
  | 0, _ => rfl
  | m + 1, j => by
    unfold eqR
    rw [h, bne_self_eq_false, cond_false]
    exact eqR_same h u m (j + 1)
theorem keptR_same {s : HH} (hw : s.k.w = s.h.w) (hp : s.k.p = s.h.p) (a : Int) : ∀ us, keptR s a us = true
  | [] => rfl
  | u :: us => by
    unfold keptR
    rw [hp, bne_self_eq_false, eqR_same hw, keptR_same hw hp a us]
    cases u == a <;> rfl
theorem keptV_same {h k : Hp} (hw : k.w = h.w) (hp : k.p = h.p) (a : Int) : keptV h k a = true := by
  unfold keptV
  rw [hw, bne_self_eq_false, cond_false]
  exact keptR_same (s := ⟨h, k⟩) hw hp a _
theorem head_none {h : Hp} {a : Int} (hm : MayF h []) (hw : wordE h a = 0) : (headE h a).2 = 3 := by
  unfold headE
  rw [mayF_iff.2 hm]
  have hu : (unpX h a).a = false := by unfold unpX; rw [hw]; rfl
  rw [hu]
  cases roomA h.p a == 0 <;> rfl
theorem head_obj {h : Hp} {a : Int} (hm : MayF h []) (ho : Obj h a) : headE h a = (unpX h a, 0) := by
  unfold headE
  rw [mayF_iff.2 hm, ho.u, roomN, decide_eq_true ho.r]; rfl
theorem obj_head {h : Hp} {a : Int} (he : ((headE h a).2 != 0) = false) : Obj h a := ⟨(head_ok he).2.1, (head_ok he).2.2.1⟩
theorem freeHE_bad {h : Hp} {a : Int} (he : ((headE h a).2 != 0) = true) : ((freeHE h a).2 != 0) = true := by
  unfold freeHE; rw [he]; exact he
theorem freeHE_obj {h : Hp} {a : Int} (hm : MayF h []) (ho : Obj h a) : freeHE h a = (freeH h a, 0) := by
  unfold freeHE; rw [head_obj hm ho]; rfl
/-- How long a heap's lists are. -/
def lenF (h : Hp) (n : Nat) : Prop := ∀ k, k < 3 → (h.f.get k).length ≤ n
theorem lenF.smL {h : Hp} {n : Nat} (hl : lenF h n) (hn : n ≤ 90000) : smL h.f = true ∧ smL1 h.f = true ∧ smLs [h.f] = true := by
  have h1 := hl 0 (by omega)
  have h2 := hl 1 (by omega)
  have h3 := hl 2 (by omega)
  have h1 : h.f.a.length ≤ n := h1
  have h2 : h.f.b.length ≤ n := h2
  have h3 : h.f.c.length ≤ n := h3
  have e : Go.Ab.smL h.f = true := smL_len (by omega) (by omega) (by omega)
  refine ⟨e, ?_, by simp [smLs, e]⟩
  simp only [smL1, Nat.ble_eq_true_of_le (show h.f.a.length ≤ 90000 by omega), Nat.ble_eq_true_of_le (show h.f.b.length ≤ 90000 by omega), Nat.ble_eq_true_of_le (show h.f.c.length ≤ 90000 by omega), Bool.and_self]
theorem lenF.freeL {h : Hp} {n : Nat} (hl : lenF h n) (hn : n + 1 ≤ 90000) (a : Int) : Go.Ab.smL (Go.Ab.freeL h a) = true := by
  have h1 := freeL_len h a (k := 0) (by omega)
  have h2 := freeL_len h a (k := 1) (by omega)
  have h3 := freeL_len h a (k := 2) (by omega)
  have g1 := hl 0 (by omega)
  have g2 := hl 1 (by omega)
  have g3 := hl 2 (by omega)
  exact smL_len (Nat.le_trans h1 (by omega)) (Nat.le_trans h2 (by omega)) (Nat.le_trans h3 (by omega))
theorem lenF.free {h : Hp} {n : Nat} (hl : lenF h n) (hn : n + 1 ≤ 90000) {ls : List Ls} (hm : MayF h ls) {a : Int} (ho : Obj h a) : lenF (freeH h a) (n + 1) := fun k hk => by
  obtain ⟨_, _, _, _, _, _, f7, _⟩ := free_fin hm ho (hl.freeL hn a)
  rw [f7 k hk]
  refine Nat.le_trans (List.length_filter_le _ _) ?_
  have h1 := freeL_len h a hk
  have h2 := hl k hk
  omega
/-- A heap that is not too great. -/
structure Few (h : Hp) (n : Nat) : Prop where
  w : h.w.length ≤ 130
  p : h.p.length ≤ 9
  c : h.c.length ≤ 20
  f : lenF h n
theorem Few.sm {h : Hp} {n : Nat} (hf : Few h n) (hn : n ≤ 90000) : smH h = true ∧ smL1 h.f = true ∧ smLs [h.f] = true ∧ Go.Ab.sm h.p = true := by
  obtain ⟨h1, h2, h3⟩ := hf.f.smL hn
  have := hf.w
  have := hf.p
  have := hf.c
  exact ⟨smH_of (by omega) (by omega) (by omega) h1, h2, h3, sm_of (by omega)⟩
theorem Few.free {h : Hp} {n : Nat} (hf : Few h n) (hn : n + 1 ≤ 90000) {ls : List Ls} (hm : MayF h ls) {a : Int} (ho : Obj h a) : Few (freeH h a) (n + 1) := by
  obtain ⟨_, f2, f3, f4, _⟩ := free_fin hm ho (hf.f.freeL hn a)
  obtain ⟨z1, z2, z3⟩ := zero_in hm.sh ho.r
  have := zero_len (w := h.w) z1 z2 z3
  exact ⟨by rw [f2, this]; exact hf.w, by rw [f4]; exact hf.p, by rw [f3]; exact hf.c, hf.f.free hn hm ho⟩
theorem few_of {h : Hp} {ls : List Ls} (hf : fewV h ls = true) : Few h 70 ∧ smLs (h.f :: ls) = true ∧ (∀ l ∈ ls, lightV l = true) ∧ ls.length ≤ 4 := by
  obtain ⟨w1, w2, w3, w4, w5, w6⟩ := few_le hf
  refine ⟨⟨w1, w2, w3, light_get w4⟩, ?_, w5, w6⟩
  unfold smLs
  rw [Nat.ble_eq_true_of_le (by simp; omega), Bool.true_and, List.all_eq_true]
  intro l hl
  rcases List.mem_cons.1 hl with rfl | hl
  · exact light_sm w4
  · exact light_sm (w5 l hl)
theorem MayF.none {h : Hp} {ls : List Ls} (hm : MayF h ls) : MayF h [] := by
  refine ⟨hm.sh, fun l hl => hm.li l (by simp only [List.mem_cons, List.not_mem_nil, or_false] at hl ⊢; exact .inl hl), hm.ce, ?_⟩
  have hnd := hm.nd
  rw [catI_cons] at hnd ⊢
  exact hnd.sublist (List.Sublist.append (List.Sublist.refl _) (List.nil_sublist _))
theorem whole_may {h : Hp} {ls : List Ls} (hw : wholeHV h ls = true) : MayF h ls := by
  unfold wholeHV at hw
  rw [Bool.and_eq_true] at hw
  exact mayF_iff.1 hw.1
theorem used_same {h k : Hp} (hm : MayF h []) (hk : MayF k []) (hw : k.w = h.w) (hp : k.p = h.p) : usedE k = usedE h := by
  unfold usedE
  rw [mayF_iff.2 hm, mayF_iff.2 hk, hp]
  show (cellAs h.p).filter _ = (cellAs h.p).filter _
  refine List.filter_congr fun x _ => ?_
  unfold usedV wordE
  rw [hw]
def gLaw4 : Callee := g4 cHp cLss cI cI (fun _ ls _ _ => Nat.ble ls.length 9223372036854775807) fun _ _ _ _ => .bool true
theorem law4_good : GoodC Pr 4 gLaw4 :=
  good4 ((CxOK.baseG (Good.cons awake_good (Good.cons few_good (Good.cons whole_good (Good.cons free_good (Good.cons head_good (Good.cons countP_good (Good.cons used_good (Good.cons kept_good Good.nil)))))))) GoodI.nil (eqOK_none fun _ => rfl)).sound (cx := k4) Tryd.func4 (by kernel_rfl) (by kernel_rfl) rfl (by kernel_rfl)) fun h ls a b hls β K => by
    have e : ∀ h : Hp, (⟨h.w, h.p, ⟨h.f.a, h.f.b, h.f.c⟩, h.c⟩ : Hp) = h := fun _ => rfl
    rw [r4]
    simp only [decI_map, decP_map, decBs_enc, decLs_map, Option.bind_some, e, hls, cond_true]
    cases hf : fewV h ls with
    | false => rfl
    | true =>
      simp only [Bool.not_true, cond_false]
      cases hab : a == b with
      | true => rfl
      | false =>
        obtain ⟨hF, hsl, _, _⟩ := few_of hf
        obtain ⟨s1, s2, s3, s4⟩ := hF.sm (by omega)
        simp only [cond_false, s1, s2, hsl, Bool.and_self, cond_true]
        cases hwh : wholeHV h ls with
        | false => rfl
        | true =>
          have hm := (whole_may hwh).none
          simp only [Bool.not_true, cond_false]
          cases ea : (headE h a).2 != 0 with
          | true => rw [freeHE_bad ea]; rfl
          | false =>
            have oa := obj_head ea
            simp only [freeHE_obj hm oa, bne_self_eq_false, cond_false]
            cases eb : (headE h b).2 != 0 with
            | true => rw [freeHE_bad eb]; rfl
            | false =>
              have ob := obj_head eb
              have hne : b ≠ a := fun q => by rw [q, beq_self_eq_true] at hab; cases hab
              have Fx := hF.free (by omega) hm oa
              have Fy := hF.free (by omega) hm ob
              obtain ⟨mx, _⟩ := free_fin hm oa (hF.f.freeL (by omega) a)
              obtain ⟨my, _⟩ := free_fin hm ob (hF.f.freeL (by omega) b)
              have ox := Obj.stays hm hm oa ob hne (hF.f.freeL (by omega) a)
              have oy := Obj.stays hm hm ob oa hne.symm (hF.f.freeL (by omega) b)
              have Fp := Fx.free (by omega) mx ox
              have Fq := Fy.free (by omega) my oy
              obtain ⟨x1, x2, x3, x4⟩ := Fx.sm (by omega)
              obtain ⟨y1, y2, y3, y4⟩ := Fy.sm (by omega)
              obtain ⟨p1, p2, p3, p4⟩ := Fp.sm (by omega)
              obtain ⟨q1, q2, q3, q4⟩ := Fq.sm (by omega)
              obtain ⟨t1, t2, t3, t4, t5, t6⟩ := twice hm oa ob hne (hF.f.freeL (by omega) a) (hF.f.freeL (by omega) b) (Fx.f.freeL (by omega) b) (Fy.f.freeL (by omega) a)
              simp only [freeHE_obj hm ob, e, bne_self_eq_false, cond_false, x1, x2, y1, y2, freeHE_obj mx ox, freeHE_obj my oy, p1, p3, q1, q3, Bool.and_self, cond_true, p4, q4, head_none t3 t5, head_none t3 t6, beq_self_eq_true, t2, encI_len, used_same t3 t4 t1.symm t2.symm, keptV_same t1.symm t2.symm]
theorem law4_run (h : Hp) (ls : List Ls) (a b : Int) (hl : ls.length ≤ 9223372036854775807) (β : Type) (K : CV → List (List CV) → Option β) : gLaw4.run [cHp.enc h, cLss.enc ls, cI.enc a, cI.enc b] [] β K = K (.bool true) [] := by
  unfold gLaw4 g4
  dsimp only
  rw [cHp.de, cLss.de, cI.de, cI.de]
  simp only [Option.bind_some, Nat.ble_eq_true_of_le hl, cond_true]
end Go.Ab
