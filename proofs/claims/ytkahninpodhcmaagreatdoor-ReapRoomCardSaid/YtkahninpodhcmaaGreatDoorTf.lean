/- heap.Free's result: what goes, what stays.
Of two objects that are given back the order does not matter.
The law ReapTwice.
What was whole is whole without an object, or a cache; other objects are as they were.
What was whole is whole behind Flush; all objects are as they were.
pages.Find, and what is taken there.
A page that is taken for cells; cells that are moved, and taken; an object's word.
Cells that are moved, and taken; pages that are made a large one's; an object's words.
A cell that is made ready, and taken: what it leaves.
alloc.small and large: where there is room, and what they leave.
alloc.Take: its contract, and what it leaves.
alloc.Take's contract.
What is taken fits; how many are used; where there is room.
Behind an object that is given back there is room; what is taken and given back is as it was.
alloc.Room; few of chapter 08; awake of chapter 08.
few of chapter 08; awake of chapter 08.
ReapRoom's residual.
AllocTwice's residual.
The law AllocTwice.
The law ReapRoom. -/
import Derived.Test.YtkahninpodhcmaaGreatDoorTe
namespace Go.Ab
open Go
open Go.Proofs
/-- An object: a cell whose word is not nought. -/
structure Obj (h : Hp) (a : Int) : Prop where
  r : roomA h.p a > 0
  u : (unpX h a).a = true
theorem unp_zero : (bif unpOK 0 then unp 0 else Hd.z0).a = false := by rfl
theorem Obj.w {h : Hp} {a : Int} (o : Obj h a) : wordE h a ≠ 0 := fun e => by
  have := o.u
  unfold unpX at this
  rw [e, unp_zero] at this
  cases this
abbrev pgN (a : Int) : Nat := (a / 16 - 1).toNat
/-- The lists, with a small one's cell. -/
def freeL (h : Hp) (a : Int) : Ls := bif (pageE h a).1 == 2 then h.f else app3 h.f (oneL (pageE h a).2 a)
/-- The pages that go with an object. -/
def freeD (h : Hp) (a : Int) (j : Nat) : Bool := bif (pageE h a).1 == 2 then decide (pgN a ≤ j) && decide (j < pgN a + (pageE h a).2.toNat) else Nat.beq j (pgN a) && hitE (addF h (oneL (pageE h a).2 a)) (pgN a)
theorem freeL_len (h : Hp) (a : Int) {k : Nat} (hk : k < 3) : ((freeL h a).get k).length ≤ (h.f.get k).length + 1 := by
  unfold freeL
  cases (pageE h a).1 == 2 with
  | true => show (h.f.get k).length ≤ _; omega
  | false =>
    show ((app3 h.f (oneL (pageE h a).2 a)).get k).length ≤ _
    rw [app3_get, List.length_append]
    have : ((oneL (pageE h a).2 a).get k).length ≤ 1 := by
      unfold oneL
      match (pageE h a).2.toNat with
      | 0 => match k with
        | 0 => exact Nat.le_refl _
        | 1 => exact Nat.zero_le _
        | _ + 2 => exact Nat.zero_le _
      | 1 => match k with
        | 0 => exact Nat.zero_le _
        | 1 => exact Nat.le_refl _
        | _ + 2 => exact Nat.zero_le _
      | _ + 2 => match k with
        | 0 => exact Nat.zero_le _
        | 1 => exact Nat.zero_le _
        | _ + 2 => exact Nat.le_refl _
    omega
/-- An object's page. -/
theorem obj_page {h : Hp} {a : Int} (hr : roomA h.p a > 0) : ((pgN a : Nat) : Int) = a / 16 - 1 ∧ h.p[pgN a]? = some (pageE h a) ∧ ((∃ n, pageE h a = (2, n)) ∨ ∃ c, pageE h a = (1, c) ∧ 0 ≤ c ∧ c ≤ 2) := by
  obtain ⟨_, _, _, h3, p, h4, h5, h6⟩ := cell_facts hr
  have hp : pageE h a = p := h5
  refine ⟨h3, by rw [hp]; exact h4, ?_⟩
  obtain ⟨x, y⟩ := p
  rcases h6 with ⟨k1, _⟩ | ⟨k1, k2, k3, _⟩
  · have k1 : x = 2 := k1
    exact .inl ⟨y, by rw [hp, k1]⟩
  · have k1 : x = 1 := k1
    exact .inr ⟨y, by rw [hp, k1], k2, k3⟩
theorem free_fin {h : Hp} {ls : List Ls} (hm : MayF h ls) {a : Int} (ho : Obj h a) (hs : smL (freeL h a) = true) :
    MayF (freeH h a) ls ∧ (freeH h a).w = zeroW h.w a (roomA h.p a) ∧ (freeH h a).c = h.c ∧ (freeH h a).p.length = h.p.length ∧ may (freeH h a).p = true ∧
    (∀ j, (freeH h a).p[j]? = if freeD h a j = true then some (0, 0) else h.p[j]?) ∧ (∀ k, k < 3 → (freeH h a).f.get k = ((freeL h a).get k).filter fun e => !freeD h a (pgN e)) ∧
    ∀ e, roomA (freeH h a).p e > 0 → e ≠ a → roomA h.p e > 0 ∧ freeD h a (pgN e) = false := by
  obtain ⟨p1, p2, p3⟩ := obj_page ho.r
  obtain ⟨z1, z2, z3⟩ := zero_in hm.sh ho.r
  have hzl := zero_len (w := h.w) z1 z2 z3
  obtain ⟨q1, _, _⟩ := shaped_ne hm.sh
  rcases p3 with ⟨n, hn⟩ | ⟨c, hc, c0, c2⟩
  · have e2 : (pageE h a).1 == 2 := by rw [hn]; rfl
    have ex : freeH h a = { h with w := zeroW h.w a (roomA h.p a), p := (dropE h.p ((pgN a : Nat) : Int)).2 } := by unfold freeH; rw [e2]; rfl
    have eL : freeL h a = h.f := by unfold freeL; rw [e2]; rfl
    have eD : ∀ j, freeD h a j = (decide (pgN a ≤ j) && decide (j < pgN a + n.toNat)) := fun j => by unfold freeD; rw [e2, hn]; rfl
    rw [hn] at p2
    have g := large_gone hm p2
    obtain ⟨n1, n2, ht, _⟩ := large_drop q1 p2
    have hm1 : MayF { h with p := (dropE h.p ((pgN a : Nat) : Int)).2 } ls := hm.gone g fun l hl k hk e he => by
      obtain ⟨j, hj, hpj, _⟩ := listV_at (listed_iff.1 (hm.li l (by simp [hl])) k hk e he)
      rw [show (e / 16 - 1).toNat = j by omega, Bool.and_eq_false_iff, decide_eq_false_iff_not, decide_eq_false_iff_not]
      by_cases gg : pgN a ≤ j ∧ j < pgN a + n.toNat
      · exfalso
        by_cases hij : pgN a = j
        · rw [← hij, p2] at hpj; cases hpj
        · rw [ht j (by omega) gg.2] at hpj; cases hpj
      · omega
    have hcell : ∀ e, roomA (dropE h.p ((pgN a : Nat) : Int)).2 e > 0 → e ≠ a ∧ roomA h.p e > 0 ∧ freeD h a (pgN e) = false := fun e he => by
      have hd := g.cell (e := e) he
      obtain ⟨r1, _, _⟩ := g.same q1 (e := e) hd
      refine ⟨fun hq => ?_, by rw [← r1]; exact he, by rw [eD]; exact hd⟩
      subst hq
      have hd : (decide (pgN e ≤ pgN e) && decide (pgN e < pgN e + n.toNat)) = false := hd
      rw [decide_eq_true (Nat.le_refl _), decide_eq_true (by omega)] at hd
      cases hd
    have hm2 : MayF { h with w := zeroW h.w a (roomA h.p a), p := (dropE h.p ((pgN a : Nat) : Int)).2 } ls := hm1.words (w := zeroW h.w a (roomA h.p a)) hzl fun e he => by
      obtain ⟨g1, g2, _⟩ := hcell e he
      exact word_keep hm.sh ho.r g2 g1
    rw [ex, eL]
    refine ⟨hm2, rfl, rfl, g.l, g.m, fun j => ?_, fun k hk => ?_, fun e he _ => (hcell e he).2⟩
    · rw [eD]; exact g.p j
    · refine (g.f k hk).trans (List.filter_congr fun x _ => ?_)
      rw [eD]
  · have e2 : ((pageE h a).1 == 2) = false := by rw [hc]; rfl
    have eL : freeL h a = app3 h.f (oneL c a) := by unfold freeL; rw [e2, hc]; rfl
    have eD : ∀ j, freeD h a j = (Nat.beq j (pgN a) && hitE (addF h (oneL c a)) (pgN a)) := fun j => by unfold freeD; rw [e2, hc]; rfl
    have ex : freeH h a = backH (addF (zeroH h a) (oneL c a)) (pgN a) := by
      unfold freeH
      rw [e2, hc, push_one _ _ c0 c2]; rfl
    rw [eL] at hs
    have hm0 : MayF (addF (zeroH h a) (oneL c a)) ls := (hm.zero ho.r hc c0 c2 ho.w).absorb
    have hk : okW (addF (zeroH h a) (oneL c a)) = true := by
      show (may h.p && smL (app3 h.f (oneL c a))) = true
      rw [q1, hs]; rfl
    have g := back_gone hm0 hk (pgN a)
    rw [ex, eL]
    refine ⟨hm0.gone g fun l hl k hk' e he => ?_, g.w, g.c, g.l, g.m, fun j => ?_, fun k hk' => ?_, fun e he hne => ?_⟩
    · obtain ⟨j, hj, _⟩ := listV_at (listed_iff.1 (hm0.li l (by simp [hl])) k hk' e he)
      have := hm0.alone0 hl hk' he hj
      rw [show (e / 16 - 1).toNat = j by omega]
      cases hb : Nat.beq j (pgN a) with
      | false => rfl
      | true =>
        rw [← Nat.eq_of_beq_eq_true hb, this]; rfl
    · rw [eD]; exact g.p j
    · refine (g.f k hk').trans (List.filter_congr fun x _ => ?_)
      rw [eD]; rfl
    · have hd := g.cell he
      obtain ⟨r1, _, _⟩ := g.same q1 (e := e) hd
      refine ⟨by rw [r1] at he; exact he, ?_⟩
      rw [eD]; exact hd
end Go.Ab

namespace Go.Ab
open Go
open Go.Proofs
section
variable {h : Hp} {a b : Int}
end
end Go.Ab

namespace Go.Ab
open Go
open Go.Proofs
theorem head_obj {h : Hp} {a : Int} (hm : MayF h []) (ho : Obj h a) : headE h a = (unpX h a, 0) := by
  unfold headE
  rw [mayF_iff.2 hm, ho.u, roomN, decide_eq_true ho.r]; rfl
theorem obj_head {h : Hp} {a : Int} (he : ((headE h a).2 != 0) = false) : Obj h a := ⟨(head_ok he).2.1, (head_ok he).2.2.1⟩
theorem freeHE_obj {h : Hp} {a : Int} (hm : MayF h []) (ho : Obj h a) : freeHE h a = (freeH h a, 0) := by
  unfold freeHE; rw [head_obj hm ho]; rfl
/-- How long a heap's lists are. -/
def lenF (h : Hp) (n : Nat) : Prop := ∀ k, k < 3 → (h.f.get k).length ≤ n
theorem lenF.smL {h : Hp} {n : Nat} (hl : lenF h n) (hn : n ≤ 90000) : smL h.f = true ∧ smL1 h.f = true ∧ smLs [h.f] = true := by
  have h1 := hl 0 (by omega)
  have h2 := hl 1 (by omega)
  have h3 := hl 2 (by omega)
  have h1 : h.f.a.length ≤ n := h1
  have h2 : h.f.b.length ≤ n := h2
  have h3 : h.f.c.length ≤ n := h3
  have e : Go.Ab.smL h.f = true := smL_len (by omega) (by omega) (by omega)
  refine ⟨e, ?_, by simp [smLs, e]⟩
  simp only [smL1, Nat.ble_eq_true_of_le (show h.f.a.length ≤ 90000 by omega), Nat.ble_eq_true_of_le (show h.f.b.length ≤ 90000 by omega), Nat.ble_eq_true_of_le (show h.f.c.length ≤ 90000 by omega), Bool.and_self]
theorem lenF.freeL {h : Hp} {n : Nat} (hl : lenF h n) (hn : n + 1 ≤ 90000) (a : Int) : Go.Ab.smL (Go.Ab.freeL h a) = true := by
  have h1 := freeL_len h a (k := 0) (by omega)
  have h2 := freeL_len h a (k := 1) (by omega)
  have h3 := freeL_len h a (k := 2) (by omega)
  have g1 := hl 0 (by omega)
  have g2 := hl 1 (by omega)
  have g3 := hl 2 (by omega)
  exact smL_len (Nat.le_trans h1 (by omega)) (Nat.le_trans h2 (by omega)) (Nat.le_trans h3 (by omega))
theorem lenF.free {h : Hp} {n : Nat} (hl : lenF h n) (hn : n + 1 ≤ 90000) {ls : List Ls} (hm : MayF h ls) {a : Int} (ho : Obj h a) : lenF (freeH h a) (n + 1) := fun k hk => by
  obtain ⟨_, _, _, _, _, _, f7, _⟩ := free_fin hm ho (hl.freeL hn a)
  rw [f7 k hk]
  refine Nat.le_trans (List.length_filter_le _ _) ?_
  have h1 := freeL_len h a hk
  have h2 := hl k hk
  omega
/-- A heap that is not too great. -/
structure Few (h : Hp) (n : Nat) : Prop where
  w : h.w.length ≤ 130
  p : h.p.length ≤ 9
  c : h.c.length ≤ 20
  f : lenF h n
theorem Few.sm {h : Hp} {n : Nat} (hf : Few h n) (hn : n ≤ 90000) : smH h = true ∧ smL1 h.f = true ∧ smLs [h.f] = true ∧ Go.Ab.sm h.p = true := by
  obtain ⟨h1, h2, h3⟩ := hf.f.smL hn
  have := hf.w
  have := hf.p
  have := hf.c
  exact ⟨smH_of (by omega) (by omega) (by omega) h1, h2, h3, sm_of (by omega)⟩
theorem Few.free {h : Hp} {n : Nat} (hf : Few h n) (hn : n + 1 ≤ 90000) {ls : List Ls} (hm : MayF h ls) {a : Int} (ho : Obj h a) : Few (freeH h a) (n + 1) := by
  obtain ⟨_, f2, f3, f4, _⟩ := free_fin hm ho (hf.f.freeL hn a)
  obtain ⟨z1, z2, z3⟩ := zero_in hm.sh ho.r
  have := zero_len (w := h.w) z1 z2 z3
  exact ⟨by rw [f2, this]; exact hf.w, by rw [f4]; exact hf.p, by rw [f3]; exact hf.c, hf.f.free hn hm ho⟩
theorem few_of {h : Hp} {ls : List Ls} (hf : fewV h ls = true) : Few h 70 ∧ smLs (h.f :: ls) = true ∧ (∀ l ∈ ls, lightV l = true) ∧ ls.length ≤ 4 := by
  obtain ⟨w1, w2, w3, w4, w5, w6⟩ := few_le hf
  refine ⟨⟨w1, w2, w3, light_get w4⟩, ?_, w5, w6⟩
  unfold smLs
  rw [Nat.ble_eq_true_of_le (by simp; omega), Bool.true_and, List.all_eq_true]
  intro l hl
  rcases List.mem_cons.1 hl with rfl | hl
  · exact light_sm w4
  · exact light_sm (w5 l hl)
theorem MayF.none {h : Hp} {ls : List Ls} (hm : MayF h ls) : MayF h [] := by
  refine ⟨hm.sh, fun l hl => hm.li l (by simp only [List.mem_cons, List.not_mem_nil, or_false] at hl ⊢; exact .inl hl), hm.ce, ?_⟩
  have hnd := hm.nd
  rw [catI_cons] at hnd ⊢
  exact hnd.sublist (List.Sublist.append (List.Sublist.refl _) (List.nil_sublist _))
theorem whole_may {h : Hp} {ls : List Ls} (hw : wholeHV h ls = true) : MayF h ls := by
  unfold wholeHV at hw
  rw [Bool.and_eq_true] at hw
  exact mayF_iff.1 hw.1
end Go.Ab

namespace Go.Ab
open Go
open Go.Proofs
theorem whole_iff {h : Hp} {ls : List Ls} : wholeHV h ls = true ↔ MayF h ls ∧ ∀ c, roomA h.p c > 0 → wordE h c = 0 → c ∈ catI (h.f :: ls) := by
  unfold wholeHV
  rw [Bool.and_eq_true, mayF_iff, List.all_eq_true]
  constructor
  · rintro ⟨h1, h2⟩
    refine ⟨h1, fun c hc hw => ?_⟩
    have := h2 c (cell_mem.2 hc)
    rw [hw] at this
    simpa using this
  · rintro ⟨h1, h2⟩
    refine ⟨h1, fun c hc => ?_⟩
    have := h2 c (cell_mem.1 hc)
    cases hw : wordE h c != 0 with
    | true => rfl
    | false =>
      have := this (by simpa using hw)
      simpa using this
theorem cat_mem {ls : List Ls} {e : Int} : e ∈ catI ls ↔ ∃ l ∈ ls, ∃ k, k < 3 ∧ e ∈ l.get k := by
  unfold catI
  rw [List.mem_flatMap]
  constructor
  · rintro ⟨l, hl, he⟩; exact ⟨l, hl, one3_mem.1 he⟩
  · rintro ⟨l, hl, he⟩; exact ⟨l, hl, one3_mem.2 he⟩
theorem rises_nodup : ∀ {xs : List Int} {lo hi : Int}, rises lo hi xs → xs.Nodup
  | [], _, _, _ => List.nodup_nil
  | x :: xs, lo, hi, h => by
    obtain ⟨h1, h2, h3⟩ := h
    refine List.nodup_cons.2 ⟨fun hin => ?_, rises_nodup h3⟩
    have := (rises_mem h3 x hin).1
    omega
end Go.Ab

namespace Go.Ab
open Go
open Go.Proofs
end Go.Ab

namespace Go.Ab
open Go
open Go.Proofs
theorem findF_some {ps : List Pg} {n : Nat} : ∀ {m a b : Nat}, findF ps n m a = some b → a ≤ b ∧ b < a + m ∧ all0 ((ps.drop b).take n) = true ∧ ∀ j, a ≤ j → j < b → all0 ((ps.drop j).take n) = false
  | 0, _, _, h => by cases h
  | m + 1, a, b, h => by
    unfold findF at h
    cases h0 : all0 ((ps.drop a).take n) with
    | true =>
      rw [h0] at h
      cases h
      exact ⟨Nat.le_refl _, by omega, h0, fun j h1 h2 => by omega⟩
    | false =>
      rw [h0] at h
      obtain ⟨h1, h2, h3, h4⟩ := findF_some (m := m) h
      refine ⟨by omega, by omega, h3, fun j g1 g2 => ?_⟩
      by_cases hj : j = a
      · rw [hj]; exact h0
      · exact h4 j (by omega) g2
theorem findF_none {ps : List Pg} {n : Nat} : ∀ {m a : Nat}, findF ps n m a = none → ∀ j, a ≤ j → j < a + m → all0 ((ps.drop j).take n) = false
  | 0, _, _, _, h1, h2 => by omega
  | m + 1, a, h, j, h1, h2 => by
    unfold findF at h
    cases h0 : all0 ((ps.drop a).take n) with
    | true => rw [h0] at h; cases h
    | false =>
      rw [h0] at h
      by_cases hj : j = a
      · rw [hj]; exact h0
      · exact findF_none (m := m) h j (by omega) (by omega)
theorem all0_free : ∀ (n : Nat) (l : List Pg), n ≤ l.length → all0 (l.take n) = allFree n l
  | 0, _, _ => rfl
  | n + 1, [], h => by simp at h
  | n + 1, p :: l, h => by
    have := all0_free n l (by simpa using h)
    show (p.1 == 0 && all0 (l.take n)) = cond (p.1 == 0) (allFree n l) false
    rw [this]
    cases p.1 == 0 <;> rfl
/-- Where some are found. -/
theorem find_parts {ps : List Pg} {n : Int} {at' : Nat} (hf : findE ps n = some at') : may ps = true ∧ 1 ≤ n ∧ n ≤ 4 ∧ ∃ X Z, ps = X ++ List.replicate n.toNat (0, 0) ++ Z ∧ X.length = at' ∧ mayGo 0 X = some 0 ∧ mayGo 0 Z = some 0 := by
  unfold findE at hf
  cases hm : may ps with
  | false => rw [hm] at hf; cases hf
  | true =>
    cases hn : in3 n 1 4 with
    | false => rw [hm, hn] at hf; cases hf
    | true =>
      rw [hm, hn] at hf
      obtain ⟨n1, n4⟩ := in3_iff.1 hn
      have hf : findF ps n.toNat (ps.length + 1 - n.toNat) 0 = some at' := hf
      obtain ⟨_, h2, h3, _⟩ := findF_some hf
      rw [all0_free _ _ (by rw [List.length_drop]; omega)] at h3
      exact ⟨rfl, n1, n4, may_free (may_go0 hm) (by omega) h3⟩
/-- A free page that is made one of cells. -/
theorem small_put {ps : List Pg} {at' : Nat} {c : Int} (hf : findE ps 1 = some at') (c0 : 0 ≤ c) (c2 : c ≤ 2) : at' < ps.length ∧ ps[at']? = some (0, 0) ∧ (smallE ps (at' : Int) c).2 = ps.set at' (1, c) ∧ may (ps.set at' (1, c)) = true := by
  obtain ⟨hm, _, _, X, Z, rfl, rfl, hX, hZ⟩ := find_parts hf
  have hr : List.replicate (Int.toNat 1) ((0, 0) : Pg) = [(0, 0)] := rfl
  rw [hr] at hm ⊢
  have hset : (X ++ [(0, 0)] ++ Z).set X.length (1, c) = X ++ [(1, c)] ++ Z := by
    rw [List.append_assoc, List.set_append_right _ _ (Nat.le_refl _), Nat.sub_self]
    simp
  obtain ⟨l1, l2⟩ := may_len hm
  refine ⟨by simp, ?_, ?_, ?_⟩
  · rw [List.append_assoc, List.getElem?_append_right (Nat.le_refl _), Nat.sub_self]; rfl
  · rw [small_parts c0 c2 hm, hset]
  · rw [hset]
    refine go_may ?_ ?_ (mayGo_join hX (mayGo_small c0 c2) hZ)
    · simp only [List.length_append, List.length_cons]; omega
    · simp at l2 ⊢; omega
/-- Free pages that are made a large one's. -/
theorem large_put {ps : List Pg} {at' : Nat} {n : Int} (hf : findE ps n = some at') : 1 ≤ n ∧ n ≤ 4 ∧ at' + n.toNat ≤ ps.length ∧ (∀ j, at' ≤ j → j < at' + n.toNat → ps[j]? = some (0, 0)) ∧ may (largeE ps (at' : Int) n).2 = true ∧ (largeE ps (at' : Int) n).2.length = ps.length ∧
    ∀ j, (largeE ps (at' : Int) n).2[j]? = if j = at' then some (2, n) else if at' < j ∧ j < at' + n.toNat then some (3, 0) else ps[j]? := by
  obtain ⟨hm, n1, n4, X, Z, rfl, rfl, hX, hZ⟩ := find_parts hf
  obtain ⟨l1, l2⟩ := may_len hm
  have hol : (ownL n).length = n.toNat := ownL_len n1
  rw [large_parts n1 n4 hm]
  refine ⟨n1, n4, by simp, fun j h1 h2 => ?_, go_may ?_ ?_ (mayGo_join hX (mayGo_ownL n1 n4) hZ), ?_, fun j => ?_⟩
  · rw [List.append_assoc, List.getElem?_append_right h1, List.getElem?_append_left (by simp; omega), List.getElem?_replicate, if_pos (by omega)]
  · simp [hol]; omega
  · simp only [List.length_append, List.length_replicate] at l2 ⊢; omega
  · simp [hol]
  · show (X ++ ownL n ++ Z)[j]? = _
    by_cases h1 : j < X.length
    · rw [if_neg (by omega), if_neg (by omega), List.append_assoc, List.append_assoc, List.getElem?_append_left h1, List.getElem?_append_left h1]
    · by_cases h2 : j < X.length + n.toNat
      · rw [List.append_assoc, List.getElem?_append_right (by omega), List.getElem?_append_left (by rw [hol]; omega)]
        unfold ownL
        by_cases h3 : j = X.length
        · rw [if_pos h3, h3, Nat.sub_self]; rfl
        · rw [if_neg h3, if_pos (by omega), show j - X.length = (j - X.length - 1) + 1 by omega, List.getElem?_cons_succ, List.getElem?_replicate, if_pos (by omega)]
      · rw [if_neg (by omega), if_neg (by omega), List.getElem?_append_right (by simp [hol]; omega), List.getElem?_append_right (by simp; omega)]
        congr 1
        simp [hol]
/-- The cells of a page of cells. -/
theorem on_mem {ps : List Pg} {p : Nat} {e : Int} (hp : p < ps.length) (hl : ps.length ≤ 200) : e ∈ (onL ps (p : Int)).map (·.1) ↔ roomA ps e > 0 ∧ pgN e = p := by
  rw [← onL_filter ps (p : Int), List.mem_filter]
  have h1 : e ∈ (allCs ps).map (·.1) ↔ roomA ps e > 0 := cell_mem
  rw [h1]
  constructor
  · rintro ⟨h2, h3⟩
    refine ⟨h2, ?_⟩
    obtain ⟨r1, r2⟩ := room_in h2
    have v1 : IntKind.i64.wrap (e / 16) = e / 16 := wrap_in (by omega)
    have v2 : IntKind.i64.wrap (e / 16 - 1) = e / 16 - 1 := wrap_in (by omega)
    rw [tdiv_pos (by omega), v1, v2] at h3
    have := eq_of_beq h3
    show (e / 16 - 1).toNat = p
    omega
  · rintro ⟨h2, h3⟩
    refine ⟨h2, ?_⟩
    obtain ⟨r1, r2⟩ := room_in h2
    have v1 : IntKind.i64.wrap (e / 16) = e / 16 := wrap_in (by omega)
    have v2 : IntKind.i64.wrap (e / 16 - 1) = e / 16 - 1 := wrap_in (by omega)
    rw [tdiv_pos (by omega), v1, v2]
    have h3 : (e / 16 - 1).toNat = p := h3
    rw [beq_iff_eq]
    omega
theorem on_nodup (ps : List Pg) (p : Int) : ((onL ps p).map (·.1)).Nodup := by
  rw [← onL_filter ps p]
  exact (rises_nodup (allCs_rises ps)).sublist List.filter_sublist
theorem segR_all (xs : List Int) : segR xs 0 xs.length = xs.reverse := by
  simp [segR]
end Go.Ab

namespace Go.Ab
open Go
open Go.Proofs
theorem putW_get (w : List Int) (a v : Int) (j : Nat) : (putW w a v)[j]? = if j = (a - 16).toNat ∧ j < w.length then some v else w[j]? := by
  unfold putW
  rw [List.getElem?_set]
  by_cases h : (a - 16).toNat = j
  · subst h
    by_cases h2 : (a - 16).toNat < w.length
    · rw [if_pos rfl, if_pos h2, if_pos ⟨rfl, h2⟩]
    · rw [if_pos rfl, if_neg h2, if_neg (fun q => h2 q.2), List.getElem?_eq_none (by omega)]
  · rw [if_neg h, if_neg (fun q => h q.1.symm)]
theorem putsW_len : ∀ (ys : List Int) (w : List Int), (putsW w ys).length = w.length
  | [], _ => rfl
  | a :: ys, w => by
    show (putsW (putW w a 0) ys).length = _
    rw [putsW_len ys, putW_len]
theorem putsW_get : ∀ (ys : List Int) (w : List Int) (j : Nat), (putsW w ys)[j]? = if (∃ a ∈ ys, (a - 16).toNat = j) ∧ j < w.length then some 0 else w[j]?
  | [], w, j => by simp [putsW]
  | a :: ys, w, j => by
    show (putsW (putW w a 0) ys)[j]? = _
    rw [putsW_get ys, putW_len, putW_get]
    by_cases h1 : (∃ a ∈ ys, (a - 16).toNat = j) ∧ j < w.length
    · obtain ⟨⟨b, hb, hj⟩, hl⟩ := h1
      rw [if_pos ⟨⟨b, hb, hj⟩, hl⟩, if_pos ⟨⟨b, by simp [hb], hj⟩, hl⟩]
    · rw [if_neg h1]
      by_cases h2 : j = (a - 16).toNat ∧ j < w.length
      · rw [if_pos h2, if_pos ⟨⟨a, by simp, h2.1.symm⟩, h2.2⟩]
      · rw [if_neg h2, if_neg]
        rintro ⟨⟨b, hb, hj⟩, hl⟩
        rcases List.mem_cons.1 hb with rfl | hb
        · exact h2 ⟨hj.symm, hl⟩
        · exact h1 ⟨⟨b, hb, hj⟩, hl⟩
def manyL (c : Int) (ys : List Int) : Ls := (⟨[], [], []⟩ : Ls).set ys c.toNat
theorem manyL_get {c : Int} {ys : List Int} (h0 : 0 ≤ c) (h2 : c ≤ 2) {k : Nat} (hk : k < 3) : (manyL c ys).get k = if (k : Int) = c then ys else [] := by
  unfold manyL
  rw [get_set hk (by omega)]
  by_cases h : k = c.toNat
  · rw [if_pos h, if_pos (by omega)]
  · rw [if_neg h, if_neg (by omega)]
    have : k = 0 ∨ k = 1 ∨ k = 2 := by omega
    rcases this with rfl | rfl | rfl <;> rfl
theorem push_many (l : Ls) {c : Int} (ys : List Int) (h0 : 0 ≤ c) (h2 : c ≤ 2) : pushL l c ys = app3 l (manyL c ys) := by
  have : c = 0 ∨ c = 1 ∨ c = 2 := by omega
  rcases this with rfl | rfl | rfl <;> simp [pushL, app3, manyL, Ls.set, Ls.get]
section
variable {h : Hp} {ls : List Ls} {at' : Nat} {c : Int}
/-- A free page has no cell. -/
theorem free_none (hp : h.p[at']? = some (0, 0)) {e : Int} (he : roomA h.p e > 0) : pgN e ≠ at' := fun q => by
  obtain ⟨_, _, _, _, p, g4, _, g6⟩ := cell_facts he
  have g4 : h.p[pgN e]? = some p := g4
  rw [q, hp] at g4
  cases g4
  rcases g6 with ⟨k2, _⟩ | ⟨k1, _⟩
  · cases k2
  · cases k1
/-- The cells of a page that is made one of cells. -/
def newYs (h : Hp) (at' : Nat) (c : Int) : List Int := ((onL (h.p.set at' (1, c)) (at' : Int)).map (·.1)).reverse
def pageH (h : Hp) (at' : Nat) (c : Int) : Hp := ⟨putsW h.w (newYs h at' c), h.p.set at' (1, c), pushL h.f c (newYs h at' c), h.c⟩
structure PageF (h : Hp) (ls : List Ls) (at' : Nat) (c : Int) : Prop where
  m : MayF (pageH h at' c) ls
  old : ∀ e, roomA h.p e > 0 → pgN e ≠ at' ∧ roomA (pageH h at' c).p e = roomA h.p e ∧ pageE (pageH h at' c) e = pageE h e ∧ wordE (pageH h at' c) e = wordE h e
  new : ∀ e, roomA (pageH h at' c).p e > 0 → (pgN e = at' ∧ e ∈ newYs h at' c ∧ wordE (pageH h at' c) e = 0) ∨ (pgN e ≠ at' ∧ roomA h.p e > 0)
  ys : ∀ e, e ∈ newYs h at' c ↔ roomA (pageH h at' c).p e > 0 ∧ pgN e = at'
  ne : newYs h at' c ≠ []
  w : ∀ j : Nat, j / 16 ≠ at' → (pageH h at' c).w[j]? = h.w[j]?
theorem MayF.page (hm : MayF h ls) (hf : findE h.p 1 = some at') (c0 : 0 ≤ c) (c2 : c ≤ 2) : PageF h ls at' c := by
  obtain ⟨q1, _, _⟩ := shaped_ne hm.sh
  obtain ⟨hlt, hp0, _, hmp⟩ := small_put hf c0 c2
  obtain ⟨_, l64⟩ := may_len q1
  have hlen : (h.p.set at' (1, c)).length = h.p.length := by simp
  have hys : ∀ e, e ∈ newYs h at' c ↔ roomA (h.p.set at' (1, c)) e > 0 ∧ pgN e = at' := fun e => by
    unfold newYs
    rw [List.mem_reverse]
    exact on_mem (by rw [hlen]; exact hlt) (by rw [hlen]; omega)
  have hpg : ∀ e : Int, pgN e ≠ at' → (h.p.set at' (1, c))[pgN e]? = h.p[pgN e]? := fun e hne => by
    rw [List.getElem?_set, if_neg (fun q => hne q.symm)]
  have hr16 : ∀ e ∈ newYs h at' c, 16 ≤ e ∧ e / 16 - 1 = (at' : Int) := fun e he => by
    obtain ⟨h1, h2⟩ := (hys e).1 he
    have := (room_in h1).1
    have h2 : (e / 16 - 1).toNat = at' := h2
    omega
  have hword : ∀ e : Int, 16 ≤ e → wordE (pageH h at' c) e = if e ∈ newYs h at' c ∧ (e - 16).toNat < h.w.length then 0 else wordE h e := fun e h16 => by
    unfold wordE
    rw [List.getD_eq_getElem?_getD, List.getD_eq_getElem?_getD]
    show ((putsW h.w (newYs h at' c))[(e - 16).toNat]?).getD 0 = _
    rw [putsW_get]
    by_cases g : e ∈ newYs h at' c ∧ (e - 16).toNat < h.w.length
    · rw [if_pos g, if_pos ⟨⟨e, g.1, rfl⟩, g.2⟩]; rfl
    · rw [if_neg g, if_neg]
      rintro ⟨⟨b, hb, hj⟩, hl⟩
      have := (hr16 b hb).1
      have : b = e := by omega
      exact g ⟨this ▸ hb, hl⟩
  have hsame : ∀ e, pgN e ≠ at' → roomA (h.p.set at' (1, c)) e = roomA h.p e ∧ pageE (pageH h at' c) e = pageE h e := fun e hne => by
    have hg : (h.p.set at' (1, c)).getD (pgN e) (0, 0) = h.p.getD (pgN e) (0, 0) := by rw [List.getD_eq_getElem?_getD, List.getD_eq_getElem?_getD, hpg e hne]
    refine ⟨?_, hg⟩
    rw [roomA_doc, roomA_doc, hmp, q1, hlen]
    show (bif _ then cellAt ((h.p.set at' (1, c)).getD (pgN e) (0, 0)) _ else 0) = _
    rw [hg]
  have hold : ∀ e, roomA h.p e > 0 → pgN e ≠ at' ∧ roomA (pageH h at' c).p e = roomA h.p e ∧ pageE (pageH h at' c) e = pageE h e ∧ wordE (pageH h at' c) e = wordE h e := fun e he => by
    have hne := free_none hp0 he
    obtain ⟨r1, r2⟩ := hsame e hne
    refine ⟨hne, r1, r2, ?_⟩
    rw [hword e (room_in he).1, if_neg]
    intro g
    exact hne ((hys e).1 g.1).2
  have hnew : ∀ e, roomA (h.p.set at' (1, c)) e > 0 → (pgN e = at' ∧ e ∈ newYs h at' c ∧ wordE (pageH h at' c) e = 0) ∨ (pgN e ≠ at' ∧ roomA h.p e > 0) := fun e he => by
    by_cases hq : pgN e = at'
    · have hin := (hys e).2 ⟨he, hq⟩
      refine .inl ⟨hq, hin, ?_⟩
      have h1 := room_in he
      rw [hlen] at h1
      have := shaped_w hm.sh
      rw [hword e h1.1, if_pos ⟨hin, by omega⟩]
    · exact .inr ⟨hq, by rw [← (hsame e hq).1]; exact he⟩
  have hpe : ∀ e ∈ newYs h at' c, pageE (pageH h at' c) e = (1, c) := fun e he => by
    have h2 := ((hys e).1 he).2
    show (h.p.set at' (1, c)).getD (pgN e) (0, 0) = _
    rw [h2, List.getD_eq_getElem?_getD, List.getElem?_set, if_pos rfl, if_pos hlt]; rfl
  have hlist : ∀ (k : Nat) (e : Int), listV h k e = true → listV (pageH h at' c) k e = true := fun k e hl => by
    obtain ⟨_, r1, r2, r3⟩ := hold e (listV_facts hl).1
    unfold listV at hl ⊢
    rw [r1, r2, r3]; exact hl
  have hnd : (newYs h at' c).Nodup := by
    unfold newYs
    exact (List.reverse_perm _).nodup_iff.2 (on_nodup _ _)
  have m1 : MayF ⟨putsW h.w (newYs h at' c), h.p.set at' (1, c), h.f, h.c⟩ (manyL c (newYs h at' c) :: ls) := by
    refine ⟨?_, fun l hl => listed_iff.2 fun k hk e he => ?_, fun e he => ?_, ?_⟩
    · have h1 := hm.sh
      unfold shapedE at h1 ⊢
      show (mayA (putsW h.w _).length && (may (h.p.set at' (1, c)) && (Nat.beq (putsW h.w _).length (16 * (h.p.set at' (1, c)).length) && Nat.beq h.c.length ((putsW h.w _).length / 8)))) = true
      rw [putsW_len, hlen, hmp]
      rw [q1] at h1; exact h1
    · rcases List.mem_cons.1 hl with rfl | hl
      · exact hlist k e (listed_iff.1 (hm.li h.f (by simp)) k hk e he)
      · rcases List.mem_cons.1 hl with rfl | hl
        · rw [manyL_get c0 c2 hk] at he
          by_cases hkc : (k : Int) = c
          · rw [if_pos hkc] at he
            obtain ⟨h1, h2⟩ := (hys e).1 he
            have h3 := hpe e he
            rcases hnew e h1 with ⟨_, _, h4⟩ | ⟨h4, _⟩
            · show (decide (roomA (h.p.set at' (1, c)) e > 0) && (((pageE (pageH h at' c) e).1 == 1 && (pageE (pageH h at' c) e).2 == (k : Int)) && wordE (pageH h at' c) e == 0)) = true
              rw [decide_eq_true h1, h3, h4, hkc]; simp
            · exact absurd h2 h4
          · rw [if_neg hkc] at he; cases he
        · exact hlist k e (listed_iff.1 (hm.li l (by simp [hl])) k hk e he)
    · have he : roomA (h.p.set at' (1, c)) e > 0 := cell_mem.1 he
      rcases hnew e he with ⟨_, h2, h3⟩ | ⟨_, h2⟩
      · show (unpOK (wordE (pageH h at' c) e) && bif (unp (wordE (pageH h at' c) e)).a then fitsE (pageE (pageH h at' c) e) (unp (wordE (pageH h at' c) e)).x else (pageE (pageH h at' c) e).1 == 1) = true
        rw [h3, hpe e h2]; rfl
      · obtain ⟨_, r1, r2, r3⟩ := hold e h2
        have := hm.ce e (cell_mem.2 h2)
        show (unpOK (wordE (pageH h at' c) e) && bif (unp (wordE (pageH h at' c) e)).a then fitsE (pageE (pageH h at' c) e) (unp (wordE (pageH h at' c) e)).x else (pageE (pageH h at' c) e).1 == 1) = true
        rw [r2, r3]; exact this
    · have h1 := hm.nd
      show (catI (h.f :: manyL c (newYs h at' c) :: ls)).Nodup
      rw [catI_cons] at h1
      rw [catI_cons, catI_cons]
      have ho : one3 (manyL c (newYs h at' c)) = newYs h at' c := by
        have : c = 0 ∨ c = 1 ∨ c = 2 := by omega
        rcases this with rfl | rfl | rfl <;> simp [one3, manyL, Ls.set]
      rw [ho, (swp _ _ _).nodup_iff, List.nodup_append]
      refine ⟨hnd, h1, fun x hx y hy hxy => ?_⟩
      subst hxy
      have hin : ∃ l ∈ h.f :: ls, ∃ k, k < 3 ∧ x ∈ l.get k := by
        rcases List.mem_append.1 hy with hy | hy
        · obtain ⟨k, hk, he⟩ := one3_mem.1 hy
          exact ⟨h.f, by simp, k, hk, he⟩
        · obtain ⟨l, hl, k, hk, he⟩ := cat_mem.1 hy
          exact ⟨l, by simp [hl], k, hk, he⟩
      obtain ⟨l, hl, k, hk, he⟩ := hin
      exact free_none hp0 (listV_facts (listed_iff.1 (hm.li l hl) k hk x he)).1 ((hys x).1 hx).2
  refine ⟨?_, hold, hnew, hys, ?_, fun j hj => ?_⟩
  · have := m1.absorb
    unfold pageH
    rw [push_many h.f (newYs h at' c) c0 c2]
    exact this
  · have hr : roomA (h.p.set at' (1, c)) (16 * ((at' : Int) + 1)) = wordsOf c := by
      rw [roomA_doc, hmp, decide_eq_true (by omega), decide_eq_true (by rw [hlen]; omega)]
      show cellAt ((h.p.set at' (1, c)).getD (16 * ((at' : Int) + 1) / 16 - 1).toNat (0, 0)) (16 * ((at' : Int) + 1) % 16).toNat = _
      rw [show (16 * ((at' : Int) + 1) / 16 - 1).toNat = at' by omega, show (16 * ((at' : Int) + 1) % 16).toNat = 0 by omega, List.getD_eq_getElem?_getD, List.getElem?_set, if_pos rfl, if_pos hlt]
      show cellAt (1, c) 0 = _
      unfold cellAt
      simp
    have hin : 16 * ((at' : Int) + 1) ∈ newYs h at' c := (hys _).2 ⟨by rw [hr]; rcases words_val c0 c2 with ⟨_, w⟩ | ⟨_, w⟩ | ⟨_, w⟩ <;> omega, by show (16 * ((at' : Int) + 1) / 16 - 1).toNat = at'; omega⟩
    intro hq
    rw [hq] at hin; cases hin
  · show (putsW h.w (newYs h at' c))[j]? = _
    rw [putsW_get, if_neg]
    rintro ⟨⟨b, hb, hbj⟩, _⟩
    have := hr16 b hb
    omega
end
end Go.Ab

namespace Go.Ab
open Go
open Go.Proofs
theorem count_set {l : Ls} {x : List Int} {k : Nat} (hk : k < 3) (e : Int) : (one3 (l.set x k)).count e + (l.get k).count e = (one3 l).count e + x.count e := by
  have : k = 0 ∨ k = 1 ∨ k = 2 := by omega
  rcases this with rfl | rfl | rfl
  · show (x ++ l.b ++ l.c).count e + l.a.count e = (l.a ++ l.b ++ l.c).count e + x.count e
    simp only [List.count_append]; omega
  · show (l.a ++ x ++ l.c).count e + l.b.count e = (l.a ++ l.b ++ l.c).count e + x.count e
    simp only [List.count_append]; omega
  · show (l.a ++ l.b ++ x).count e + l.c.count e = (l.a ++ l.b ++ l.c).count e + x.count e
    simp only [List.count_append]; omega
theorem count_cut (n : Nat) (l : List Int) (e : Int) : (l.take n).count e + (l.drop n).count e = l.count e := by
  rw [← List.count_append, List.take_append_drop]
section
variable {h : Hp} {c : Ls} {ls : List Ls}
/-- The lists of a heap and a cache, told anew. -/
theorem MayF.regroup (hm : MayF h (c :: ls)) {f' c' : Ls} {r : List Int} (hmem : ∀ k, k < 3 → ∀ e, (e ∈ f'.get k ∨ e ∈ c'.get k) → (e ∈ h.f.get k ∨ e ∈ c.get k))
    (hp : (r ++ (one3 f' ++ one3 c')).Perm (one3 h.f ++ one3 c)) : MayF { h with f := f' } (c' :: ls) ∧ r.Nodup ∧ ∀ e ∈ r, e ∉ catI (f' :: c' :: ls) := by
  have hnd := hm.nd
  rw [catI_cons, catI_cons, ← List.append_assoc] at hnd
  have h1 : (r ++ (one3 f' ++ one3 c') ++ catI ls).Nodup := (hp.append_right (catI ls)).nodup_iff.2 hnd
  rw [List.append_assoc, List.append_assoc] at h1
  obtain ⟨h2, h3, h4⟩ := List.nodup_append.1 h1
  refine ⟨⟨hm.sh, fun l hl => ?_, hm.ce, ?_⟩, h2, fun e he hin => ?_⟩
  · have key : ∀ k, k < 3 → ∀ e, (e ∈ f'.get k ∨ e ∈ c'.get k) → listV h k e = true := fun k hk e he => by
      rcases hmem k hk e he with h5 | h5
      · exact listed_iff.1 (hm.li h.f (by simp)) k hk e h5
      · exact listed_iff.1 (hm.li c (by simp)) k hk e h5
    rcases List.mem_cons.1 hl with rfl | hl
    · exact listed_iff.2 fun k hk e he => key k hk e (.inl he)
    · rcases List.mem_cons.1 hl with rfl | hl
      · exact listed_iff.2 fun k hk e he => key k hk e (.inr he)
      · exact hm.li l (by simp [hl])
  · show (catI (f' :: c' :: ls)).Nodup
    rw [catI_cons, catI_cons]; exact h3
  · rw [catI_cons, catI_cons] at hin
    exact h4 e he e hin rfl
theorem MayF.move (hm : MayF h (c :: ls)) {k : Int} (k0 : 0 ≤ k) (k2 : k ≤ 2) : MayF { h with f := moveF h.f k } (moveT h.f c k :: ls) := by
  have hk : k.toNat < 3 := by omega
  refine (hm.regroup (r := []) (fun j hj e he => ?_) ?_).1
  · unfold moveF moveT at he
    rw [get_set hj hk, get_set hj hk] at he
    by_cases hjk : j = k.toNat
    · rw [if_pos hjk, if_pos hjk] at he
      rw [hjk]
      rcases he with he | he
      · exact .inl (List.mem_of_mem_take he)
      · rcases List.mem_append.1 he with he | he
        · exact .inr he
        · exact .inl (List.mem_of_mem_drop (List.mem_reverse.1 he))
    · rw [if_neg hjk, if_neg hjk] at he
      exact he
  · rw [List.nil_append, List.perm_iff_count]
    intro e
    have h1 := count_set (l := h.f) (x := (h.f.get k.toNat).take ((h.f.get k.toNat).length - 2)) hk e
    have h2 := count_set (l := c) (x := c.get k.toNat ++ ((h.f.get k.toNat).drop ((h.f.get k.toNat).length - 2)).reverse) hk e
    have h3 := count_cut ((h.f.get k.toNat).length - 2) (h.f.get k.toNat) e
    rw [List.count_append, List.count_reverse] at h2
    rw [List.count_append, List.count_append]
    unfold moveF moveT
    omega
/-- A heap that may be but for a cell, which is on no list. -/
structure MayX (h : Hp) (ls : List Ls) (a : Int) : Prop where
  sh : shapedE h = true
  li : ∀ l ∈ h.f :: ls, listedV h l = true
  ce : ∀ c ∈ cellAs h.p, c ≠ a → mayV h c = true
  nd : (catI (h.f :: ls)).Nodup
  r : roomA h.p a > 0
  no : a ∉ catI (h.f :: ls)
theorem last_drop {l : List Int} (hl : l ≠ []) : l.drop (l.length - 1) = [l.getD (l.length - 1) 0] := by
  have : 0 < l.length := List.length_pos_iff.2 hl
  rw [List.drop_eq_getElem_cons (by omega), List.drop_eq_nil_of_le (by omega), List.getD_eq_getElem?_getD, List.getElem?_eq_getElem (by omega)]
  rfl
theorem MayF.pop (hm : MayF h (c :: ls)) {k : Int} (k0 : 0 ≤ k) (k2 : k ≤ 2) (hne : c.get k.toNat ≠ []) : MayX h (popL c k :: ls) (lastL c k) ∧ listV h k (lastL c k) = true ∧ (lastL c k) ∈ c.get k.toNat := by
  have hk : k.toNat < 3 := by omega
  have hdr := last_drop hne
  have hin : lastL c k ∈ c.get k.toNat := List.mem_of_mem_drop (i := (c.get k.toNat).length - 1) (by rw [hdr]; exact List.mem_singleton.2 rfl)
  have hl : listV h k (lastL c k) = true := by
    have := listed_iff.1 (hm.li c (by simp)) k.toNat hk _ hin
    rwa [show ((k.toNat : Nat) : Int) = k by omega] at this
  obtain ⟨g1, g2, g3⟩ := hm.regroup (f' := h.f) (c' := popL c k) (r := [lastL c k]) (fun j hj e he => by
    unfold popL at he
    rw [get_set hj hk] at he
    by_cases hjk : j = k.toNat
    · rw [if_pos hjk] at he
      rw [hjk] at he ⊢
      rcases he with he | he
      · exact .inl he
      · exact .inr (List.mem_of_mem_take he)
    · rw [if_neg hjk] at he
      exact he) (by
    rw [List.perm_iff_count]
    intro e
    have h2 := count_set (l := c) (x := (c.get k.toNat).take ((c.get k.toNat).length - 1)) hk e
    have h3 := count_cut ((c.get k.toNat).length - 1) (c.get k.toNat) e
    rw [hdr] at h3
    rw [List.count_append, List.count_append, List.count_append]
    unfold popL
    unfold lastL
    omega)
  exact ⟨⟨g1.sh, g1.li, fun e he _ => g1.ce e he, g1.nd, (listV_facts hl).1, g3 _ (List.mem_singleton.2 rfl)⟩, hl, hin⟩
/-- An object's words: its head, and noughts. -/
def putH (h : Hp) (a v : Int) : Hp := { h with w := putW (zeroW h.w a (roomA h.p a)) a v }
theorem putH_len {a v : Int} (hs : shapedE h = true) (hr : roomA h.p a > 0) : (putH h a v).w.length = h.w.length := by
  obtain ⟨z1, z2, z3⟩ := zero_in hs hr
  show (putW _ _ _).length = _
  rw [putW_len, zero_len z1 z2 z3]
theorem putH_get {a v : Int} (hs : shapedE h = true) (hr : roomA h.p a > 0) (j : Nat) : (putH h a v).w[j]? = if (j : Int) = a - 16 then some v else if a - 16 ≤ (j : Int) ∧ (j : Int) < a - 16 + roomA h.p a then some 0 else h.w[j]? := by
  obtain ⟨z1, z2, z3⟩ := zero_in hs hr
  show (putW (zeroW h.w a (roomA h.p a)) a v)[j]? = _
  rw [putW_get, zero_len z1 z2 z3, zero_get' z1 z2 z3]
  by_cases g : (j : Int) = a - 16
  · rw [if_pos (by omega), if_pos g]
  · rw [if_neg (by omega), if_neg g]
theorem putH_word {a v : Int} (hs : shapedE h = true) (hr : roomA h.p a > 0) {e : Int} (h16 : 16 ≤ e) : wordE (putH h a v) e = if e = a then v else if a ≤ e ∧ e < a + roomA h.p a then 0 else wordE h e := by
  have := (room_in hr).1
  unfold wordE
  rw [List.getD_eq_getElem?_getD, List.getD_eq_getElem?_getD, putH_get hs hr]
  by_cases g : e = a
  · rw [if_pos g, if_pos (by omega)]; rfl
  · rw [if_neg g, if_neg (by omega)]
    by_cases g2 : a ≤ e ∧ e < a + roomA h.p a
    · rw [if_pos g2, if_pos (by omega)]; rfl
    · rw [if_neg g2, if_neg (by omega)]
theorem putH_keep {a v : Int} (hs : shapedE h = true) (hr : roomA h.p a > 0) {e : Int} (he : roomA h.p e > 0) (hne : e ≠ a) : wordE (putH h a v) e = wordE h e := by
  rw [putH_word hs hr (room_in he).1, if_neg hne, if_neg]
  intro g
  rcases cells_apart hr he hne with g2 | g2 <;> omega
theorem putH_at {a v : Int} (hs : shapedE h = true) (hr : roomA h.p a > 0) : wordE (putH h a v) a = v := by
  rw [putH_word hs hr (room_in hr).1, if_pos rfl]
theorem MayX.put {a : Int} (hx : MayX h ls a) {v : Int} (h1 : unpOK v = true) (h2 : (unp v).a = true) (h3 : fitsE (pageE h a) (unp v).x = true) : MayF (putH h a v) ls := by
  have hl : ∀ l ∈ h.f :: ls, ∀ k, k < 3 → ∀ e ∈ l.get k, e ≠ a := fun l hl k hk e he q => hx.no (cat_mem.2 ⟨l, hl, k, hk, q ▸ he⟩)
  have key : ∀ l ∈ h.f :: ls, listedV (putH h a v) l = true := fun l hl' => listed_iff.2 fun k hk e he => by
    have h4 := listed_iff.1 (hx.li l hl') k hk e he
    have h5 := putH_keep (v := v) hx.sh hx.r (listV_facts h4).1 (hl l hl' k hk e he)
    unfold listV at h4 ⊢
    rw [h5]; exact h4
  refine ⟨?_, key, fun e he => ?_, hx.nd⟩
  · have := hx.sh
    unfold shapedE at this ⊢
    rw [putH_len hx.sh hx.r]; exact this
  · have he' : roomA h.p e > 0 := cell_mem.1 he
    by_cases hq : e = a
    · subst hq
      unfold mayV
      rw [putH_at hx.sh hx.r, h1, h2]
      exact h3
    · have := hx.ce e he hq
      unfold mayV at this ⊢
      rw [putH_keep hx.sh hx.r he' hq]; exact this
end
/-- Pages that are made a large one's. -/
def largeH (h : Hp) (at' : Nat) (n : Int) : Hp := { h with p := (largeE h.p (at' : Int) n).2 }
structure LargeF (h : Hp) (ls : List Ls) (at' : Nat) (n : Int) : Prop where
  m : MayX (largeH h at' n) ls (16 * ((at' : Int) + 1))
  r : roomA (largeH h at' n).p (16 * ((at' : Int) + 1)) = 16 * n
  p : pageE (largeH h at' n) (16 * ((at' : Int) + 1)) = (2, n)
  n0 : 1 ≤ n
  l : (largeH h at' n).p.length = h.p.length
  old : ∀ e, roomA h.p e > 0 → e ≠ 16 * ((at' : Int) + 1) ∧ roomA (largeH h at' n).p e = roomA h.p e ∧ pageE (largeH h at' n) e = pageE h e ∧ wordE (largeH h at' n) e = wordE h e
  new : ∀ e, roomA (largeH h at' n).p e > 0 → e = 16 * ((at' : Int) + 1) ∨ roomA h.p e > 0
theorem MayF.large {h : Hp} {ls : List Ls} (hm : MayF h ls) {n : Int} {at' : Nat} (hf : findE h.p n = some at') : LargeF h ls at' n := by
  obtain ⟨n1, n4, hle, hfree, hmx, hlen, hget⟩ := large_put hf
  obtain ⟨q1, _, _⟩ := shaped_ne hm.sh
  have hlen' : (largeH h at' n).p.length = h.p.length := hlen
  have hget' : ∀ j, (largeH h at' n).p[j]? = if j = at' then some (2, n) else if at' < j ∧ j < at' + n.toNat then some (3, 0) else h.p[j]? := hget
  have hmx' : may (largeH h at' n).p = true := hmx
  have hout : ∀ e, roomA h.p e > 0 → ¬(at' ≤ pgN e ∧ pgN e < at' + n.toNat) := fun e he g =>
    free_none (h := h) (at' := pgN e) (hfree _ g.1 g.2) he rfl
  have hsame : ∀ e, ¬(at' ≤ pgN e ∧ pgN e < at' + n.toNat) → roomA (largeH h at' n).p e = roomA h.p e ∧ pageE (largeH h at' n) e = pageE h e ∧ wordE (largeH h at' n) e = wordE h e := fun e g =>
    same_at rfl hlen' (by rw [hmx', q1]) (by
      show (largeH h at' n).p[pgN e]? = h.p[pgN e]?
      rw [hget', if_neg (by omega), if_neg (by omega)])
  have hpa : pgN (16 * ((at' : Int) + 1)) = at' := by show (16 * ((at' : Int) + 1) / 16 - 1).toNat = at'; omega
  have hpe : pageE (largeH h at' n) (16 * ((at' : Int) + 1)) = (2, n) := by
    show (largeH h at' n).p.getD (pgN (16 * ((at' : Int) + 1))) (0, 0) = _
    rw [hpa, List.getD_eq_getElem?_getD, hget', if_pos rfl]; rfl
  have hra : roomA (largeH h at' n).p (16 * ((at' : Int) + 1)) = 16 * n := by
    rw [roomA_doc, hmx', decide_eq_true (by omega), decide_eq_true (by rw [hlen']; omega)]
    show cellAt (pageE (largeH h at' n) (16 * ((at' : Int) + 1))) (16 * ((at' : Int) + 1) % 16).toNat = _
    rw [hpe, show (16 * ((at' : Int) + 1) % 16).toNat = 0 by omega]
    rfl
  have hnew : ∀ e, roomA (largeH h at' n).p e > 0 → e = 16 * ((at' : Int) + 1) ∨ roomA h.p e > 0 := fun e he => by
    by_cases g : at' ≤ pgN e ∧ pgN e < at' + n.toNat
    · left
      obtain ⟨_, e1, _, e3, p, e4, _, e6⟩ := cell_facts he
      have e4 : (largeH h at' n).p[pgN e]? = some p := e4
      have e3 : ((pgN e : Nat) : Int) = e / 16 - 1 := e3
      rw [hget'] at e4
      by_cases hq : pgN e = at'
      · rw [if_pos hq] at e4
        cases e4
        rcases e6 with ⟨_, g2, _⟩ | ⟨g2, _⟩
        · omega
        · cases g2
      · rw [if_neg hq, if_pos (by omega)] at e4
        cases e4
        rcases e6 with ⟨g2, _⟩ | ⟨g2, _⟩ <;> cases g2
    · right
      rw [← (hsame e g).1]; exact he
  have hold : ∀ e, roomA h.p e > 0 → e ≠ 16 * ((at' : Int) + 1) ∧ roomA (largeH h at' n).p e = roomA h.p e ∧ pageE (largeH h at' n) e = pageE h e ∧ wordE (largeH h at' n) e = wordE h e := fun e he =>
    ⟨fun q => hout e he (by rw [q, hpa]; omega), hsame e (hout e he)⟩
  have hlist : ∀ l ∈ h.f :: ls, listedV (largeH h at' n) l = true := fun l hl => listed_iff.2 fun k hk e he => by
    have h1 := listed_iff.1 (hm.li l hl) k hk e he
    obtain ⟨_, r1, r2, r3⟩ := hold e (listV_facts h1).1
    unfold listV at h1 ⊢
    rw [r1, r2, r3]; exact h1
  refine ⟨⟨?_, hlist, fun e he hne => ?_, hm.nd, by rw [hra]; omega, fun hin => ?_⟩, hra, hpe, n1, hlen', hold, hnew⟩
  · have h1 := hm.sh
    unfold shapedE at h1 ⊢
    rw [hlen', hmx']
    rw [q1] at h1
    exact h1
  · rcases hnew e (cell_mem.1 he) with g | g
    · exact absurd g hne
    · obtain ⟨_, _, r2, r3⟩ := hold e g
      have := hm.ce e (cell_mem.2 g)
      unfold mayV at this ⊢
      rw [r2, r3]; exact this
  · obtain ⟨l, hl, k, hk, he⟩ := cat_mem.1 hin
    exact (hold _ (listV_facts (listed_iff.1 (hm.li l hl) k hk _ he)).1).1 rfl
end Go.Ab

namespace Go.Ab
open Go
open Go.Proofs
/-- All cells that have no object are told of. -/
def Told (h : Hp) (ls : List Ls) : Prop := ∀ e, roomA h.p e > 0 → wordE h e = 0 → e ∈ catI (h.f :: ls)
/-- An object's words are as they were. -/
def Stay (h k : Hp) (e : Int) : Prop := roomA k.p e = roomA h.p e ∧ pageE k e = pageE h e ∧ ∀ j : Nat, e - 16 ≤ (j : Int) → (j : Int) < e - 16 + roomA h.p e → k.w[j]? = h.w[j]?
theorem Stay.word {h k : Hp} {e : Int} (s : Stay h k e) (he : roomA h.p e > 0) : wordE k e = wordE h e := by
  have := (room_in he).1
  unfold wordE
  rw [List.getD_eq_getElem?_getD, List.getD_eq_getElem?_getD, s.2.2 (e - 16).toNat (by omega) (by omega)]
theorem Stay.trans {h k m : Hp} {e : Int} (s : Stay h k e) (t : Stay k m e) : Stay h m e :=
  ⟨t.1.trans s.1, t.2.1.trans s.2.1, fun j h1 h2 => (t.2.2 j h1 (by rw [s.1]; exact h2)).trans (s.2.2 j h1 h2)⟩
theorem Stay.refl (h : Hp) (e : Int) : Stay h h e := ⟨rfl, rfl, fun _ _ _ => rfl⟩
/-- Lists and free pages that are told anew. -/
structure Step0 (h : Hp) (c : Ls) (k : Hp) (d : Ls) : Prop where
  m : ∀ ls, MayF h (c :: ls) → MayF k (d :: ls)
  wl : k.w.length = h.w.length
  pl : k.p.length = h.p.length
  cl : k.c = h.c
  old : ∀ e, roomA h.p e > 0 → wordE h e ≠ 0 → Stay h k e
  new : ∀ e, roomA k.p e > 0 → wordE k e ≠ 0 → roomA h.p e > 0 ∧ wordE h e = wordE k e
  told : ∀ ls, Told h (c :: ls) → Told k (d :: ls)
theorem Step0.refl (h : Hp) (c : Ls) : Step0 h c h c := ⟨fun _ m => m, rfl, rfl, rfl, fun e _ _ => .refl h e, fun _ h1 _ => ⟨h1, rfl⟩, fun _ t => t⟩
theorem move_get {f t : Ls} {k : Int} {j : Nat} (hj : j < 3) (k0 : 0 ≤ k) (k2 : k ≤ 2) {e : Int} (he : e ∈ f.get j ∨ e ∈ t.get j) : e ∈ (moveF f k).get j ∨ e ∈ (moveT f t k).get j := by
  have hk : k.toNat < 3 := by omega
  unfold moveF moveT
  rw [get_set hj hk, get_set hj hk]
  by_cases hjk : j = k.toNat
  · rw [if_pos hjk, if_pos hjk]
    rw [hjk] at he
    rcases he with he | he
    · rw [← List.take_append_drop ((f.get k.toNat).length - 2) (f.get k.toNat)] at he
      rcases List.mem_append.1 he with he | he
      · exact .inl he
      · exact .inr (List.mem_append_right _ (List.mem_reverse.2 he))
    · exact .inr (List.mem_append_left _ he)
  · rw [if_neg hjk, if_neg hjk]; exact he
theorem cat_two {f c : Ls} {ls : List Ls} {e : Int} : e ∈ catI (f :: c :: ls) ↔ (∃ k, k < 3 ∧ (e ∈ f.get k ∨ e ∈ c.get k)) ∨ e ∈ catI ls := by
  rw [catI_cons, catI_cons, List.mem_append, List.mem_append, one3_mem, one3_mem]
  constructor
  · rintro (⟨k, hk, he⟩ | ⟨k, hk, he⟩ | he)
    · exact .inl ⟨k, hk, .inl he⟩
    · exact .inl ⟨k, hk, .inr he⟩
    · exact .inr he
  · rintro (⟨k, hk, he | he⟩ | he)
    · exact .inl ⟨k, hk, he⟩
    · exact .inr (.inl ⟨k, hk, he⟩)
    · exact .inr (.inr he)
theorem Step0.move {h k : Hp} {c d : Ls} (s : Step0 h c k d) {i : Int} (i0 : 0 ≤ i) (i2 : i ≤ 2) : Step0 h c { k with f := moveF k.f i } (moveT k.f d i) :=
  ⟨fun ls m => (s.m ls m).move i0 i2, s.wl, s.pl, s.cl, s.old, s.new, fun ls t e h1 h2 => by
    rcases cat_two.1 (s.told ls t e h1 h2) with ⟨j, hj, he⟩ | he
    · exact cat_two.2 (.inl ⟨j, hj, move_get hj i0 i2 he⟩)
    · exact cat_two.2 (.inr he)⟩
theorem page_step {h : Hp} {c : Ls} (hm : MayF h [c]) {at' : Nat} (hf : findE h.p 1 = some at') {i : Int} (i0 : 0 ≤ i) (i2 : i ≤ 2) : Step0 h c (pageH h at' i) c := by
  have P := hm.page hf i0 i2
  refine ⟨fun ls m => (m.page hf i0 i2).m, putsW_len _ _, by show (h.p.set at' (1, i)).length = _; simp, rfl, fun e h1 h2 => ?_, fun e h1 h2 => ?_, fun ls t e h1 h2 => ?_⟩
  · obtain ⟨g1, g2, g3, g4⟩ := P.old e h1
    refine ⟨g2, g3, fun j j1 j2 => ?_⟩
    show (putsW h.w (newYs h at' i))[j]? = _
    rw [putsW_get, if_neg]
    rintro ⟨⟨y, hy, hj⟩, _⟩
    obtain ⟨y1, y2⟩ := (P.ys y).1 hy
    have hne : y ≠ e := fun q => g1 (q ▸ y2)
    have hr : roomA (pageH h at' i).p e > 0 := by rw [g2]; exact h1
    have := (room_in y1).1
    rcases cells_apart hr y1 hne with g | g
    · omega
    · rw [g2] at g; omega
  · rcases P.new e h1 with ⟨_, _, g⟩ | ⟨g1, g2⟩
    · exact absurd g h2
    · exact ⟨g2, (P.old e g2).2.2.2.symm⟩
  · have hpush : (pageH h at' i).f = app3 h.f (manyL i (newYs h at' i)) := push_many h.f _ i0 i2
    rcases P.new e h1 with ⟨_, g, _⟩ | ⟨g1, g2⟩
    · refine cat_two.2 (.inl ⟨i.toNat, by omega, .inl ?_⟩)
      rw [hpush, app3_get, manyL_get i0 i2 (by omega), if_pos (by omega)]
      exact List.mem_append_right _ g
    · rw [(P.old e g2).2.2.2] at h2
      rcases cat_two.1 (t e g2 h2) with ⟨j, hj, he⟩ | he
      · refine cat_two.2 (.inl ⟨j, hj, ?_⟩)
        rw [hpush, app3_get]
        rcases he with he | he
        · exact .inl (List.mem_append_left _ he)
        · exact .inr he
      · exact cat_two.2 (.inr he)
/-- A cell that is made ready for an object. -/
structure Ready (h : Hp) (c : Ls) (k : Hp) (d : Ls) (a : Int) : Prop where
  m : ∀ ls, MayF h (c :: ls) → MayX k (d :: ls) a
  wl : k.w.length = h.w.length
  pl : k.p.length = h.p.length
  cl : k.c = h.c
  old : ∀ e, roomA h.p e > 0 → wordE h e ≠ 0 → e ≠ a ∧ Stay h k e
  new : ∀ e, roomA k.p e > 0 → e ≠ a → wordE k e ≠ 0 → roomA h.p e > 0 ∧ wordE h e = wordE k e
  told : ∀ ls, Told h (c :: ls) → ∀ e, e ≠ a → roomA k.p e > 0 → wordE k e = 0 → e ∈ catI (k.f :: d :: ls)
theorem pop_in {d : Ls} {i : Int} (i0 : 0 ≤ i) (i2 : i ≤ 2) (hne : d.get i.toNat ≠ []) {j : Nat} (hj : j < 3) {e : Int} (he : e ∈ d.get j) (hl : e ≠ lastL d i) : e ∈ (popL d i).get j := by
  unfold popL
  rw [get_set hj (by omega)]
  by_cases hjk : j = i.toNat
  · rw [if_pos hjk]
    rw [hjk, ← List.take_append_drop ((d.get i.toNat).length - 1) (d.get i.toNat), last_drop hne] at he
    rcases List.mem_append.1 he with he | he
    · exact he
    · exact absurd (List.mem_singleton.1 he) hl
  · rw [if_neg hjk]; exact he
theorem Step0.pop {h k : Hp} {c d : Ls} (s : Step0 h c k d) (hm : MayF h [c]) {i : Int} (i0 : 0 ≤ i) (i2 : i ≤ 2) (hne : d.get i.toNat ≠ []) :
    Ready h c k (popL d i) (lastL d i) ∧ roomA k.p (lastL d i) > 0 ∧ pageE k (lastL d i) = (1, i) := by
  obtain ⟨_, hv, _⟩ := (s.m [] hm).pop i0 i2 hne
  obtain ⟨v1, v2, v3⟩ := listV_facts hv
  refine ⟨⟨fun ls m => ((s.m ls m).pop i0 i2 hne).1, s.wl, s.pl, s.cl, fun e h1 h2 => ⟨fun q => ?_, s.old e h1 h2⟩, fun e h1 _ h2 => s.new e h1 h2, fun ls t e hq h1 h2 => ?_⟩, v1, v2⟩
  · have := (s.old e h1 h2).word h1
    rw [q, v3] at this
    exact h2 (q ▸ this.symm)
  · rcases cat_two.1 (s.told ls t e h1 h2) with ⟨j, hj, he | he⟩ | he
    · exact cat_two.2 (.inl ⟨j, hj, .inl he⟩)
    · exact cat_two.2 (.inl ⟨j, hj, .inr (pop_in i0 i2 hne hj he hq)⟩)
    · exact cat_two.2 (.inr he)
theorem large_ready {h : Hp} {c : Ls} (hm : MayF h [c]) {n : Int} {at' : Nat} (hf : findE h.p n = some at') : Ready h c (largeH h at' n) c (16 * ((at' : Int) + 1)) := by
  have L := hm.large hf
  refine ⟨fun ls m => (m.large hf).m, rfl, L.l, rfl, fun e h1 h2 => ?_, fun e h1 hne h2 => ?_, fun ls t e hne h1 h2 => ?_⟩
  · obtain ⟨g1, g2, g3, _⟩ := L.old e h1
    exact ⟨g1, g2, g3, fun _ _ _ => rfl⟩
  · rcases L.new e h1 with g | g
    · exact absurd g hne
    · exact ⟨g, (L.old e g).2.2.2.symm⟩
  · rcases L.new e h1 with g | g
    · exact absurd g hne
    · rw [(L.old e g).2.2.2] at h2
      exact t e g h2
/-- An object that is taken. -/
structure Took (h : Hp) (c : Ls) (x : Hd) (k : Hp) (d : Ls) (a : Int) : Prop where
  m : ∀ ls, MayF h (c :: ls) → MayF k (d :: ls)
  wl : k.w.length = h.w.length
  pl : k.p.length = h.p.length
  cl : k.c = h.c
  r : roomA k.p a > 0
  fit : fitsE (pageE k a) x.x = true
  w : wordE k a = packH x
  z : ∀ j : Nat, a - 16 < (j : Int) → (j : Int) < a - 16 + roomA k.p a → k.w[j]? = some 0
  old : ∀ e, roomA h.p e > 0 → wordE h e ≠ 0 → e ≠ a ∧ Stay h k e
  new : ∀ e, roomA k.p e > 0 → e ≠ a → wordE k e ≠ 0 → roomA h.p e > 0 ∧ wordE h e = wordE k e
  told : ∀ ls, Told h (c :: ls) → Told k (d :: ls)
theorem Ready.took {h k : Hp} {c d : Ls} {a : Int} (s : Ready h c k d a) (hm : MayF h [c]) {x : Hd} (h1 : mayH x = true) (h2 : x.a = true) (h3 : fitsE (pageE k a) x.x = true) : Took h c x (putH k a (packH x)) d a := by
  have X := s.m [] hm
  refine ⟨fun ls m => (s.m ls m).put (unpOK_pack h1 h2) (by rw [unp_pack h1 h2]; exact h2) (by rw [unp_pack h1 h2]; exact h3), ?_, s.pl, s.cl, X.r, h3, putH_at X.sh X.r, fun j j1 j2 => ?_, fun e g1 g2 => ?_, fun e g1 g2 g3 => ?_, fun ls t e g1 g2 => ?_⟩
  · rw [putH_len X.sh X.r]; exact s.wl
  · have j2 : (j : Int) < a - 16 + roomA k.p a := j2
    rw [putH_get X.sh X.r, if_neg (by omega), if_pos ⟨by omega, j2⟩]
  · obtain ⟨g3, g4⟩ := s.old e g1 g2
    refine ⟨g3, g4.trans ⟨rfl, rfl, fun j j1 j2 => ?_⟩⟩
    have he : roomA k.p e > 0 := by rw [g4.1]; exact g1
    have := (room_in he).1
    rw [putH_get X.sh X.r, if_neg, if_neg]
    · rcases cells_apart X.r he g3 with q | q
      · rcases cells_apart he X.r g3.symm with q2 | q2 <;> omega
      · omega
    · have := X.r
      rcases cells_apart X.r he g3 with q | q
      · rcases cells_apart he X.r g3.symm with q2 | q2 <;> omega
      · omega
  · have g1 : roomA k.p e > 0 := g1
    rw [putH_keep X.sh X.r g1 g2] at g3
    rw [putH_keep X.sh X.r g1 g2]
    exact s.new e g1 g2 g3
  · have g1 : roomA k.p e > 0 := g1
    by_cases q : e = a
    · rw [q, putH_at X.sh X.r] at g2
      exfalso
      have := unp_pack h1 h2
      rw [g2] at this
      rw [← this] at h2
      cases h2
    · rw [putH_keep X.sh X.r g1 q] at g2
      exact s.told ls t e q g1 g2
end Go.Ab

namespace Go.Ab
open Go
open Go.Proofs
def lenL (l : Ls) (n : Nat) : Prop := ∀ k, k < 3 → (l.get k).length ≤ n
theorem lenL.smL {l : Ls} {n : Nat} (hl : lenL l n) (hn : n ≤ 100000) : smL l = true :=
  smL_len (Nat.le_trans (hl 0 (by omega)) hn) (Nat.le_trans (hl 1 (by omega)) hn) (Nat.le_trans (hl 2 (by omega)) hn)
theorem lenL.mono {l : Ls} {n m : Nat} (hl : lenL l n) (h : n ≤ m) : lenL l m := fun k hk => Nat.le_trans (hl k hk) h
theorem lenL.set {l : Ls} {n m : Nat} (hl : lenL l n) {x : List Int} {i : Nat} (hi : i < 3) (hx : x.length ≤ m) (hn : n ≤ m) : lenL (l.set x i) m := fun k hk => by
  rw [get_set hk hi]
  by_cases h : k = i
  · rw [if_pos h]; exact hx
  · rw [if_neg h]; exact Nat.le_trans (hl k hk) hn
theorem newYs_len {h : Hp} (hl : h.p.length ≤ 200) (at' : Nat) (i : Int) : (newYs h at' i).length ≤ 8192 := by
  unfold newYs
  rw [List.length_reverse, ← onL_filter]
  refine Nat.le_trans (List.length_filter_le _ _) ?_
  exact Nat.le_of_ble_eq_true (all_len8 (Nat.ble_eq_true_of_le (by simpa using hl)))
theorem pg_some {h : Hp} {c : Ls} {at' : Nat} (hf : findE h.p 1 = some at') {i : Int} (i0 : 0 ≤ i) (i2 : i ≤ 2) :
    pgE ⟨h, c⟩ = 0 ∧ pgFr ⟨h, c⟩ i = ⟨pageH h at' i, c⟩ ∧ pgPs ⟨h, c⟩ i = h.p.set at' (1, i) ∧ pgYs ⟨h, c⟩ i = newYs h at' i := by
  have a0 : pgAt ⟨h, c⟩ = (at' : Int) := by unfold pgAt; show (((findE h.p 1).getD 0 : Nat) : Int) = _; rw [hf]; rfl
  have a1 : pgPs ⟨h, c⟩ i = h.p.set at' (1, i) := by unfold pgPs; rw [a0]; exact (small_put hf i0 i2).2.2.1
  have a2 : pgYs ⟨h, c⟩ i = newYs h at' i := by unfold pgYs; rw [a1, a0, segR_all]; rfl
  refine ⟨?_, ?_, a1, a2⟩
  · unfold pgE; show (bif (findE h.p 1).isSome then 0 else 4) = (0 : Int); rw [hf]; rfl
  · unfold pgFr
    show (bif (findE h.p 1).isSome then _ else _) = _
    rw [hf, a1, a2]; rfl
theorem move_len {f t : Ls} {n m : Nat} (hf : lenL f n) (ht : lenL t m) {i : Int} (i0 : 0 ≤ i) (i2 : i ≤ 2) : lenL (moveF f i) n ∧ lenL (moveT f t i) (m + 2) := by
  refine ⟨hf.set (by omega) ?_ (Nat.le_refl n), ht.set (by omega) ?_ (by omega)⟩
  · have := hf i.toNat (by omega)
    rw [List.length_take]; omega
  · have := ht i.toNat (by omega)
    rw [List.length_append, List.length_reverse, List.length_drop]; omega
theorem pop_len {t : Ls} {m : Nat} (ht : lenL t m) {i : Int} (i0 : 0 ≤ i) (i2 : i ≤ 2) : lenL (popL t i) m := by
  refine ht.set (by omega) ?_ (Nat.le_refl m)
  have := ht i.toNat (by omega)
  rw [List.length_take]; omega
theorem move_ne {f t : Ls} {i : Int} (i0 : 0 ≤ i) (i2 : i ≤ 2) (hn : f.get i.toNat ≠ []) : (moveT f t i).get i.toNat ≠ [] := by
  unfold moveT
  rw [get_set (by omega) (by omega), if_pos rfl]
  intro q
  have := congrArg List.length q
  have h1 := List.length_pos_iff.2 hn
  rw [List.length_append, List.length_reverse, List.length_drop, List.length_nil] at this
  omega
theorem pop_one {f t : Ls} {i : Int} (i0 : 0 ≤ i) (i2 : i ≤ 2) (hn : t.get i.toNat = []) : ((popL (moveT f t i) i).get i.toNat).length ≤ 1 := by
  unfold popL moveT
  rw [get_set (by omega) (by omega), if_pos rfl, get_set (by omega) (by omega), if_pos rfl, hn, List.length_take, List.nil_append, List.length_reverse, List.length_drop]
  omega
theorem isE {l : List Int} (h : l.isEmpty = true) : l = [] := List.isEmpty_iff.1 h
theorem isNE {l : List Int} (h : l.isEmpty = false) : l ≠ [] := fun q => by rw [q] at h; cases h
/-- What alloc.small comes to. -/
inductive Small (h : Hp) (c : Ls) (i : Int) : Prop where
  | full (e : smE ⟨h, c⟩ i = (0, 4)) (e1 : c.get i.toNat = []) (e2 : h.f.get i.toNat = []) (e3 : findE h.p 1 = none)
  | some (e : (smE ⟨h, c⟩ i).2 = 0) (r : Ready h c (smFr ⟨h, c⟩ i).h (smFr ⟨h, c⟩ i).c (smE ⟨h, c⟩ i).1) (p : pageE (smFr ⟨h, c⟩ i).h (smE ⟨h, c⟩ i).1 = (1, i))
      (ne : (findE h.p 1).isSome = true ∨ h.f.get i.toNat ≠ [] ∨ c.get i.toNat ≠ [])
      (l : (c.get i.toNat = [] ∧ ((smFr ⟨h, c⟩ i).c.get i.toNat).length ≤ 1) ∨ (c.get i.toNat ≠ [] ∧ (smFr ⟨h, c⟩ i).c = popL c i ∧ (smE ⟨h, c⟩ i).1 = lastL c i ∧ (smFr ⟨h, c⟩ i).h.f = h.f))
      (n : ∀ n m, lenL h.f n → lenL c m → lenL (smFr ⟨h, c⟩ i).h.f (n + 8192) ∧ lenL (smFr ⟨h, c⟩ i).c (m + 2))
theorem isC_of {i : Int} (i0 : 0 ≤ i) (i2 : i ≤ 2) : isC i = true := by
  have : i = 0 ∨ i = 1 ∨ i = 2 := by omega
  rcases this with rfl | rfl | rfl <;> rfl
theorem sm_take {h : Hp} {c : Ls} (hm : MayF h [c]) (hf : lenL h.f 90000) (hc : lenL c 90000) {i : Int} (i0 : 0 ≤ i) (i2 : i ≤ 2) : smPre ⟨h, c⟩ i = true ∧ Small h c i := by
  obtain ⟨q1, _, _⟩ := shaped_ne hm.sh
  obtain ⟨_, l64⟩ := may_len q1
  have hsc : Go.Ab.smL c = true := hc.smL (by omega)
  have hsf : Go.Ab.smL h.f = true := hf.smL (by omega)
  have okMP_of : ∀ (f : Ls), lenL f 99000 → f.get i.toNat ≠ [] → ∀ g : Hp, g.f = f → okMP ⟨g, c⟩ i = true := fun f h1 h2 g hg => by
    obtain ⟨m1, m2⟩ := move_len h1 hc i0 i2
    unfold okMP
    show (Go.Ab.smL g.f && (Go.Ab.smL c && (Go.Ab.smL (moveT g.f c i) && !((moveT g.f c i).get i.toNat).isEmpty))) = true
    rw [hg, h1.smL (by omega), hsc, m2.smL (by omega)]
    cases hq : ((moveT f c i).get i.toNat).isEmpty with
    | false => rfl
    | true => exact absurd (isE hq) (move_ne i0 i2 h2)
  have hpre : smPre ⟨h, c⟩ i = (isC i && (Go.Ab.smL c && bif !(c.get i.toNat).isEmpty then true else bif !(h.f.get i.toNat).isEmpty then okMP ⟨h, c⟩ i else pgPre ⟨h, c⟩ i && bif pgE ⟨h, c⟩ != 0 then true else okMP (pgFr ⟨h, c⟩ i) i)) := rfl
  have hE : smE ⟨h, c⟩ i = bif !(c.get i.toNat).isEmpty then (lastL c i, 0) else bif !(h.f.get i.toNat).isEmpty then (lastL (moveT h.f c i) i, 0) else bif pgE ⟨h, c⟩ != 0 then (0, pgE ⟨h, c⟩) else (lastL (smMove (pgFr ⟨h, c⟩ i) i).c i, 0) := rfl
  have hF : smFr ⟨h, c⟩ i = bif !(c.get i.toNat).isEmpty then ⟨h, popL c i⟩ else bif !(h.f.get i.toNat).isEmpty then ⟨{ h with f := moveF h.f i }, popL (moveT h.f c i) i⟩ else bif pgE ⟨h, c⟩ != 0 then pgFr ⟨h, c⟩ i else smPop (smMove (pgFr ⟨h, c⟩ i) i) i := rfl
  rw [hpre, isC_of i0 i2, hsc, Bool.true_and, Bool.true_and]
  cases e1 : (c.get i.toNat).isEmpty with
  | false =>
    rw [e1] at hE hF
    simp only [Bool.not_false, cond_true] at hE hF ⊢
    obtain ⟨R, _, hp⟩ := (Step0.refl h c).pop hm i0 i2 (isNE e1)
    refine ⟨trivial, .some (by rw [hE]) (by rw [hE, hF]; exact R) (by rw [hE, hF]; exact hp) (.inr (.inr (isNE e1))) (.inr ⟨isNE e1, by rw [hF], by rw [hE], by rw [hF]⟩) fun n m h1 h2 => ?_⟩
    rw [hF]
    exact ⟨h1.mono (by omega), (pop_len h2 i0 i2).mono (by omega)⟩
  | true =>
    rw [e1] at hE hF
    simp only [Bool.not_true, cond_false] at hE hF ⊢
    cases e2 : (h.f.get i.toNat).isEmpty with
    | false =>
      rw [e2] at hE hF
      simp only [Bool.not_false, cond_true] at hE hF ⊢
      obtain ⟨R, _, hp⟩ := ((Step0.refl h c).move i0 i2).pop hm i0 i2 (move_ne i0 i2 (isNE e2))
      refine ⟨okMP_of h.f (hf.mono (by omega)) (isNE e2) h rfl, .some (by rw [hE]) (by rw [hE, hF]; exact R) (by rw [hE, hF]; exact hp) (.inr (.inl (isNE e2))) (.inl ⟨isE e1, by rw [hF]; exact pop_one i0 i2 (isE e1)⟩) fun n m h1 h2 => ?_⟩
      rw [hF]
      obtain ⟨m1, m2⟩ := move_len h1 h2 i0 i2
      exact ⟨m1.mono (by omega), pop_len m2 i0 i2⟩
    | true =>
      rw [e2] at hE hF
      simp only [Bool.not_true, cond_false] at hE hF ⊢
      cases e3 : findE h.p 1 with
      | none =>
        have p1 : pgE ⟨h, c⟩ = 4 := by unfold pgE; show (bif (findE h.p 1).isSome then 0 else 4) = (4 : Int); rw [e3]; rfl
        have p2 : pgPre ⟨h, c⟩ i = true := by
          unfold pgPre
          show (Go.Ab.sm h.p && bif (findE h.p 1).isSome then _ else true) = true
          rw [e3, Go.Ab.sm_of (by omega)]; rfl
        rw [p1] at hE ⊢
        rw [p2]
        exact ⟨rfl, .full hE (isE e1) (isE e2) e3⟩
      | some at' =>
        obtain ⟨g1, g2, g3, g4⟩ := pg_some (c := c) e3 i0 i2
        have P := hm.page e3 i0 i2
        have S := page_step hm e3 i0 i2
        have hyl := newYs_len (h := h) (by omega) at' i
        have hpf : ∀ n, lenL h.f n → lenL (pageH h at' i).f (n + 8192) := fun n hn k hk => by
          rw [show (pageH h at' i).f = app3 h.f (manyL i (newYs h at' i)) from push_many h.f _ i0 i2, app3_get, List.length_append, manyL_get i0 i2 hk]
          have := hn k hk
          by_cases q : (k : Int) = i
          · rw [if_pos q]; omega
          · rw [if_neg q]; show _ + 0 ≤ _; omega
        have hne : (pageH h at' i).f.get i.toNat ≠ [] := by
          rw [show (pageH h at' i).f = app3 h.f (manyL i (newYs h at' i)) from push_many h.f _ i0 i2, app3_get, manyL_get i0 i2 (by omega), if_pos (by omega)]
          intro q
          exact P.ne (List.append_eq_nil_iff.1 q).2
        rw [g1, g2] at hE hF
        have hE : smE ⟨h, c⟩ i = (lastL (moveT (pageH h at' i).f c i) i, 0) := hE
        have hF : smFr ⟨h, c⟩ i = ⟨{ pageH h at' i with f := moveF (pageH h at' i).f i }, popL (moveT (pageH h at' i).f c i) i⟩ := hF
        have hpre2 : pgPre ⟨h, c⟩ i = true := by
          unfold pgPre
          show (Go.Ab.sm h.p && bif (findE h.p 1).isSome then (Nat.ble (pgPs ⟨h, c⟩ i).length 200 && (Nat.ble (pgYs ⟨h, c⟩ i).length 100000 && (mayA h.w.length && ((pgYs ⟨h, c⟩ i).all (inA h.w) && (Go.Ab.smL h.f && isC i))))) else true) = true
          have hma : mayA h.w.length = true := by
            have := hm.sh
            simp only [shapedE, Bool.and_eq_true] at this
            exact this.1
          have hin : (newYs h at' i).all (inA h.w) = true := List.all_eq_true.2 fun y hy => by
            obtain ⟨y1, _⟩ := (P.ys y).1 hy
            obtain ⟨r1, r2⟩ := room_in y1
            have hpl : (pageH h at' i).p.length = h.p.length := S.pl
            have := shaped_w hm.sh
            unfold inA
            rw [decide_eq_true r1, decide_eq_true (by rw [hpl] at r2; omega)]; rfl
          rw [e3, g3, g4, Go.Ab.sm_of (by omega), List.length_set, Nat.ble_eq_true_of_le (show h.p.length ≤ 200 by omega), Nat.ble_eq_true_of_le (show (newYs h at' i).length ≤ 100000 by omega), hma, hin, hsf, isC_of i0 i2]; rfl
        obtain ⟨R, _, hp⟩ := (S.move i0 i2).pop hm i0 i2 (move_ne i0 i2 hne)
        refine ⟨?_, .some (by rw [hE]) (by rw [hE, hF]; exact R) (by rw [hE, hF]; exact hp) (.inl (by rw [e3]; rfl)) (.inl ⟨isE e1, by rw [hF]; exact pop_one i0 i2 (isE e1)⟩) fun n m h1 h2 => ?_⟩
        · rw [hpre2, g1, g2]
          exact okMP_of (pageH h at' i).f ((hpf 90000 hf).mono (by omega)) hne (pageH h at' i) rfl
        · rw [hF]
          obtain ⟨m1, m2⟩ := move_len (hpf n h1) h2 i0 i2
          exact ⟨m1, pop_len m2 i0 i2⟩
inductive Large (h : Hp) (c : Ls) (x : Int) : Prop where
  | full (e : lgE ⟨h, c⟩ x = (0, 4)) (e3 : findE h.p (runE x).1 = none)
  | some (e : (lgE ⟨h, c⟩ x).2 = 0) (r : Ready h c (lgFr ⟨h, c⟩ x).h c (lgE ⟨h, c⟩ x).1) (p : pageE (lgFr ⟨h, c⟩ x).h (lgE ⟨h, c⟩ x).1 = (2, (runE x).1)) (o : roomA (lgFr ⟨h, c⟩ x).h.p (lgE ⟨h, c⟩ x).1 = 16 * (runE x).1)
      (ne : (findE h.p (runE x).1).isSome = true) (lc : (lgFr ⟨h, c⟩ x).c = c) (lf : (lgFr ⟨h, c⟩ x).h.f = h.f)
theorem lg_take {h : Hp} {c : Ls} (hm : MayF h [c]) (x : Int) : lgPre ⟨h, c⟩ x = true ∧ Large h c x := by
  obtain ⟨q1, _, _⟩ := shaped_ne hm.sh
  obtain ⟨_, l64⟩ := may_len q1
  have hma : mayA h.w.length = true := by
    have := hm.sh
    simp only [shapedE, Bool.and_eq_true] at this
    exact this.1
  have hpre : lgPre ⟨h, c⟩ x = (Go.Ab.sm h.p && bif (findE h.p (runE x).1).isSome then (mayA h.w.length && decide (16 * lgAt ⟨h, c⟩ x < (h.w.length : Int))) else true) := rfl
  have hE : lgE ⟨h, c⟩ x = bif (findE h.p (runE x).1).isSome then (16 * (lgAt ⟨h, c⟩ x + 1), 0) else (0, 4) := rfl
  have hF : lgFr ⟨h, c⟩ x = bif (findE h.p (runE x).1).isSome then ⟨⟨h.w, (largeE h.p (lgAt ⟨h, c⟩ x) (runE x).1).2, h.f, h.c⟩, c⟩ else ⟨h, c⟩ := rfl
  rw [hpre, Go.Ab.sm_of (by omega), Bool.true_and]
  cases e3 : findE h.p (runE x).1 with
  | none =>
    rw [e3] at hE
    exact ⟨rfl, .full hE e3⟩
  | some at' =>
    have ha : lgAt ⟨h, c⟩ x = (at' : Int) := by unfold lgAt; show (((findE h.p (runE x).1).getD 0 : Nat) : Int) = _; rw [e3]; rfl
    rw [e3, ha] at hE hF
    have hE : lgE ⟨h, c⟩ x = (16 * ((at' : Int) + 1), 0) := hE
    have hF : lgFr ⟨h, c⟩ x = ⟨largeH h at' (runE x).1, c⟩ := hF
    obtain ⟨n1, n4, hle, _⟩ := large_put e3
    have L := hm.large e3
    have := shaped_w hm.sh
    refine ⟨?_, .some (by rw [hE]) (by rw [hE, hF]; exact large_ready hm e3) (by rw [hE, hF]; exact L.p) (by rw [hE, hF]; exact L.r) (by rw [e3]; rfl) (by rw [hF]) (by rw [hF]; rfl)⟩
    rw [ha, hma, decide_eq_true (by omega)]; rfl
end Go.Ab

namespace Go.Ab
open Go
open Go.Proofs
def hZ : Hp := ⟨[], [], ⟨[], [], []⟩, []⟩
def badT (e : Int) : Hp × Ls × Int × Int := (hZ, Ls.e, 0, e)
def takeS (s : Fr) (r : Int × Int) (x : Hd) : Hp × Ls × Int × Int := bif r.2 != 0 then badT r.2 else (putH s.h r.1 (packH x), s.c, r.1, 0)
def takeE (h : Hp) (c : Ls) (x : Hd) : Hp × Ls × Int × Int := bif (packE x).2 != 0 then badT 1 else bif !x.a then badT 1 else bif !mayHpV h [c] then badT 1 else bif (ofE x.x).2 != 0 then badT (ofE x.x).2 else
  bif (ofE x.x).1 == 3 then takeS (lgFr ⟨h, c⟩ x.x) (lgE ⟨h, c⟩ x.x) x else takeS (smFr ⟨h, c⟩ (ofE x.x).1) (smE ⟨h, c⟩ (ofE x.x).1) x
theorem of_small {n : Int} (h0 : ((ofE n).2 != 0) = false) (h3 : ((ofE n).1 == 3) = false) : 0 ≤ (ofE n).1 ∧ (ofE n).1 ≤ 2 := by
  revert h0 h3
  unfold ofE
  cases decide (n < 1) with
  | true => intro h; cases h
  | false =>
    cases decide (n > 63) with
    | true => intro h; cases h
    | false =>
      cases decide (n > 7) with
      | true => intro _ h; cases h
      | false =>
        cases decide (n > 3) with
        | true => intro _ _; exact ⟨(by decide : (0 : Int) ≤ 2), (by decide : (2 : Int) ≤ 2)⟩
        | false =>
          cases decide (n > 1) with
          | true => intro _ _; exact ⟨(by decide : (0 : Int) ≤ 1), (by decide : (1 : Int) ≤ 2)⟩
          | false => intro _ _; exact ⟨(by decide : (0 : Int) ≤ 0), (by decide : (0 : Int) ≤ 2)⟩
theorem nE {x : Int} (h : (x != 0) = false) : x = 0 := by simpa using h
theorem run_val {n : Int} (h0 : ((ofE n).2 != 0) = false) (h3 : ((ofE n).1 == 3) = true) : (runE n).2 = 0 := by
  unfold runE
  rw [h0]
  rw [beq_iff_eq] at h3
  rw [h3]; rfl
theorem pack_ok {x : Hd} (h : ((packE x).2 != 0) = false) : mayH x = true ∧ (packE x).1 = packH x := by
  unfold packE at h ⊢
  cases hm : mayH x with
  | false => rw [hm] at h; cases h
  | true => exact ⟨rfl, rfl⟩
/-- What alloc.Take comes to. -/
inductive Take (h : Hp) (c : Ls) (x : Hd) : Prop where
  | arg (e : takeE h c x = badT 1) (no : mayH x = true → x.a = true → MayF h [c] → False)
  | of (m : MayF h [c]) (x1 : mayH x = true) (x2 : x.a = true) (o : (ofE x.x).2 ≠ 0) (e : takeE h c x = badT (ofE x.x).2)
  | fullS (m : MayF h [c]) (x1 : mayH x = true) (x2 : x.a = true) (o : ((ofE x.x).2 != 0) = false) (o3 : ((ofE x.x).1 == 3) = false) (e : takeE h c x = badT 4) (e1 : c.get (ofE x.x).1.toNat = []) (e2 : h.f.get (ofE x.x).1.toNat = []) (e3 : findE h.p 1 = none)
  | fullL (m : MayF h [c]) (x1 : mayH x = true) (x2 : x.a = true) (o : ((ofE x.x).2 != 0) = false) (o3 : ((ofE x.x).1 == 3) = true) (e : takeE h c x = badT 4) (e3 : findE h.p (runE x.x).1 = none)
  | small (m : MayF h [c]) (x1 : mayH x = true) (x2 : x.a = true) (o : ((ofE x.x).2 != 0) = false) (o3 : ((ofE x.x).1 == 3) = false) (k : Hp) (d : Ls) (a : Int) (e : takeE h c x = (k, d, a, 0)) (t : Took h c x k d a) (r : roomA k.p a = wordsOf (ofE x.x).1)
      (ne : (findE h.p 1).isSome = true ∨ h.f.get (ofE x.x).1.toNat ≠ [] ∨ c.get (ofE x.x).1.toNat ≠ [])
      (l : (c.get (ofE x.x).1.toNat = [] ∧ (d.get (ofE x.x).1.toNat).length ≤ 1) ∨ (c.get (ofE x.x).1.toNat ≠ [] ∧ d = popL c (ofE x.x).1 ∧ a = lastL c (ofE x.x).1 ∧ k.f = h.f))
      (n : ∀ n m, lenL h.f n → lenL c m → lenL k.f (n + 8192) ∧ lenL d (m + 2))
  | large (m : MayF h [c]) (x1 : mayH x = true) (x2 : x.a = true) (o : ((ofE x.x).2 != 0) = false) (o3 : ((ofE x.x).1 == 3) = true) (k : Hp) (a : Int) (e : takeE h c x = (k, c, a, 0)) (t : Took h c x k c a) (r : roomA k.p a = 16 * (runE x.x).1)
      (ne : (findE h.p (runE x.x).1).isSome = true) (l : k.f = h.f)
theorem take_arg1 {h : Hp} {c : Ls} {x : Hd} (h1 : ((packE x).2 != 0) = true) : takeE h c x = badT 1 := by unfold takeE; rw [h1]; rfl
theorem take_arg2 {h : Hp} {c : Ls} {x : Hd} (h1 : ((packE x).2 != 0) = false) (h2 : (!x.a) = true) : takeE h c x = badT 1 := by unfold takeE; rw [h1, h2]; rfl
theorem take_arg3 {h : Hp} {c : Ls} {x : Hd} (h1 : ((packE x).2 != 0) = false) (h2 : (!x.a) = false) (h3 : (!mayHpV h [c]) = true) : takeE h c x = badT 1 := by unfold takeE; rw [h1, h2, h3]; rfl
theorem take_of {h : Hp} {c : Ls} {x : Hd} (h1 : ((packE x).2 != 0) = false) (h2 : (!x.a) = false) (h3 : (!mayHpV h [c]) = false) (h4 : ((ofE x.x).2 != 0) = true) : takeE h c x = badT (ofE x.x).2 := by unfold takeE; rw [h1, h2, h3, h4]; rfl
theorem take_lg {h : Hp} {c : Ls} {x : Hd} (h1 : ((packE x).2 != 0) = false) (h2 : (!x.a) = false) (h3 : (!mayHpV h [c]) = false) (h4 : ((ofE x.x).2 != 0) = false) (h5 : ((ofE x.x).1 == 3) = true) : takeE h c x = takeS (lgFr ⟨h, c⟩ x.x) (lgE ⟨h, c⟩ x.x) x := by unfold takeE; rw [h1, h2, h3, h4, h5]; rfl
theorem take_sm {h : Hp} {c : Ls} {x : Hd} (h1 : ((packE x).2 != 0) = false) (h2 : (!x.a) = false) (h3 : (!mayHpV h [c]) = false) (h4 : ((ofE x.x).2 != 0) = false) (h5 : ((ofE x.x).1 == 3) = false) : takeE h c x = takeS (smFr ⟨h, c⟩ (ofE x.x).1) (smE ⟨h, c⟩ (ofE x.x).1) x := by unfold takeE; rw [h1, h2, h3, h4, h5]; rfl
theorem take_fin {h : Hp} {c : Ls} (x : Hd) (hf : lenL h.f 90000) (hc : lenL c 90000) : Take h c x := by
  cases h1 : (packE x).2 != 0 with
  | true => exact .arg (take_arg1 h1) fun q _ _ => by unfold packE at h1; rw [q] at h1; cases h1
  | false =>
    obtain ⟨x1, _⟩ := pack_ok h1
    cases h2 : !x.a with
    | true => exact .arg (take_arg2 h1 h2) fun _ q _ => by rw [q] at h2; cases h2
    | false =>
      have x2 : x.a = true := by simpa using h2
      cases h3 : !mayHpV h [c] with
      | true => exact .arg (take_arg3 h1 h2 h3) fun _ _ q => by rw [mayF_iff.2 q] at h3; cases h3
      | false =>
        have hm : MayF h [c] := mayF_iff.1 (by simpa using h3)
        cases h4 : (ofE x.x).2 != 0 with
        | true => exact .of hm x1 x2 (by simpa using h4) (take_of h1 h2 h3 h4)
        | false =>
          cases h5 : (ofE x.x).1 == 3 with
          | true =>
            have e0 := take_lg h1 h2 h3 h4 h5
            rcases (lg_take hm x.x).2 with ⟨e, e3⟩ | ⟨e, r, p, o, ne, lc, lf⟩
            · rw [e] at e0
              exact .fullL hm x1 x2 h4 h5 e0 e3
            · have e1 : takeE h c x = (putH (lgFr ⟨h, c⟩ x.x).h (lgE ⟨h, c⟩ x.x).1 (packH x), c, (lgE ⟨h, c⟩ x.x).1, 0) := by
                rw [e0]; unfold takeS; rw [e, lc]; rfl
              refine .large hm x1 x2 h4 h5 _ _ e1 (r.took hm x1 x2 ?_) o ne lf
              rw [p]
              show ((runE x.x).2 == 0 && (runE x.x).1 == (runE x.x).1) = true
              rw [run_val h4 h5]; simp
          | false =>
            have e0 := take_sm h1 h2 h3 h4 h5
            obtain ⟨i0, i2⟩ := of_small h4 h5
            rcases (sm_take hm hf hc i0 i2).2 with ⟨e, e1, e2, e3⟩ | ⟨e, r, p, ne, l, n⟩
            · rw [e] at e0
              exact .fullS hm x1 x2 h4 h5 e0 e1 e2 e3
            · have e1 : takeE h c x = (putH (smFr ⟨h, c⟩ (ofE x.x).1).h (smE ⟨h, c⟩ (ofE x.x).1).1 (packH x), (smFr ⟨h, c⟩ (ofE x.x).1).c, (smE ⟨h, c⟩ (ofE x.x).1).1, 0) := by
                rw [e0]; unfold takeS; rw [e]; rfl
              refine .small hm x1 x2 h4 h5 _ _ _ e1 (r.took hm x1 x2 ?_) ?_ ne l n
              · rw [p]
                show ((ofE x.x).2 == 0 && (ofE x.x).1 == (ofE x.x).1) = true
                rw [nE h4]; simp
              · have hr := (r.m [] hm).r
                obtain ⟨_, _, _, _, q, _, q5, q6⟩ := cell_facts hr
                have q5 : pageE (smFr ⟨h, c⟩ (ofE x.x).1).h (smE ⟨h, c⟩ (ofE x.x).1).1 = q := q5
                rw [p] at q5
                subst q5
                rcases q6 with ⟨g, _⟩ | ⟨_, _, _, _, g⟩
                · cases g
                · exact g
end Go.Ab

namespace Go.Ab
open Go
open Go.Proofs
def preT (h : Hp) (c : Ls) : Bool := smH h && (smL1 h.f && smL1 c)
def gTake : Callee := g3 cHp cLs cHd (fun h c _ => preT h c) fun h c x => .tup [cHp.enc (takeE h c x).1, cLs.enc (takeE h c x).2.1, cI.enc (takeE h c x).2.2.1, cI.enc (takeE h c x).2.2.2]
theorem smL1_len {l : Ls} (h : smL1 l = true) : lenL l 90000 := fun k hk => by
  unfold smL1 at h
  simp only [Bool.and_eq_true] at h
  have : k = 0 ∨ k = 1 ∨ k = 2 := by omega
  rcases this with rfl | rfl | rfl
  · exact Nat.le_of_ble_eq_true h.1
  · exact Nat.le_of_ble_eq_true h.2.1
  · exact Nat.le_of_ble_eq_true h.2.2
theorem soft_bad (e : Int) : soft 4 (CV.tup [CV.agg [CV.own 1 [], CV.own 2 [], CV.own 1 [], CV.own 1 [], CV.own 1 [], CV.own 1 []], CV.agg [CV.own 1 [], CV.own 1 [], CV.own 1 []], CV.int IntKind.i64 0, CV.int IntKind.i64 e]) =
    some (.tup [cHp.enc (badT e).1, cLs.enc (badT e).2.1, cI.enc (badT e).2.2.1, cI.enc (badT e).2.2.2]) := rfl
def rvBad (e : Int) : CV := CV.tup [CV.agg [CV.own 1 [], CV.own 2 [], CV.own 1 [], CV.own 1 [], CV.own 1 [], CV.own 1 []], CV.agg [CV.own 1 [], CV.own 1 [], CV.own 1 []], CV.int IntKind.i64 0, CV.int IntKind.i64 e]
theorem take_good : GoodC Pr 23 gTake :=
  good3S ((CxOK.baseN (Good.cons pack57_good (Good.cons mayHp_good (Good.cons of_good (Good.cons ownH_good (Good.cons cloneA_good (Good.cons zeroC_good (Good.cons roomH_good (Good.cons putC_good (Good.cons smallF_good (Good.cons largeF_good Good.nil)))))))))) (GoodI.cons fail_inl GoodI.nil) (eqOK_none fun _ => rfl)).sound (cx := z23) Tryz.func23 (by kernel_rfl) (by kernel_rfl) rfl (by kernel_rfl)) fun h c x hp => by
    unfold preT at hp
    simp only [Bool.and_eq_true] at hp
    obtain ⟨hs, hf, hc⟩ := hp
    have lf := smL1_len hf
    have lc := smL1_len hc
    have hls : smLs [h.f, c] = true := by
      unfold smLs
      rw [List.all_cons, List.all_cons, lf.smL (by omega), lc.smL (by omega)]; rfl
    have eh : (⟨h.w, h.p, ⟨h.f.a, h.f.b, h.f.c⟩, h.c⟩ : Hp) = h := rfl
    have ec : (⟨c.a, c.b, c.c⟩ : Ls) = c := rfl
    have ex : ({ a := Hd.a x, b := Hd.b x, c := Hd.c x, x := Hd.x x, y := Hd.y x, z := Hd.z x } : Hd) = x := rfl
    have d1 : decLs [[CV.sl 1 (encI (Ls.a c)), CV.sl 1 (encI (Ls.b c)), CV.sl 1 (encI (Ls.c c))]] = some [c] := decLs_map [c]
    cases h1 : (packE x).2 != 0 with
    | true =>
      rw [take_arg1 h1]
      exact ⟨_, soft_bad 1, fun β K => by rw [zr23, ex, h1]; rfl⟩
    | false =>
      obtain ⟨x1, xw⟩ := pack_ok h1
      cases h2 : !x.a with
      | true =>
        rw [take_arg2 h1 h2]
        exact ⟨_, soft_bad 1, fun β K => by rw [zr23, ex, h1, h2]; rfl⟩
      | false =>
        have x2 : x.a = true := by simpa using h2
        cases h3 : !mayHpV h [c] with
        | true =>
          rw [take_arg3 h1 h2 h3]
          refine ⟨_, soft_bad 1, fun β K => ?_⟩
          rw [zr23, ex, h1, h2]
          simp only [cond_false, decI_map, decP_map, decBs_enc, Option.bind_some, d1, eh, hs, hls, Bool.and_self, cond_true, h3]
        | false =>
          have hm : MayF h [c] := mayF_iff.1 (by simpa using h3)
          obtain ⟨q1, q2, q3⟩ := shaped_ne hm.sh
          obtain ⟨_, l64⟩ := may_len q1
          cases h4 : (ofE x.x).2 != 0 with
          | true =>
            rw [take_of h1 h2 h3 h4]
            refine ⟨_, soft_bad _, fun β K => ?_⟩
            rw [zr23, ex, h1, h2]
            simp only [cond_false, decI_map, decP_map, decBs_enc, Option.bind_some, d1, eh, hs, hls, Bool.and_self, cond_true, h3, h4]
          | false =>
            have dF : decFr (encI h.w) (List.map encP h.p) (encI h.f.a) (encI h.f.b) (encI h.f.c) (encBs h.c) (encI c.a) (encI c.b) (encI c.c) = some ⟨h, c⟩ := decFr_enc ⟨h, c⟩
            have ba : Nat.ble c.a.length 4000000000 = true := Nat.ble_eq_true_of_le (Nat.le_trans (lc 0 (by omega)) (by omega))
            have bb : Nat.ble c.b.length 4000000000 = true := Nat.ble_eq_true_of_le (Nat.le_trans (lc 1 (by omega)) (by omega))
            have bc : Nat.ble c.c.length 4000000000 = true := Nat.ble_eq_true_of_le (Nat.le_trans (lc 2 (by omega)) (by omega))
            cases h5 : (ofE x.x).1 == 3 with
            | true =>
              rw [take_lg h1 h2 h3 h4 h5]
              obtain ⟨hpre, hL⟩ := lg_take hm x.x
              rcases hL with ⟨e, e3⟩ | ⟨e, r, p, o, ne, l1, l2⟩
              · refine ⟨rvBad 4, by rw [e]; exact soft_bad 4, fun β K => ?_⟩
                rw [zr23, ex, h1, h2]
                simp only [cond_false, decI_map, decP_map, decBs_enc, Option.bind_some, d1, eh, hs, hls, Bool.and_self, cond_true, h3, h4, q2, q3, Bool.not_false, ba, bb, bc, h5, dF, hpre]
                rw [e]
                rfl
              · have X := r.m [] hm
                obtain ⟨z1, z2, z3⟩ := zero_in X.sh X.r
                have hzl := zero_len z1 z2 z3
                have hma : mayA (lgFr ⟨h, c⟩ x.x).h.w.length = true := by
                  have := X.sh
                  simp only [shapedE, Bool.and_eq_true] at this
                  exact this.1
                have hr := X.r
                have hpl := r.pl
                have c1 : Nat.ble (lgFr ⟨h, c⟩ x.x).h.p.length 200 = true := Nat.ble_eq_true_of_le (by omega)
                refine ⟨.tup [cHp.enc (putH (lgFr ⟨h, c⟩ x.x).h (lgE ⟨h, c⟩ x.x).1 (packH x)), cLs.enc (lgFr ⟨h, c⟩ x.x).c, cI.enc (lgE ⟨h, c⟩ x.x).1, .int .i64 0], by unfold takeS; rw [e]; rfl, fun β K => ?_⟩
                rw [zr23, ex, h1, h2]
                simp only [cond_false, decI_map, decP_map, decBs_enc, Option.bind_some, d1, eh, hs, hls, Bool.and_self, cond_true, h3, h4, q2, q3, Bool.not_false, ba, bb, bc, h5, dF, hpre, e, bne_self_eq_false, c1, hma, decide_eq_true z1, decide_eq_true (show 1 ≤ roomA (lgFr ⟨h, c⟩ x.x).h.p (lgE ⟨h, c⟩ x.x).1 by omega), decide_eq_true z3, hzl, decide_eq_true (show (lgE ⟨h, c⟩ x.x).1 - 16 < ((lgFr ⟨h, c⟩ x.x).h.w.length : Int) by omega), xw]
                rfl
            | false =>
              rw [take_sm h1 h2 h3 h4 h5]
              obtain ⟨i0, i2⟩ := of_small h4 h5
              obtain ⟨hpre, hL⟩ := sm_take hm lf lc i0 i2
              rcases hL with ⟨e, e1, e2, e3⟩ | ⟨e, r, p, ne, l, n⟩
              · refine ⟨rvBad 4, by rw [e]; exact soft_bad 4, fun β K => ?_⟩
                rw [zr23, ex, h1, h2]
                simp only [cond_false, decI_map, decP_map, decBs_enc, Option.bind_some, d1, eh, hs, hls, Bool.and_self, cond_true, h3, h4, q2, q3, Bool.not_false, ba, bb, bc, h5, dF, hpre]
                rw [e]
                rfl
              · have X := r.m [] hm
                obtain ⟨z1, z2, z3⟩ := zero_in X.sh X.r
                have hzl := zero_len z1 z2 z3
                have hma : mayA (smFr ⟨h, c⟩ (ofE x.x).1).h.w.length = true := by
                  have := X.sh
                  simp only [shapedE, Bool.and_eq_true] at this
                  exact this.1
                have hr := X.r
                have hpl := r.pl
                have c1 : Nat.ble (smFr ⟨h, c⟩ (ofE x.x).1).h.p.length 200 = true := Nat.ble_eq_true_of_le (by omega)
                refine ⟨.tup [cHp.enc (putH (smFr ⟨h, c⟩ (ofE x.x).1).h (smE ⟨h, c⟩ (ofE x.x).1).1 (packH x)), cLs.enc (smFr ⟨h, c⟩ (ofE x.x).1).c, cI.enc (smE ⟨h, c⟩ (ofE x.x).1).1, .int .i64 0], by unfold takeS; rw [e]; rfl, fun β K => ?_⟩
                rw [zr23, ex, h1, h2]
                simp only [cond_false, decI_map, decP_map, decBs_enc, Option.bind_some, d1, eh, hs, hls, Bool.and_self, cond_true, h3, h4, q2, q3, Bool.not_false, ba, bb, bc, h5, dF, hpre, e, bne_self_eq_false, c1, hma, decide_eq_true z1, decide_eq_true (show 1 ≤ roomA (smFr ⟨h, c⟩ (ofE x.x).1).h.p (smE ⟨h, c⟩ (ofE x.x).1).1 by omega), decide_eq_true z3, hzl, decide_eq_true (show (smE ⟨h, c⟩ (ofE x.x).1).1 - 16 < ((smFr ⟨h, c⟩ (ofE x.x).1).h.w.length : Int) by omega), xw]
                rfl
end Go.Ab

namespace Go.Ab
open Go
open Go.Proofs
/-- A head with as many fields. -/
def hdN (n : Int) : Hd := ⟨true, false, false, n, 0, 0⟩
theorem of_in {n : Int} (h : ((ofE n).2 != 0) = false) : 1 ≤ n ∧ n ≤ 63 := by
  revert h
  unfold ofE
  cases h1 : decide (n < 1) with
  | true => intro h; cases h
  | false =>
    cases h2 : decide (n > 63) with
    | true => intro h; cases h
    | false =>
      intro _
      have := of_decide_eq_false h1
      have := of_decide_eq_false h2
      omega
theorem of_val {n : Int} (h0 : 1 ≤ n) (h1 : n ≤ 63) : ofE n = (if n > 7 then 3 else if n > 3 then 2 else if n > 1 then 1 else 0, 0) := by
  unfold ofE
  rw [decide_eq_false (by omega), decide_eq_false (by omega)]
  show ((bif decide (n > 7) then 3 else bif decide (n > 3) then 2 else bif decide (n > 1) then 1 else 0 : Int), (0 : Int)) = _
  by_cases a : n > 7
  · rw [decide_eq_true a, if_pos a]; rfl
  · rw [decide_eq_false a, if_neg a]
    by_cases b : n > 3
    · rw [decide_eq_true b, if_pos b]; rfl
    · rw [decide_eq_false b, if_neg b]
      by_cases c : n > 1
      · rw [decide_eq_true c, if_pos c]; rfl
      · rw [decide_eq_false c, if_neg c]; rfl
theorem mayH_N {n : Int} (h0 : 0 ≤ n) (h1 : n ≤ 63) : mayH (hdN n) = true := by
  unfold mayH inS hdN
  simp only [Bool.not_true, cond_false, Bool.and_eq_true, decide_eq_true_eq]
  omega
section
variable {h k : Hp} {c d : Ls} {x : Hd} {a : Int}
theorem Few.took {n : Nat} (hf : Few h n) (t : Took h c x k d a) {m : Nat} (hl : lenL k.f m) : Few k m :=
  ⟨by rw [t.wl]; exact hf.w, by rw [t.pl]; exact hf.p, by rw [t.cl]; exact hf.c, hl⟩
theorem whole_told {ls : List Ls} : wholeHV h ls = true ↔ MayF h ls ∧ Told h ls := whole_iff
theorem Took.whole (t : Took h c x k d a) {ls : List Ls} (hw : wholeHV h (c :: ls) = true) : wholeHV k (d :: ls) = true := by
  obtain ⟨h1, h2⟩ := whole_told.1 hw
  exact whole_told.2 ⟨t.m ls h1, t.told ls h2⟩
end
theorem find_ex {ps : List Pg} (hm : may ps = true) {n : Int} (n1 : 1 ≤ n) (n4 : n ≤ 4) {j : Nat} (hj : j + n.toNat ≤ ps.length) (h0 : ∀ i, j ≤ i → i < j + n.toNat → ps[i]? = some (0, 0)) : (findE ps n).isSome = true := by
  cases hf : findE ps n with
  | some _ => rfl
  | none =>
    exfalso
    unfold findE at hf
    rw [hm, in3_iff.2 ⟨n1, n4⟩] at hf
    have hf : findF ps n.toNat (ps.length + 1 - n.toNat) 0 = none := hf
    have h1 := findF_none hf j (by omega) (by omega)
    have h2 : all0 ((ps.drop j).take n.toNat) = true := by
      unfold all0
      rw [List.all_eq_true]
      intro p hp
      obtain ⟨i, hi, rfl⟩ := List.getElem_of_mem hp
      rw [List.length_take, List.length_drop] at hi
      have := h0 (j + i) (by omega) (by omega)
      rw [List.getElem_take, List.getElem_drop]
      obtain ⟨_, q⟩ := List.getElem?_eq_some_iff.1 this
      rw [q]; rfl
    rw [h1] at h2; cases h2
/-- There is room, where a free page, or pages, or cells are. -/
theorem room_some {h : Hp} {c : Ls} {n : Int} (hf : lenL h.f 90000) (hc : lenL c 90000) (hm : MayF h [c]) (o : ((ofE n).2 != 0) = false)
    (hs : (ofE n).1 ≠ 3 → (findE h.p 1).isSome = true ∨ h.f.get (ofE n).1.toNat ≠ [] ∨ c.get (ofE n).1.toNat ≠ []) (hl : (ofE n).1 = 3 → (findE h.p (runE n).1).isSome = true) : (takeE h c (hdN n)).2.2.2 = 0 := by
  obtain ⟨n1, n2⟩ := of_in o
  have x1 := mayH_N (n := n) (by omega) n2
  rcases take_fin (hdN n) hf hc with ⟨e, no⟩ | ⟨_, _, _, o', _⟩ | ⟨_, _, _, _, o3, e, e1, e2, e3⟩ | ⟨_, _, _, _, o3, e, e3⟩ | ⟨_, _, _, _, _, k, d, a, e, _⟩ | ⟨_, _, _, _, _, k, a, e, _⟩
  · exact (no x1 rfl hm).elim
  · exact absurd (nE o) o'
  · have e1 : c.get (ofE n).1.toNat = [] := e1
    have e2 : h.f.get (ofE n).1.toNat = [] := e2
    have o3 : ((ofE n).1 == 3) = false := o3
    rcases hs (by simpa using o3) with g | g | g
    · rw [e3] at g; cases g
    · exact absurd e2 g
    · exact absurd e1 g
  · have o3 : ((ofE n).1 == 3) = true := o3
    have := hl (by simpa using o3)
    have e3 : findE h.p (runE n).1 = none := e3
    rw [e3] at this; cases this
  · rw [e]
  · rw [e]
end Go.Ab

namespace Go.Ab
open Go
open Go.Proofs
theorem obj_fit {h : Hp} {ls : List Ls} (hm : MayF h ls) {a : Int} (ho : Obj h a) : fitsE (pageE h a) (unpX h a).x = true ∧ unpX h a = unp (wordE h a) ∧ mayH (unpX h a) = true := by
  have hv := hm.ce a (cell_mem.2 ho.r)
  unfold mayV at hv
  rw [Bool.and_eq_true] at hv
  obtain ⟨v1, v2⟩ := hv
  have e : unpX h a = unp (wordE h a) := by unfold unpX; rw [v1]; rfl
  have hu := ho.u
  rw [e] at hu
  rw [hu, cond_true] at v2
  refine ⟨by rw [e]; exact v2, e, ?_⟩
  unfold unpOK at v1
  simp only [Bool.and_eq_true] at v1
  rw [e]
  exact v1.1
theorem fit_of {p : Pg} {n : Int} (hf : fitsE p n = true) : (p.1 = 2 → (ofE n).1 = 3 ∧ (runE n).1 = p.2) ∧ (p.1 = 1 → (ofE n).1 = p.2) ∧ ((p.1 = 1 ∨ p.1 = 2) → ((ofE n).2 != 0) = false) := by
  unfold fitsE at hf
  have r0 : (runE n).2 = 0 → ((ofE n).2 != 0) = false ∧ ¬ (ofE n).1 < 3 := fun f1 => by
    unfold runE at f1
    cases hq : (ofE n).2 != 0 with
    | true =>
      rw [hq] at f1
      have f1 : (ofE n).2 = 0 := f1
      rw [f1] at hq; cases hq
    | false =>
      refine ⟨rfl, fun hlt => ?_⟩
      rw [hq, decide_eq_true hlt] at f1
      cases f1
  have h3 : ((ofE n).2 != 0) = false → ¬ (ofE n).1 < 3 → (ofE n).1 = 3 := fun h0 hlt => by
    obtain ⟨a1, a2⟩ := of_in h0
    rw [of_val a1 a2] at hlt ⊢
    have hlt : ¬ (if n > 7 then 3 else if n > 3 then 2 else if n > 1 then 1 else 0 : Int) < 3 := hlt
    show (if n > 7 then 3 else if n > 3 then 2 else if n > 1 then 1 else 0 : Int) = 3
    by_cases q : n > 7
    · rw [if_pos q]
    · rw [if_neg q] at hlt
      exfalso
      apply hlt
      repeat' split
      all_goals decide
  refine ⟨fun k => ?_, fun k => ?_, fun k => ?_⟩
  · rw [k] at hf
    have hf : ((runE n).2 == 0 && (runE n).1 == p.2) = true := hf
    simp only [Bool.and_eq_true, beq_iff_eq] at hf
    obtain ⟨a1, a2⟩ := r0 hf.1
    exact ⟨h3 a1 a2, hf.2⟩
  · rw [k] at hf
    have hf : ((ofE n).2 == 0 && (ofE n).1 == p.2) = true := hf
    simp only [Bool.and_eq_true, beq_iff_eq] at hf
    exact hf.2
  · rcases k with k | k
    · rw [k] at hf
      have hf : ((ofE n).2 == 0 && (ofE n).1 == p.2) = true := hf
      simp only [Bool.and_eq_true, beq_iff_eq] at hf
      rw [hf.1]; rfl
    · rw [k] at hf
      have hf : ((runE n).2 == 0 && (runE n).1 == p.2) = true := hf
      simp only [Bool.and_eq_true, beq_iff_eq] at hf
      exact (r0 hf.1).1
theorem freed_room {h : Hp} {ls : List Ls} (hm : MayF h ls) {a : Int} (ho : Obj h a) (hs : smL (freeL h a) = true) (hlen : lenL (freeH h a).f 90000) : (takeE (freeH h a) Ls.e (hdN (unpX h a).x)).2.2.2 = 0 := by
  obtain ⟨f1, f2, f3, f4, f5, f6, f7, f8⟩ := free_fin hm ho hs
  obtain ⟨p1, p2, p3⟩ := obj_page ho.r
  obtain ⟨q1, _, _⟩ := shaped_ne hm.sh
  obtain ⟨g1, _, _⟩ := obj_fit hm ho
  obtain ⟨t1, t2, t3⟩ := fit_of g1
  have hc : lenL Ls.e 90000 := fun k hk => by
    have : k = 0 ∨ k = 1 ∨ k = 2 := by omega
    rcases this with rfl | rfl | rfl <;> exact Nat.zero_le _
  rcases p3 with ⟨n, hn⟩ | ⟨c, hc', c0, c2⟩
  · have e1 : (pageE h a).1 = 2 := by rw [hn]
    obtain ⟨o3, o4⟩ := t1 e1
    rw [hn] at o4 p2
    have o4 : (runE (unpX h a).x).1 = n := o4
    obtain ⟨n1, n4, hle⟩ := may_run q1 p2
    have eD : ∀ j, freeD h a j = (decide (pgN a ≤ j) && decide (j < pgN a + n.toNat)) := fun j => by
      unfold freeD
      rw [hn]; rfl
    refine room_some hlen hc f1.none.nil (t3 (.inr e1)) (fun q => absurd o3 q) fun _ => ?_
    rw [o4]
    refine find_ex f5 n1 n4 (j := pgN a) (by rw [f4]; exact hle) fun i i1 i2 => ?_
    rw [f6, eD, decide_eq_true i1, decide_eq_true i2]; rfl
  · have e1 : (pageE h a).1 = 1 := by rw [hc']
    have o3 := t2 e1
    rw [hc'] at o3
    have o3 : (ofE (unpX h a).x).1 = c := o3
    refine room_some hlen hc f1.none.nil (t3 (.inl e1)) (fun _ => ?_) fun q => by omega
    rw [o3]
    cases hd : freeD h a (pgN a) with
    | true =>
      left
      refine find_ex f5 (by decide) (by decide) (j := pgN a) (by
        have : pgN a < h.p.length := (List.getElem?_eq_some_iff.1 p2).1
        rw [f4]; show pgN a + 1 ≤ _; omega) fun i i1 i2 => ?_
      have i2 : i < pgN a + 1 := i2
      have : i = pgN a := by omega
      rw [this, f6, hd]; rfl
    | false =>
      right; left
      intro q
      have : a ∈ (freeH h a).f.get c.toNat := by
        rw [f7 c.toNat (by omega), List.mem_filter]
        refine ⟨?_, by rw [hd]; rfl⟩
        unfold freeL
        rw [hc']
        show a ∈ (app3 h.f (oneL c a)).get c.toNat
        rw [app3_get, oneL_get c0 c2 (by omega), if_pos (by omega)]
        simp
      rw [q] at this; cases this
end Go.Ab

namespace Go.Ab
open Go
open Go.Proofs
noncomputable abbrev z26 : Cx := cxN Pr Tryz.f26 [(23, gTake)]
set_option maxRecDepth 100000 in
theorem zr26 (h : Hp) (c : Ls) (n : Int) (β : Type) (K : CV → List (List CV) → Option β) : fnK z26 Tryz.f26 [cHp.enc h, cLs.enc c, cI.enc n] [] K =
 Option.bind (Option.bind (decI (encI (Hp.w h))) fun w =>
 Option.bind (decP (List.map encP (Hp.p h))) fun p =>
 Option.bind (decI (encI (Ls.a (Hp.f h)))) fun a =>
 Option.bind (decI (encI (Ls.b (Hp.f h)))) fun b =>
 Option.bind (decI (encI (Ls.c (Hp.f h)))) fun c =>
 Option.bind (decBs (encBs (Hp.c h))) fun d => some { w := w, p := p, f := { a := a, b := b, c := c }, c := d }) fun a =>
 Option.bind (Option.bind (decI (encI (Ls.a c))) fun a =>
 Option.bind (decI (encI (Ls.b c))) fun b =>
 Option.bind (decI (encI (Ls.c c))) fun c => some { a := a, b := b, c := c }) fun b =>
 bif preT a b then
 K (CV.bool (Prod.snd (Prod.snd (Prod.snd (takeE a b { a := true, b := false, c := false, x := n, y := 0, z := 0 }))) == 0)) []
 else none := by kernel_rfl

def roomT (h : Hp) (c : Ls) (n : Int) : Bool := (takeE h c (hdN n)).2.2.2 == 0
def gRoomT : Callee := g3 cHp cLs cI (fun h c _ => preT h c) fun h c n => cB.enc (roomT h c n)
theorem roomT_good : GoodC Pr 26 gRoomT :=
  good3 ((CxOK.baseN (Good.cons take_good Good.nil) GoodI.nil (eqOK_none fun _ => rfl)).sound (cx := z26) Tryz.func26 (by kernel_rfl) (by kernel_rfl) rfl (by kernel_rfl)) fun h c n hp β K => by
    have e : (⟨h.w, h.p, ⟨h.f.a, h.f.b, h.f.c⟩, h.c⟩ : Hp) = h := rfl
    have ec : (⟨c.a, c.b, c.c⟩ : Ls) = c := rfl
    rw [zr26]
    simp only [decI_map, decP_map, decBs_enc, Option.bind_some, e, ec, hp, cond_true]
    rfl
end Go.Ab

namespace Go.Ab
open Go
open Go.Proofs
def hK : Hp := ⟨[0, 0, 0, 0, 25, 0, 0, 0, 0, 0, 0, 0, 0, 0, 0, 0], [(1, 1)], ⟨[], [28, 24], []⟩, [false, false]⟩
end Go.Ab

namespace Go.Ab
open Go
open Go.Proofs
noncomputable abbrev z10 : Cx := cxN Pr Tryz.f10 [(12, gAwake), (13, gFew), (34, gWhole), (33, gHead), (15, gFree), (26, gRoomT)]
set_option maxRecDepth 100000 in
theorem zr10 (h : Hp) (ls : List Ls) (a : Int) (β : Type) (K : CV → List (List CV) → Option β) : fnK z10 Tryz.f10 [cHp.enc h, cLss.enc ls, cI.enc a] [] K =
 Option.bind (Option.bind (decI (encI (Hp.w h))) fun w =>
 Option.bind (decP (List.map encP (Hp.p h))) fun p =>
 Option.bind (decI (encI (Ls.a (Hp.f h)))) fun a =>
 Option.bind (decI (encI (Ls.b (Hp.f h)))) fun b =>
 Option.bind (decI (encI (Ls.c (Hp.f h)))) fun c =>
 Option.bind (decBs (encBs (Hp.c h))) fun d => some { w := w, p := p, f := { a := a, b := b, c := c }, c := d }) fun a_1 =>
 Option.bind (decLs (List.map encLs ls)) fun b =>
 bif Nat.ble (List.length b) 9223372036854775807 then
 bif !fewV a_1 b then K (CV.bool true) []
 else
 Option.bind (Option.bind (decI (encI (Hp.w h))) fun w =>
 Option.bind (decP (List.map encP (Hp.p h))) fun p =>
 Option.bind (decI (encI (Ls.a (Hp.f h)))) fun a =>
 Option.bind (decI (encI (Ls.b (Hp.f h)))) fun b =>
 Option.bind (decI (encI (Ls.c (Hp.f h)))) fun c =>
 Option.bind (decBs (encBs (Hp.c h))) fun d => some { w := w, p := p, f := { a := a, b := b, c := c }, c := d }) fun a_2 =>
 Option.bind (decLs (List.map encLs ls)) fun b =>
 bif smH a_2 && smLs (Hp.f a_2 :: b) then
 bif !wholeHV a_2 b then K (CV.bool true) []
 else
 Option.bind (Option.bind (decI (encI (Hp.w h))) fun w =>
 Option.bind (decP (List.map encP (Hp.p h))) fun p =>
 Option.bind (decI (encI (Ls.a (Hp.f h)))) fun a =>
 Option.bind (decI (encI (Ls.b (Hp.f h)))) fun b =>
 Option.bind (decI (encI (Ls.c (Hp.f h)))) fun c =>
 Option.bind (decBs (encBs (Hp.c h))) fun d => some { w := w, p := p, f := { a := a, b := b, c := c }, c := d }) fun a_3 =>
 bif smH a_3 && smLs [Hp.f a_3] then
 bif Prod.snd (headE a_3 a) != 0 then K (CV.bool true) []
 else
 Option.bind (Option.bind (decI (encI (Hp.w h))) fun w =>
 Option.bind (decP (List.map encP (Hp.p h))) fun p =>
 Option.bind (decI (encI (Ls.a (Hp.f h)))) fun a =>
 Option.bind (decI (encI (Ls.b (Hp.f h)))) fun b =>
 Option.bind (decI (encI (Ls.c (Hp.f h)))) fun c =>
 Option.bind (decBs (encBs (Hp.c h))) fun d => some { w := w, p := p, f := { a := a, b := b, c := c }, c := d }) fun a_4 =>
 bif smH a_4 && smL1 (Hp.f a_4) then
 bif Prod.snd (freeHE a_4 a) == 0 then
 Option.bind (Option.bind (decI (encI (Hp.w (Prod.fst (freeHE a_4 a))))) fun w =>
 Option.bind (decP (List.map encP (Hp.p (Prod.fst (freeHE a_4 a))))) fun p =>
 Option.bind (decI (encI (Ls.a (Hp.f (Prod.fst (freeHE a_4 a)))))) fun a_5 =>
 Option.bind (decI (encI (Ls.b (Hp.f (Prod.fst (freeHE a_4 a)))))) fun b =>
 Option.bind (decI (encI (Ls.c (Hp.f (Prod.fst (freeHE a_4 a)))))) fun c =>
 Option.bind (decBs (encBs (Hp.c (Prod.fst (freeHE a_4 a))))) fun d => some { w := w, p := p, f := { a := a_5, b := b, c := c }, c := d }) fun a_5 =>
 bif preT a_5 { a := [], b := [], c := [] } then
 K (CV.bool (roomT a_5 { a := [], b := [], c := [] } (Hd.x (Prod.fst (headE a_3 a))))) []
 else none
 else K (CV.bool false) []
 else none
 else none
 else none
 else none := by kernel_rfl

end Go.Ab

namespace Go.Ab
open Go
open Go.Proofs
end Go.Ab

namespace Go.Ab
open Go
open Go.Proofs
theorem pre_of {h : Hp} {c : Ls} {n m : Nat} (hF : Few h n) (hc : lenL c m) (h1 : n ≤ 90000) (h2 : m ≤ 90000) : preT h c = true := by
  obtain ⟨s1, s2, _, _⟩ := hF.sm h1
  have s3 : smL1 c = true := (show lenF ⟨[], [], c, []⟩ m from hc).smL h2 |>.2.1
  unfold preT
  rw [s1, s2, s3]; rfl
end Go.Ab

namespace Go.Ab
open Go
open Go.Proofs
def gLaw10 : Callee := g3 cHp cLss cI (fun _ ls _ => Nat.ble ls.length 9223372036854775807) fun _ _ _ => .bool true
theorem law10_good : GoodC Pr 10 gLaw10 :=
  good3 ((CxOK.baseN (Good.cons awake_good (Good.cons few_good (Good.cons whole_good (Good.cons head_good (Good.cons freeR_good (Good.cons roomT_good Good.nil)))))) GoodI.nil (eqOK_none fun _ => rfl)).sound (cx := z10) Tryz.func10 (by kernel_rfl) (by kernel_rfl) rfl (by kernel_rfl)) fun h ls a hls β K => by
    have e : ∀ h : Hp, (⟨h.w, h.p, ⟨h.f.a, h.f.b, h.f.c⟩, h.c⟩ : Hp) = h := fun _ => rfl
    have eE : ({ a := [], b := [], c := [] } : Ls) = Ls.e := rfl
    rw [zr10]
    simp only [decI_map, decP_map, decBs_enc, decLs_map, Option.bind_some, e, eE, hls, cond_true]
    cases hf : fewV h ls with
    | false => rfl
    | true =>
      simp only [Bool.not_true, cond_false]
      obtain ⟨hF, hsl, hli, h4⟩ := few_of hf
      obtain ⟨s1, s2, s3, s4⟩ := hF.sm (by omega)
      simp only [s1, s2, s3, hsl, Bool.and_self, cond_true]
      cases hwh : wholeHV h ls with
      | false => rfl
      | true =>
        have hm := whole_may hwh
        have hm0 := hm.none
        simp only [Bool.not_true, cond_false]
        cases ea : (headE h a).2 != 0 with
        | true => rfl
        | false =>
          have oa := obj_head ea
          have Fb := hF.free (by omega) hm oa
          have hk := head_obj hm0 oa
          have lb : lenL (freeH h a).f 90000 := fun k hk => Nat.le_trans (Fb.f k hk) (by omega)
          have le : lenL Ls.e 70 := fun k hk => by
            have : k = 0 ∨ k = 1 ∨ k = 2 := by omega
            rcases this with rfl | rfl | rfl <;> exact Nat.zero_le _
          have hr : roomT (freeH h a) Ls.e (unpX h a).x = true := by
            unfold roomT
            rw [freed_room hm oa (hF.f.freeL (by omega) a) lb]; rfl
          simp only [cond_false, freeHE_obj hm0 oa, beq_self_eq_true, cond_true, pre_of Fb le (show 70 + 1 ≤ 90000 by omega) (show 70 ≤ 90000 by omega), hk, hr]
theorem law10_run (h : Hp) (ls : List Ls) (a : Int) (hl : ls.length ≤ 9223372036854775807) (β : Type) (K : CV → List (List CV) → Option β) : gLaw10.run [cHp.enc h, cLss.enc ls, cI.enc a] [] β K = K (.bool true) [] := by
  unfold gLaw10 g3
  dsimp only
  rw [cHp.de, cLss.de, cI.de]
  simp only [Option.bind_some, Nat.ble_eq_true_of_le hl, cond_true]
end Go.Ab
