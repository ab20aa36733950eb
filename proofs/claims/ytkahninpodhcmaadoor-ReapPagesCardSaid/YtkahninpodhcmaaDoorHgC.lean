/- Flush, in plain words: which pages go, and which cells.
Two caches that are flushed, one behind the other, or both at once.
Flush keeps what may be; two caches that are flushed, one behind the other, or both at once.
Two caches that are flushed, one behind the other, leave what both at once do. -/
import Derived.Test.YtkahninpodhcmaaDoorHgB
namespace Go.Ab
open Go
open Go.Proofs
theorem pig : ∀ (n : Nat) (L : List Nat), L.Nodup → (∀ x ∈ L, x < n) → L.length ≤ n
  | 0, L, _, h => by
    cases L with
    | nil => exact Nat.le_refl _
    | cons x _ => exact absurd (h x (by simp)) (by omega)
  | n + 1, L, hn, h => by
    by_cases hm : n ∈ L
    · have h1 := pig n (L.erase n) (hn.erase n) fun x hx => by
        obtain ⟨h2, h3⟩ := hn.mem_erase_iff.1 hx
        have := h x h3
        omega
      rw [List.length_erase_of_mem hm] at h1
      omega
    · have := pig n L hn fun x hx => by
        have h2 := h x hx
        have : x ≠ n := fun e => hm (e ▸ hx)
        omega
      omega
theorem apartV_iff (ls : List Ls) : apartV ls = true ↔ (catI ls).Nodup := by
  have hp := List.mergeSort_perm (catI ls) fun x y => decide (x ≤ y)
  have hs := List.pairwise_mergeSort (le := fun x y : Int => decide (x ≤ y)) (fun a b c h1 h2 => decide_eq_true (Int.le_trans (of_decide_eq_true h1) (of_decide_eq_true h2))) (fun a b => by
    simp only [Bool.or_eq_true, decide_eq_true_eq]; omega) (catI ls)
  rw [← hp.nodup_iff]
  unfold apartV
  rw [Nat.beq_eq, ← sortI_len (catI ls)]
  change _ at hs
  have hs : List.Pairwise (fun a b : Int => decide (a ≤ b) = true) (sortI (catI ls)) := hs
  show _ ↔ (sortI (catI ls)).Nodup
  generalize sortI (catI ls) = zs at hs
  unfold Lib.compact Lib.compactUpTo
  rw [List.length_map]
  have h1 : ((List.range zs.length).filter (Lib.keeps zs.toArray)).length = zs.length ↔ ∀ a ∈ List.range zs.length, Lib.keeps zs.toArray a = true := by
    rw [← List.length_filter_eq_length_iff, List.length_range]
  rw [h1, List.nodup_iff_pairwise_ne, List.pairwise_iff_getElem]
  rw [List.pairwise_iff_getElem] at hs
  have gz : ∀ j (hj : j < zs.length), zs.toArray[j]! = zs[j] := fun j hj => by simp [hj]
  constructor
  · intro h
    have adj : ∀ j (hj : j + 1 < zs.length), zs[j] < zs[j + 1] := fun j hj => by
      have h2 := h (j + 1) (by simp; omega)
      simp only [Lib.keeps, decide_eq_true_eq] at h2
      rcases h2 with h2 | h2
      · omega
      · rw [gz (j + 1) hj, show j + 1 - 1 = j from rfl, gz j (by omega)] at h2
        have h3 := of_decide_eq_true (hs j (j + 1) (by omega) hj (by omega))
        omega
    have lt : ∀ (d i : Nat) (hj : i + d + 1 < zs.length), zs[i] < zs[i + d + 1] := fun d => by
      induction d with
      | zero => intro i hj; exact adj i hj
      | succ d ih =>
        intro i hj
        have h2 := ih i (by omega)
        have h3 := adj (i + d + 1) (by omega)
        have : zs[i + (d + 1) + 1] = zs[i + d + 1 + 1] := rfl
        omega
    intro i j hi hj hij
    have := lt (j - i - 1) i (by omega)
    have e : i + (j - i - 1) + 1 = j := by omega
    simp only [e] at this
    omega
  · intro h a ha
    have ha : a < zs.length := by simpa using ha
    simp only [Lib.keeps, decide_eq_true_eq]
    cases a with
    | zero => exact .inl rfl
    | succ a =>
      refine .inr ?_
      rw [gz (a + 1) ha, show a + 1 - 1 = a from rfl, gz a (by omega)]
      exact (h a (a + 1) (by omega) ha (by omega)).symm
theorem get_set {l : Ls} {x : List Int} {k k' : Nat} (hk : k < 3) (hk' : k' < 3) : (l.set x k').get k = if k = k' then x else l.get k := by
  have h1 : k = 0 ∨ k = 1 ∨ k = 2 := by omega
  have h2 : k' = 0 ∨ k' = 1 ∨ k' = 2 := by omega
  rcases h1 with rfl | rfl | rfl <;> rcases h2 with rfl | rfl | rfl <;> rfl
theorem backs_snoc : ∀ (m i : Nat) (h : Hp), backs (m + 1) i h = backH (backs m i h) (i + m)
  | 0, _, _ => rfl
  | m + 1, i, h => by
    show backs (m + 1) (i + 1) (backH h i) = _
    rw [backs_snoc m (i + 1) (backH h i)]
    show backH (backs m (i + 1) (backH h i)) (i + 1 + m) = backH (backs (m + 1) i h) (i + (m + 1))
    rw [show i + 1 + m = i + (m + 1) by omega]
    rfl
def clsE (h : Hp) (j : Nat) : Nat := ((h.p.getD j (0, 0)).2).toNat
/-- Is a cell of a class on a page that goes, among the first? -/
def rem (h : Hp) (m k : Nat) (x : Int) : Bool := (List.range m).any fun j => hitE h j && (Nat.beq (clsE h j) k && inR (loE j) (loE j + 16) x)
theorem inR_iff {j : Nat} {x : Int} : inR (loE j) (loE j + 16) x = true ↔ x / 16 - 1 = (j : Int) := by
  unfold inR loE
  by_cases h1 : x ≥ ((j + 1 : Nat) : Int) * 16
  · rw [decide_eq_true h1, cond_true, decide_eq_true_eq]; omega
  · rw [decide_eq_false h1, cond_false]
    constructor
    · intro h; cases h
    · intro h; omega
theorem rem_succ (h : Hp) (m k : Nat) (x : Int) : rem h (m + 1) k x = (rem h m k x || (hitE h m && (Nat.beq (clsE h m) k && inR (loE m) (loE m + 16) x))) := by
  unfold rem
  rw [List.range_succ, List.any_append]
  simp
theorem rem_iff {h : Hp} {m k : Nat} {x : Int} : rem h m k x = true ↔ ∃ j, j < m ∧ hitE h j = true ∧ clsE h j = k ∧ x / 16 - 1 = (j : Int) := by
  unfold rem
  rw [List.any_eq_true]
  constructor
  · rintro ⟨j, h1, h2⟩
    simp only [Bool.and_eq_true, Nat.beq_eq, inR_iff] at h2
    exact ⟨j, by simpa using h1, h2.1, h2.2.1, h2.2.2⟩
  · rintro ⟨j, h1, h2, h3, h4⟩
    refine ⟨j, by simpa using h1, ?_⟩
    simp only [Bool.and_eq_true, Nat.beq_eq, inR_iff]
    exact ⟨h2, h3, h4⟩
theorem hit_small {h : Hp} {j : Nat} (hh : hitE h j = true) : ∃ c, h.p[j]? = some (1, c) ∧ (((partOut h.f c (loE j) (loE j + 16)).length : Nat) : Int) = cellsN c := by
  unfold hitE at hh
  cases hp : h.p[j]? with
  | none => rw [hp] at hh; cases hh
  | some p =>
    obtain ⟨k, c⟩ := p
    rw [hp] at hh
    simp only [Bool.and_eq_true, beq_iff_eq] at hh
    obtain ⟨rfl, h2⟩ := hh
    exact ⟨c, rfl, h2⟩
/-- Behind the first pages. -/
theorem backs_fin (h : Hp) (hk : okW h = true) : ∀ m, m ≤ h.p.length → (backs m 0 h).w = h.w ∧ (backs m 0 h).c = h.c ∧ okW (backs m 0 h) = true ∧
    (∀ j, (backs m 0 h).p[j]? = if j < m ∧ hitE h j = true then some (0, 0) else h.p[j]?) ∧ ∀ k, k < 3 → (backs m 0 h).f.get k = (h.f.get k).filter fun x => !rem h m k x := by
  intro m
  induction m with
  | zero =>
    intro _
    refine ⟨rfl, rfl, hk, fun j => by simp [backs], fun k _ => ?_⟩
    show h.f.get k = _
    rw [List.filter_eq_self.2]
    intro x _
    simp [rem]
  | succ m ih =>
    intro hm
    obtain ⟨h1, h2, h3, h4, h5⟩ := ih (by omega)
    rw [backs_snoc, Nat.zero_add]
    generalize backs m 0 h = r at h1 h2 h3 h4 h5
    have hpm : r.p[m]? = h.p[m]? := by rw [h4 m]; simp
    have hgd : r.p.getD m (0, 0) = h.p.getD m (0, 0) := by rw [List.getD_eq_getElem?_getD, List.getD_eq_getElem?_getD, hpm]
    have hpart : ∀ c, h.p[m]? = some (1, c) → partOut r.f c (loE m) (loE m + 16) = partOut h.f c (loE m) (loE m + 16) ∧ c.toNat < 3 := fun c hc => by
      simp only [okW, Bool.and_eq_true] at hk
      obtain ⟨_, _, q3⟩ := small_drop hk.1 hc
      have hc3 : c.toNat < 3 := by rcases isC_cases q3 with rfl | rfl | rfl <;> decide
      refine ⟨?_, hc3⟩
      unfold partOut
      rw [h5 _ hc3, List.filter_filter]
      refine List.filter_congr fun x _ => ?_
      cases hx : inR (loE m) (loE m + 16) x with
      | false => rfl
      | true =>
        have hr : rem h m c.toNat x = false := by
          cases hr : rem h m c.toNat x with
          | false => rfl
          | true =>
            obtain ⟨j, g1, _, _, g4⟩ := rem_iff.1 hr
            have := inR_iff.1 hx
            omega
        rw [hr]; rfl
    have hhit : hitE r m = hitE h m := by
      unfold hitE
      rw [hpm]
      cases hp : h.p[m]? with
      | none => rfl
      | some p =>
        obtain ⟨k, c⟩ := p
        dsimp only
        by_cases hk1 : k = 1
        · subst hk1
          rw [(hpart c hp).1]
        · have : (k == 1) = false := beq_eq_false_iff_ne.2 hk1
          rw [this, Bool.false_and, Bool.false_and]
    obtain ⟨b1, b2⟩ := back_ok h3 m
    unfold backH at b1 b2 ⊢
    rw [hhit] at b1 b2 ⊢
    cases hb : hitE h m with
    | false =>
      rw [cond_false]
      refine ⟨h1, h2, h3, fun j => ?_, fun k hk3 => ?_⟩
      · rw [h4 j]
        by_cases hj : j = m
        · subst hj; simp [hb]
        · by_cases h6 : j < m
          · simp [h6, show j < m + 1 by omega]
          · simp [h6, show ¬ j < m + 1 by omega]
      · rw [h5 k hk3]
        refine List.filter_congr fun x _ => ?_
        rw [rem_succ, hb]; simp
    | true =>
      rw [hb] at b1
      rw [cond_true] at b1 ⊢
      obtain ⟨c, hc, _⟩ := hit_small hb
      obtain ⟨_, hc3⟩ := hpart c hc
      have hcd : h.p.getD m (0, 0) = (1, c) := by rw [List.getD_eq_getElem?_getD, hc]; rfl
      refine ⟨h1, h2, b1, fun j => ?_, fun k hk3 => ?_⟩
      · show (r.p.set m (0, 0))[j]? = _
        rw [List.getElem?_set]
        by_cases hj : m = j
        · subst hj
          have : m < r.p.length := by
            rcases Nat.lt_or_ge m r.p.length with hlt | hge
            · exact hlt
            · rw [List.getElem?_eq_none hge] at hpm; rw [hc] at hpm; cases hpm
          rw [if_pos rfl, if_pos this, if_pos ⟨by omega, hb⟩]
        · rw [if_neg hj, h4 j]
          by_cases h6 : j < m
          · simp [h6, show j < m + 1 by omega]
          · simp [h6, show ¬ j < m + 1 by omega]
      · show (partL r.f (r.p.getD m (0, 0)).2 _ _).get k = _
        rw [hgd, hcd]
        unfold partL
        rw [get_set hk3 hc3]
        have hcl : clsE h m = c.toNat := by unfold clsE; rw [hcd]
        by_cases hkc : k = c.toNat
        · rw [if_pos hkc, hkc, h5 _ hc3, List.filter_filter]
          refine List.filter_congr fun x _ => ?_
          rw [rem_succ, hb, hcl, Nat.beq_refl]
          cases rem h m c.toNat x <;> cases inR (loE m) (loE m + 16) x <;> rfl
        · rw [if_neg hkc, h5 k hk3]
          refine List.filter_congr fun x _ => ?_
          have : Nat.beq c.toNat k = false := by
            cases hq : Nat.beq c.toNat k with
            | false => rfl
            | true => exact absurd (Nat.eq_of_beq_eq_true hq).symm hkc
          rw [rem_succ, hb, hcl, this]
          simp
end Go.Ab

namespace Go.Ab
open Go
open Go.Proofs
theorem listed_iff {h : Hp} {l : Ls} : listedV h l = true ↔ ∀ k, k < 3 → ∀ e ∈ l.get k, listV h k e = true := by
  unfold listedV
  simp only [Bool.and_eq_true, List.all_eq_true]
  constructor
  · rintro ⟨h1, h2, h3⟩ k hk e he
    have : k = 0 ∨ k = 1 ∨ k = 2 := by omega
    rcases this with rfl | rfl | rfl
    · exact h1 e he
    · exact h2 e he
    · exact h3 e he
  · intro hh
    exact ⟨fun e he => hh 0 (by omega) e he, fun e he => hh 1 (by omega) e he, fun e he => hh 2 (by omega) e he⟩
theorem listV_facts {h : Hp} {k e : Int} (hl : listV h k e = true) : roomA h.p e > 0 ∧ pageE h e = (1, k) ∧ wordE h e = 0 := by
  unfold listV at hl
  simp only [Bool.and_eq_true, decide_eq_true_eq, beq_iff_eq] at hl
  obtain ⟨h1, ⟨h2, h3⟩, h4⟩ := hl
  exact ⟨h1, Prod.ext h2 h3, h4⟩
theorem listV_at {h : Hp} {k e : Int} (hl : listV h k e = true) : ∃ j : Nat, e / 16 - 1 = (j : Int) ∧ h.p[j]? = some (1, k) ∧ 0 ≤ k ∧ k ≤ 2 ∧ (e % 16) % wordsOf k = 0 := by
  obtain ⟨h1, h2, _⟩ := listV_facts hl
  obtain ⟨_, f1, f2, f3, p, f4, f5, f6⟩ := cell_facts h1
  have hp : p = (1, k) := f5.symm.trans h2
  subst hp
  refine ⟨(e / 16 - 1).toNat, f3.symm, f4, ?_⟩
  rcases f6 with ⟨g, _⟩ | ⟨_, g1, g2, g3, _⟩
  · cases g
  · exact ⟨g1, g2, g3⟩
theorem cellsN_nonneg (k : Int) : 0 ≤ cellsN k := by
  unfold cellsN
  split
  · exact Int.le_refl _
  · refine Int.ediv_nonneg (by omega) ?_
    unfold wordsOf
    repeat' split
    all_goals omega
theorem count_le {h : Hp} {k : Int} {j : Nat} {L : List Int} (hn : L.Nodup) (hl : ∀ e ∈ L, listV h k e = true ∧ e / 16 - 1 = (j : Int)) : (L.length : Int) ≤ cellsN k := by
  cases hL : L with
  | nil => exact cellsN_nonneg k
  | cons e0 r =>
    rw [← hL]
    obtain ⟨_, _, _, k0, k2, _⟩ := listV_at (hl e0 (by rw [hL]; simp)).1
    obtain ⟨w, hw, hc, hw2⟩ : ∃ w : Int, wordsOf k = w ∧ cellsN k = 16 / w ∧ (w = 2 ∨ w = 4 ∨ w = 8) := by
      rcases words_val k0 k2 with ⟨rfl, e⟩ | ⟨rfl, e⟩ | ⟨rfl, e⟩
      · exact ⟨2, e, rfl, .inl rfl⟩
      · exact ⟨4, e, rfl, .inr (.inl rfl)⟩
      · exact ⟨8, e, rfl, .inr (.inr rfl)⟩
    have hf : ∀ e ∈ L, e % 16 % w = 0 ∧ e / 16 - 1 = (j : Int) := fun e he => by
      obtain ⟨g1, g2⟩ := hl e he
      obtain ⟨_, _, _, _, _, g3⟩ := listV_at g1
      rw [hw] at g3
      exact ⟨g3, g2⟩
    have h1 := pig (16 / w).toNat (L.map fun e => (e % 16 / w).toNat) (by
      rw [List.nodup_iff_pairwise_ne] at hn ⊢
      rw [List.pairwise_map]
      refine List.Pairwise.imp_of_mem (fun {x y} hx hy hxy => ?_) hn
      obtain ⟨a1, a2⟩ := hf x hx
      obtain ⟨b1, b2⟩ := hf y hy
      intro hq
      apply hxy
      rcases hw2 with rfl | rfl | rfl <;> omega) (fun x hx => by
      obtain ⟨e, he, rfl⟩ := List.mem_map.1 hx
      obtain ⟨a1, a2⟩ := hf e he
      rcases hw2 with rfl | rfl | rfl <;> omega)
    rw [List.length_map] at h1
    rw [hc]
    rcases hw2 with rfl | rfl | rfl <;> omega
theorem app3_get (f l : Ls) : ∀ k, (app3 f l).get k = f.get k ++ l.get k
  | 0 => rfl
  | 1 => rfl
  | _ + 2 => rfl
theorem app3_assoc (f a b : Ls) : app3 f (app3 a b) = app3 (app3 f a) b := by simp [app3]
theorem get_sub (l : Ls) : ∀ k, (l.get k).Sublist (one3 l)
  | 0 => by
    show l.a.Sublist (l.a ++ l.b ++ l.c)
    rw [List.append_assoc]; exact List.sublist_append_left _ _
  | 1 => by
    show l.b.Sublist (l.a ++ l.b ++ l.c)
    exact (List.sublist_append_right _ _).trans (List.sublist_append_left _ _)
  | _ + 2 => List.sublist_append_right _ _
theorem swp (x y z : List Int) : (x ++ (y ++ z)).Perm (y ++ (x ++ z)) := by
  rw [← List.append_assoc, ← List.append_assoc]
  exact List.Perm.append_right z List.perm_append_comm
theorem one3_app (f l : Ls) : (one3 (app3 f l)).Perm (one3 f ++ one3 l) := by
  show (f.a ++ l.a ++ (f.b ++ l.b) ++ (f.c ++ l.c)).Perm (f.a ++ f.b ++ f.c ++ (l.a ++ l.b ++ l.c))
  simp only [List.append_assoc]
  refine List.Perm.append_left _ ?_
  exact (swp _ _ _).trans (List.Perm.append_left _ ((List.Perm.append_left _ (swp _ _ _)).trans (swp _ _ _)))
/-- What a heap that may be tells. -/
structure MayF (h : Hp) (ls : List Ls) : Prop where
  sh : shapedE h = true
  li : ∀ l ∈ h.f :: ls, listedV h l = true
  ce : ∀ c ∈ cellAs h.p, mayV h c = true
  nd : (catI (h.f :: ls)).Nodup
theorem mayF_iff {h : Hp} {ls : List Ls} : mayHpV h ls = true ↔ MayF h ls := by
  unfold mayHpV
  simp only [Bool.and_eq_true, List.all_eq_true, apartV_iff]
  exact ⟨fun ⟨a, b, c, d⟩ => ⟨a, b, c, d⟩, fun ⟨a, b, c, d⟩ => ⟨a, b, c, d⟩⟩
theorem backH_len (h : Hp) (i : Nat) : (backH h i).p.length = h.p.length := by
  unfold backH
  cases hitE h i <;> simp
theorem backs_len : ∀ (m i : Nat) (h : Hp), (backs m i h).p.length = h.p.length
  | 0, _, _ => rfl
  | m + 1, i, h => (backs_len m (i + 1) (backH h i)).trans (backH_len h i)
/-- Is a small page's every cell among some lists? -/
theorem hit_eq {h : Hp} {j : Nat} {c : Int} (hp : h.p[j]? = some (1, c)) : hitE h j = (((partOut h.f c (loE j) (loE j + 16)).length : Int) == cellsN c) := by
  unfold hitE
  rw [hp]
  rfl
theorem partOut_eq (f : Ls) (c : Int) (j : Nat) : partOut f c (loE j) (loE j + 16) = (f.get c.toNat).filter (inR (loE j) (loE j + 16)) := rfl
end Go.Ab

namespace Go.Ab
open Go
open Go.Proofs
theorem one3_mem {l : Ls} {e : Int} : e ∈ one3 l ↔ ∃ k, k < 3 ∧ e ∈ l.get k := by
  show e ∈ l.a ++ l.b ++ l.c ↔ _
  simp only [List.mem_append]
  constructor
  · rintro ((h | h) | h)
    · exact ⟨0, by omega, h⟩
    · exact ⟨1, by omega, h⟩
    · exact ⟨2, by omega, h⟩
  · rintro ⟨k, hk, h⟩
    have : k = 0 ∨ k = 1 ∨ k = 2 := by omega
    rcases this with rfl | rfl | rfl
    · exact .inl (.inl h)
    · exact .inl (.inr h)
    · exact .inr h
theorem catI_cons (l : Ls) (ls : List Ls) : catI (l :: ls) = one3 l ++ catI ls := rfl
/-- A heap whose free lists are another one's, and a cache's. -/
abbrev addF (h : Hp) (a : Ls) : Hp := { h with f := app3 h.f a }
theorem same_at {h x : Hp} {e : Int} (hw : x.w = h.w) (hl : x.p.length = h.p.length) (hm : may x.p = may h.p) (hp : x.p[(e / 16 - 1).toNat]? = h.p[(e / 16 - 1).toNat]?) : roomA x.p e = roomA h.p e ∧ pageE x e = pageE h e ∧ wordE x e = wordE h e := by
  have hg : x.p.getD (e / 16 - 1).toNat (0, 0) = h.p.getD (e / 16 - 1).toNat (0, 0) := by rw [List.getD_eq_getElem?_getD, List.getD_eq_getElem?_getD, hp]
  refine ⟨?_, hg, ?_⟩
  · rw [roomA_doc, roomA_doc, hm, hl, hg]
  · unfold wordE; rw [hw]
section
variable {h : Hp} {a : Ls} {ls : List Ls}
theorem MayF.okW_add (hm : MayF h (a :: ls)) (hs : smL (app3 h.f a) = true) : okW (addF h a) = true := by
  obtain ⟨q1, _, _⟩ := shaped_ne hm.sh
  show (may h.p && smL (app3 h.f a)) = true
  rw [q1, hs]; rfl
/-- On a page whose cells are all told of nothing else is. -/
theorem MayF.alone (hm : MayF h (a :: ls)) {l : Ls} (hl : l ∈ ls) {k : Nat} (hk : k < 3) {e : Int} (he : e ∈ l.get k) {j : Nat} (hj : e / 16 - 1 = (j : Int)) : hitE (addF h a) j = false := by
  cases hh : hitE (addF h a) j with
  | false => rfl
  | true =>
    exfalso
    obtain ⟨c, hc, hlen⟩ := hit_small hh
    have hle := listed_iff.1 (hm.li l (by simp [hl])) k hk e he
    obtain ⟨j', hj', hp', _⟩ := listV_at hle
    have : j' = j := by omega
    subst this
    have hck : c = (k : Int) := by
      have hc' : h.p[j']? = some (1, c) := hc
      rw [hc'] at hp'
      injection hp' with hp'
      exact (Prod.mk.inj hp').2
    subst hck
    have hpo : partOut (addF h a).f (k : Int) (loE j') (loE j' + 16) = (h.f.get k ++ a.get k).filter (inR (loE j') (loE j' + 16)) := by
      rw [partOut_eq, Int.toNat_natCast]
      show ((app3 h.f a).get k).filter _ = _
      rw [app3_get]
    rw [hpo] at hlen
    have hnd := hm.nd
    rw [catI_cons, catI_cons] at hnd
    have hsub : (h.f.get k ++ a.get k).Sublist (one3 h.f ++ one3 a) := (get_sub _ _).append (get_sub _ _)
    rw [← List.append_assoc] at hnd
    obtain ⟨n1, _, n3⟩ := List.nodup_append.1 hnd
    have hmem : e ∈ catI ls := List.mem_flatMap.2 ⟨l, hl, one3_mem.2 ⟨k, hk, he⟩⟩
    have hLn : (e :: (h.f.get k ++ a.get k).filter (inR (loE j') (loE j' + 16))).Nodup := by
      rw [List.nodup_cons]
      refine ⟨fun hin => ?_, (n1.sublist hsub).sublist List.filter_sublist⟩
      exact n3 e (hsub.subset ((List.mem_filter.1 hin).1)) e hmem rfl
    have := count_le (h := h) (k := (k : Int)) (j := j') hLn fun x hx => by
      rcases List.mem_cons.1 hx with rfl | hx
      · exact ⟨hle, hj⟩
      · obtain ⟨h1, h2⟩ := List.mem_filter.1 hx
        refine ⟨?_, inR_iff.1 h2⟩
        rcases List.mem_append.1 h1 with h1 | h1
        · exact listed_iff.1 (hm.li h.f (by simp)) k hk x h1
        · exact listed_iff.1 (hm.li a (by simp)) k hk x h1
    simp only [List.length_cons] at this
    omega
/-- Flush. -/
theorem flush_fin (hm : MayF h (a :: ls)) (hs : smL (app3 h.f a) = true) : (flushH h a).w = h.w ∧ (flushH h a).c = h.c ∧ okW (flushH h a) = true ∧ (flushH h a).p.length = h.p.length ∧
    (∀ j, (flushH h a).p[j]? = if hitE (addF h a) j = true then some (0, 0) else h.p[j]?) ∧ ∀ k, k < 3 → (flushH h a).f.get k = (h.f.get k ++ a.get k).filter fun x => !rem (addF h a) h.p.length k x := by
  obtain ⟨h1, h2, h3, h4, h5⟩ := backs_fin (addF h a) (hm.okW_add hs) h.p.length (Nat.le_refl _)
  refine ⟨h1, h2, h3, backs_len _ _ _, fun j => ?_, fun k hk => ?_⟩
  · refine (h4 j).trans ?_
    by_cases hh : hitE (addF h a) j = true
    · obtain ⟨c, hc, _⟩ := hit_small hh
      have : j < h.p.length := (List.getElem?_eq_some_iff.1 hc).1
      rw [if_pos ⟨this, hh⟩, if_pos hh]
    · rw [if_neg fun q => hh q.2, if_neg hh]
  · refine (h5 k hk).trans ?_
    show ((app3 h.f a).get k).filter _ = _
    rw [app3_get]
/-- What stays on the lists stands on pages that stay. -/
theorem MayF.stays (hm : MayF h (a :: ls)) {k : Nat} (hk : k < 3) {e : Int} (he : e ∈ h.f.get k ++ a.get k) : listV h k e = true ∧ (rem (addF h a) h.p.length k e = false → ∀ j : Nat, e / 16 - 1 = (j : Int) → hitE (addF h a) j = false) := by
  have hl : listV h k e = true := by
    rcases List.mem_append.1 he with h1 | h1
    · exact listed_iff.1 (hm.li h.f (by simp)) k hk e h1
    · exact listed_iff.1 (hm.li a (by simp)) k hk e h1
  refine ⟨hl, fun hr j hj => ?_⟩
  cases hh : hitE (addF h a) j with
  | false => rfl
  | true =>
    obtain ⟨c, hc, _⟩ := hit_small hh
    have hc' : h.p[j]? = some (1, c) := hc
    obtain ⟨j', hj', hp', _⟩ := listV_at hl
    have : j' = j := by omega
    subst this
    rw [hc'] at hp'
    injection hp' with hp'
    have hck := (Prod.mk.inj hp').2
    have : rem (addF h a) h.p.length k e = true := rem_iff.2 ⟨j', (List.getElem?_eq_some_iff.1 hc').1, hh, by
      unfold clsE
      rw [List.getD_eq_getElem?_getD, hc, hck]
      rfl, hj⟩
    rw [this] at hr; cases hr
/-- What may be may be behind it, without the cache. -/
theorem MayF.flush (hm : MayF h (a :: ls)) (hs : smL (app3 h.f a) = true) : MayF (flushH h a) ls := by
  obtain ⟨f1, f2, f3, f4, f5, f6⟩ := flush_fin hm hs
  obtain ⟨q1, _, _⟩ := shaped_ne hm.sh
  have hmx : may (flushH h a).p = may h.p := by
    have : may (flushH h a).p = true := by
      have h3 := f3
      simp only [okW, Bool.and_eq_true] at h3
      exact h3.1
    rw [this, q1]
  have hsame : ∀ (e : Int) (j : Nat), e / 16 - 1 = (j : Int) → hitE (addF h a) j = false → roomA (flushH h a).p e = roomA h.p e ∧ pageE (flushH h a) e = pageE h e ∧ wordE (flushH h a) e = wordE h e := fun e j hj hh => by
    refine same_at f1 f4 hmx ?_
    rw [show (e / 16 - 1).toNat = j by omega, f5 j, hh]
    simp
  have hlist : ∀ (k : Nat) (e : Int), listV h k e = true → (∀ j : Nat, e / 16 - 1 = (j : Int) → hitE (addF h a) j = false) → listV (flushH h a) k e = true := fun k e hl hh => by
    obtain ⟨j, hj, _⟩ := listV_at hl
    obtain ⟨r1, r2, r3⟩ := hsame e j hj (hh j hj)
    unfold listV at hl ⊢
    rw [r1, r2, r3]; exact hl
  refine ⟨?_, fun l hl => listed_iff.2 fun k hk e he => ?_, fun c hc => ?_, ?_⟩
  · have h1 := hm.sh
    unfold shapedE at h1 ⊢
    rw [f1, f2, f4, hmx]; exact h1
  · rcases List.mem_cons.1 hl with rfl | hl
    · rw [f6 k hk] at he
      obtain ⟨h1, h2⟩ := List.mem_filter.1 he
      obtain ⟨g1, g2⟩ := hm.stays hk h1
      exact hlist k e g1 (g2 (by simpa using h2))
    · exact hlist k e (listed_iff.1 (hm.li l (by simp [hl])) k hk e he) fun j hj => hm.alone hl hk he hj
  · have h1 : roomA (flushH h a).p c > 0 := by
      have := room_pos (flushH h a).p c
      rw [decide_eq_true (show c ∈ (allCs (flushH h a).p).map (·.1) from hc)] at this
      exact of_decide_eq_true this
    obtain ⟨_, g1, g2, g3, p, g4, _, g6⟩ := cell_facts h1
    have hnh : hitE (addF h a) (c / 16 - 1).toNat = false := by
      cases hh : hitE (addF h a) (c / 16 - 1).toNat with
      | false => rfl
      | true =>
        rw [f5, if_pos hh] at g4
        cases g4
        rcases g6 with ⟨k2, _⟩ | ⟨k1, _⟩
        · cases k2
        · cases k1
    obtain ⟨r1, r2, r3⟩ := hsame c _ g3.symm hnh
    have hch : c ∈ cellAs h.p := by
      have := room_pos h.p c
      rw [decide_eq_true (show roomA h.p c > 0 by rw [← r1]; exact h1)] at this
      exact of_decide_eq_true this.symm
    have := hm.ce c hch
    unfold mayV at this ⊢
    rw [r2, r3]; exact this
  · have hnd := hm.nd
    rw [catI_cons, catI_cons, ← List.append_assoc] at hnd
    rw [catI_cons]
    have hp := (one3_app h.f a).append_right (catI ls)
    have hsub : (one3 (flushH h a).f).Sublist (one3 (app3 h.f a)) := by
      have hg : ∀ k, k < 3 → ((flushH h a).f.get k).Sublist ((app3 h.f a).get k) := fun k hk => by
        rw [f6 k hk, app3_get]; exact List.filter_sublist
      exact ((hg 0 (by omega)).append (hg 1 (by omega))).append (hg 2 (by omega))
    exact (hp.nodup_iff.2 hnd).sublist (hsub.append (List.Sublist.refl _))
end
/-- Both at once may be, too. -/
theorem MayF.both {h : Hp} {a b : Ls} {ls : List Ls} (hm : MayF h (a :: b :: ls)) : MayF h (app3 a b :: ls) := by
  refine ⟨hm.sh, fun l hl => ?_, hm.ce, ?_⟩
  · rcases List.mem_cons.1 hl with rfl | hl
    · exact hm.li _ (by simp)
    · rcases List.mem_cons.1 hl with rfl | hl
      · refine listed_iff.2 fun k hk e he => ?_
        rw [app3_get] at he
        rcases List.mem_append.1 he with h1 | h1
        · exact listed_iff.1 (hm.li a (by simp)) k hk e h1
        · exact listed_iff.1 (hm.li b (by simp)) k hk e h1
      · exact hm.li l (by simp [hl])
  · have hnd := hm.nd
    rw [catI_cons, catI_cons, catI_cons] at hnd
    rw [catI_cons, catI_cons]
    refine (List.Perm.append_left _ ?_).nodup_iff.2 hnd
    rw [← List.append_assoc]
    exact (one3_app a b).append_right _
theorem MayF.one {h : Hp} {a : Ls} {ls : List Ls} (hm : MayF h (a :: ls)) : MayF h [a] := by
  refine ⟨hm.sh, fun l hl => hm.li l (by simp only [List.mem_cons, List.not_mem_nil, or_false] at hl ⊢; rcases hl with h | h <;> simp [h]), hm.ce, ?_⟩
  have hnd := hm.nd
  rw [catI_cons, catI_cons] at hnd ⊢
  refine hnd.sublist (List.Sublist.append (List.Sublist.refl _) (List.Sublist.append (List.Sublist.refl _) ?_))
  exact List.nil_sublist _
end Go.Ab

namespace Go.Ab
open Go
open Go.Proofs
section
variable {h : Hp} {a b : Ls}
theorem filt_in (j : Nat) (L : List Int) (q : Int → Bool) (h : ∀ e ∈ L, e / 16 - 1 = (j : Int) → q e = true) : (L.filter q).filter (inR (loE j) (loE j + 16)) = L.filter (inR (loE j) (loE j + 16)) := by
  rw [List.filter_filter]
  refine List.filter_congr fun x hx => ?_
  cases hi : inR (loE j) (loE j + 16) x with
  | false => rfl
  | true => rw [h x hx (inR_iff.1 hi)]; rfl
/-- Which pages go: those that go first, and those that go then. -/
theorem hit_both (hm : MayF h [a, b]) (hs : smL (app3 h.f a) = true) (j : Nat) :
    hitE (addF h (app3 a b)) j = (hitE (addF h a) j || hitE (addF (flushH h a) b) j) ∧ (hitE (addF h a) j = true → hitE (addF (flushH h a) b) j = false) := by
  obtain ⟨f1, f2, f3, f4, f5, f6⟩ := flush_fin hm hs
  have hx : (addF (flushH h a) b).p[j]? = if hitE (addF h a) j = true then some (0, 0) else h.p[j]? := f5 j
  by_cases hsm : ∃ c, h.p[j]? = some (1, c)
  · obtain ⟨c, hc⟩ := hsm
    obtain ⟨q1, _, _⟩ := shaped_ne hm.sh
    obtain ⟨_, _, q3⟩ := small_drop q1 hc
    have hk : c.toNat < 3 := by rcases isC_cases q3 with rfl | rfl | rfl <;> decide
    have hck : ((c.toNat : Nat) : Int) = c := by rcases isC_cases q3 with rfl | rfl | rfl <;> decide
    have e1 : hitE (addF h a) j = ((((h.f.get c.toNat ++ a.get c.toNat).filter (inR (loE j) (loE j + 16))).length : Int) == cellsN c) := by
      rw [hit_eq (h := addF h a) hc, partOut_eq]
      rw [show (addF h a).f = app3 h.f a from rfl, app3_get]
    have e3 : hitE (addF h (app3 a b)) j = ((((h.f.get c.toNat ++ a.get c.toNat).filter (inR (loE j) (loE j + 16)) ++ (b.get c.toNat).filter (inR (loE j) (loE j + 16))).length : Int) == cellsN c) := by
      rw [hit_eq (h := addF h (app3 a b)) hc, partOut_eq]
      rw [show (addF h (app3 a b)).f = app3 h.f (app3 a b) from rfl, app3_get, app3_get, ← List.append_assoc, List.filter_append]
    cases hh : hitE (addF h a) j with
    | true =>
      rw [hh, if_pos rfl] at hx
      have hy : hitE (addF (flushH h a) b) j = false := by
        unfold hitE
        rw [hx]
        rfl
      refine ⟨?_, fun _ => hy⟩
      have hb0 : (b.get c.toNat).filter (inR (loE j) (loE j + 16)) = [] := by
        rw [List.filter_eq_nil_iff]
        intro e he hi
        have := hm.alone (l := b) (by simp) hk he (inR_iff.1 hi)
        rw [hh] at this; cases this
      rw [e3, hb0, List.append_nil, ← e1, hh]; rfl
    | false =>
      rw [hh, if_neg (by simp), hc] at hx
      refine ⟨?_, fun h => by cases h⟩
      have e2 : hitE (addF (flushH h a) b) j = ((((h.f.get c.toNat ++ a.get c.toNat).filter (inR (loE j) (loE j + 16)) ++ (b.get c.toNat).filter (inR (loE j) (loE j + 16))).length : Int) == cellsN c) := by
        rw [hit_eq (h := addF (flushH h a) b) hx, partOut_eq]
        rw [show (addF (flushH h a) b).f = app3 (flushH h a).f b from rfl, app3_get, f6 _ hk, List.filter_append, filt_in]
        intro e he hj
        cases hr : rem (addF h a) h.p.length c.toNat e with
        | false => rfl
        | true =>
          obtain ⟨j', _, g2, _, g4⟩ := rem_iff.1 hr
          have : j' = j := by omega
          subst this
          rw [hh] at g2; cases g2
      rw [e3, e2]; rfl
  · have no : ∀ g : Hp, (∀ c, g.p[j]? ≠ some (1, c)) → hitE g j = false := fun g hg => by
      cases hh : hitE g j with
      | false => rfl
      | true =>
        obtain ⟨c, hc, _⟩ := hit_small hh
        exact absurd hc (hg c)
    have n1 : hitE (addF h a) j = false := no _ fun c hc => hsm ⟨c, hc⟩
    have n2 : hitE (addF (flushH h a) b) j = false := no _ fun c hc => by
      rw [hx, n1, if_neg (by simp)] at hc
      exact hsm ⟨c, hc⟩
    have n3 : hitE (addF h (app3 a b)) j = false := no _ fun c hc => hsm ⟨c, hc⟩
    rw [n1, n2, n3]
    exact ⟨rfl, fun h => by cases h⟩
theorem flush_both (hm : MayF h [a, b]) (hs : smL (app3 h.f a) = true) (hs2 : smL (app3 (flushH h a).f b) = true) (hs3 : smL (app3 h.f (app3 a b)) = true) :
    (flushH (flushH h a) b).p = (flushH h (app3 a b)).p ∧ ∀ k, k < 3 → (flushH (flushH h a) b).f.get k = (flushH h (app3 a b)).f.get k := by
  obtain ⟨f1, f2, f3, f4, f5, f6⟩ := flush_fin hm hs
  have hmx := hm.flush hs
  obtain ⟨x1, x2, x3, x4, x5, x6⟩ := flush_fin hmx hs2
  obtain ⟨z1, z2, z3, z4, z5, z6⟩ := flush_fin hm.both hs3
  refine ⟨List.ext_getElem? fun j => ?_, fun k hk => ?_⟩
  · obtain ⟨h1, h2⟩ := hit_both hm hs j
    rw [x5, z5, f5, h1]
    cases hitE (addF h a) j <;> cases hitE (addF (flushH h a) b) j <;> rfl
  · rw [x6 k hk, z6 k hk, f6 k hk, app3_get, ← List.append_assoc, List.filter_append, List.filter_append (h.f.get k ++ a.get k), List.filter_filter]
    have hcl : ∀ j, hitE (addF h a) j = false → clsE (addF (flushH h a) b) j = clsE h j := fun j hh => by
      unfold clsE
      rw [List.getD_eq_getElem?_getD, List.getD_eq_getElem?_getD, show (addF (flushH h a) b).p[j]? = h.p[j]? from (f5 j).trans (by rw [hh]; rfl)]
    have hr : ∀ e, rem (addF h (app3 a b)) h.p.length k e = (rem (addF (flushH h a) b) (flushH h a).p.length k e || rem (addF h a) h.p.length k e) := fun e => by
      rw [Bool.eq_iff_iff, Bool.or_eq_true, rem_iff, rem_iff, rem_iff, f4]
      constructor
      · rintro ⟨j, g1, g2, g3, g4⟩
        obtain ⟨h1, h2⟩ := hit_both hm hs j
        rw [h1] at g2
        cases hh : hitE (addF h a) j with
        | true => exact .inr ⟨j, g1, hh, g3, g4⟩
        | false =>
          rw [hh, Bool.false_or] at g2
          exact .inl ⟨j, g1, g2, (hcl j hh).trans g3, g4⟩
      · rintro (⟨j, g1, g2, g3, g4⟩ | ⟨j, g1, g2, g3, g4⟩)
        · obtain ⟨h1, h2⟩ := hit_both hm hs j
          have hh : hitE (addF h a) j = false := by
            cases hh : hitE (addF h a) j with
            | false => rfl
            | true => rw [h2 hh] at g2; cases g2
          exact ⟨j, g1, by rw [h1, g2, hh]; rfl, (hcl j hh).symm.trans g3, g4⟩
        · obtain ⟨h1, h2⟩ := hit_both hm hs j
          exact ⟨j, g1, by rw [h1, g2]; rfl, g3, g4⟩
    have hb : ∀ e ∈ b.get k, rem (addF h a) h.p.length k e = false := fun e he => by
      cases hq : rem (addF h a) h.p.length k e with
      | false => rfl
      | true =>
        obtain ⟨j, _, g2, _, g4⟩ := rem_iff.1 hq
        have := hm.alone (l := b) (by simp) hk he g4
        rw [g2] at this; cases this
    congr 1
    · refine List.filter_congr fun e _ => ?_
      rw [hr]
      cases rem (addF (flushH h a) b) (flushH h a).p.length k e <;> cases rem (addF h a) h.p.length k e <;> rfl
    · refine List.filter_congr fun e he => ?_
      rw [hr, hb e he]
      simp
end
end Go.Ab
