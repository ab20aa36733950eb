/- What was whole is whole without an object, or a cache; other objects are as they were.
What was whole is whole behind Flush; all objects are as they were.
pages.Find, and what is taken there.
A page that is taken for cells; cells that are moved, and taken; an object's word.
Cells that are moved, and taken; pages that are made a large one's; an object's words.
A cell that is made ready, and taken: what it leaves.
alloc.small and large: where there is room, and what they leave.
alloc.Take: its contract, and what it leaves.
What is taken fits; how many are used; where there is room.
The reference's Of, Run, Same.
alloc.Take's contract.
Behind an object that is given back there is room; what is taken and given back is as it was.
alloc.Room; few of chapter 08; awake of chapter 08.
few of chapter 08; awake of chapter 08.
ReapBack's residual.
AllocTwice's residual.
The law AllocTwice.
The law ReapBack.
AllocKeeps: its loops.
AllocKeeps: its inner loops' contracts.
AllocKeeps: its outer loop; its residual.
AllocKeeps' residual.
The law AllocKeeps. -/
import Derived.Test.YtkahninpodhcmaaGreatDoorTe
import Derived.Test.YtkahninpodhcmaaGreatDoorTd
namespace Go.Ab
open Go
open Go.Proofs
theorem whole_iff {h : Hp} {ls : List Ls} : wholeHV h ls = true ↔ MayF h ls /\ ∀ c, roomA h.p c > 0 -> wordE h c = 0 -> c ∈ catI (h.f :: ls) := by
  unfold wholeHV
  rw [Bool.and_eq_true, mayF_iff, List.all_eq_true]
  constructor
  . rintro ⟨h1, h2⟩
    refine ⟨h1, fun c hc hw => ?_⟩
    have := h2 c (cell_mem.2 hc)
    rw [hw] at this
    simpa using this
  . rintro ⟨h1, h2⟩
    refine ⟨h1, fun c hc => ?_⟩
    have := h2 c (cell_mem.1 hc)
    cases hw : wordE h c != 0 with
    | true => rfl
    | false =>
      have := this (by simpa using hw)
      simpa using this
theorem cat_mem {ls : List Ls} {e : Int} : e ∈ catI ls ↔ ∃ l ∈ ls, ∃ k, k < 3 /\ e ∈ l.get k := by
  unfold catI
  rw [List.mem_flatMap]
  constructor
  . rintro ⟨l, hl, he⟩; exact ⟨l, hl, one3_mem.1 he⟩
  . rintro ⟨l, hl, he⟩; exact ⟨l, hl, one3_mem.2 he⟩
theorem rises_ext {lo : Int} {n : Nat} {xs ys : List Int} (hx : rises lo (lo + n) xs) (hy : rises lo (lo + n) ys) (h : ∀ e, e ∈ xs ↔ e ∈ ys) : xs = ys := by
  rw [<- filter_rises n lo xs hx, <- filter_rises n lo ys hy]
  refine List.filter_congr fun e _ => ?_
  simp only [h e]
theorem rises_filter {q : Int -> Bool} : ∀ {xs : List Int} {lo hi : Int}, rises lo hi xs -> rises lo hi (xs.filter q)
  | [], _, _, h => h
  | x :: xs, lo, hi, h => by
    obtain ⟨h1, h2, h3⟩ := h
    rw [List.filter_cons]
    cases q x with
    | true => exact ⟨h1, h2, rises_filter h3⟩
    | false => exact rises_mono (by omega) (rises_filter h3)
theorem rises_nodup : ∀ {xs : List Int} {lo hi : Int}, rises lo hi xs -> xs.Nodup
  | [], _, _, _ => List.nodup_nil
  | x :: xs, lo, hi, h => by
    obtain ⟨h1, h2, h3⟩ := h
    refine List.nodup_cons.2 ⟨fun hin => ?_, rises_nodup h3⟩
    have := (rises_mem h3 x hin).1
    omega
theorem used_mem {h : Hp} (hm : MayF h []) {e : Int} : e ∈ usedE h ↔ roomA h.p e > 0 /\ wordE h e ≠ 0 := by
  unfold usedE
  rw [mayF_iff.2 hm]
  show e ∈ (cellAs h.p).filter _ ↔ _
  rw [List.mem_filter, cell_mem]
  unfold usedV
  simp
theorem used_rises {h : Hp} : rises 16 (16 + (16 * h.p.length : Nat)) (usedE h) := by
  unfold usedE
  cases mayHpV h [] with
  | false => trivial
  | true => exact rises_filter (allCs_rises h.p)
theorem used_but {h x : Hp} (hm : MayF h []) (hx : MayF x []) (hl : x.p.length = h.p.length) {a : Int} (h1 : ∀ e, (roomA x.p e > 0 /\ wordE x e ≠ 0) ↔ (roomA h.p e > 0 /\ wordE h e ≠ 0) /\ e ≠ a) : usedE x = (usedE h).filter fun e => e != a := by
  have hr := used_rises (h := x)
  rw [hl] at hr
  refine rises_ext hr (rises_filter used_rises) fun e => ?_
  rw [used_mem hx, List.mem_filter, used_mem hm, h1 e]
  simp
theorem filter_one {a : Int} : ∀ {xs : List Int}, xs.Nodup -> a ∈ xs -> (xs.filter fun e => e != a).length + 1 = xs.length
  | [], _, h => by cases h
  | x :: xs, hn, h => by
    obtain ⟨h1, h2⟩ := List.nodup_cons.1 hn
    rw [List.filter_cons]
    by_cases hx : x = a
    . subst hx
      rw [if_neg (by simp), List.filter_eq_self.2]
      . rfl
      . intro e he
        simp only [bne_iff_ne]
        intro hq
        exact h1 (hq ▸ he)
    . rw [if_pos (by simpa using hx)]
      have := filter_one h2 (by rcases List.mem_cons.1 h with h | h; exact absurd h.symm hx; exact h)
      simp only [List.length_cons]
      omega
theorem eqR_of {s : HH} {u : Int} : ∀ (m j : Nat), (∀ i, j <= i -> i < j + m -> s.k.w.getD (u + (i : Int) - 16).toNat 0 = s.h.w.getD (u + (i : Int) - 16).toNat 0) -> eqR s u m j = true
  | 0, _, _ => rfl
  | m + 1, j, h => by
    unfold eqR
    rw [h j (by omega) (by omega), bne_self_eq_false, cond_false]
    exact eqR_of m (j + 1) fun i h1 h2 => h i (by omega) (by omega)
end Go.Ab

namespace Go.Ab
open Go
open Go.Proofs
end Go.Ab

namespace Go.Ab
open Go
open Go.Proofs
theorem findF_some {ps : List Pg} {n : Nat} : ∀ {m a b : Nat}, findF ps n m a = some b -> a <= b /\ b < a + m /\ all0 ((ps.drop b).take n) = true /\ ∀ j, a <= j -> j < b -> all0 ((ps.drop j).take n) = false
  | 0, _, _, h => by cases h
  | m + 1, a, b, h => by
    unfold findF at h
    cases h0 : all0 ((ps.drop a).take n) with
    | true =>
      rw [h0] at h
      cases h
      exact ⟨Nat.le_refl _, by omega, h0, fun j h1 h2 => by omega⟩
    | false =>
      rw [h0] at h
      obtain ⟨h1, h2, h3, h4⟩ := findF_some (m := m) h
      refine ⟨by omega, by omega, h3, fun j g1 g2 => ?_⟩
      by_cases hj : j = a
      . rw [hj]; exact h0
      . exact h4 j (by omega) g2
theorem all0_free : ∀ (n : Nat) (l : List Pg), n <= l.length -> all0 (l.take n) = allFree n l
  | 0, _, _ => rfl
  | n + 1, [], h => by simp at h
  | n + 1, p :: l, h => by
    have := all0_free n l (by simpa using h)
    show (p.1 == 0 && all0 (l.take n)) = cond (p.1 == 0) (allFree n l) false
    rw [this]
    cases p.1 == 0 <;> rfl
theorem find_parts {ps : List Pg} {n : Int} {at' : Nat} (hf : findE ps n = some at') : may ps = true /\ 1 <= n /\ n <= 4 /\ ∃ X Z, ps = X ++ List.replicate n.toNat (0, 0) ++ Z /\ X.length = at' /\ mayGo 0 X = some 0 /\ mayGo 0 Z = some 0 := by
  unfold findE at hf
  cases hm : may ps with
  | false => rw [hm] at hf; cases hf
  | true =>
    cases hn : in3 n 1 4 with
    | false => rw [hm, hn] at hf; cases hf
    | true =>
      rw [hm, hn] at hf
      obtain ⟨n1, n4⟩ := in3_iff.1 hn
      have hf : findF ps n.toNat (ps.length + 1 - n.toNat) 0 = some at' := hf
      obtain ⟨_, h2, h3, _⟩ := findF_some hf
      rw [all0_free _ _ (by rw [List.length_drop]; omega)] at h3
      exact ⟨rfl, n1, n4, may_free (may_go0 hm) (by omega) h3⟩
theorem small_put {ps : List Pg} {at' : Nat} {c : Int} (hf : findE ps 1 = some at') (c0 : 0 <= c) (c2 : c <= 2) : at' < ps.length /\ ps[at']? = some (0, 0) /\ (smallE ps (at' : Int) c).2 = ps.set at' (1, c) /\ may (ps.set at' (1, c)) = true := by
  obtain ⟨hm, _, _, X, Z, rfl, rfl, hX, hZ⟩ := find_parts hf
  have hr : List.replicate (Int.toNat 1) ((0, 0) : Pg) = [(0, 0)] := rfl
  rw [hr] at hm ⊢
  have hset : (X ++ [(0, 0)] ++ Z).set X.length (1, c) = X ++ [(1, c)] ++ Z := by
    rw [List.append_assoc, List.set_append_right _ _ (Nat.le_refl _), Nat.sub_self]
    simp
  obtain ⟨l1, l2⟩ := may_len hm
  refine ⟨by simp, ?_, ?_, ?_⟩
  . rw [List.append_assoc, List.getElem?_append_right (Nat.le_refl _), Nat.sub_self]; rfl
  . rw [small_parts c0 c2 hm, hset]
  . rw [hset]
    refine go_may ?_ ?_ (mayGo_join hX (mayGo_small c0 c2) hZ)
    . simp only [List.length_append, List.length_cons]; omega
    . simp at l2 ⊢; omega
theorem large_put {ps : List Pg} {at' : Nat} {n : Int} (hf : findE ps n = some at') : 1 <= n /\ n <= 4 /\ at' + n.toNat <= ps.length /\ (∀ j, at' <= j -> j < at' + n.toNat -> ps[j]? = some (0, 0)) /\ may (largeE ps (at' : Int) n).2 = true /\ (largeE ps (at' : Int) n).2.length = ps.length /\
    ∀ j, (largeE ps (at' : Int) n).2[j]? = if j = at' then some (2, n) else if at' < j /\ j < at' + n.toNat then some (3, 0) else ps[j]? := by
  obtain ⟨hm, n1, n4, X, Z, rfl, rfl, hX, hZ⟩ := find_parts hf
  obtain ⟨l1, l2⟩ := may_len hm
  have hol : (ownL n).length = n.toNat := ownL_len n1
  rw [large_parts n1 n4 hm]
  refine ⟨n1, n4, by simp, fun j h1 h2 => ?_, go_may ?_ ?_ (mayGo_join hX (mayGo_ownL n1 n4) hZ), ?_, fun j => ?_⟩
  . rw [List.append_assoc, List.getElem?_append_right h1, List.getElem?_append_left (by simp; omega), List.getElem?_replicate, if_pos (by omega)]
  . simp [hol]; omega
  . simp only [List.length_append, List.length_replicate] at l2 ⊢; omega
  . simp [hol]
  . show (X ++ ownL n ++ Z)[j]? = _
    by_cases h1 : j < X.length
    . rw [if_neg (by omega), if_neg (by omega), List.append_assoc, List.append_assoc, List.getElem?_append_left h1, List.getElem?_append_left h1]
    . by_cases h2 : j < X.length + n.toNat
      . rw [List.append_assoc, List.getElem?_append_right (by omega), List.getElem?_append_left (by rw [hol]; omega)]
        unfold ownL
        by_cases h3 : j = X.length
        . rw [if_pos h3, h3, Nat.sub_self]; rfl
        . rw [if_neg h3, if_pos (by omega), show j - X.length = (j - X.length - 1) + 1 by omega, List.getElem?_cons_succ, List.getElem?_replicate, if_pos (by omega)]
      . rw [if_neg (by omega), if_neg (by omega), List.getElem?_append_right (by simp [hol]; omega), List.getElem?_append_right (by simp; omega)]
        congr 1
        simp [hol]
theorem on_mem {ps : List Pg} {p : Nat} {e : Int} (hp : p < ps.length) (hl : ps.length <= 200) : e ∈ (onL ps (p : Int)).map (·.1) ↔ roomA ps e > 0 /\ pgN e = p := by
  rw [<- onL_filter ps (p : Int), List.mem_filter]
  have h1 : e ∈ (allCs ps).map (·.1) ↔ roomA ps e > 0 := cell_mem
  rw [h1]
  constructor
  . rintro ⟨h2, h3⟩
    refine ⟨h2, ?_⟩
    obtain ⟨r1, r2⟩ := room_in h2
    have v1 : IntKind.i64.wrap (e / 16) = e / 16 := wrap_in (by omega)
    have v2 : IntKind.i64.wrap (e / 16 - 1) = e / 16 - 1 := wrap_in (by omega)
    rw [tdiv_pos (by omega), v1, v2] at h3
    have := eq_of_beq h3
    show (e / 16 - 1).toNat = p
    omega
  . rintro ⟨h2, h3⟩
    refine ⟨h2, ?_⟩
    obtain ⟨r1, r2⟩ := room_in h2
    have v1 : IntKind.i64.wrap (e / 16) = e / 16 := wrap_in (by omega)
    have v2 : IntKind.i64.wrap (e / 16 - 1) = e / 16 - 1 := wrap_in (by omega)
    rw [tdiv_pos (by omega), v1, v2]
    have h3 : (e / 16 - 1).toNat = p := h3
    rw [beq_iff_eq]
    omega
theorem on_nodup (ps : List Pg) (p : Int) : ((onL ps p).map (·.1)).Nodup := by
  rw [<- onL_filter ps p]
  exact (rises_nodup (allCs_rises ps)).sublist List.filter_sublist
theorem segR_all (xs : List Int) : segR xs 0 xs.length = xs.reverse := by
  simp [segR]
end Go.Ab

namespace Go.Ab
open Go
open Go.Proofs
theorem putW_get (w : List Int) (a v : Int) (j : Nat) : (putW w a v)[j]? = if j = (a - 16).toNat /\ j < w.length then some v else w[j]? := by
  unfold putW
  rw [List.getElem?_set]
  by_cases h : (a - 16).toNat = j
  . subst h
    by_cases h2 : (a - 16).toNat < w.length
    . rw [if_pos rfl, if_pos h2, if_pos ⟨rfl, h2⟩]
    . rw [if_pos rfl, if_neg h2, if_neg (fun q => h2 q.2), List.getElem?_eq_none (by omega)]
  . rw [if_neg h, if_neg (fun q => h q.1.symm)]
theorem putsW_len : ∀ (ys : List Int) (w : List Int), (putsW w ys).length = w.length
  | [], _ => rfl
  | a :: ys, w => by
    show (putsW (putW w a 0) ys).length = _
    rw [putsW_len ys, putW_len]
theorem putsW_get : ∀ (ys : List Int) (w : List Int) (j : Nat), (putsW w ys)[j]? = if (∃ a ∈ ys, (a - 16).toNat = j) /\ j < w.length then some 0 else w[j]?
  | [], w, j => by simp [putsW]
  | a :: ys, w, j => by
    show (putsW (putW w a 0) ys)[j]? = _
    rw [putsW_get ys, putW_len, putW_get]
    by_cases h1 : (∃ a ∈ ys, (a - 16).toNat = j) /\ j < w.length
    . obtain ⟨⟨b, hb, hj⟩, hl⟩ := h1
      rw [if_pos ⟨⟨b, hb, hj⟩, hl⟩, if_pos ⟨⟨b, by simp [hb], hj⟩, hl⟩]
    . rw [if_neg h1]
      by_cases h2 : j = (a - 16).toNat /\ j < w.length
      . rw [if_pos h2, if_pos ⟨⟨a, by simp, h2.1.symm⟩, h2.2⟩]
      . rw [if_neg h2, if_neg]
        rintro ⟨⟨b, hb, hj⟩, hl⟩
        rcases List.mem_cons.1 hb with rfl | hb
        . exact h2 ⟨hj.symm, hl⟩
        . exact h1 ⟨⟨b, hb, hj⟩, hl⟩
def manyL (c : Int) (ys : List Int) : Ls := (⟨[], [], []⟩ : Ls).set ys c.toNat
theorem manyL_get {c : Int} {ys : List Int} (h0 : 0 <= c) (h2 : c <= 2) {k : Nat} (hk : k < 3) : (manyL c ys).get k = if (k : Int) = c then ys else [] := by
  unfold manyL
  rw [get_set hk (by omega)]
  by_cases h : k = c.toNat
  . rw [if_pos h, if_pos (by omega)]
  . rw [if_neg h, if_neg (by omega)]
    have : k = 0 \/ k = 1 \/ k = 2 := by omega
    rcases this with rfl | rfl | rfl <;> rfl
theorem push_many (l : Ls) {c : Int} (ys : List Int) (h0 : 0 <= c) (h2 : c <= 2) : pushL l c ys = app3 l (manyL c ys) := by
  have : c = 0 \/ c = 1 \/ c = 2 := by omega
  rcases this with rfl | rfl | rfl <;> simp [pushL, app3, manyL, Ls.set, Ls.get]
section
variable {h : Hp} {ls : List Ls} {at' : Nat} {c : Int}
theorem free_none (hp : h.p[at']? = some (0, 0)) {e : Int} (he : roomA h.p e > 0) : pgN e ≠ at' := fun q => by
  obtain ⟨_, _, _, _, p, g4, _, g6⟩ := cell_facts he
  have g4 : h.p[pgN e]? = some p := g4
  rw [q, hp] at g4
  cases g4
  rcases g6 with ⟨k2, _⟩ | ⟨k1, _⟩
  . cases k2
  . cases k1
def newYs (h : Hp) (at' : Nat) (c : Int) : List Int := ((onL (h.p.set at' (1, c)) (at' : Int)).map (·.1)).reverse
def pageH (h : Hp) (at' : Nat) (c : Int) : Hp := ⟨putsW h.w (newYs h at' c), h.p.set at' (1, c), pushL h.f c (newYs h at' c), h.c⟩
structure PageF (h : Hp) (ls : List Ls) (at' : Nat) (c : Int) : Prop where
  m : MayF (pageH h at' c) ls
  old : ∀ e, roomA h.p e > 0 -> pgN e ≠ at' /\ roomA (pageH h at' c).p e = roomA h.p e /\ pageE (pageH h at' c) e = pageE h e /\ wordE (pageH h at' c) e = wordE h e
  new : ∀ e, roomA (pageH h at' c).p e > 0 -> (pgN e = at' /\ e ∈ newYs h at' c /\ wordE (pageH h at' c) e = 0) \/ (pgN e ≠ at' /\ roomA h.p e > 0)
  ys : ∀ e, e ∈ newYs h at' c ↔ roomA (pageH h at' c).p e > 0 /\ pgN e = at'
  ne : newYs h at' c ≠ []
  w : ∀ j : Nat, j / 16 ≠ at' -> (pageH h at' c).w[j]? = h.w[j]?
theorem MayF.page (hm : MayF h ls) (hf : findE h.p 1 = some at') (c0 : 0 <= c) (c2 : c <= 2) : PageF h ls at' c := by
  obtain ⟨q1, _, _⟩ := shaped_ne hm.sh
  obtain ⟨hlt, hp0, _, hmp⟩ := small_put hf c0 c2
  obtain ⟨_, l64⟩ := may_len q1
  have hlen : (h.p.set at' (1, c)).length = h.p.length := by simp
  have hys : ∀ e, e ∈ newYs h at' c ↔ roomA (h.p.set at' (1, c)) e > 0 /\ pgN e = at' := fun e => by
    unfold newYs
    rw [List.mem_reverse]
    exact on_mem (by rw [hlen]; exact hlt) (by rw [hlen]; omega)
  have hpg : ∀ e : Int, pgN e ≠ at' -> (h.p.set at' (1, c))[pgN e]? = h.p[pgN e]? := fun e hne => by
    rw [List.getElem?_set, if_neg (fun q => hne q.symm)]
  have hr16 : ∀ e ∈ newYs h at' c, 16 <= e /\ e / 16 - 1 = (at' : Int) := fun e he => by
    obtain ⟨h1, h2⟩ := (hys e).1 he
    have := (room_in h1).1
    have h2 : (e / 16 - 1).toNat = at' := h2
    omega
  have hword : ∀ e : Int, 16 <= e -> wordE (pageH h at' c) e = if e ∈ newYs h at' c /\ (e - 16).toNat < h.w.length then 0 else wordE h e := fun e h16 => by
    unfold wordE
    rw [List.getD_eq_getElem?_getD, List.getD_eq_getElem?_getD]
    show ((putsW h.w (newYs h at' c))[(e - 16).toNat]?).getD 0 = _
    rw [putsW_get]
    by_cases g : e ∈ newYs h at' c /\ (e - 16).toNat < h.w.length
    . rw [if_pos g, if_pos ⟨⟨e, g.1, rfl⟩, g.2⟩]; rfl
    . rw [if_neg g, if_neg]
      rintro ⟨⟨b, hb, hj⟩, hl⟩
      have := (hr16 b hb).1
      have : b = e := by omega
      exact g ⟨this ▸ hb, hl⟩
  have hsame : ∀ e, pgN e ≠ at' -> roomA (h.p.set at' (1, c)) e = roomA h.p e /\ pageE (pageH h at' c) e = pageE h e := fun e hne => by
    have hg : (h.p.set at' (1, c)).getD (pgN e) (0, 0) = h.p.getD (pgN e) (0, 0) := by rw [List.getD_eq_getElem?_getD, List.getD_eq_getElem?_getD, hpg e hne]
    refine ⟨?_, hg⟩
    rw [roomA_doc, roomA_doc, hmp, q1, hlen]
    show (bif _ then cellAt ((h.p.set at' (1, c)).getD (pgN e) (0, 0)) _ else 0) = _
    rw [hg]
  have hold : ∀ e, roomA h.p e > 0 -> pgN e ≠ at' /\ roomA (pageH h at' c).p e = roomA h.p e /\ pageE (pageH h at' c) e = pageE h e /\ wordE (pageH h at' c) e = wordE h e := fun e he => by
    have hne := free_none hp0 he
    obtain ⟨r1, r2⟩ := hsame e hne
    refine ⟨hne, r1, r2, ?_⟩
    rw [hword e (room_in he).1, if_neg]
    intro g
    exact hne ((hys e).1 g.1).2
  have hnew : ∀ e, roomA (h.p.set at' (1, c)) e > 0 -> (pgN e = at' /\ e ∈ newYs h at' c /\ wordE (pageH h at' c) e = 0) \/ (pgN e ≠ at' /\ roomA h.p e > 0) := fun e he => by
    by_cases hq : pgN e = at'
    . have hin := (hys e).2 ⟨he, hq⟩
      refine .inl ⟨hq, hin, ?_⟩
      have h1 := room_in he
      rw [hlen] at h1
      have := shaped_w hm.sh
      rw [hword e h1.1, if_pos ⟨hin, by omega⟩]
    . exact .inr ⟨hq, by rw [<- (hsame e hq).1]; exact he⟩
  have hpe : ∀ e ∈ newYs h at' c, pageE (pageH h at' c) e = (1, c) := fun e he => by
    have h2 := ((hys e).1 he).2
    show (h.p.set at' (1, c)).getD (pgN e) (0, 0) = _
    rw [h2, List.getD_eq_getElem?_getD, List.getElem?_set, if_pos rfl, if_pos hlt]; rfl
  have hlist : ∀ (k : Nat) (e : Int), listV h k e = true -> listV (pageH h at' c) k e = true := fun k e hl => by
    obtain ⟨_, r1, r2, r3⟩ := hold e (listV_facts hl).1
    unfold listV at hl ⊢
    rw [r1, r2, r3]; exact hl
  have hnd : (newYs h at' c).Nodup := by
    unfold newYs
    exact (List.reverse_perm _).nodup_iff.2 (on_nodup _ _)
  have m1 : MayF ⟨putsW h.w (newYs h at' c), h.p.set at' (1, c), h.f, h.c⟩ (manyL c (newYs h at' c) :: ls) := by
    refine ⟨?_, fun l hl => listed_iff.2 fun k hk e he => ?_, fun e he => ?_, ?_⟩
    . have h1 := hm.sh
      unfold shapedE at h1 ⊢
      show (mayA (putsW h.w _).length && (may (h.p.set at' (1, c)) && (Nat.beq (putsW h.w _).length (16 * (h.p.set at' (1, c)).length) && Nat.beq h.c.length ((putsW h.w _).length / 8)))) = true
      rw [putsW_len, hlen, hmp]
      rw [q1] at h1; exact h1
    . rcases List.mem_cons.1 hl with rfl | hl
      . exact hlist k e (listed_iff.1 (hm.li h.f (by simp)) k hk e he)
      . rcases List.mem_cons.1 hl with rfl | hl
        . rw [manyL_get c0 c2 hk] at he
          by_cases hkc : (k : Int) = c
          . rw [if_pos hkc] at he
            obtain ⟨h1, h2⟩ := (hys e).1 he
            have h3 := hpe e he
            rcases hnew e h1 with ⟨_, _, h4⟩ | ⟨h4, _⟩
            . show (decide (roomA (h.p.set at' (1, c)) e > 0) && (((pageE (pageH h at' c) e).1 == 1 && (pageE (pageH h at' c) e).2 == (k : Int)) && wordE (pageH h at' c) e == 0)) = true
              rw [decide_eq_true h1, h3, h4, hkc]; simp
            . exact absurd h2 h4
          . rw [if_neg hkc] at he; cases he
        . exact hlist k e (listed_iff.1 (hm.li l (by simp [hl])) k hk e he)
    . have he : roomA (h.p.set at' (1, c)) e > 0 := cell_mem.1 he
      rcases hnew e he with ⟨_, h2, h3⟩ | ⟨_, h2⟩
      . show (unpOK (wordE (pageH h at' c) e) && bif (unp (wordE (pageH h at' c) e)).a then fitsE (pageE (pageH h at' c) e) (unp (wordE (pageH h at' c) e)).x else (pageE (pageH h at' c) e).1 == 1) = true
        rw [h3, hpe e h2]; rfl
      . obtain ⟨_, r1, r2, r3⟩ := hold e h2
        have := hm.ce e (cell_mem.2 h2)
        show (unpOK (wordE (pageH h at' c) e) && bif (unp (wordE (pageH h at' c) e)).a then fitsE (pageE (pageH h at' c) e) (unp (wordE (pageH h at' c) e)).x else (pageE (pageH h at' c) e).1 == 1) = true
        rw [r2, r3]; exact this
    . have h1 := hm.nd
      show (catI (h.f :: manyL c (newYs h at' c) :: ls)).Nodup
      rw [catI_cons] at h1
      rw [catI_cons, catI_cons]
      have ho : one3 (manyL c (newYs h at' c)) = newYs h at' c := by
        have : c = 0 \/ c = 1 \/ c = 2 := by omega
        rcases this with rfl | rfl | rfl <;> simp [one3, manyL, Ls.set]
      rw [ho, (swp _ _ _).nodup_iff, List.nodup_append]
      refine ⟨hnd, h1, fun x hx y hy hxy => ?_⟩
      subst hxy
      have hin : ∃ l ∈ h.f :: ls, ∃ k, k < 3 /\ x ∈ l.get k := by
        rcases List.mem_append.1 hy with hy | hy
        . obtain ⟨k, hk, he⟩ := one3_mem.1 hy
          exact ⟨h.f, by simp, k, hk, he⟩
        . obtain ⟨l, hl, k, hk, he⟩ := cat_mem.1 hy
          exact ⟨l, by simp [hl], k, hk, he⟩
      obtain ⟨l, hl, k, hk, he⟩ := hin
      exact free_none hp0 (listV_facts (listed_iff.1 (hm.li l hl) k hk x he)).1 ((hys x).1 hx).2
  refine ⟨?_, hold, hnew, hys, ?_, fun j hj => ?_⟩
  . have := m1.absorb
    unfold pageH
    rw [push_many h.f (newYs h at' c) c0 c2]
    exact this
  . have hr : roomA (h.p.set at' (1, c)) (16 * ((at' : Int) + 1)) = wordsOf c := by
      rw [roomA_doc, hmp, decide_eq_true (by omega), decide_eq_true (by rw [hlen]; omega)]
      show cellAt ((h.p.set at' (1, c)).getD (16 * ((at' : Int) + 1) / 16 - 1).toNat (0, 0)) (16 * ((at' : Int) + 1) % 16).toNat = _
      rw [show (16 * ((at' : Int) + 1) / 16 - 1).toNat = at' by omega, show (16 * ((at' : Int) + 1) % 16).toNat = 0 by omega, List.getD_eq_getElem?_getD, List.getElem?_set, if_pos rfl, if_pos hlt]
      show cellAt (1, c) 0 = _
      unfold cellAt
      simp
    have hin : 16 * ((at' : Int) + 1) ∈ newYs h at' c := (hys _).2 ⟨by rw [hr]; rcases words_val c0 c2 with ⟨_, w⟩ | ⟨_, w⟩ | ⟨_, w⟩ <;> omega, by show (16 * ((at' : Int) + 1) / 16 - 1).toNat = at'; omega⟩
    intro hq
    rw [hq] at hin; cases hin
  . show (putsW h.w (newYs h at' c))[j]? = _
    rw [putsW_get, if_neg]
    rintro ⟨⟨b, hb, hbj⟩, _⟩
    have := hr16 b hb
    omega
end
end Go.Ab

namespace Go.Ab
open Go
open Go.Proofs
theorem count_set {l : Ls} {x : List Int} {k : Nat} (hk : k < 3) (e : Int) : (one3 (l.set x k)).count e + (l.get k).count e = (one3 l).count e + x.count e := by
  have : k = 0 \/ k = 1 \/ k = 2 := by omega
  rcases this with rfl | rfl | rfl
  . show (x ++ l.b ++ l.c).count e + l.a.count e = (l.a ++ l.b ++ l.c).count e + x.count e
    simp only [List.count_append]; omega
  . show (l.a ++ x ++ l.c).count e + l.b.count e = (l.a ++ l.b ++ l.c).count e + x.count e
    simp only [List.count_append]; omega
  . show (l.a ++ l.b ++ x).count e + l.c.count e = (l.a ++ l.b ++ l.c).count e + x.count e
    simp only [List.count_append]; omega
theorem count_cut (n : Nat) (l : List Int) (e : Int) : (l.take n).count e + (l.drop n).count e = l.count e := by
  rw [<- List.count_append, List.take_append_drop]
section
variable {h : Hp} {c : Ls} {ls : List Ls}
theorem MayF.regroup (hm : MayF h (c :: ls)) {f' c' : Ls} {r : List Int} (hmem : ∀ k, k < 3 -> ∀ e, (e ∈ f'.get k \/ e ∈ c'.get k) -> (e ∈ h.f.get k \/ e ∈ c.get k))
    (hp : (r ++ (one3 f' ++ one3 c')).Perm (one3 h.f ++ one3 c)) : MayF { h with f := f' } (c' :: ls) /\ r.Nodup /\ ∀ e ∈ r, e ∉ catI (f' :: c' :: ls) := by
  have hnd := hm.nd
  rw [catI_cons, catI_cons, <- List.append_assoc] at hnd
  have h1 : (r ++ (one3 f' ++ one3 c') ++ catI ls).Nodup := (hp.append_right (catI ls)).nodup_iff.2 hnd
  rw [List.append_assoc, List.append_assoc] at h1
  obtain ⟨h2, h3, h4⟩ := List.nodup_append.1 h1
  refine ⟨⟨hm.sh, fun l hl => ?_, hm.ce, ?_⟩, h2, fun e he hin => ?_⟩
  . have key : ∀ k, k < 3 -> ∀ e, (e ∈ f'.get k \/ e ∈ c'.get k) -> listV h k e = true := fun k hk e he => by
      rcases hmem k hk e he with h5 | h5
      . exact listed_iff.1 (hm.li h.f (by simp)) k hk e h5
      . exact listed_iff.1 (hm.li c (by simp)) k hk e h5
    rcases List.mem_cons.1 hl with rfl | hl
    . exact listed_iff.2 fun k hk e he => key k hk e (.inl he)
    . rcases List.mem_cons.1 hl with rfl | hl
      . exact listed_iff.2 fun k hk e he => key k hk e (.inr he)
      . exact hm.li l (by simp [hl])
  . show (catI (f' :: c' :: ls)).Nodup
    rw [catI_cons, catI_cons]; exact h3
  . rw [catI_cons, catI_cons] at hin
    exact h4 e he e hin rfl
theorem MayF.move (hm : MayF h (c :: ls)) {k : Int} (k0 : 0 <= k) (k2 : k <= 2) : MayF { h with f := moveF h.f k } (moveT h.f c k :: ls) := by
  have hk : k.toNat < 3 := by omega
  refine (hm.regroup (r := []) (fun j hj e he => ?_) ?_).1
  . unfold moveF moveT at he
    rw [get_set hj hk, get_set hj hk] at he
    by_cases hjk : j = k.toNat
    . rw [if_pos hjk, if_pos hjk] at he
      rw [hjk]
      rcases he with he | he
      . exact .inl (List.mem_of_mem_take he)
      . rcases List.mem_append.1 he with he | he
        . exact .inr he
        . exact .inl (List.mem_of_mem_drop (List.mem_reverse.1 he))
    . rw [if_neg hjk, if_neg hjk] at he
      exact he
  . rw [List.nil_append, List.perm_iff_count]
    intro e
    have h1 := count_set (l := h.f) (x := (h.f.get k.toNat).take ((h.f.get k.toNat).length - 2)) hk e
    have h2 := count_set (l := c) (x := c.get k.toNat ++ ((h.f.get k.toNat).drop ((h.f.get k.toNat).length - 2)).reverse) hk e
    have h3 := count_cut ((h.f.get k.toNat).length - 2) (h.f.get k.toNat) e
    rw [List.count_append, List.count_reverse] at h2
    rw [List.count_append, List.count_append]
    unfold moveF moveT
    omega
structure MayX (h : Hp) (ls : List Ls) (a : Int) : Prop where
  sh : shapedE h = true
  li : ∀ l ∈ h.f :: ls, listedV h l = true
  ce : ∀ c ∈ cellAs h.p, c ≠ a -> mayV h c = true
  nd : (catI (h.f :: ls)).Nodup
  r : roomA h.p a > 0
  no : a ∉ catI (h.f :: ls)
theorem last_drop {l : List Int} (hl : l ≠ []) : l.drop (l.length - 1) = [l.getD (l.length - 1) 0] := by
  have : 0 < l.length := List.length_pos_iff.2 hl
  rw [List.drop_eq_getElem_cons (by omega), List.drop_eq_nil_of_le (by omega), List.getD_eq_getElem?_getD, List.getElem?_eq_getElem (by omega)]
  rfl
theorem MayF.pop (hm : MayF h (c :: ls)) {k : Int} (k0 : 0 <= k) (k2 : k <= 2) (hne : c.get k.toNat ≠ []) : MayX h (popL c k :: ls) (lastL c k) /\ listV h k (lastL c k) = true /\ (lastL c k) ∈ c.get k.toNat := by
  have hk : k.toNat < 3 := by omega
  have hdr := last_drop hne
  have hin : lastL c k ∈ c.get k.toNat := List.mem_of_mem_drop (i := (c.get k.toNat).length - 1) (by rw [hdr]; exact List.mem_singleton.2 rfl)
  have hl : listV h k (lastL c k) = true := by
    have := listed_iff.1 (hm.li c (by simp)) k.toNat hk _ hin
    rwa [show ((k.toNat : Nat) : Int) = k by omega] at this
  obtain ⟨g1, g2, g3⟩ := hm.regroup (f' := h.f) (c' := popL c k) (r := [lastL c k]) (fun j hj e he => by
    unfold popL at he
    rw [get_set hj hk] at he
    by_cases hjk : j = k.toNat
    . rw [if_pos hjk] at he
      rw [hjk] at he ⊢
      rcases he with he | he
      . exact .inl he
      . exact .inr (List.mem_of_mem_take he)
    . rw [if_neg hjk] at he
      exact he) (by
    rw [List.perm_iff_count]
    intro e
    have h2 := count_set (l := c) (x := (c.get k.toNat).take ((c.get k.toNat).length - 1)) hk e
    have h3 := count_cut ((c.get k.toNat).length - 1) (c.get k.toNat) e
    rw [hdr] at h3
    rw [List.count_append, List.count_append, List.count_append]
    unfold popL
    unfold lastL
    omega)
  exact ⟨⟨g1.sh, g1.li, fun e he _ => g1.ce e he, g1.nd, (listV_facts hl).1, g3 _ (List.mem_singleton.2 rfl)⟩, hl, hin⟩
def putH (h : Hp) (a v : Int) : Hp := { h with w := putW (zeroW h.w a (roomA h.p a)) a v }
theorem putH_len {a v : Int} (hs : shapedE h = true) (hr : roomA h.p a > 0) : (putH h a v).w.length = h.w.length := by
  obtain ⟨z1, z2, z3⟩ := zero_in hs hr
  show (putW _ _ _).length = _
  rw [putW_len, zero_len z1 z2 z3]
theorem putH_get {a v : Int} (hs : shapedE h = true) (hr : roomA h.p a > 0) (j : Nat) : (putH h a v).w[j]? = if (j : Int) = a - 16 then some v else if a - 16 <= (j : Int) /\ (j : Int) < a - 16 + roomA h.p a then some 0 else h.w[j]? := by
  obtain ⟨z1, z2, z3⟩ := zero_in hs hr
  show (putW (zeroW h.w a (roomA h.p a)) a v)[j]? = _
  rw [putW_get, zero_len z1 z2 z3, zero_get' z1 z2 z3]
  by_cases g : (j : Int) = a - 16
  . rw [if_pos (by omega), if_pos g]
  . rw [if_neg (by omega), if_neg g]
theorem putH_word {a v : Int} (hs : shapedE h = true) (hr : roomA h.p a > 0) {e : Int} (h16 : 16 <= e) : wordE (putH h a v) e = if e = a then v else if a <= e /\ e < a + roomA h.p a then 0 else wordE h e := by
  have := (room_in hr).1
  unfold wordE
  rw [List.getD_eq_getElem?_getD, List.getD_eq_getElem?_getD, putH_get hs hr]
  by_cases g : e = a
  . rw [if_pos g, if_pos (by omega)]; rfl
  . rw [if_neg g, if_neg (by omega)]
    by_cases g2 : a <= e /\ e < a + roomA h.p a
    . rw [if_pos g2, if_pos (by omega)]; rfl
    . rw [if_neg g2, if_neg (by omega)]
theorem putH_keep {a v : Int} (hs : shapedE h = true) (hr : roomA h.p a > 0) {e : Int} (he : roomA h.p e > 0) (hne : e ≠ a) : wordE (putH h a v) e = wordE h e := by
  rw [putH_word hs hr (room_in he).1, if_neg hne, if_neg]
  intro g
  rcases cells_apart hr he hne with g2 | g2 <;> omega
theorem putH_at {a v : Int} (hs : shapedE h = true) (hr : roomA h.p a > 0) : wordE (putH h a v) a = v := by
  rw [putH_word hs hr (room_in hr).1, if_pos rfl]
theorem MayX.put {a : Int} (hx : MayX h ls a) {v : Int} (h1 : unpOK v = true) (h2 : (unp v).a = true) (h3 : fitsE (pageE h a) (unp v).x = true) : MayF (putH h a v) ls := by
  have hl : ∀ l ∈ h.f :: ls, ∀ k, k < 3 -> ∀ e ∈ l.get k, e ≠ a := fun l hl k hk e he q => hx.no (cat_mem.2 ⟨l, hl, k, hk, q ▸ he⟩)
  have key : ∀ l ∈ h.f :: ls, listedV (putH h a v) l = true := fun l hl' => listed_iff.2 fun k hk e he => by
    have h4 := listed_iff.1 (hx.li l hl') k hk e he
    have h5 := putH_keep (v := v) hx.sh hx.r (listV_facts h4).1 (hl l hl' k hk e he)
    unfold listV at h4 ⊢
    rw [h5]; exact h4
  refine ⟨?_, key, fun e he => ?_, hx.nd⟩
  . have := hx.sh
    unfold shapedE at this ⊢
    rw [putH_len hx.sh hx.r]; exact this
  . have he' : roomA h.p e > 0 := cell_mem.1 he
    by_cases hq : e = a
    . subst hq
      unfold mayV
      rw [putH_at hx.sh hx.r, h1, h2]
      exact h3
    . have := hx.ce e he hq
      unfold mayV at this ⊢
      rw [putH_keep hx.sh hx.r he' hq]; exact this
end
def largeH (h : Hp) (at' : Nat) (n : Int) : Hp := { h with p := (largeE h.p (at' : Int) n).2 }
structure LargeF (h : Hp) (ls : List Ls) (at' : Nat) (n : Int) : Prop where
  m : MayX (largeH h at' n) ls (16 * ((at' : Int) + 1))
  r : roomA (largeH h at' n).p (16 * ((at' : Int) + 1)) = 16 * n
  p : pageE (largeH h at' n) (16 * ((at' : Int) + 1)) = (2, n)
  n0 : 1 <= n
  l : (largeH h at' n).p.length = h.p.length
  old : ∀ e, roomA h.p e > 0 -> e ≠ 16 * ((at' : Int) + 1) /\ roomA (largeH h at' n).p e = roomA h.p e /\ pageE (largeH h at' n) e = pageE h e /\ wordE (largeH h at' n) e = wordE h e
  new : ∀ e, roomA (largeH h at' n).p e > 0 -> e = 16 * ((at' : Int) + 1) \/ roomA h.p e > 0
theorem MayF.large {h : Hp} {ls : List Ls} (hm : MayF h ls) {n : Int} {at' : Nat} (hf : findE h.p n = some at') : LargeF h ls at' n := by
  obtain ⟨n1, n4, hle, hfree, hmx, hlen, hget⟩ := large_put hf
  obtain ⟨q1, _, _⟩ := shaped_ne hm.sh
  have hlen' : (largeH h at' n).p.length = h.p.length := hlen
  have hget' : ∀ j, (largeH h at' n).p[j]? = if j = at' then some (2, n) else if at' < j /\ j < at' + n.toNat then some (3, 0) else h.p[j]? := hget
  have hmx' : may (largeH h at' n).p = true := hmx
  have hout : ∀ e, roomA h.p e > 0 -> ¬(at' <= pgN e /\ pgN e < at' + n.toNat) := fun e he g =>
    free_none (h := h) (at' := pgN e) (hfree _ g.1 g.2) he rfl
  have hsame : ∀ e, ¬(at' <= pgN e /\ pgN e < at' + n.toNat) -> roomA (largeH h at' n).p e = roomA h.p e /\ pageE (largeH h at' n) e = pageE h e /\ wordE (largeH h at' n) e = wordE h e := fun e g =>
    same_at rfl hlen' (by rw [hmx', q1]) (by
      show (largeH h at' n).p[pgN e]? = h.p[pgN e]?
      rw [hget', if_neg (by omega), if_neg (by omega)])
  have hpa : pgN (16 * ((at' : Int) + 1)) = at' := by show (16 * ((at' : Int) + 1) / 16 - 1).toNat = at'; omega
  have hpe : pageE (largeH h at' n) (16 * ((at' : Int) + 1)) = (2, n) := by
    show (largeH h at' n).p.getD (pgN (16 * ((at' : Int) + 1))) (0, 0) = _
    rw [hpa, List.getD_eq_getElem?_getD, hget', if_pos rfl]; rfl
  have hra : roomA (largeH h at' n).p (16 * ((at' : Int) + 1)) = 16 * n := by
    rw [roomA_doc, hmx', decide_eq_true (by omega), decide_eq_true (by rw [hlen']; omega)]
    show cellAt (pageE (largeH h at' n) (16 * ((at' : Int) + 1))) (16 * ((at' : Int) + 1) % 16).toNat = _
    rw [hpe, show (16 * ((at' : Int) + 1) % 16).toNat = 0 by omega]
    rfl
  have hnew : ∀ e, roomA (largeH h at' n).p e > 0 -> e = 16 * ((at' : Int) + 1) \/ roomA h.p e > 0 := fun e he => by
    by_cases g : at' <= pgN e /\ pgN e < at' + n.toNat
    . left
      obtain ⟨_, e1, _, e3, p, e4, _, e6⟩ := cell_facts he
      have e4 : (largeH h at' n).p[pgN e]? = some p := e4
      have e3 : ((pgN e : Nat) : Int) = e / 16 - 1 := e3
      rw [hget'] at e4
      by_cases hq : pgN e = at'
      . rw [if_pos hq] at e4
        cases e4
        rcases e6 with ⟨_, g2, _⟩ | ⟨g2, _⟩
        . omega
        . cases g2
      . rw [if_neg hq, if_pos (by omega)] at e4
        cases e4
        rcases e6 with ⟨g2, _⟩ | ⟨g2, _⟩ <;> cases g2
    . right
      rw [<- (hsame e g).1]; exact he
  have hold : ∀ e, roomA h.p e > 0 -> e ≠ 16 * ((at' : Int) + 1) /\ roomA (largeH h at' n).p e = roomA h.p e /\ pageE (largeH h at' n) e = pageE h e /\ wordE (largeH h at' n) e = wordE h e := fun e he =>
    ⟨fun q => hout e he (by rw [q, hpa]; omega), hsame e (hout e he)⟩
  have hlist : ∀ l ∈ h.f :: ls, listedV (largeH h at' n) l = true := fun l hl => listed_iff.2 fun k hk e he => by
    have h1 := listed_iff.1 (hm.li l hl) k hk e he
    obtain ⟨_, r1, r2, r3⟩ := hold e (listV_facts h1).1
    unfold listV at h1 ⊢
    rw [r1, r2, r3]; exact h1
  refine ⟨⟨?_, hlist, fun e he hne => ?_, hm.nd, by rw [hra]; omega, fun hin => ?_⟩, hra, hpe, n1, hlen', hold, hnew⟩
  . have h1 := hm.sh
    unfold shapedE at h1 ⊢
    rw [hlen', hmx']
    rw [q1] at h1
    exact h1
  . rcases hnew e (cell_mem.1 he) with g | g
    . exact absurd g hne
    . obtain ⟨_, _, r2, r3⟩ := hold e g
      have := hm.ce e (cell_mem.2 g)
      unfold mayV at this ⊢
      rw [r2, r3]; exact this
  . obtain ⟨l, hl, k, hk, he⟩ := cat_mem.1 hin
    exact (hold _ (listV_facts (listed_iff.1 (hm.li l hl) k hk _ he)).1).1 rfl
end Go.Ab

namespace Go.Ab
open Go
open Go.Proofs
def Told (h : Hp) (ls : List Ls) : Prop := ∀ e, roomA h.p e > 0 -> wordE h e = 0 -> e ∈ catI (h.f :: ls)
def Stay (h k : Hp) (e : Int) : Prop := roomA k.p e = roomA h.p e /\ pageE k e = pageE h e /\ ∀ j : Nat, e - 16 <= (j : Int) -> (j : Int) < e - 16 + roomA h.p e -> k.w[j]? = h.w[j]?
theorem Stay.word {h k : Hp} {e : Int} (s : Stay h k e) (he : roomA h.p e > 0) : wordE k e = wordE h e := by
  have := (room_in he).1
  unfold wordE
  rw [List.getD_eq_getElem?_getD, List.getD_eq_getElem?_getD, s.2.2 (e - 16).toNat (by omega) (by omega)]
theorem Stay.trans {h k m : Hp} {e : Int} (s : Stay h k e) (t : Stay k m e) : Stay h m e :=
  ⟨t.1.trans s.1, t.2.1.trans s.2.1, fun j h1 h2 => (t.2.2 j h1 (by rw [s.1]; exact h2)).trans (s.2.2 j h1 h2)⟩
theorem Stay.refl (h : Hp) (e : Int) : Stay h h e := ⟨rfl, rfl, fun _ _ _ => rfl⟩
structure Step0 (h : Hp) (c : Ls) (k : Hp) (d : Ls) : Prop where
  m : ∀ ls, MayF h (c :: ls) -> MayF k (d :: ls)
  wl : k.w.length = h.w.length
  pl : k.p.length = h.p.length
  cl : k.c = h.c
  old : ∀ e, roomA h.p e > 0 -> wordE h e ≠ 0 -> Stay h k e
  new : ∀ e, roomA k.p e > 0 -> wordE k e ≠ 0 -> roomA h.p e > 0 /\ wordE h e = wordE k e
  told : ∀ ls, Told h (c :: ls) -> Told k (d :: ls)
theorem Step0.refl (h : Hp) (c : Ls) : Step0 h c h c := ⟨fun _ m => m, rfl, rfl, rfl, fun e _ _ => .refl h e, fun _ h1 _ => ⟨h1, rfl⟩, fun _ t => t⟩
theorem move_get {f t : Ls} {k : Int} {j : Nat} (hj : j < 3) (k0 : 0 <= k) (k2 : k <= 2) {e : Int} (he : e ∈ f.get j \/ e ∈ t.get j) : e ∈ (moveF f k).get j \/ e ∈ (moveT f t k).get j := by
  have hk : k.toNat < 3 := by omega
  unfold moveF moveT
  rw [get_set hj hk, get_set hj hk]
  by_cases hjk : j = k.toNat
  . rw [if_pos hjk, if_pos hjk]
    rw [hjk] at he
    rcases he with he | he
    . rw [<- List.take_append_drop ((f.get k.toNat).length - 2) (f.get k.toNat)] at he
      rcases List.mem_append.1 he with he | he
      . exact .inl he
      . exact .inr (List.mem_append_right _ (List.mem_reverse.2 he))
    . exact .inr (List.mem_append_left _ he)
  . rw [if_neg hjk, if_neg hjk]; exact he
theorem cat_two {f c : Ls} {ls : List Ls} {e : Int} : e ∈ catI (f :: c :: ls) ↔ (∃ k, k < 3 /\ (e ∈ f.get k \/ e ∈ c.get k)) \/ e ∈ catI ls := by
  rw [catI_cons, catI_cons, List.mem_append, List.mem_append, one3_mem, one3_mem]
  constructor
  . rintro (⟨k, hk, he⟩ | ⟨k, hk, he⟩ | he)
    . exact .inl ⟨k, hk, .inl he⟩
    . exact .inl ⟨k, hk, .inr he⟩
    . exact .inr he
  . rintro (⟨k, hk, he | he⟩ | he)
    . exact .inl ⟨k, hk, he⟩
    . exact .inr (.inl ⟨k, hk, he⟩)
    . exact .inr (.inr he)
theorem Step0.move {h k : Hp} {c d : Ls} (s : Step0 h c k d) {i : Int} (i0 : 0 <= i) (i2 : i <= 2) : Step0 h c { k with f := moveF k.f i } (moveT k.f d i) :=
  ⟨fun ls m => (s.m ls m).move i0 i2, s.wl, s.pl, s.cl, s.old, s.new, fun ls t e h1 h2 => by
    rcases cat_two.1 (s.told ls t e h1 h2) with ⟨j, hj, he⟩ | he
    . exact cat_two.2 (.inl ⟨j, hj, move_get hj i0 i2 he⟩)
    . exact cat_two.2 (.inr he)⟩
theorem page_step {h : Hp} {c : Ls} (hm : MayF h [c]) {at' : Nat} (hf : findE h.p 1 = some at') {i : Int} (i0 : 0 <= i) (i2 : i <= 2) : Step0 h c (pageH h at' i) c := by
  have P := hm.page hf i0 i2
  refine ⟨fun ls m => (m.page hf i0 i2).m, putsW_len _ _, by show (h.p.set at' (1, i)).length = _; simp, rfl, fun e h1 h2 => ?_, fun e h1 h2 => ?_, fun ls t e h1 h2 => ?_⟩
  . obtain ⟨g1, g2, g3, g4⟩ := P.old e h1
    refine ⟨g2, g3, fun j j1 j2 => ?_⟩
    show (putsW h.w (newYs h at' i))[j]? = _
    rw [putsW_get, if_neg]
    rintro ⟨⟨y, hy, hj⟩, _⟩
    obtain ⟨y1, y2⟩ := (P.ys y).1 hy
    have hne : y ≠ e := fun q => g1 (q ▸ y2)
    have hr : roomA (pageH h at' i).p e > 0 := by rw [g2]; exact h1
    have := (room_in y1).1
    rcases cells_apart hr y1 hne with g | g
    . omega
    . rw [g2] at g; omega
  . rcases P.new e h1 with ⟨_, _, g⟩ | ⟨g1, g2⟩
    . exact absurd g h2
    . exact ⟨g2, (P.old e g2).2.2.2.symm⟩
  . have hpush : (pageH h at' i).f = app3 h.f (manyL i (newYs h at' i)) := push_many h.f _ i0 i2
    rcases P.new e h1 with ⟨_, g, _⟩ | ⟨g1, g2⟩
    . refine cat_two.2 (.inl ⟨i.toNat, by omega, .inl ?_⟩)
      rw [hpush, app3_get, manyL_get i0 i2 (by omega), if_pos (by omega)]
      exact List.mem_append_right _ g
    . rw [(P.old e g2).2.2.2] at h2
      rcases cat_two.1 (t e g2 h2) with ⟨j, hj, he⟩ | he
      . refine cat_two.2 (.inl ⟨j, hj, ?_⟩)
        rw [hpush, app3_get]
        rcases he with he | he
        . exact .inl (List.mem_append_left _ he)
        . exact .inr he
      . exact cat_two.2 (.inr he)
structure Ready (h : Hp) (c : Ls) (k : Hp) (d : Ls) (a : Int) : Prop where
  m : ∀ ls, MayF h (c :: ls) -> MayX k (d :: ls) a
  wl : k.w.length = h.w.length
  pl : k.p.length = h.p.length
  cl : k.c = h.c
  old : ∀ e, roomA h.p e > 0 -> wordE h e ≠ 0 -> e ≠ a /\ Stay h k e
  new : ∀ e, roomA k.p e > 0 -> e ≠ a -> wordE k e ≠ 0 -> roomA h.p e > 0 /\ wordE h e = wordE k e
  told : ∀ ls, Told h (c :: ls) -> ∀ e, e ≠ a -> roomA k.p e > 0 -> wordE k e = 0 -> e ∈ catI (k.f :: d :: ls)
theorem pop_in {d : Ls} {i : Int} (i0 : 0 <= i) (i2 : i <= 2) (hne : d.get i.toNat ≠ []) {j : Nat} (hj : j < 3) {e : Int} (he : e ∈ d.get j) (hl : e ≠ lastL d i) : e ∈ (popL d i).get j := by
  unfold popL
  rw [get_set hj (by omega)]
  by_cases hjk : j = i.toNat
  . rw [if_pos hjk]
    rw [hjk, <- List.take_append_drop ((d.get i.toNat).length - 1) (d.get i.toNat), last_drop hne] at he
    rcases List.mem_append.1 he with he | he
    . exact he
    . exact absurd (List.mem_singleton.1 he) hl
  . rw [if_neg hjk]; exact he
theorem Step0.pop {h k : Hp} {c d : Ls} (s : Step0 h c k d) (hm : MayF h [c]) {i : Int} (i0 : 0 <= i) (i2 : i <= 2) (hne : d.get i.toNat ≠ []) :
    Ready h c k (popL d i) (lastL d i) /\ roomA k.p (lastL d i) > 0 /\ pageE k (lastL d i) = (1, i) := by
  obtain ⟨_, hv, _⟩ := (s.m [] hm).pop i0 i2 hne
  obtain ⟨v1, v2, v3⟩ := listV_facts hv
  refine ⟨⟨fun ls m => ((s.m ls m).pop i0 i2 hne).1, s.wl, s.pl, s.cl, fun e h1 h2 => ⟨fun q => ?_, s.old e h1 h2⟩, fun e h1 _ h2 => s.new e h1 h2, fun ls t e hq h1 h2 => ?_⟩, v1, v2⟩
  . have := (s.old e h1 h2).word h1
    rw [q, v3] at this
    exact h2 (q ▸ this.symm)
  . rcases cat_two.1 (s.told ls t e h1 h2) with ⟨j, hj, he | he⟩ | he
    . exact cat_two.2 (.inl ⟨j, hj, .inl he⟩)
    . exact cat_two.2 (.inl ⟨j, hj, .inr (pop_in i0 i2 hne hj he hq)⟩)
    . exact cat_two.2 (.inr he)
theorem large_ready {h : Hp} {c : Ls} (hm : MayF h [c]) {n : Int} {at' : Nat} (hf : findE h.p n = some at') : Ready h c (largeH h at' n) c (16 * ((at' : Int) + 1)) := by
  have L := hm.large hf
  refine ⟨fun ls m => (m.large hf).m, rfl, L.l, rfl, fun e h1 h2 => ?_, fun e h1 hne h2 => ?_, fun ls t e hne h1 h2 => ?_⟩
  . obtain ⟨g1, g2, g3, _⟩ := L.old e h1
    exact ⟨g1, g2, g3, fun _ _ _ => rfl⟩
  . rcases L.new e h1 with g | g
    . exact absurd g hne
    . exact ⟨g, (L.old e g).2.2.2.symm⟩
  . rcases L.new e h1 with g | g
    . exact absurd g hne
    . rw [(L.old e g).2.2.2] at h2
      exact t e g h2
structure Took (h : Hp) (c : Ls) (x : Hd) (k : Hp) (d : Ls) (a : Int) : Prop where
  m : ∀ ls, MayF h (c :: ls) -> MayF k (d :: ls)
  wl : k.w.length = h.w.length
  pl : k.p.length = h.p.length
  cl : k.c = h.c
  r : roomA k.p a > 0
  fit : fitsE (pageE k a) x.x = true
  w : wordE k a = packH x
  z : ∀ j : Nat, a - 16 < (j : Int) -> (j : Int) < a - 16 + roomA k.p a -> k.w[j]? = some 0
  old : ∀ e, roomA h.p e > 0 -> wordE h e ≠ 0 -> e ≠ a /\ Stay h k e
  new : ∀ e, roomA k.p e > 0 -> e ≠ a -> wordE k e ≠ 0 -> roomA h.p e > 0 /\ wordE h e = wordE k e
  told : ∀ ls, Told h (c :: ls) -> Told k (d :: ls)
theorem Ready.took {h k : Hp} {c d : Ls} {a : Int} (s : Ready h c k d a) (hm : MayF h [c]) {x : Hd} (h1 : mayH x = true) (h2 : x.a = true) (h3 : fitsE (pageE k a) x.x = true) : Took h c x (putH k a (packH x)) d a := by
  have X := s.m [] hm
  refine ⟨fun ls m => (s.m ls m).put (unpOK_pack h1 h2) (by rw [unp_pack h1 h2]; exact h2) (by rw [unp_pack h1 h2]; exact h3), ?_, s.pl, s.cl, X.r, h3, putH_at X.sh X.r, fun j j1 j2 => ?_, fun e g1 g2 => ?_, fun e g1 g2 g3 => ?_, fun ls t e g1 g2 => ?_⟩
  . rw [putH_len X.sh X.r]; exact s.wl
  . have j2 : (j : Int) < a - 16 + roomA k.p a := j2
    rw [putH_get X.sh X.r, if_neg (by omega), if_pos ⟨by omega, j2⟩]
  . obtain ⟨g3, g4⟩ := s.old e g1 g2
    refine ⟨g3, g4.trans ⟨rfl, rfl, fun j j1 j2 => ?_⟩⟩
    have he : roomA k.p e > 0 := by rw [g4.1]; exact g1
    have := (room_in he).1
    rw [putH_get X.sh X.r, if_neg, if_neg]
    . rcases cells_apart X.r he g3 with q | q
      . rcases cells_apart he X.r g3.symm with q2 | q2 <;> omega
      . omega
    . have := X.r
      rcases cells_apart X.r he g3 with q | q
      . rcases cells_apart he X.r g3.symm with q2 | q2 <;> omega
      . omega
  . have g1 : roomA k.p e > 0 := g1
    rw [putH_keep X.sh X.r g1 g2] at g3
    rw [putH_keep X.sh X.r g1 g2]
    exact s.new e g1 g2 g3
  . have g1 : roomA k.p e > 0 := g1
    by_cases q : e = a
    . rw [q, putH_at X.sh X.r] at g2
      exfalso
      have := unp_pack h1 h2
      rw [g2] at this
      rw [<- this] at h2
      cases h2
    . rw [putH_keep X.sh X.r g1 q] at g2
      exact s.told ls t e q g1 g2
theorem Took.obj {h k : Hp} {c d : Ls} {x : Hd} {a : Int} (t : Took h c x k d a) (h1 : mayH x = true) (h2 : x.a = true) : Obj k a /\ unpX k a = x := by
  have : unpX k a = x := by
    unfold unpX
    rw [t.w, unpOK_pack h1 h2, unp_pack h1 h2]; rfl
  exact ⟨⟨t.r, by rw [this]; exact h2⟩, this⟩
theorem Took.used {h k : Hp} {c d : Ls} {x : Hd} {a : Int} (t : Took h c x k d a) (h1 : mayH x = true) (h2 : x.a = true) (e : Int) : (roomA k.p e > 0 /\ wordE k e ≠ 0) ↔ ((roomA h.p e > 0 /\ wordE h e ≠ 0) \/ e = a) := by
  constructor
  . rintro ⟨g1, g2⟩
    by_cases q : e = a
    . exact .inr q
    . obtain ⟨g3, g4⟩ := t.new e g1 q g2
      exact .inl ⟨g3, by rw [g4]; exact g2⟩
  . rintro (⟨g1, g2⟩ | rfl)
    . obtain ⟨_, g3⟩ := t.old e g1 g2
      exact ⟨by rw [g3.1]; exact g1, by rw [g3.word g1]; exact g2⟩
    . exact ⟨t.r, (t.obj h1 h2).1.w⟩
end Go.Ab

namespace Go.Ab
open Go
open Go.Proofs
def lenL (l : Ls) (n : Nat) : Prop := ∀ k, k < 3 -> (l.get k).length <= n
theorem lenL.smL {l : Ls} {n : Nat} (hl : lenL l n) (hn : n <= 100000) : smL l = true :=
  smL_len (Nat.le_trans (hl 0 (by omega)) hn) (Nat.le_trans (hl 1 (by omega)) hn) (Nat.le_trans (hl 2 (by omega)) hn)
theorem lenL.mono {l : Ls} {n m : Nat} (hl : lenL l n) (h : n <= m) : lenL l m := fun k hk => Nat.le_trans (hl k hk) h
theorem lenL.set {l : Ls} {n m : Nat} (hl : lenL l n) {x : List Int} {i : Nat} (hi : i < 3) (hx : x.length <= m) (hn : n <= m) : lenL (l.set x i) m := fun k hk => by
  rw [get_set hk hi]
  by_cases h : k = i
  . rw [if_pos h]; exact hx
  . rw [if_neg h]; exact Nat.le_trans (hl k hk) hn
theorem newYs_len {h : Hp} (hl : h.p.length <= 200) (at' : Nat) (i : Int) : (newYs h at' i).length <= 8192 := by
  unfold newYs
  rw [List.length_reverse, <- onL_filter]
  refine Nat.le_trans (List.length_filter_le _ _) ?_
  exact Nat.le_of_ble_eq_true (all_len8 (Nat.ble_eq_true_of_le (by simpa using hl)))
theorem pg_some {h : Hp} {c : Ls} {at' : Nat} (hf : findE h.p 1 = some at') {i : Int} (i0 : 0 <= i) (i2 : i <= 2) :
    pgE ⟨h, c⟩ = 0 /\ pgFr ⟨h, c⟩ i = ⟨pageH h at' i, c⟩ /\ pgPs ⟨h, c⟩ i = h.p.set at' (1, i) /\ pgYs ⟨h, c⟩ i = newYs h at' i := by
  have a0 : pgAt ⟨h, c⟩ = (at' : Int) := by unfold pgAt; show (((findE h.p 1).getD 0 : Nat) : Int) = _; rw [hf]; rfl
  have a1 : pgPs ⟨h, c⟩ i = h.p.set at' (1, i) := by unfold pgPs; rw [a0]; exact (small_put hf i0 i2).2.2.1
  have a2 : pgYs ⟨h, c⟩ i = newYs h at' i := by unfold pgYs; rw [a1, a0, segR_all]; rfl
  refine ⟨?_, ?_, a1, a2⟩
  . unfold pgE; show (bif (findE h.p 1).isSome then 0 else 4) = (0 : Int); rw [hf]; rfl
  . unfold pgFr
    show (bif (findE h.p 1).isSome then _ else _) = _
    rw [hf, a1, a2]; rfl
theorem move_len {f t : Ls} {n m : Nat} (hf : lenL f n) (ht : lenL t m) {i : Int} (i0 : 0 <= i) (i2 : i <= 2) : lenL (moveF f i) n /\ lenL (moveT f t i) (m + 2) := by
  refine ⟨hf.set (by omega) ?_ (Nat.le_refl n), ht.set (by omega) ?_ (by omega)⟩
  . have := hf i.toNat (by omega)
    rw [List.length_take]; omega
  . have := ht i.toNat (by omega)
    rw [List.length_append, List.length_reverse, List.length_drop]; omega
theorem pop_len {t : Ls} {m : Nat} (ht : lenL t m) {i : Int} (i0 : 0 <= i) (i2 : i <= 2) : lenL (popL t i) m := by
  refine ht.set (by omega) ?_ (Nat.le_refl m)
  have := ht i.toNat (by omega)
  rw [List.length_take]; omega
theorem move_ne {f t : Ls} {i : Int} (i0 : 0 <= i) (i2 : i <= 2) (hn : f.get i.toNat ≠ []) : (moveT f t i).get i.toNat ≠ [] := by
  unfold moveT
  rw [get_set (by omega) (by omega), if_pos rfl]
  intro q
  have := congrArg List.length q
  have h1 := List.length_pos_iff.2 hn
  rw [List.length_append, List.length_reverse, List.length_drop, List.length_nil] at this
  omega
theorem pop_one {f t : Ls} {i : Int} (i0 : 0 <= i) (i2 : i <= 2) (hn : t.get i.toNat = []) : ((popL (moveT f t i) i).get i.toNat).length <= 1 := by
  unfold popL moveT
  rw [get_set (by omega) (by omega), if_pos rfl, get_set (by omega) (by omega), if_pos rfl, hn, List.length_take, List.nil_append, List.length_reverse, List.length_drop]
  omega
theorem isE {l : List Int} (h : l.isEmpty = true) : l = [] := List.isEmpty_iff.1 h
theorem isNE {l : List Int} (h : l.isEmpty = false) : l ≠ [] := fun q => by rw [q] at h; cases h
inductive Small (h : Hp) (c : Ls) (i : Int) : Prop where
  | full (e : smE ⟨h, c⟩ i = (0, 4)) (e1 : c.get i.toNat = []) (e2 : h.f.get i.toNat = []) (e3 : findE h.p 1 = none)
  | some (e : (smE ⟨h, c⟩ i).2 = 0) (r : Ready h c (smFr ⟨h, c⟩ i).h (smFr ⟨h, c⟩ i).c (smE ⟨h, c⟩ i).1) (p : pageE (smFr ⟨h, c⟩ i).h (smE ⟨h, c⟩ i).1 = (1, i))
      (ne : (findE h.p 1).isSome = true \/ h.f.get i.toNat ≠ [] \/ c.get i.toNat ≠ [])
      (l : (c.get i.toNat = [] /\ ((smFr ⟨h, c⟩ i).c.get i.toNat).length <= 1) \/ (c.get i.toNat ≠ [] /\ (smFr ⟨h, c⟩ i).c = popL c i /\ (smE ⟨h, c⟩ i).1 = lastL c i /\ (smFr ⟨h, c⟩ i).h.f = h.f))
      (n : ∀ n m, lenL h.f n -> lenL c m -> lenL (smFr ⟨h, c⟩ i).h.f (n + 8192) /\ lenL (smFr ⟨h, c⟩ i).c (m + 2))
theorem isC_of {i : Int} (i0 : 0 <= i) (i2 : i <= 2) : isC i = true := by
  have : i = 0 \/ i = 1 \/ i = 2 := by omega
  rcases this with rfl | rfl | rfl <;> rfl
theorem sm_take {h : Hp} {c : Ls} (hm : MayF h [c]) (hf : lenL h.f 90000) (hc : lenL c 90000) {i : Int} (i0 : 0 <= i) (i2 : i <= 2) : smPre ⟨h, c⟩ i = true /\ Small h c i := by
  obtain ⟨q1, _, _⟩ := shaped_ne hm.sh
  obtain ⟨_, l64⟩ := may_len q1
  have hsc : Go.Ab.smL c = true := hc.smL (by omega)
  have hsf : Go.Ab.smL h.f = true := hf.smL (by omega)
  have okMP_of : ∀ (f : Ls), lenL f 99000 -> f.get i.toNat ≠ [] -> ∀ g : Hp, g.f = f -> okMP ⟨g, c⟩ i = true := fun f h1 h2 g hg => by
    obtain ⟨m1, m2⟩ := move_len h1 hc i0 i2
    unfold okMP
    show (Go.Ab.smL g.f && (Go.Ab.smL c && (Go.Ab.smL (moveT g.f c i) && !((moveT g.f c i).get i.toNat).isEmpty))) = true
    rw [hg, h1.smL (by omega), hsc, m2.smL (by omega)]
    cases hq : ((moveT f c i).get i.toNat).isEmpty with
    | false => rfl
    | true => exact absurd (isE hq) (move_ne i0 i2 h2)
  have hpre : smPre ⟨h, c⟩ i = (isC i && (Go.Ab.smL c && bif !(c.get i.toNat).isEmpty then true else bif !(h.f.get i.toNat).isEmpty then okMP ⟨h, c⟩ i else pgPre ⟨h, c⟩ i && bif pgE ⟨h, c⟩ != 0 then true else okMP (pgFr ⟨h, c⟩ i) i)) := rfl
  have hE : smE ⟨h, c⟩ i = bif !(c.get i.toNat).isEmpty then (lastL c i, 0) else bif !(h.f.get i.toNat).isEmpty then (lastL (moveT h.f c i) i, 0) else bif pgE ⟨h, c⟩ != 0 then (0, pgE ⟨h, c⟩) else (lastL (smMove (pgFr ⟨h, c⟩ i) i).c i, 0) := rfl
  have hF : smFr ⟨h, c⟩ i = bif !(c.get i.toNat).isEmpty then ⟨h, popL c i⟩ else bif !(h.f.get i.toNat).isEmpty then ⟨{ h with f := moveF h.f i }, popL (moveT h.f c i) i⟩ else bif pgE ⟨h, c⟩ != 0 then pgFr ⟨h, c⟩ i else smPop (smMove (pgFr ⟨h, c⟩ i) i) i := rfl
  rw [hpre, isC_of i0 i2, hsc, Bool.true_and, Bool.true_and]
  cases e1 : (c.get i.toNat).isEmpty with
  | false =>
    rw [e1] at hE hF
    simp only [Bool.not_false, cond_true] at hE hF ⊢
    obtain ⟨R, _, hp⟩ := (Step0.refl h c).pop hm i0 i2 (isNE e1)
    refine ⟨trivial, .some (by rw [hE]) (by rw [hE, hF]; exact R) (by rw [hE, hF]; exact hp) (.inr (.inr (isNE e1))) (.inr ⟨isNE e1, by rw [hF], by rw [hE], by rw [hF]⟩) fun n m h1 h2 => ?_⟩
    rw [hF]
    exact ⟨h1.mono (by omega), (pop_len h2 i0 i2).mono (by omega)⟩
  | true =>
    rw [e1] at hE hF
    simp only [Bool.not_true, cond_false] at hE hF ⊢
    cases e2 : (h.f.get i.toNat).isEmpty with
    | false =>
      rw [e2] at hE hF
      simp only [Bool.not_false, cond_true] at hE hF ⊢
      obtain ⟨R, _, hp⟩ := ((Step0.refl h c).move i0 i2).pop hm i0 i2 (move_ne i0 i2 (isNE e2))
      refine ⟨okMP_of h.f (hf.mono (by omega)) (isNE e2) h rfl, .some (by rw [hE]) (by rw [hE, hF]; exact R) (by rw [hE, hF]; exact hp) (.inr (.inl (isNE e2))) (.inl ⟨isE e1, by rw [hF]; exact pop_one i0 i2 (isE e1)⟩) fun n m h1 h2 => ?_⟩
      rw [hF]
      obtain ⟨m1, m2⟩ := move_len h1 h2 i0 i2
      exact ⟨m1.mono (by omega), pop_len m2 i0 i2⟩
    | true =>
      rw [e2] at hE hF
      simp only [Bool.not_true, cond_false] at hE hF ⊢
      cases e3 : findE h.p 1 with
      | none =>
        have p1 : pgE ⟨h, c⟩ = 4 := by unfold pgE; show (bif (findE h.p 1).isSome then 0 else 4) = (4 : Int); rw [e3]; rfl
        have p2 : pgPre ⟨h, c⟩ i = true := by
          unfold pgPre
          show (Go.Ab.sm h.p && bif (findE h.p 1).isSome then _ else true) = true
          rw [e3, Go.Ab.sm_of (by omega)]; rfl
        rw [p1] at hE ⊢
        rw [p2]
        exact ⟨rfl, .full hE (isE e1) (isE e2) e3⟩
      | some at' =>
        obtain ⟨g1, g2, g3, g4⟩ := pg_some (c := c) e3 i0 i2
        have P := hm.page e3 i0 i2
        have S := page_step hm e3 i0 i2
        have hyl := newYs_len (h := h) (by omega) at' i
        have hpf : ∀ n, lenL h.f n -> lenL (pageH h at' i).f (n + 8192) := fun n hn k hk => by
          rw [show (pageH h at' i).f = app3 h.f (manyL i (newYs h at' i)) from push_many h.f _ i0 i2, app3_get, List.length_append, manyL_get i0 i2 hk]
          have := hn k hk
          by_cases q : (k : Int) = i
          . rw [if_pos q]; omega
          . rw [if_neg q]; show _ + 0 <= _; omega
        have hne : (pageH h at' i).f.get i.toNat ≠ [] := by
          rw [show (pageH h at' i).f = app3 h.f (manyL i (newYs h at' i)) from push_many h.f _ i0 i2, app3_get, manyL_get i0 i2 (by omega), if_pos (by omega)]
          intro q
          exact P.ne (List.append_eq_nil_iff.1 q).2
        rw [g1, g2] at hE hF
        have hE : smE ⟨h, c⟩ i = (lastL (moveT (pageH h at' i).f c i) i, 0) := hE
        have hF : smFr ⟨h, c⟩ i = ⟨{ pageH h at' i with f := moveF (pageH h at' i).f i }, popL (moveT (pageH h at' i).f c i) i⟩ := hF
        have hpre2 : pgPre ⟨h, c⟩ i = true := by
          unfold pgPre
          show (Go.Ab.sm h.p && bif (findE h.p 1).isSome then (Nat.ble (pgPs ⟨h, c⟩ i).length 200 && (Nat.ble (pgYs ⟨h, c⟩ i).length 100000 && (mayA h.w.length && ((pgYs ⟨h, c⟩ i).all (inA h.w) && (Go.Ab.smL h.f && isC i))))) else true) = true
          have hma : mayA h.w.length = true := by
            have := hm.sh
            simp only [shapedE, Bool.and_eq_true] at this
            exact this.1
          have hin : (newYs h at' i).all (inA h.w) = true := List.all_eq_true.2 fun y hy => by
            obtain ⟨y1, _⟩ := (P.ys y).1 hy
            obtain ⟨r1, r2⟩ := room_in y1
            have hpl : (pageH h at' i).p.length = h.p.length := S.pl
            have := shaped_w hm.sh
            unfold inA
            rw [decide_eq_true r1, decide_eq_true (by rw [hpl] at r2; omega)]; rfl
          rw [e3, g3, g4, Go.Ab.sm_of (by omega), List.length_set, Nat.ble_eq_true_of_le (show h.p.length <= 200 by omega), Nat.ble_eq_true_of_le (show (newYs h at' i).length <= 100000 by omega), hma, hin, hsf, isC_of i0 i2]; rfl
        obtain ⟨R, _, hp⟩ := (S.move i0 i2).pop hm i0 i2 (move_ne i0 i2 hne)
        refine ⟨?_, .some (by rw [hE]) (by rw [hE, hF]; exact R) (by rw [hE, hF]; exact hp) (.inl (by rw [e3]; rfl)) (.inl ⟨isE e1, by rw [hF]; exact pop_one i0 i2 (isE e1)⟩) fun n m h1 h2 => ?_⟩
        . rw [hpre2, g1, g2]
          exact okMP_of (pageH h at' i).f ((hpf 90000 hf).mono (by omega)) hne (pageH h at' i) rfl
        . rw [hF]
          obtain ⟨m1, m2⟩ := move_len (hpf n h1) h2 i0 i2
          exact ⟨m1, pop_len m2 i0 i2⟩
inductive Large (h : Hp) (c : Ls) (x : Int) : Prop where
  | full (e : lgE ⟨h, c⟩ x = (0, 4)) (e3 : findE h.p (runE x).1 = none)
  | some (e : (lgE ⟨h, c⟩ x).2 = 0) (r : Ready h c (lgFr ⟨h, c⟩ x).h c (lgE ⟨h, c⟩ x).1) (p : pageE (lgFr ⟨h, c⟩ x).h (lgE ⟨h, c⟩ x).1 = (2, (runE x).1)) (o : roomA (lgFr ⟨h, c⟩ x).h.p (lgE ⟨h, c⟩ x).1 = 16 * (runE x).1)
      (ne : (findE h.p (runE x).1).isSome = true) (lc : (lgFr ⟨h, c⟩ x).c = c) (lf : (lgFr ⟨h, c⟩ x).h.f = h.f)
theorem lg_take {h : Hp} {c : Ls} (hm : MayF h [c]) (x : Int) : lgPre ⟨h, c⟩ x = true /\ Large h c x := by
  obtain ⟨q1, _, _⟩ := shaped_ne hm.sh
  obtain ⟨_, l64⟩ := may_len q1
  have hma : mayA h.w.length = true := by
    have := hm.sh
    simp only [shapedE, Bool.and_eq_true] at this
    exact this.1
  have hpre : lgPre ⟨h, c⟩ x = (Go.Ab.sm h.p && bif (findE h.p (runE x).1).isSome then (mayA h.w.length && decide (16 * lgAt ⟨h, c⟩ x < (h.w.length : Int))) else true) := rfl
  have hE : lgE ⟨h, c⟩ x = bif (findE h.p (runE x).1).isSome then (16 * (lgAt ⟨h, c⟩ x + 1), 0) else (0, 4) := rfl
  have hF : lgFr ⟨h, c⟩ x = bif (findE h.p (runE x).1).isSome then ⟨⟨h.w, (largeE h.p (lgAt ⟨h, c⟩ x) (runE x).1).2, h.f, h.c⟩, c⟩ else ⟨h, c⟩ := rfl
  rw [hpre, Go.Ab.sm_of (by omega), Bool.true_and]
  cases e3 : findE h.p (runE x).1 with
  | none =>
    rw [e3] at hE
    exact ⟨rfl, .full hE e3⟩
  | some at' =>
    have ha : lgAt ⟨h, c⟩ x = (at' : Int) := by unfold lgAt; show (((findE h.p (runE x).1).getD 0 : Nat) : Int) = _; rw [e3]; rfl
    rw [e3, ha] at hE hF
    have hE : lgE ⟨h, c⟩ x = (16 * ((at' : Int) + 1), 0) := hE
    have hF : lgFr ⟨h, c⟩ x = ⟨largeH h at' (runE x).1, c⟩ := hF
    obtain ⟨n1, n4, hle, _⟩ := large_put e3
    have L := hm.large e3
    have := shaped_w hm.sh
    refine ⟨?_, .some (by rw [hE]) (by rw [hE, hF]; exact large_ready hm e3) (by rw [hE, hF]; exact L.p) (by rw [hE, hF]; exact L.r) (by rw [e3]; rfl) (by rw [hF]) (by rw [hF]; rfl)⟩
    rw [ha, hma, decide_eq_true (by omega)]; rfl
end Go.Ab

namespace Go.Ab
open Go
open Go.Proofs
def hZ : Hp := ⟨[], [], ⟨[], [], []⟩, []⟩
def badT (e : Int) : Hp × Ls × Int × Int := (hZ, Ls.e, 0, e)
def takeS (s : Fr) (r : Int × Int) (x : Hd) : Hp × Ls × Int × Int := bif r.2 != 0 then badT r.2 else (putH s.h r.1 (packH x), s.c, r.1, 0)
def takeE (h : Hp) (c : Ls) (x : Hd) : Hp × Ls × Int × Int := bif (packE x).2 != 0 then badT 1 else bif !x.a then badT 1 else bif !mayHpV h [c] then badT 1 else bif (ofE x.x).2 != 0 then badT (ofE x.x).2 else
  bif (ofE x.x).1 == 3 then takeS (lgFr ⟨h, c⟩ x.x) (lgE ⟨h, c⟩ x.x) x else takeS (smFr ⟨h, c⟩ (ofE x.x).1) (smE ⟨h, c⟩ (ofE x.x).1) x
theorem of_small {n : Int} (h0 : ((ofE n).2 != 0) = false) (h3 : ((ofE n).1 == 3) = false) : 0 <= (ofE n).1 /\ (ofE n).1 <= 2 := by
  revert h0 h3
  unfold ofE
  cases decide (n < 1) with
  | true => intro h; cases h
  | false =>
    cases decide (n > 63) with
    | true => intro h; cases h
    | false =>
      cases decide (n > 7) with
      | true => intro _ h; cases h
      | false =>
        cases decide (n > 3) with
        | true => intro _ _; exact ⟨(by decide : (0 : Int) <= 2), (by decide : (2 : Int) <= 2)⟩
        | false =>
          cases decide (n > 1) with
          | true => intro _ _; exact ⟨(by decide : (0 : Int) <= 1), (by decide : (1 : Int) <= 2)⟩
          | false => intro _ _; exact ⟨(by decide : (0 : Int) <= 0), (by decide : (0 : Int) <= 2)⟩
theorem nE {x : Int} (h : (x != 0) = false) : x = 0 := by simpa using h
theorem run_val {n : Int} (h0 : ((ofE n).2 != 0) = false) (h3 : ((ofE n).1 == 3) = true) : (runE n).2 = 0 := by
  unfold runE
  rw [h0]
  rw [beq_iff_eq] at h3
  rw [h3]; rfl
theorem pack_ok {x : Hd} (h : ((packE x).2 != 0) = false) : mayH x = true /\ (packE x).1 = packH x := by
  unfold packE at h ⊢
  cases hm : mayH x with
  | false => rw [hm] at h; cases h
  | true => exact ⟨rfl, rfl⟩
inductive Take (h : Hp) (c : Ls) (x : Hd) : Prop where
  | arg (e : takeE h c x = badT 1) (no : mayH x = true -> x.a = true -> MayF h [c] -> False)
  | of (m : MayF h [c]) (x1 : mayH x = true) (x2 : x.a = true) (o : (ofE x.x).2 ≠ 0) (e : takeE h c x = badT (ofE x.x).2)
  | fullS (m : MayF h [c]) (x1 : mayH x = true) (x2 : x.a = true) (o : ((ofE x.x).2 != 0) = false) (o3 : ((ofE x.x).1 == 3) = false) (e : takeE h c x = badT 4) (e1 : c.get (ofE x.x).1.toNat = []) (e2 : h.f.get (ofE x.x).1.toNat = []) (e3 : findE h.p 1 = none)
  | fullL (m : MayF h [c]) (x1 : mayH x = true) (x2 : x.a = true) (o : ((ofE x.x).2 != 0) = false) (o3 : ((ofE x.x).1 == 3) = true) (e : takeE h c x = badT 4) (e3 : findE h.p (runE x.x).1 = none)
  | small (m : MayF h [c]) (x1 : mayH x = true) (x2 : x.a = true) (o : ((ofE x.x).2 != 0) = false) (o3 : ((ofE x.x).1 == 3) = false) (k : Hp) (d : Ls) (a : Int) (e : takeE h c x = (k, d, a, 0)) (t : Took h c x k d a) (r : roomA k.p a = wordsOf (ofE x.x).1)
      (ne : (findE h.p 1).isSome = true \/ h.f.get (ofE x.x).1.toNat ≠ [] \/ c.get (ofE x.x).1.toNat ≠ [])
      (l : (c.get (ofE x.x).1.toNat = [] /\ (d.get (ofE x.x).1.toNat).length <= 1) \/ (c.get (ofE x.x).1.toNat ≠ [] /\ d = popL c (ofE x.x).1 /\ a = lastL c (ofE x.x).1 /\ k.f = h.f))
      (n : ∀ n m, lenL h.f n -> lenL c m -> lenL k.f (n + 8192) /\ lenL d (m + 2))
  | large (m : MayF h [c]) (x1 : mayH x = true) (x2 : x.a = true) (o : ((ofE x.x).2 != 0) = false) (o3 : ((ofE x.x).1 == 3) = true) (k : Hp) (a : Int) (e : takeE h c x = (k, c, a, 0)) (t : Took h c x k c a) (r : roomA k.p a = 16 * (runE x.x).1)
      (ne : (findE h.p (runE x.x).1).isSome = true) (l : k.f = h.f)
theorem take_arg1 {h : Hp} {c : Ls} {x : Hd} (h1 : ((packE x).2 != 0) = true) : takeE h c x = badT 1 := by unfold takeE; rw [h1]; rfl
theorem take_arg2 {h : Hp} {c : Ls} {x : Hd} (h1 : ((packE x).2 != 0) = false) (h2 : (!x.a) = true) : takeE h c x = badT 1 := by unfold takeE; rw [h1, h2]; rfl
theorem take_arg3 {h : Hp} {c : Ls} {x : Hd} (h1 : ((packE x).2 != 0) = false) (h2 : (!x.a) = false) (h3 : (!mayHpV h [c]) = true) : takeE h c x = badT 1 := by unfold takeE; rw [h1, h2, h3]; rfl
theorem take_of {h : Hp} {c : Ls} {x : Hd} (h1 : ((packE x).2 != 0) = false) (h2 : (!x.a) = false) (h3 : (!mayHpV h [c]) = false) (h4 : ((ofE x.x).2 != 0) = true) : takeE h c x = badT (ofE x.x).2 := by unfold takeE; rw [h1, h2, h3, h4]; rfl
theorem take_lg {h : Hp} {c : Ls} {x : Hd} (h1 : ((packE x).2 != 0) = false) (h2 : (!x.a) = false) (h3 : (!mayHpV h [c]) = false) (h4 : ((ofE x.x).2 != 0) = false) (h5 : ((ofE x.x).1 == 3) = true) : takeE h c x = takeS (lgFr ⟨h, c⟩ x.x) (lgE ⟨h, c⟩ x.x) x := by unfold takeE; rw [h1, h2, h3, h4, h5]; rfl
theorem take_sm {h : Hp} {c : Ls} {x : Hd} (h1 : ((packE x).2 != 0) = false) (h2 : (!x.a) = false) (h3 : (!mayHpV h [c]) = false) (h4 : ((ofE x.x).2 != 0) = false) (h5 : ((ofE x.x).1 == 3) = false) : takeE h c x = takeS (smFr ⟨h, c⟩ (ofE x.x).1) (smE ⟨h, c⟩ (ofE x.x).1) x := by unfold takeE; rw [h1, h2, h3, h4, h5]; rfl
theorem take_fin {h : Hp} {c : Ls} (x : Hd) (hf : lenL h.f 90000) (hc : lenL c 90000) : Take h c x := by
  cases h1 : (packE x).2 != 0 with
  | true => exact .arg (take_arg1 h1) fun q _ _ => by unfold packE at h1; rw [q] at h1; cases h1
  | false =>
    obtain ⟨x1, _⟩ := pack_ok h1
    cases h2 : !x.a with
    | true => exact .arg (take_arg2 h1 h2) fun _ q _ => by rw [q] at h2; cases h2
    | false =>
      have x2 : x.a = true := by simpa using h2
      cases h3 : !mayHpV h [c] with
      | true => exact .arg (take_arg3 h1 h2 h3) fun _ _ q => by rw [mayF_iff.2 q] at h3; cases h3
      | false =>
        have hm : MayF h [c] := mayF_iff.1 (by simpa using h3)
        cases h4 : (ofE x.x).2 != 0 with
        | true => exact .of hm x1 x2 (by simpa using h4) (take_of h1 h2 h3 h4)
        | false =>
          cases h5 : (ofE x.x).1 == 3 with
          | true =>
            have e0 := take_lg h1 h2 h3 h4 h5
            rcases (lg_take hm x.x).2 with ⟨e, e3⟩ | ⟨e, r, p, o, ne, lc, lf⟩
            . rw [e] at e0
              exact .fullL hm x1 x2 h4 h5 e0 e3
            . have e1 : takeE h c x = (putH (lgFr ⟨h, c⟩ x.x).h (lgE ⟨h, c⟩ x.x).1 (packH x), c, (lgE ⟨h, c⟩ x.x).1, 0) := by
                rw [e0]; unfold takeS; rw [e, lc]; rfl
              refine .large hm x1 x2 h4 h5 _ _ e1 (r.took hm x1 x2 ?_) o ne lf
              rw [p]
              show ((runE x.x).2 == 0 && (runE x.x).1 == (runE x.x).1) = true
              rw [run_val h4 h5]; simp
          | false =>
            have e0 := take_sm h1 h2 h3 h4 h5
            obtain ⟨i0, i2⟩ := of_small h4 h5
            rcases (sm_take hm hf hc i0 i2).2 with ⟨e, e1, e2, e3⟩ | ⟨e, r, p, ne, l, n⟩
            . rw [e] at e0
              exact .fullS hm x1 x2 h4 h5 e0 e1 e2 e3
            . have e1 : takeE h c x = (putH (smFr ⟨h, c⟩ (ofE x.x).1).h (smE ⟨h, c⟩ (ofE x.x).1).1 (packH x), (smFr ⟨h, c⟩ (ofE x.x).1).c, (smE ⟨h, c⟩ (ofE x.x).1).1, 0) := by
                rw [e0]; unfold takeS; rw [e]; rfl
              refine .small hm x1 x2 h4 h5 _ _ _ e1 (r.took hm x1 x2 ?_) ?_ ne l n
              . rw [p]
                show ((ofE x.x).2 == 0 && (ofE x.x).1 == (ofE x.x).1) = true
                rw [nE h4]; simp
              . have hr := (r.m [] hm).r
                obtain ⟨_, _, _, _, q, _, q5, q6⟩ := cell_facts hr
                have q5 : pageE (smFr ⟨h, c⟩ (ofE x.x).1).h (smE ⟨h, c⟩ (ofE x.x).1).1 = q := q5
                rw [p] at q5
                subst q5
                rcases q6 with ⟨g, _⟩ | ⟨_, _, _, _, g⟩
                . cases g
                . exact g
end Go.Ab

namespace Go.Ab
open Go
open Go.Proofs
def hdN (n : Int) : Hd := ⟨true, false, false, n, 0, 0⟩
theorem of_in {n : Int} (h : ((ofE n).2 != 0) = false) : 1 <= n /\ n <= 63 := by
  revert h
  unfold ofE
  cases h1 : decide (n < 1) with
  | true => intro h; cases h
  | false =>
    cases h2 : decide (n > 63) with
    | true => intro h; cases h
    | false =>
      intro _
      have := of_decide_eq_false h1
      have := of_decide_eq_false h2
      omega
theorem of_val {n : Int} (h0 : 1 <= n) (h1 : n <= 63) : ofE n = (if n > 7 then 3 else if n > 3 then 2 else if n > 1 then 1 else 0, 0) := by
  unfold ofE
  rw [decide_eq_false (by omega), decide_eq_false (by omega)]
  show ((bif decide (n > 7) then 3 else bif decide (n > 3) then 2 else bif decide (n > 1) then 1 else 0 : Int), (0 : Int)) = _
  by_cases a : n > 7
  . rw [decide_eq_true a, if_pos a]; rfl
  . rw [decide_eq_false a, if_neg a]
    by_cases b : n > 3
    . rw [decide_eq_true b, if_pos b]; rfl
    . rw [decide_eq_false b, if_neg b]
      by_cases c : n > 1
      . rw [decide_eq_true c, if_pos c]; rfl
      . rw [decide_eq_false c, if_neg c]; rfl
theorem run_of {n : Int} (h0 : 8 <= n) (h1 : n <= 63) : runE n = (n / 16 + 1, 0) := by
  unfold runE
  rw [of_val (by omega) h1, if_pos (by omega)]
  show (IntKind.i64.wrap (IntKind.i64.wrap (Int.tdiv n 16) + 1), (0 : Int)) = _
  rw [tdiv_pos (by omega), wrap_in (a := n / 16) (by omega), wrap_in (by omega)]
theorem fit_room {h : Hp} {a n : Int} (hr : roomA h.p a > 0) (hf : fitsE (pageE h a) n = true) : 1 <= n /\ n <= 63 /\ n < roomA h.p a := by
  obtain ⟨_, _, _, _, p, _, h5, h6⟩ := cell_facts hr
  have h5 : pageE h a = p := h5
  rw [h5] at hf
  unfold fitsE at hf
  rcases h6 with ⟨k1, _, k3, _⟩ | ⟨k1, k2, k3, _, k5⟩
  . rw [k1] at hf
    have hf : ((runE n).2 == 0 && (runE n).1 == p.2) = true := hf
    simp only [Bool.and_eq_true, beq_iff_eq] at hf
    obtain ⟨f1, f2⟩ := hf
    have hin : 1 <= n /\ n <= 63 /\ n > 7 := by
      have h0 : ((ofE n).2 != 0) = false := by
        cases hq : (ofE n).2 != 0 with
        | false => rfl
        | true =>
          unfold runE at f1
          rw [hq] at f1
          have f1 : (ofE n).2 = 0 := f1
          rw [f1] at hq; cases hq
      obtain ⟨a1, a2⟩ := of_in h0
      refine ⟨a1, a2, ?_⟩
      by_cases q : n > 7
      . exact q
      . exfalso
        unfold runE at f1
        rw [of_val a1 a2, if_neg q] at f1
        have hlt : (if n > 3 then 2 else if n > 1 then 1 else 0 : Int) < 3 := by repeat' split
                                                                                 all_goals decide
        simp only [bne_self_eq_false, cond_false, decide_eq_true hlt, cond_true] at f1
        cases f1
    rw [run_of (by omega) hin.2.1] at f2
    have f2 : n / 16 + 1 = p.2 := f2
    refine ⟨hin.1, hin.2.1, ?_⟩
    rw [k3]; omega
  . rw [k1] at hf
    have hf : ((ofE n).2 == 0 && (ofE n).1 == p.2) = true := hf
    simp only [Bool.and_eq_true, beq_iff_eq] at hf
    obtain ⟨f1, f2⟩ := hf
    obtain ⟨a1, a2⟩ := of_in (n := n) (by rw [f1]; rfl)
    refine ⟨a1, a2, ?_⟩
    rw [of_val a1 a2] at f2
    have f2 : (if n > 7 then 3 else if n > 3 then 2 else if n > 1 then 1 else 0 : Int) = p.2 := f2
    rw [k5]
    rcases words_val k2 k3 with ⟨w1, w⟩ | ⟨w1, w⟩ | ⟨w1, w⟩ <;> rw [w] <;> rw [w1] at f2 <;> (repeat' split at f2) <;> omega
section
variable {h k : Hp} {c d : Ls} {x : Hd} {a : Int}
theorem Took.head (t : Took h c x k d a) (hm : MayF h [c]) (h1 : mayH x = true) (h2 : x.a = true) : headE k a = (x, 0) := by
  rw [head_obj (t.m [] hm).none (t.obj h1 h2).1, (t.obj h1 h2).2]
theorem Few.took {n : Nat} (hf : Few h n) (t : Took h c x k d a) {m : Nat} (hl : lenL k.f m) : Few k m :=
  ⟨by rw [t.wl]; exact hf.w, by rw [t.pl]; exact hf.p, by rw [t.cl]; exact hf.c, hl⟩
theorem Took.usedLen (t : Took h c x k d a) (hm : MayF h [c]) (h1 : mayH x = true) (h2 : x.a = true) (hno : ¬(roomA h.p a > 0 /\ wordE h a ≠ 0)) : (usedE k).length = (usedE h).length + 1 := by
  have hk := (t.m [] hm).none
  have hq : usedE h = (usedE k).filter fun e => e != a := used_but hk hm.none t.pl.symm fun e => by
    rw [t.used h1 h2]
    constructor
    . intro g
      exact ⟨.inl g, fun q => hno (q ▸ g)⟩
    . rintro ⟨g | g, g2⟩
      . exact g
      . exact absurd g g2
  rw [hq, filter_one (rises_nodup used_rises) ((used_mem hk).2 ⟨t.r, (t.obj h1 h2).1.w⟩)]
theorem Took.was (t : Took h c x k d a) : ¬(roomA h.p a > 0 /\ wordE h a ≠ 0) := fun g => (t.old a g.1 g.2).1 rfl
theorem whole_told {ls : List Ls} : wholeHV h ls = true ↔ MayF h ls /\ Told h ls := whole_iff
theorem Took.whole (t : Took h c x k d a) {ls : List Ls} (hw : wholeHV h (c :: ls) = true) : wholeHV k (d :: ls) = true := by
  obtain ⟨h1, h2⟩ := whole_told.1 hw
  exact whole_told.2 ⟨t.m ls h1, t.told ls h2⟩
end
end Go.Ab

namespace Go.Ab
open Go
open Go.Proofs
end Go.Ab

namespace Go.Ab
open Go
open Go.Proofs
def preT (h : Hp) (c : Ls) : Bool := smH h && (smL1 h.f && smL1 c)
def gTake : Callee := g3 cHp cLs cHd (fun h c _ => preT h c) fun h c x => .tup [cHp.enc (takeE h c x).1, cLs.enc (takeE h c x).2.1, cI.enc (takeE h c x).2.2.1, cI.enc (takeE h c x).2.2.2]
theorem smL1_len {l : Ls} (h : smL1 l = true) : lenL l 90000 := fun k hk => by
  unfold smL1 at h
  simp only [Bool.and_eq_true] at h
  have : k = 0 \/ k = 1 \/ k = 2 := by omega
  rcases this with rfl | rfl | rfl
  . exact Nat.le_of_ble_eq_true h.1
  . exact Nat.le_of_ble_eq_true h.2.1
  . exact Nat.le_of_ble_eq_true h.2.2
theorem soft_bad (e : Int) : soft 4 (CV.tup [CV.agg [CV.own 1 [], CV.own 2 [], CV.own 1 [], CV.own 1 [], CV.own 1 [], CV.own 1 []], CV.agg [CV.own 1 [], CV.own 1 [], CV.own 1 []], CV.int IntKind.i64 0, CV.int IntKind.i64 e]) =
    some (.tup [cHp.enc (badT e).1, cLs.enc (badT e).2.1, cI.enc (badT e).2.2.1, cI.enc (badT e).2.2.2]) := rfl
def rvBad (e : Int) : CV := CV.tup [CV.agg [CV.own 1 [], CV.own 2 [], CV.own 1 [], CV.own 1 [], CV.own 1 [], CV.own 1 []], CV.agg [CV.own 1 [], CV.own 1 [], CV.own 1 []], CV.int IntKind.i64 0, CV.int IntKind.i64 e]
theorem take_good : GoodC Pr 23 gTake :=
  good3S ((CxOK.baseN (Good.cons pack57_good (Good.cons mayHp_good (Good.cons of_good (Good.cons ownH_good (Good.cons cloneA_good (Good.cons zeroC_good (Good.cons roomH_good (Good.cons putC_good (Good.cons smallF_good (Good.cons largeF_good Good.nil)))))))))) (GoodI.cons fail_inl GoodI.nil) (eqOK_none fun _ => rfl)).sound (cx := z23) Tryz.func23 (by kernel_rfl) (by kernel_rfl) rfl (by kernel_rfl)) fun h c x hp => by
    unfold preT at hp
    simp only [Bool.and_eq_true] at hp
    obtain ⟨hs, hf, hc⟩ := hp
    have lf := smL1_len hf
    have lc := smL1_len hc
    have hls : smLs [h.f, c] = true := by
      unfold smLs
      rw [List.all_cons, List.all_cons, lf.smL (by omega), lc.smL (by omega)]; rfl
    have eh : (⟨h.w, h.p, ⟨h.f.a, h.f.b, h.f.c⟩, h.c⟩ : Hp) = h := rfl
    have ec : (⟨c.a, c.b, c.c⟩ : Ls) = c := rfl
    have ex : ({ a := Hd.a x, b := Hd.b x, c := Hd.c x, x := Hd.x x, y := Hd.y x, z := Hd.z x } : Hd) = x := rfl
    have d1 : decLs [[CV.sl 1 (encI (Ls.a c)), CV.sl 1 (encI (Ls.b c)), CV.sl 1 (encI (Ls.c c))]] = some [c] := decLs_map [c]
    cases h1 : (packE x).2 != 0 with
    | true =>
      rw [take_arg1 h1]
      exact ⟨_, soft_bad 1, fun β K => by rw [zr23, ex, h1]; rfl⟩
    | false =>
      obtain ⟨x1, xw⟩ := pack_ok h1
      cases h2 : !x.a with
      | true =>
        rw [take_arg2 h1 h2]
        exact ⟨_, soft_bad 1, fun β K => by rw [zr23, ex, h1, h2]; rfl⟩
      | false =>
        have x2 : x.a = true := by simpa using h2
        cases h3 : !mayHpV h [c] with
        | true =>
          rw [take_arg3 h1 h2 h3]
          refine ⟨_, soft_bad 1, fun β K => ?_⟩
          rw [zr23, ex, h1, h2]
          simp only [cond_false, decI_map, decP_map, decBs_enc, Option.bind_some, d1, eh, hs, hls, Bool.and_self, cond_true, h3]
        | false =>
          have hm : MayF h [c] := mayF_iff.1 (by simpa using h3)
          obtain ⟨q1, q2, q3⟩ := shaped_ne hm.sh
          obtain ⟨_, l64⟩ := may_len q1
          cases h4 : (ofE x.x).2 != 0 with
          | true =>
            rw [take_of h1 h2 h3 h4]
            refine ⟨_, soft_bad _, fun β K => ?_⟩
            rw [zr23, ex, h1, h2]
            simp only [cond_false, decI_map, decP_map, decBs_enc, Option.bind_some, d1, eh, hs, hls, Bool.and_self, cond_true, h3, h4]
          | false =>
            have dF : decFr (encI h.w) (List.map encP h.p) (encI h.f.a) (encI h.f.b) (encI h.f.c) (encBs h.c) (encI c.a) (encI c.b) (encI c.c) = some ⟨h, c⟩ := decFr_enc ⟨h, c⟩
            have ba : Nat.ble c.a.length 4000000000 = true := Nat.ble_eq_true_of_le (Nat.le_trans (lc 0 (by omega)) (by omega))
            have bb : Nat.ble c.b.length 4000000000 = true := Nat.ble_eq_true_of_le (Nat.le_trans (lc 1 (by omega)) (by omega))
            have bc : Nat.ble c.c.length 4000000000 = true := Nat.ble_eq_true_of_le (Nat.le_trans (lc 2 (by omega)) (by omega))
            cases h5 : (ofE x.x).1 == 3 with
            | true =>
              rw [take_lg h1 h2 h3 h4 h5]
              obtain ⟨hpre, hL⟩ := lg_take hm x.x
              rcases hL with ⟨e, e3⟩ | ⟨e, r, p, o, ne, l1, l2⟩
              . refine ⟨rvBad 4, by rw [e]; exact soft_bad 4, fun β K => ?_⟩
                rw [zr23, ex, h1, h2]
                simp only [cond_false, decI_map, decP_map, decBs_enc, Option.bind_some, d1, eh, hs, hls, Bool.and_self, cond_true, h3, h4, q2, q3, Bool.not_false, ba, bb, bc, h5, dF, hpre]
                rw [e]
                rfl
              . have X := r.m [] hm
                obtain ⟨z1, z2, z3⟩ := zero_in X.sh X.r
                have hzl := zero_len z1 z2 z3
                have hma : mayA (lgFr ⟨h, c⟩ x.x).h.w.length = true := by
                  have := X.sh
                  simp only [shapedE, Bool.and_eq_true] at this
                  exact this.1
                have hr := X.r
                have hpl := r.pl
                have c1 : Nat.ble (lgFr ⟨h, c⟩ x.x).h.p.length 200 = true := Nat.ble_eq_true_of_le (by omega)
                refine ⟨.tup [cHp.enc (putH (lgFr ⟨h, c⟩ x.x).h (lgE ⟨h, c⟩ x.x).1 (packH x)), cLs.enc (lgFr ⟨h, c⟩ x.x).c, cI.enc (lgE ⟨h, c⟩ x.x).1, .int .i64 0], by unfold takeS; rw [e]; rfl, fun β K => ?_⟩
                rw [zr23, ex, h1, h2]
                simp only [cond_false, decI_map, decP_map, decBs_enc, Option.bind_some, d1, eh, hs, hls, Bool.and_self, cond_true, h3, h4, q2, q3, Bool.not_false, ba, bb, bc, h5, dF, hpre, e, bne_self_eq_false, c1, hma, decide_eq_true z1, decide_eq_true (show 1 <= roomA (lgFr ⟨h, c⟩ x.x).h.p (lgE ⟨h, c⟩ x.x).1 by omega), decide_eq_true z3, hzl, decide_eq_true (show (lgE ⟨h, c⟩ x.x).1 - 16 < ((lgFr ⟨h, c⟩ x.x).h.w.length : Int) by omega), xw]
                rfl
            | false =>
              rw [take_sm h1 h2 h3 h4 h5]
              obtain ⟨i0, i2⟩ := of_small h4 h5
              obtain ⟨hpre, hL⟩ := sm_take hm lf lc i0 i2
              rcases hL with ⟨e, e1, e2, e3⟩ | ⟨e, r, p, ne, l, n⟩
              . refine ⟨rvBad 4, by rw [e]; exact soft_bad 4, fun β K => ?_⟩
                rw [zr23, ex, h1, h2]
                simp only [cond_false, decI_map, decP_map, decBs_enc, Option.bind_some, d1, eh, hs, hls, Bool.and_self, cond_true, h3, h4, q2, q3, Bool.not_false, ba, bb, bc, h5, dF, hpre]
                rw [e]
                rfl
              . have X := r.m [] hm
                obtain ⟨z1, z2, z3⟩ := zero_in X.sh X.r
                have hzl := zero_len z1 z2 z3
                have hma : mayA (smFr ⟨h, c⟩ (ofE x.x).1).h.w.length = true := by
                  have := X.sh
                  simp only [shapedE, Bool.and_eq_true] at this
                  exact this.1
                have hr := X.r
                have hpl := r.pl
                have c1 : Nat.ble (smFr ⟨h, c⟩ (ofE x.x).1).h.p.length 200 = true := Nat.ble_eq_true_of_le (by omega)
                refine ⟨.tup [cHp.enc (putH (smFr ⟨h, c⟩ (ofE x.x).1).h (smE ⟨h, c⟩ (ofE x.x).1).1 (packH x)), cLs.enc (smFr ⟨h, c⟩ (ofE x.x).1).c, cI.enc (smE ⟨h, c⟩ (ofE x.x).1).1, .int .i64 0], by unfold takeS; rw [e]; rfl, fun β K => ?_⟩
                rw [zr23, ex, h1, h2]
                simp only [cond_false, decI_map, decP_map, decBs_enc, Option.bind_some, d1, eh, hs, hls, Bool.and_self, cond_true, h3, h4, q2, q3, Bool.not_false, ba, bb, bc, h5, dF, hpre, e, bne_self_eq_false, c1, hma, decide_eq_true z1, decide_eq_true (show 1 <= roomA (smFr ⟨h, c⟩ (ofE x.x).1).h.p (smE ⟨h, c⟩ (ofE x.x).1).1 by omega), decide_eq_true z3, hzl, decide_eq_true (show (smE ⟨h, c⟩ (ofE x.x).1).1 - 16 < ((smFr ⟨h, c⟩ (ofE x.x).1).h.w.length : Int) by omega), xw]
                rfl
end Go.Ab

namespace Go.Ab
open Go
open Go.Proofs
end Go.Ab

namespace Go.Ab
open Go
open Go.Proofs
noncomputable abbrev z26 : Cx := cxN Pr Tryz.f26 [(23, gTake)]
set_option maxRecDepth 100000 in
theorem zr26 (h : Hp) (c : Ls) (n : Int) (β : Type) (K : CV -> List (List CV) -> Option β) : fnK z26 Tryz.f26 [cHp.enc h, cLs.enc c, cI.enc n] [] K =
 Option.bind (Option.bind (decI (encI (Hp.w h))) fun w =>
 Option.bind (decP (List.map encP (Hp.p h))) fun p =>
 Option.bind (decI (encI (Ls.a (Hp.f h)))) fun a =>
 Option.bind (decI (encI (Ls.b (Hp.f h)))) fun b =>
 Option.bind (decI (encI (Ls.c (Hp.f h)))) fun c =>
 Option.bind (decBs (encBs (Hp.c h))) fun d => some { w := w, p := p, f := { a := a, b := b, c := c }, c := d }) fun a =>
 Option.bind (Option.bind (decI (encI (Ls.a c))) fun a =>
 Option.bind (decI (encI (Ls.b c))) fun b =>
 Option.bind (decI (encI (Ls.c c))) fun c => some { a := a, b := b, c := c }) fun b =>
 bif preT a b then
 K (CV.bool (Prod.snd (Prod.snd (Prod.snd (takeE a b { a := true, b := false, c := false, x := n, y := 0, z := 0 }))) == 0)) []
 else none := by kernel_rfl
def roomT (h : Hp) (c : Ls) (n : Int) : Bool := (takeE h c (hdN n)).2.2.2 == 0
def gRoomT : Callee := g3 cHp cLs cI (fun h c _ => preT h c) fun h c n => cB.enc (roomT h c n)
theorem roomT_good : GoodC Pr 26 gRoomT :=
  good3 ((CxOK.baseN (Good.cons take_good Good.nil) GoodI.nil (eqOK_none fun _ => rfl)).sound (cx := z26) Tryz.func26 (by kernel_rfl) (by kernel_rfl) rfl (by kernel_rfl)) fun h c n hp β K => by
    have e : (⟨h.w, h.p, ⟨h.f.a, h.f.b, h.f.c⟩, h.c⟩ : Hp) = h := rfl
    have ec : (⟨c.a, c.b, c.c⟩ : Ls) = c := rfl
    rw [zr26]
    simp only [decI_map, decP_map, decBs_enc, Option.bind_some, e, ec, hp, cond_true]
    rfl
end Go.Ab

namespace Go.Ab
open Go
open Go.Proofs
noncomputable abbrev zk22a : Cx := cxG Pr Tryz.f22 [(37, gFewH), (38, gLight)]
set_option maxRecDepth 100000 in
theorem zt22x (ls : List Ls) (ok : Bool) (i : Int) (m : Nat) (β : Type) (K : Exit -> List CV -> List (List CV) -> Option β) : loopB zk22a [1, 5, 6] o8 p8 (bodyL (bodyOf Tryz.f22) p8) (m + 1) [cLss.enc ls, cB.enc ok, cI.enc i] [] K =
 bif decide (i < (↑(List.length (List.map encLs ls)) : Int)) then
 bif ok then
 Option.bind (rdE (List.map encLs ls) i) fun c =>
 Option.bind c[0]? fun x =>
 Option.bind (asL 1 x) fun l =>
 Option.bind c[1]? fun x =>
 Option.bind (asL 1 x) fun l_1 =>
 Option.bind c[2]? fun x =>
 Option.bind (asL 1 x) fun l_2 =>
 Option.bind (Option.bind (decI l) fun a =>
 Option.bind (decI l_1) fun b => Option.bind (decI l_2) fun c => some { a := a, b := b, c := c }) fun a => loopB zk22a [1, 5, 6] o8 [false, true, false, true, true] (bodyL (bodyOf Tryz.f22) p8) m [CV.sl 3 (List.map encLs ls), CV.bool (lightV a), CV.int IntKind.i64 (IntKind.wrap IntKind.i64 (i + 1))] [] fun a a_1 a_2 => K a a_1 a_2
 else loopB zk22a [1, 5, 6] o8 [false, true, false, true, true] (bodyL (bodyOf Tryz.f22) p8) m [CV.sl 3 (List.map encLs ls), CV.bool false, CV.int IntKind.i64 (IntKind.wrap IntKind.i64 (i + 1))] [] fun a a_1 a_2 => K a a_1 a_2
 else K (Exit.exit 0) [CV.sl 3 (List.map encLs ls), CV.bool ok] [] := by kernel_rfl
theorem few_loopA (ls : List Ls) (hl : ls.length <= 9223372036854775807) (β : Type) (K : Exit -> List CV -> List (List CV) -> Option β) : ∀ (m i : Nat) (ok : Bool), i + m = ls.length ->
    loopB zk22a [1, 5, 6] o8 p8 (bodyL (bodyOf Tryz.f22) p8) (m + 1) [cLss.enc ls, cB.enc ok, cI.enc (i : Int)] [] K = K (.exit 0) [cLss.enc ls, cB.enc (ok && (ls.drop i).all lightV)] [] := by
  intro m
  induction m with
  | zero =>
    intro i ok h1
    rw [zt22x, decide_eq_false (by rw [List.length_map]; omega), cond_false, List.drop_eq_nil_of_le (by omega)]
    simp only [List.all_nil, Bool.and_true]
    rfl
  | succ m ih =>
    intro i ok h1
    have hi : i < ls.length := by omega
    have e0 : (List.map encLs ls)[(i : Int).toNat]? = some (encLs ls[i]) := by simp [hi]
    have w1 : IntKind.i64.wrap ((i : Int) + 1) = ((i + 1 : Nat) : Int) := by rw [wrap_in (by omega)]; omega
    have h2 := fun ok => ih (i + 1) ok (by omega)
    rw [zt22x, decide_eq_true (by rw [List.length_map]; omega), cond_true, List.drop_eq_getElem_cons hi, List.all_cons, rdE_nat (by omega), e0]
    generalize ls[i] = l
    have g1 : (encLs l)[0]? = some (.sl 1 (encI l.a)) := rfl
    have g2 : (encLs l)[1]? = some (.sl 1 (encI l.b)) := rfl
    have g3 : (encLs l)[2]? = some (.sl 1 (encI l.c)) := rfl
    have e' : (⟨l.a, l.b, l.c⟩ : Ls) = l := rfl
    simp only [Option.bind_some, g1, g2, g3, asL_1, decI_map, e', w1]
    cases ok with
    | true =>
      rw [Bool.true_and, cond_true]
      exact h2 (lightV l)
    | false =>
      have h3 := h2 false
      rw [Bool.false_and] at h3 ⊢
      rw [cond_false]
      exact h3
noncomputable abbrev zk22 : Cx := zk22a.loop p8 L8
theorem zk22_ok : CxOK zk22 [(37, gFewH), (38, gLight)] := by
  refine CxOK.loop3 (CxOK.baseG (Good.cons fewH_good (Good.cons light_good Good.nil)) GoodI.nil (eqOK_none fun _ => rfl)) rfl fun ls ok i u hp => ?_
  simp only [Bool.and_eq_true, beq_iff_eq] at hp
  obtain ⟨hi, hl⟩ := hp
  subst hi
  exact ⟨ls.length + 1, fun β K => (few_loopA ls (Nat.le_of_ble_eq_true hl) β K ls.length 0 ok (by omega)).trans (by rw [List.drop_zero]; rfl)⟩
set_option maxRecDepth 100000 in
theorem zr22 (h : Hp) (ls : List Ls) (β : Type) (K : CV -> List (List CV) -> Option β) : fnK zk22 Tryz.f22 [cHp.enc h, cLss.enc ls] [] K =
 Option.bind (Option.bind (decI (encI (Hp.w h))) fun w =>
 Option.bind (decP (List.map encP (Hp.p h))) fun p =>
 Option.bind (decI (encI (Ls.a (Hp.f h)))) fun a =>
 Option.bind (decI (encI (Ls.b (Hp.f h)))) fun b =>
 Option.bind (decI (encI (Ls.c (Hp.f h)))) fun c =>
 Option.bind (decBs (encBs (Hp.c h))) fun d => some { w := w, p := p, f := { a := a, b := b, c := c }, c := d }) fun a =>
 Option.bind (decLs (List.map encLs ls)) fun a_1 =>
 bif Nat.ble (List.length a_1) 9223372036854775807 then
 bif fewH a && List.all a_1 lightV then K (CV.bool (decide ((↑(List.length (List.map encLs a_1)) : Int) <= 4))) []
 else K (CV.bool false) []
 else none := by kernel_rfl
theorem fewA_good : GoodC Pr 22 gFew :=
  good2 (zk22_ok.sound (cx := zk22) Tryz.func22 (by kernel_rfl) (by kernel_rfl) rfl (by kernel_rfl)) fun h ls hp β K => by
    have e : (⟨h.w, h.p, ⟨h.f.a, h.f.b, h.f.c⟩, h.c⟩ : Hp) = h := rfl
    rw [zr22]
    simp only [decI_map, decP_map, decBs_enc, decLs_map, Option.bind_some, e, hp, beq_self_eq_true, Bool.and_self, cond_true, List.length_map]
    unfold fewV
    cases (fewH h && ls.all lightV) <;> rfl
noncomputable abbrev z21 : Cx := cxN Pr Tryz.f21 [(55, gNew), (23, gTake), (50, gInts), (34, gWhole), (26, gRoomT)]
set_option maxRecDepth 100000 in
theorem zr21 (_u : Unit) (β : Type) (K : CV -> List (List CV) -> Option β) : fnK z21 Tryz.f21 [] [] K =
 bif preT { w := [0, 0, 0, 0, 0, 0, 0, 0, 0, 0, 0, 0, 0, 0, 0, 0], p := [(0, 0)], f := { a := [], b := [], c := [] }, c := [false, false] } { a := [], b := [], c := [] } then
 Option.bind (decI (encI (Ls.b (Prod.fst (Prod.snd (takeE { w := [0, 0, 0, 0, 0, 0, 0, 0, 0, 0, 0, 0, 0, 0, 0, 0], p := [(0, 0)], f := { a := [], b := [], c := [] }, c := [false, false] } { a := [], b := [], c := [] } { a := true, b := false, c := false, x := 3, y := 0, z := 0 })))))) fun ps =>
 bif Nat.ble (List.length ps) 65536 then
 Option.bind (decI (encI (Ls.b (Hp.f (Prod.fst (takeE { w := [0, 0, 0, 0, 0, 0, 0, 0, 0, 0, 0, 0, 0, 0, 0, 0], p := [(0, 0)], f := { a := [], b := [], c := [] }, c := [false, false] } { a := [], b := [], c := [] } { a := true, b := false, c := false, x := 3, y := 0, z := 0 })))))) fun ps_1 =>
 bif Nat.ble (List.length ps_1) 65536 then
 bif Prod.snd (Prod.snd (Prod.snd (takeE { w := [0, 0, 0, 0, 0, 0, 0, 0, 0, 0, 0, 0, 0, 0, 0, 0], p := [(0, 0)], f := { a := [], b := [], c := [] }, c := [false, false] } { a := [], b := [], c := [] } { a := true, b := false, c := false, x := 3, y := 0, z := 0 }))) == 0 then
 bif Prod.fst (Prod.snd (Prod.snd (takeE { w := [0, 0, 0, 0, 0, 0, 0, 0, 0, 0, 0, 0, 0, 0, 0, 0], p := [(0, 0)], f := { a := [], b := [], c := [] }, c := [false, false] } { a := [], b := [], c := [] } { a := true, b := false, c := false, x := 3, y := 0, z := 0 }))) == 20 then
 bif ps == [16] then
 bif ps_1 == [28, 24] then
 Option.bind (Option.bind (decI (encI (Hp.w (Prod.fst (takeE { w := [0, 0, 0, 0, 0, 0, 0, 0, 0, 0, 0, 0, 0, 0, 0, 0], p := [(0, 0)], f := { a := [], b := [], c := [] }, c := [false, false] } { a := [], b := [], c := [] } { a := true, b := false, c := false, x := 3, y := 0, z := 0 }))))) fun w =>
 Option.bind (decP (List.map encP (Hp.p (Prod.fst (takeE { w := [0, 0, 0, 0, 0, 0, 0, 0, 0, 0, 0, 0, 0, 0, 0, 0], p := [(0, 0)], f := { a := [], b := [], c := [] }, c := [false, false] } { a := [], b := [], c := [] } { a := true, b := false, c := false, x := 3, y := 0, z := 0 }))))) fun p =>
 Option.bind (decI (encI (Ls.a (Hp.f (Prod.fst (takeE { w := [0, 0, 0, 0, 0, 0, 0, 0, 0, 0, 0, 0, 0, 0, 0, 0], p := [(0, 0)], f := { a := [], b := [], c := [] }, c := [false, false] } { a := [], b := [], c := [] } { a := true, b := false, c := false, x := 3, y := 0, z := 0 })))))) fun a =>
 Option.bind (decI (encI (Ls.b (Hp.f (Prod.fst (takeE { w := [0, 0, 0, 0, 0, 0, 0, 0, 0, 0, 0, 0, 0, 0, 0, 0], p := [(0, 0)], f := { a := [], b := [], c := [] }, c := [false, false] } { a := [], b := [], c := [] } { a := true, b := false, c := false, x := 3, y := 0, z := 0 })))))) fun b =>
 Option.bind (decI (encI (Ls.c (Hp.f (Prod.fst (takeE { w := [0, 0, 0, 0, 0, 0, 0, 0, 0, 0, 0, 0, 0, 0, 0, 0], p := [(0, 0)], f := { a := [], b := [], c := [] }, c := [false, false] } { a := [], b := [], c := [] } { a := true, b := false, c := false, x := 3, y := 0, z := 0 })))))) fun c =>
 Option.bind (decBs (encBs (Hp.c (Prod.fst (takeE { w := [0, 0, 0, 0, 0, 0, 0, 0, 0, 0, 0, 0, 0, 0, 0, 0], p := [(0, 0)], f := { a := [], b := [], c := [] }, c := [false, false] } { a := [], b := [], c := [] } { a := true, b := false, c := false, x := 3, y := 0, z := 0 }))))) fun d => some { w := w, p := p, f := { a := a, b := b, c := c }, c := d }) fun a =>
 Option.bind (decLs [[CV.sl 1 (encI (Ls.a (Prod.fst (Prod.snd (takeE { w := [0, 0, 0, 0, 0, 0, 0, 0, 0, 0, 0, 0, 0, 0, 0, 0], p := [(0, 0)], f := { a := [], b := [], c := [] }, c := [false, false] } { a := [], b := [], c := [] } { a := true, b := false, c := false, x := 3, y := 0, z := 0 }))))), CV.sl 1 (encI (Ls.b (Prod.fst (Prod.snd (takeE { w := [0, 0, 0, 0, 0, 0, 0, 0, 0, 0, 0, 0, 0, 0, 0, 0], p := [(0, 0)], f := { a := [], b := [], c := [] }, c := [false, false] } { a := [], b := [], c := [] } { a := true, b := false, c := false, x := 3, y := 0, z := 0 }))))), CV.sl 1 (encI (Ls.c (Prod.fst (Prod.snd (takeE { w := [0, 0, 0, 0, 0, 0, 0, 0, 0, 0, 0, 0, 0, 0, 0, 0], p := [(0, 0)], f := { a := [], b := [], c := [] }, c := [false, false] } { a := [], b := [], c := [] } { a := true, b := false, c := false, x := 3, y := 0, z := 0 })))))]]) fun b =>
 bif smH a && smLs (Hp.f a :: b) then
 bif wholeHV a b then
 bif preT { w := [0, 0, 0, 0, 0, 0, 0, 0, 0, 0, 0, 0, 0, 0, 0, 0], p := [(0, 0)], f := { a := [], b := [], c := [] }, c := [false, false] } { a := [], b := [], c := [] } then
 K (CV.bool (roomT { w := [0, 0, 0, 0, 0, 0, 0, 0, 0, 0, 0, 0, 0, 0, 0, 0], p := [(0, 0)], f := { a := [], b := [], c := [] }, c := [false, false] } { a := [], b := [], c := [] } 3)) []
 else none
 else K (CV.bool false) []
 else none
 else K (CV.bool false) []
 else K (CV.bool false) []
 else K (CV.bool false) []
 else K (CV.bool false) []
 else none
 else none
 else none := by kernel_rfl
theorem hN_shaped : shapedE hN = true := by kernel_rfl
theorem hN_listed : listedV hN hN.f = true := by kernel_rfl
theorem hN_listedE : listedV hN Ls.e = true := by kernel_rfl
theorem hN_cells : cellAs hN.p = [] := by kernel_rfl
theorem hN_apart : apartV [hN.f, Ls.e] = true := by
  have h1 : catI [hN.f, Ls.e] = [] := rfl
  have h2 : sortI [] = [] := by simp [sortI]
  unfold apartV
  rw [h1, h2]
  rfl
theorem hN_may : mayHpV hN [Ls.e] = true := by
  unfold mayHpV
  rw [hN_shaped, hN_cells, hN_apart]
  simp only [List.all_cons, List.all_nil, hN_listed, hN_listedE, Bool.and_self]
theorem hN_whole : wholeHV hN [Ls.e] = true := by
  unfold wholeHV
  rw [hN_may, hN_cells]
  rfl
def hK : Hp := ⟨[0, 0, 0, 0, 25, 0, 0, 0, 0, 0, 0, 0, 0, 0, 0, 0], [(1, 1)], ⟨[], [28, 24], []⟩, [false, false]⟩
theorem takeN : takeE hN Ls.e (hdN 3) = (hK, ⟨[], [16], []⟩, 20, 0) := by
  rw [take_sm (by kernel_rfl) (by kernel_rfl) (by rw [hN_may]; rfl) (by kernel_rfl) (by kernel_rfl)]
  kernel_rfl
theorem hK_whole : wholeHV hK [⟨[], [16], []⟩] = true := by
  have l1 : lenL hN.f 90000 := smL1_len (by kernel_rfl)
  have l2 : lenL Ls.e 90000 := smL1_len (by kernel_rfl)
  have hm : MayF hN [Ls.e] := mayF_iff.1 hN_may
  have e0 := takeN
  rcases take_fin (hdN 3) l1 l2 with ⟨e, _⟩ | ⟨_, _, _, _, e⟩ | ⟨_, _, _, _, _, e, _⟩ | ⟨_, _, _, _, _, e, _⟩ | ⟨_, _, _, _, _, k, d, a, e, t, _⟩ | ⟨_, _, _, _, _, k, a, e, t, _⟩
  . rw [e] at e0; cases e0
  . rw [e] at e0; cases e0
  . rw [e] at e0; cases e0
  . rw [e] at e0; cases e0
  . rw [e] at e0
    cases e0
    exact t.whole hN_whole
  . rw [e] at e0
    cases e0
def gAwakeA : Callee := g0 true (.bool true)
theorem awakeA_good : GoodC Pr 21 gAwakeA :=
  good0 ((CxOK.baseN (Good.cons new_good (Good.cons take_good (Good.cons ⟨ints_sound, ints_nat⟩ (Good.cons whole_good (Good.cons roomT_good Good.nil))))) GoodI.nil (eqOK_none fun _ => rfl)).sound (cx := z21) Tryz.func21 (by kernel_rfl) (by kernel_rfl) rfl (by kernel_rfl)) fun _ _ β K => by
    rw [zr21 ()]
    have e0 : ({ w := [0, 0, 0, 0, 0, 0, 0, 0, 0, 0, 0, 0, 0, 0, 0, 0], p := [(0, 0)], f := Ls.e, c := [false, false] } : Hp) = hN := rfl
    have e1 : ({ a := [], b := [], c := [] } : Ls) = Ls.e := rfl
    have e2 : ({ a := true, b := false, c := false, x := 3, y := 0, z := 0 } : Hd) = hdN 3 := rfl
    have eA : ∀ h : Hp, (⟨h.w, h.p, ⟨h.f.a, h.f.b, h.f.c⟩, h.c⟩ : Hp) = h := fun _ => rfl
    have r1 : roomT hN Ls.e 3 = true := by unfold roomT; rw [takeN]; rfl
    have r2 : preT hN Ls.e = true := by kernel_rfl
    have d1 : decLs [[CV.sl 1 (encI []), CV.sl 1 (encI [16]), CV.sl 1 (encI [])]] = some [⟨[], [16], []⟩] := decLs_map [⟨[], [16], []⟩]
    have s1 : (smH hK && smLs (hK.f :: [⟨[], [16], []⟩])) = true := by kernel_rfl
    simp only [e0, e1, e2, takeN, r1, r2, cond_true, d1, decI_map, decP_map, decBs_enc, Option.bind_some, eA, s1, hK_whole]
    rfl
end Go.Ab

namespace Go.Ab
open Go
open Go.Proofs
end Go.Ab

namespace Go.Ab
open Go
open Go.Proofs
end Go.Ab

namespace Go.Ab
open Go
open Go.Proofs
theorem lightL {l : Ls} (h : lightV l = true) : lenL l 70 := light_get h
theorem pre_of {h : Hp} {c : Ls} {n m : Nat} (hF : Few h n) (hc : lenL c m) (h1 : n <= 90000) (h2 : m <= 90000) : preT h c = true := by
  obtain ⟨s1, s2, _, _⟩ := hF.sm h1
  have s3 : smL1 c = true := (show lenF ⟨[], [], c, []⟩ m from hc).smL h2 |>.2.1
  unfold preT
  rw [s1, s2, s3]; rfl
theorem take_got {h : Hp} {c : Ls} {x : Hd} (lf : lenL h.f 90000) (lc : lenL c 90000) (he : ((takeE h c x).2.2.2 != 0) = false) :
    ∃ k d a, takeE h c x = (k, d, a, 0) /\ MayF h [c] /\ mayH x = true /\ x.a = true /\ Took h c x k d a /\ ∀ n m, lenL h.f n -> lenL c m -> lenL k.f (n + 8192) /\ lenL d (m + 2) := by
  rcases take_fin x lf lc with ⟨e, _⟩ | ⟨_, _, _, o, e⟩ | ⟨_, _, _, _, _, e, _⟩ | ⟨_, _, _, _, _, e, _⟩ | ⟨m, x1, x2, _, _, k, d, a, e, t, _, _, _, n⟩ | ⟨m, x1, x2, _, _, k, a, e, t, _, _, l⟩
  . rw [e] at he; cases he
  . rw [e] at he
    exact absurd (nE he) o
  . rw [e] at he; cases he
  . rw [e] at he; cases he
  . exact ⟨k, d, a, e, m, x1, x2, t, n⟩
  . exact ⟨k, c, a, e, m, x1, x2, t, fun n m h1 h2 => ⟨by rw [l]; exact h1.mono (by omega), h2.mono (by omega)⟩⟩
theorem Took.fits {h k : Hp} {c d : Ls} {x : Hd} {a : Int} (t : Took h c x k d a) : 1 <= x.x /\ x.x <= 63 /\ x.x < roomA k.p a := fit_room t.r t.fit
theorem Stay.head {h k : Hp} {a : Int} (s : Stay h k a) (ho : Obj h a) : Obj k a /\ unpX k a = unpX h a := by
  have e : unpX k a = unpX h a := by unfold unpX; rw [s.word ho.r]
  exact ⟨⟨by rw [s.1]; exact ho.r, by rw [e]; exact ho.u⟩, e⟩
end Go.Ab

namespace Go.Ab
open Go
open Go.Proofs
theorem smLs_of {f d : Ls} {ls : List Ls} {n m : Nat} (hf : lenL f n) (hd : lenL d m) (h1 : n <= 100000) (h2 : m <= 100000) (hl : ∀ l ∈ ls, lightV l = true) (h4 : ls.length <= 4) : smLs (f :: d :: ls) = true := by
  unfold smLs
  rw [Nat.ble_eq_true_of_le (by simp; omega), Bool.true_and, List.all_eq_true]
  intro l hm
  rcases List.mem_cons.1 hm with rfl | hm
  . exact hf.smL h1
  . rcases List.mem_cons.1 hm with rfl | hm
    . exact hd.smL h2
    . exact light_sm (hl l hm)
theorem sub_rest {l0 : Ls} {rest : List Ls} : subl (List.map encLs (l0 :: rest)) 1 (Int.toNat (((List.length (List.map encLs (l0 :: rest)) : Nat) : Int) - 1)) = List.map encLs rest := by
  simp only [subl, List.length_map, List.length_cons, List.map_cons, List.drop_succ_cons, List.drop_zero]
  exact List.take_of_length_le (by simp)
end Go.Ab

namespace Go.Ab
open Go
open Go.Proofs
structure HK where
  h : Hp
  x : Hd
  k : Hp
def cHK : CodB HK where
  enc := fun s => [encHp s.h, encH s.x, encHp s.k]
  dec := fun c => match c with
    | [[.sl 1 w, .sl 2 p, .sl 1 a, .sl 1 b, .sl 1 c, .sl 1 d], [.bool x0, .bool x1, .bool x2, .int .i64 x3, .int .i64 x4, .int .i64 x5], [.sl 1 w', .sl 2 p', .sl 1 a', .sl 1 b', .sl 1 c', .sl 1 d']] => (decW w p a b c d).bind fun h => (decW w' p' a' b' c' d').bind fun k => some ⟨h, ⟨x0, x1, x2, x3, x4, x5⟩, k⟩
    | _ => none
  ok := fun c s e => by
    split at e
    . replace e := bind_some' e
      obtain ⟨h, h1, e⟩ := e
      replace e := bind_some' e
      obtain ⟨k, h2, e⟩ := e
      cases e
      obtain ⟨rfl, rfl, rfl, rfl, rfl, rfl⟩ := decW_ok h1
      obtain ⟨rfl, rfl, rfl, rfl, rfl, rfl⟩ := decW_ok h2
      rfl
    . cases e
  de := fun s => by
    show (decW _ _ _ _ _ _).bind _ = _
    rw [decW_enc]
    show (decW _ _ _ _ _ _).bind _ = _
    rw [decW_enc]; rfl
structure XK where
  x : Hd
  k : Hp
  y : Hd
def cXK : CodB XK where
  enc := fun s => [encH s.x, encHp s.k, encH s.y]
  dec := fun c => match c with
    | [[.bool x0, .bool x1, .bool x2, .int .i64 x3, .int .i64 x4, .int .i64 x5], [.sl 1 w', .sl 2 p', .sl 1 a', .sl 1 b', .sl 1 c', .sl 1 d'], [.bool y0, .bool y1, .bool y2, .int .i64 y3, .int .i64 y4, .int .i64 y5]] => (decW w' p' a' b' c' d').bind fun k => some ⟨⟨x0, x1, x2, x3, x4, x5⟩, k, ⟨y0, y1, y2, y3, y4, y5⟩⟩
    | _ => none
  ok := fun c s e => by
    split at e
    . replace e := bind_some' e
      obtain ⟨k, h2, e⟩ := e
      cases e
      obtain ⟨rfl, rfl, rfl, rfl, rfl, rfl⟩ := decW_ok h2
      rfl
    . cases e
  de := fun s => by
    show (decW _ _ _ _ _ _).bind _ = _
    rw [decW_enc]; rfl
noncomputable abbrev z9a : Cx := cxN Pr Tryz.f9 [(21, gAwakeA), (22, gFew), (34, gWhole), (23, gTake), (35, gUsed), (31, gBegins), (33, gHead)] [] (fun q => Nat.beq q 66 || Nat.beq q 69) (fun _ => false) (fun t => Nat.beq t 41)
abbrev p9i := [false, true, true, true, false, false, true, false, false, true, false, true, true, true, true, true, true, true, true, true]
abbrev o9i : Exit -> List Nat := fun | .ret => [6] | _ => [3, 5, 9, 11, 14, 15]
set_option maxRecDepth 100000 in
theorem t9i (s : HK) (a : Int) (us : List Int) (i n j : Int) (m : Nat) (β : Type) (K : Exit -> List CV -> List (List CV) -> Option β) : loopB z9a [3, 5, 9, 11, 14, 15, 16, 17] o9i p9i (bodyL (bodyOf Tryz.f9) p9i) (m + 1) [.ref 0, .ref 1, .ref 2, cI.enc a, cIs.enc us, cI.enc i, cI.enc n, cI.enc j] (cHK.enc s) K =
 bif decide (j < n) then
 Option.bind (rdE (encI us) i) fun c =>
 Option.bind c[0]? fun x =>
 Option.bind (asI IntKind.i64 x) fun n_1 =>
 Option.bind (rdE (encI (Hp.w (HK.k s))) (IntKind.wrap IntKind.i64 (IntKind.wrap IntKind.i64 (n_1 + j) - 16))) fun c =>
 Option.bind c[0]? fun x =>
 Option.bind (asI IntKind.i64 x) fun n_2 =>
 Option.bind (rdE (encI us) i) fun c =>
 Option.bind c[0]? fun x =>
 Option.bind (asI IntKind.i64 x) fun n_3 =>
 Option.bind (rdE (encI (Hp.w (HK.h s))) (IntKind.wrap IntKind.i64 (IntKind.wrap IntKind.i64 (n_3 + j) - 16))) fun c =>
 Option.bind c[0]? fun x =>
 Option.bind (asI IntKind.i64 x) fun n_4 =>
 bif n_2 != n_4 then
 K Exit.ret [CV.bool false] [[CV.sl 1 (encI (Hp.w (HK.h s))), CV.sl 2 (List.map encP (Hp.p (HK.h s))), CV.sl 1 (encI (Ls.a (Hp.f (HK.h s)))), CV.sl 1 (encI (Ls.b (Hp.f (HK.h s)))), CV.sl 1 (encI (Ls.c (Hp.f (HK.h s)))), CV.sl 1 (encBs (Hp.c (HK.h s)))], [CV.bool (Hd.a (HK.x s)), CV.bool (Hd.b (HK.x s)), CV.bool (Hd.c (HK.x s)), CV.int IntKind.i64 (Hd.x (HK.x s)), CV.int IntKind.i64 (Hd.y (HK.x s)), CV.int IntKind.i64 (Hd.z (HK.x s))], [CV.sl 1 (encI (Hp.w (HK.k s))), CV.sl 2 (List.map encP (Hp.p (HK.k s))), CV.sl 1 (encI (Ls.a (Hp.f (HK.k s)))), CV.sl 1 (encI (Ls.b (Hp.f (HK.k s)))), CV.sl 1 (encI (Ls.c (Hp.f (HK.k s)))), CV.sl 1 (encBs (Hp.c (HK.k s)))]]
 else loopB z9a [3, 5, 9, 11, 14, 15, 16, 17] o9i [false, true, true, true, false, false, true, false, false, true, false, true, true, true, true, true, true, true, true, true] (bodyL (bodyOf Tryz.f9) p9i) m [CV.ref 0, CV.ref 1, CV.ref 2, CV.int IntKind.i64 a, CV.sl 1 (encI us), CV.int IntKind.i64 i, CV.int IntKind.i64 n, CV.int IntKind.i64 (IntKind.wrap IntKind.i64 (j + 1))] [[CV.sl 1 (encI (Hp.w (HK.h s))), CV.sl 2 (List.map encP (Hp.p (HK.h s))), CV.sl 1 (encI (Ls.a (Hp.f (HK.h s)))), CV.sl 1 (encI (Ls.b (Hp.f (HK.h s)))), CV.sl 1 (encI (Ls.c (Hp.f (HK.h s)))), CV.sl 1 (encBs (Hp.c (HK.h s)))], [CV.bool (Hd.a (HK.x s)), CV.bool (Hd.b (HK.x s)), CV.bool (Hd.c (HK.x s)), CV.int IntKind.i64 (Hd.x (HK.x s)), CV.int IntKind.i64 (Hd.y (HK.x s)), CV.int IntKind.i64 (Hd.z (HK.x s))], [CV.sl 1 (encI (Hp.w (HK.k s))), CV.sl 2 (List.map encP (Hp.p (HK.k s))), CV.sl 1 (encI (Ls.a (Hp.f (HK.k s)))), CV.sl 1 (encI (Ls.b (Hp.f (HK.k s)))), CV.sl 1 (encI (Ls.c (Hp.f (HK.k s)))), CV.sl 1 (encBs (Hp.c (HK.k s)))]] fun a a_1 a_2 => K a a_1 a_2
 else
 K (Exit.exit 2) [CV.ref 0, CV.ref 1, CV.ref 2, CV.int IntKind.i64 a, CV.sl 1 (encI us), CV.int IntKind.i64 i] [[CV.sl 1 (encI (Hp.w (HK.h s))), CV.sl 2 (List.map encP (Hp.p (HK.h s))), CV.sl 1 (encI (Ls.a (Hp.f (HK.h s)))), CV.sl 1 (encI (Ls.b (Hp.f (HK.h s)))), CV.sl 1 (encI (Ls.c (Hp.f (HK.h s)))), CV.sl 1 (encBs (Hp.c (HK.h s)))], [CV.bool (Hd.a (HK.x s)), CV.bool (Hd.b (HK.x s)), CV.bool (Hd.c (HK.x s)), CV.int IntKind.i64 (Hd.x (HK.x s)), CV.int IntKind.i64 (Hd.y (HK.x s)), CV.int IntKind.i64 (Hd.z (HK.x s))], [CV.sl 1 (encI (Hp.w (HK.k s))), CV.sl 2 (List.map encP (Hp.p (HK.k s))), CV.sl 1 (encI (Ls.a (Hp.f (HK.k s)))), CV.sl 1 (encI (Ls.b (Hp.f (HK.k s)))), CV.sl 1 (encI (Ls.c (Hp.f (HK.k s)))), CV.sl 1 (encBs (Hp.c (HK.k s)))]] := by kernel_rfl
abbrev p9w := [false, true, false, true, true, true, true, true, true, true, true, true, true, true, true]
abbrev o9w : Exit -> List Nat := fun | .ret => [6] | _ => [5, 9, 14, 18, 19, 20]
end Go.Ab

namespace Go.Ab
open Go
open Go.Proofs
theorem keep_round (s : HK) (a : Int) (us : List Int) (i n : Int) (j m : Nat) (hi0 : 0 <= i) (hi : i < (us.length : Int)) (hj : (j : Int) < n) (h16 : 16 <= us.getD i.toNat 0) (hend : us.getD i.toNat 0 - 16 + n <= (s.h.w.length : Int)) (hl : s.h.w.length <= 100000) (hk : s.k.w.length = s.h.w.length)
    (he : s.k.w.getD (us.getD i.toNat 0 + (j : Int) - 16).toNat 0 = s.h.w.getD (us.getD i.toNat 0 + (j : Int) - 16).toNat 0) (β : Type) (K : Exit -> List CV -> List (List CV) -> Option β) :
    loopB z9a [3, 5, 9, 11, 14, 15, 16, 17] o9i p9i (bodyL (bodyOf Tryz.f9) p9i) (m + 1) [.ref 0, .ref 1, .ref 2, cI.enc a, cIs.enc us, cI.enc i, cI.enc n, cI.enc (j : Int)] (cHK.enc s) K =
      loopB z9a [3, 5, 9, 11, 14, 15, 16, 17] o9i p9i (bodyL (bodyOf Tryz.f9) p9i) m [.ref 0, .ref 1, .ref 2, cI.enc a, cIs.enc us, cI.enc i, cI.enc n, cI.enc ((j + 1 : Nat) : Int)] (cHK.enc s) K := by
  have hii : i.toNat < us.length := by omega
  have eg : us.getD i.toNat 0 = us[i.toNat] := by simp [hii]
  rw [eg] at h16 hend he
  have e1 : (encI us)[i.toNat]? = some [CV.int .i64 us[i.toNat]] := by simp [encI, hii]
  generalize us[i.toNat] = u at *
  have w1 : IntKind.i64.wrap (u + (j : Int)) = u + (j : Int) := wrap_in (by omega)
  have w2 : IntKind.i64.wrap (u + (j : Int) - 16) = u + (j : Int) - 16 := wrap_in (by omega)
  have w3 : IntKind.i64.wrap ((j : Int) + 1) = ((j + 1 : Nat) : Int) := by rw [wrap_in (by omega)]; omega
  have hx : (u + (j : Int) - 16).toNat < s.h.w.length := by omega
  have hy : (u + (j : Int) - 16).toNat < s.k.w.length := by omega
  have e2 : (encI s.h.w)[(u + (j : Int) - 16).toNat]? = some [CV.int .i64 (s.h.w.getD (u + (j : Int) - 16).toNat 0)] := by simp [encI, hx]
  have e3 : (encI s.k.w)[(u + (j : Int) - 16).toNat]? = some [CV.int .i64 (s.k.w.getD (u + (j : Int) - 16).toNat 0)] := by simp [encI, hy]
  rw [t9i, decide_eq_true hj, cond_true, rdE_nat hi0, e1, Option.bind_some, zero_get, Option.bind_some, asI_i, Option.bind_some, w1, w2, rdE_nat (by omega), e3, Option.bind_some, zero_get, Option.bind_some, asI_i, Option.bind_some, Option.bind_some, zero_get, Option.bind_some, asI_i, Option.bind_some, w1, w2, rdE_nat (by omega), e2, Option.bind_some, zero_get, Option.bind_some, asI_i, Option.bind_some, he, bne_self_eq_false, cond_false, w3]
  rfl
theorem keep_in (s : HK) (a : Int) (us : List Int) (i n : Int) (hi0 : 0 <= i) (hi : i < (us.length : Int)) (h16 : 16 <= us.getD i.toNat 0) (hend : us.getD i.toNat 0 - 16 + n <= (s.h.w.length : Int)) (hl : s.h.w.length <= 100000) (hk : s.k.w.length = s.h.w.length) (β : Type) (K : Exit -> List CV -> List (List CV) -> Option β) : ∀ (m j : Nat), j + m = n.toNat -> eqR ⟨s.h, s.k⟩ (us.getD i.toNat 0) m j = true ->
    loopB z9a [3, 5, 9, 11, 14, 15, 16, 17] o9i p9i (bodyL (bodyOf Tryz.f9) p9i) (m + 1) [.ref 0, .ref 1, .ref 2, cI.enc a, cIs.enc us, cI.enc i, cI.enc n, cI.enc (j : Int)] (cHK.enc s) K = K (.exit 2) [.ref 0, .ref 1, .ref 2, cI.enc a, cIs.enc us, cI.enc i] (cHK.enc s) := by
  intro m
  induction m with
  | zero =>
    intro j h1 _
    rw [t9i, decide_eq_false (by omega), cond_false]
    rfl
  | succ m ih =>
    intro j h1 he
    unfold eqR at he
    cases hq : ((⟨s.h, s.k⟩ : HH).k.w.getD (us.getD i.toNat 0 + (j : Int) - 16).toNat 0 != (⟨s.h, s.k⟩ : HH).h.w.getD (us.getD i.toNat 0 + (j : Int) - 16).toNat 0) with
    | true => rw [hq] at he; cases he
    | false =>
      rw [hq, cond_false] at he
      rw [keep_round s a us i n j (m + 1) hi0 hi (by omega) h16 hend hl hk (by simpa using hq)]
      exact ih (j + 1) (by omega) he
def L9i : LoopSem := l8 [3, 5, 9, 11, 14, 15, 16, 17] o9i (cRef 0) (cRef 1) (cRef 2) cI cIs cI cI cI cHK
  (fun _ _ _ _ us i n j s => decide (0 <= i) && (decide (i < (us.length : Int)) && (j == 0 && (decide (0 <= n) && (decide (16 <= us.getD i.toNat 0) && (decide (us.getD i.toNat 0 - 16 + n <= (s.h.w.length : Int)) && (decide (s.h.w.length <= 100000) && (decide (s.k.w.length = s.h.w.length) && eqR ⟨s.h, s.k⟩ (us.getD i.toNat 0) n.toNat 0))))))))
  fun _ _ _ a us i _ _ s => .one (.exit 2) [.ref 0, .ref 1, .ref 2, cI.enc a, cIs.enc us, cI.enc i] (cHK.enc s)
def zerR (k : Hp) (a : Int) : Nat -> Nat -> Bool
  | 0, _ => true
  | m + 1, j => bif k.w.getD (a + (j : Int) - 16).toNat 0 != 0 then false else zerR k a m (j + 1)
def L9w : LoopSem := l8 [5, 9, 11, 14, 18, 19, 20, 21] o9w (cRef 0) (cRef 1) cI cIs (cRef 2) cI cI cI cXK
  (fun _ _ a _ _ _ n j s => j == 1 && (decide (1 <= n) && (decide (16 <= a) && (decide (a - 16 + n <= (s.k.w.length : Int)) && (decide (s.k.w.length <= 100000) && zerR s.k a (n - 1).toNat 1)))))
  fun _ _ _ us _ g n _ s => .one (.exit 4) [.ref 0, .ref 1, cIs.enc us, .ref 2, cI.enc g, cI.enc n] (cXK.enc s)
abbrev l9G : List (Nat × Callee) := [(21, gAwakeA), (22, gFew), (34, gWhole), (23, gTake), (35, gUsed), (31, gBegins), (33, gHead)]
theorem z9a_ok : CxOK z9a l9G := CxOK.baseN (Good.cons awakeA_good (Good.cons fewA_good (Good.cons whole_good (Good.cons take_good (Good.cons used_good (Good.cons begins_good (Good.cons head_good Good.nil))))))) GoodI.nil (eqOK_head rfl rfl)
noncomputable abbrev z9b : Cx := z9a.loop p9i L9i
theorem z9b_ok : CxOK z9b l9G := by
  refine CxOK.loop8 z9a_ok rfl fun _ _ _ a us i n j s hp => ?_
  simp only [Bool.and_eq_true, beq_iff_eq, decide_eq_true_eq] at hp
  obtain ⟨hi0, hi, hj, hn, h16, hend, hl, hk, he⟩ := hp
  subst hj
  exact ⟨n.toNat + 1, fun β K => keep_in s a us i n hi0 hi h16 hend hl hk β K n.toNat 0 (by omega) he⟩
abbrev p9o := [false, true, false, true, true, true, true, true, true, true, true, true]
abbrev o9o : Exit -> List Nat := fun | .ret => [6] | _ => [5, 9, 11, 14]
set_option maxRecDepth 100000 in
theorem t9o (s : HK) (a : Int) (us : List Int) (i : Int) (m : Nat) (β : Type) (K : Exit -> List CV -> List (List CV) -> Option β) : loopB z9b [3, 5, 9, 11, 14, 15] o9o p9o (bodyL (bodyOf Tryz.f9) p9o) (m + 1) [.ref 0, .ref 1, .ref 2, cI.enc a, cIs.enc us, cI.enc i] (cHK.enc s) K =
 bif decide (i < (↑(List.length (encI us)) : Int)) then
 Option.bind (rdE (encI us) i) fun c =>
 Option.bind c[0]? fun x =>
 Option.bind (asI IntKind.i64 x) fun n =>
 Option.bind (decP (List.map encP (Hp.p (HK.h s)))) fun a_1 =>
 bif Nat.ble (List.length a_1) 200 then
 Option.bind (rdE (encI us) i) fun c =>
 Option.bind c[0]? fun x =>
 Option.bind (asI IntKind.i64 x) fun n_1 =>
 Option.bind (decP (List.map encP (Hp.p (HK.k s)))) fun a_2 =>
 bif Nat.ble (List.length a_2) 200 then
 bif roomA a_2 n_1 != roomA a_1 n then
 K Exit.ret [CV.bool false] [[CV.sl 1 (encI (Hp.w (HK.h s))), CV.sl 2 (List.map encP (Hp.p (HK.h s))), CV.sl 1 (encI (Ls.a (Hp.f (HK.h s)))), CV.sl 1 (encI (Ls.b (Hp.f (HK.h s)))), CV.sl 1 (encI (Ls.c (Hp.f (HK.h s)))), CV.sl 1 (encBs (Hp.c (HK.h s)))], [CV.bool (Hd.a (HK.x s)), CV.bool (Hd.b (HK.x s)), CV.bool (Hd.c (HK.x s)), CV.int IntKind.i64 (Hd.x (HK.x s)), CV.int IntKind.i64 (Hd.y (HK.x s)), CV.int IntKind.i64 (Hd.z (HK.x s))], [CV.sl 1 (encI (Hp.w (HK.k s))), CV.sl 2 (List.map encP (Hp.p (HK.k s))), CV.sl 1 (encI (Ls.a (Hp.f (HK.k s)))), CV.sl 1 (encI (Ls.b (Hp.f (HK.k s)))), CV.sl 1 (encI (Ls.c (Hp.f (HK.k s)))), CV.sl 1 (encBs (Hp.c (HK.k s)))]]
 else
 Option.bind (rdE (encI us) i) fun c =>
 Option.bind c[0]? fun x =>
 Option.bind (asI IntKind.i64 x) fun n_2 =>
 bif n_2 == a then
 K Exit.ret [CV.bool false] [[CV.sl 1 (encI (Hp.w (HK.h s))), CV.sl 2 (List.map encP (Hp.p (HK.h s))), CV.sl 1 (encI (Ls.a (Hp.f (HK.h s)))), CV.sl 1 (encI (Ls.b (Hp.f (HK.h s)))), CV.sl 1 (encI (Ls.c (Hp.f (HK.h s)))), CV.sl 1 (encBs (Hp.c (HK.h s)))], [CV.bool (Hd.a (HK.x s)), CV.bool (Hd.b (HK.x s)), CV.bool (Hd.c (HK.x s)), CV.int IntKind.i64 (Hd.x (HK.x s)), CV.int IntKind.i64 (Hd.y (HK.x s)), CV.int IntKind.i64 (Hd.z (HK.x s))], [CV.sl 1 (encI (Hp.w (HK.k s))), CV.sl 2 (List.map encP (Hp.p (HK.k s))), CV.sl 1 (encI (Ls.a (Hp.f (HK.k s)))), CV.sl 1 (encI (Ls.b (Hp.f (HK.k s)))), CV.sl 1 (encI (Ls.c (Hp.f (HK.k s)))), CV.sl 1 (encBs (Hp.c (HK.k s)))]]
 else
 Option.bind (decI (encI us)) fun e =>
 Option.bind (Option.bind (decW (encI (Hp.w (HK.h s))) (List.map encP (Hp.p (HK.h s))) (encI (Ls.a (Hp.f (HK.h s)))) (encI (Ls.b (Hp.f (HK.h s)))) (encI (Ls.c (Hp.f (HK.h s)))) (encBs (Hp.c (HK.h s)))) fun h =>
 Option.bind (decW (encI (Hp.w (HK.k s))) (List.map encP (Hp.p (HK.k s))) (encI (Ls.a (Hp.f (HK.k s)))) (encI (Ls.b (Hp.f (HK.k s)))) (encI (Ls.c (Hp.f (HK.k s)))) (encBs (Hp.c (HK.k s)))) fun k => some { h := h, x := { a := Hd.a (HK.x s), b := Hd.b (HK.x s), c := Hd.c (HK.x s), x := Hd.x (HK.x s), y := Hd.y (HK.x s), z := Hd.z (HK.x s) }, k := k }) fun u =>
 bif decide (0 <= i) && (decide (i < (↑(List.length e) : Int)) && (decide (0 <= roomA a_1 n) && (decide (16 <= List.getD e (Int.toNat i) 0) && (decide (List.getD e (Int.toNat i) 0 - 16 + roomA a_1 n <= (↑(List.length (Hp.w (HK.h u))) : Int)) && (decide (List.length (Hp.w (HK.h u)) <= 100000) && (decide (List.length (Hp.w (HK.k u)) = List.length (Hp.w (HK.h u))) && eqR { h := HK.h u, k := HK.k u } (List.getD e (Int.toNat i) 0) (Int.toNat (roomA a_1 n)) 0)))))) then loopB z9b [3, 5, 9, 11, 14, 15] o9o [false, true, false, true, true, true, true, true, true, true, true, true] (bodyL (bodyOf Tryz.f9) p9o) m [CV.ref 0, CV.ref 1, CV.ref 2, CV.int IntKind.i64 a, CV.sl 1 (encI e), CV.int IntKind.i64 (IntKind.wrap IntKind.i64 (i + 1))] [[CV.sl 1 (encI (Hp.w (HK.h u))), CV.sl 2 (List.map encP (Hp.p (HK.h u))), CV.sl 1 (encI (Ls.a (Hp.f (HK.h u)))), CV.sl 1 (encI (Ls.b (Hp.f (HK.h u)))), CV.sl 1 (encI (Ls.c (Hp.f (HK.h u)))), CV.sl 1 (encBs (Hp.c (HK.h u)))], [CV.bool (Hd.a (HK.x u)), CV.bool (Hd.b (HK.x u)), CV.bool (Hd.c (HK.x u)), CV.int IntKind.i64 (Hd.x (HK.x u)), CV.int IntKind.i64 (Hd.y (HK.x u)), CV.int IntKind.i64 (Hd.z (HK.x u))], [CV.sl 1 (encI (Hp.w (HK.k u))), CV.sl 2 (List.map encP (Hp.p (HK.k u))), CV.sl 1 (encI (Ls.a (Hp.f (HK.k u)))), CV.sl 1 (encI (Ls.b (Hp.f (HK.k u)))), CV.sl 1 (encI (Ls.c (Hp.f (HK.k u)))), CV.sl 1 (encBs (Hp.c (HK.k u)))]] fun a a_3 a_4 => K a a_3 a_4
 else none
 else none
 else none
 else
 K (Exit.exit 0) [CV.ref 1, CV.ref 2, CV.int IntKind.i64 a, CV.sl 1 (encI us)] [[CV.sl 1 (encI (Hp.w (HK.h s))), CV.sl 2 (List.map encP (Hp.p (HK.h s))), CV.sl 1 (encI (Ls.a (Hp.f (HK.h s)))), CV.sl 1 (encI (Ls.b (Hp.f (HK.h s)))), CV.sl 1 (encI (Ls.c (Hp.f (HK.h s)))), CV.sl 1 (encBs (Hp.c (HK.h s)))], [CV.bool (Hd.a (HK.x s)), CV.bool (Hd.b (HK.x s)), CV.bool (Hd.c (HK.x s)), CV.int IntKind.i64 (Hd.x (HK.x s)), CV.int IntKind.i64 (Hd.y (HK.x s)), CV.int IntKind.i64 (Hd.z (HK.x s))], [CV.sl 1 (encI (Hp.w (HK.k s))), CV.sl 2 (List.map encP (Hp.p (HK.k s))), CV.sl 1 (encI (Ls.a (Hp.f (HK.k s)))), CV.sl 1 (encI (Ls.b (Hp.f (HK.k s)))), CV.sl 1 (encI (Ls.c (Hp.f (HK.k s)))), CV.sl 1 (encBs (Hp.c (HK.k s)))]] := by kernel_rfl
end Go.Ab

namespace Go.Ab
open Go
open Go.Proofs
def good9 (s : HK) (a u : Int) : Bool := !(u == a) && (roomA s.k.p u == roomA s.h.p u && (okU ⟨s.h, s.k⟩ u && eqR ⟨s.h, s.k⟩ u (roomA s.h.p u).toNat 0))
theorem keep_out_round (s : HK) (a : Int) (us : List Int) (i m : Nat) (hi : i < us.length) (hus : us.length <= 100000) (hu : good9 s a us[i] = true) (hl : s.h.w.length <= 100000) (hk : s.k.w.length = s.h.w.length) (hp : Nat.ble s.h.p.length 200 = true) (hq : Nat.ble s.k.p.length 200 = true) (β : Type) (K : Exit -> List CV -> List (List CV) -> Option β) :
    loopB z9b [3, 5, 9, 11, 14, 15] o9o p9o (bodyL (bodyOf Tryz.f9) p9o) (m + 1) [.ref 0, .ref 1, .ref 2, cI.enc a, cIs.enc us, cI.enc (i : Int)] (cHK.enc s) K =
      loopB z9b [3, 5, 9, 11, 14, 15] o9o p9o (bodyL (bodyOf Tryz.f9) p9o) m [.ref 0, .ref 1, .ref 2, cI.enc a, cIs.enc us, cI.enc ((i + 1 : Nat) : Int)] (cHK.enc s) K := by
  unfold good9 okU at hu
  simp only [Bool.and_eq_true, decide_eq_true_eq, beq_iff_eq, Bool.not_eq_true', beq_eq_false_iff_ne] at hu
  obtain ⟨hne, hr, ⟨h16, h0, hend⟩, hE⟩ := hu
  have e1 : (encI us)[(i : Int).toNat]? = some [CV.int .i64 us[i]] := by simp [encI, hi]
  have w3 : IntKind.i64.wrap ((i : Int) + 1) = ((i + 1 : Nat) : Int) := by rw [wrap_in (by omega)]; omega
  have eh : (⟨s.h, ⟨s.x.a, s.x.b, s.x.c, s.x.x, s.x.y, s.x.z⟩, s.k⟩ : HK) = s := rfl
  have eg : us.getD (i : Int).toNat 0 = us[i] := by simp [hi]
  have d1 : decide ((0 : Int) <= (i : Int)) = true := decide_eq_true (by omega)
  have d2 : decide ((i : Int) < (us.length : Int)) = true := decide_eq_true (by omega)
  have d3 : decide (16 <= us[i]) = true := decide_eq_true h16
  have d4 : decide (0 <= roomA s.h.p us[i]) = true := decide_eq_true h0
  have d5 : decide (us[i] - 16 + roomA s.h.p us[i] <= (s.h.w.length : Int)) = true := decide_eq_true hend
  have d6 : decide (s.h.w.length <= 100000) = true := decide_eq_true hl
  have d7 : decide (s.k.w.length = s.h.w.length) = true := decide_eq_true hk
  have hne' : (us[i] == a) = false := beq_eq_false_iff_ne.2 hne
  rw [t9o, decide_eq_true (by rw [encI_len]; omega), cond_true, rdE_nat (by omega), e1, Option.bind_some, zero_get, Option.bind_some, asI_i, Option.bind_some, decP_map, Option.bind_some, hp, cond_true, Option.bind_some, zero_get, Option.bind_some, asI_i, Option.bind_some, decP_map, Option.bind_some, hq, cond_true, hr, bne_self_eq_false, cond_false, Option.bind_some, zero_get, Option.bind_some, asI_i, Option.bind_some, hne', cond_false,
    decI_map, Option.bind_some, decW_enc, Option.bind_some, decW_enc, Option.bind_some, Option.bind_some, eh, eg, d1, d2, d3, d4, d5, d6, d7, hE, Bool.and_self, Bool.and_self, Bool.and_self, Bool.and_self, Bool.and_self, Bool.and_self, Bool.and_self, cond_true, w3]
  rfl
theorem keep_out (s : HK) (a : Int) (us : List Int) (hus : us.length <= 100000) (hu : us.all (good9 s a) = true) (hl : s.h.w.length <= 100000) (hk : s.k.w.length = s.h.w.length) (hp : Nat.ble s.h.p.length 200 = true) (hq : Nat.ble s.k.p.length 200 = true) (β : Type) (K : Exit -> List CV -> List (List CV) -> Option β) : ∀ (m i : Nat), i + m = us.length ->
    loopB z9b [3, 5, 9, 11, 14, 15] o9o p9o (bodyL (bodyOf Tryz.f9) p9o) (m + 1) [.ref 0, .ref 1, .ref 2, cI.enc a, cIs.enc us, cI.enc (i : Int)] (cHK.enc s) K = K (.exit 0) [.ref 1, .ref 2, cI.enc a, cIs.enc us] (cHK.enc s) := by
  intro m
  induction m with
  | zero =>
    intro i h1
    rw [t9o, decide_eq_false (by rw [encI_len]; omega), cond_false]
    rfl
  | succ m ih =>
    intro i h1
    have hi : i < us.length := by omega
    rw [keep_out_round s a us i (m + 1) hi hus (List.all_eq_true.1 hu _ (List.getElem_mem hi)) hl hk hp hq]
    exact ih (i + 1) (by omega)
def L9o : LoopSem := l6 [3, 5, 9, 11, 14, 15] o9o (cRef 0) (cRef 1) (cRef 2) cI cIs cI cHK
  (fun _ _ _ a us i s => i == 0 && (decide (us.length <= 100000) && (us.all (good9 s a) && (decide (s.h.w.length <= 100000) && (decide (s.k.w.length = s.h.w.length) && (Nat.ble s.h.p.length 200 && Nat.ble s.k.p.length 200))))))
  fun _ _ _ a us _ s => .one (.exit 0) [.ref 1, .ref 2, cI.enc a, cIs.enc us] (cHK.enc s)
noncomputable abbrev z9c : Cx := z9b.loop p9o L9o
theorem z9c_ok : CxOK z9c l9G := by
  refine CxOK.loop6 z9b_ok rfl fun _ _ _ a us i s hp => ?_
  simp only [Bool.and_eq_true, beq_iff_eq, decide_eq_true_eq] at hp
  obtain ⟨hi, hus, hu, hl, hk, hp, hq⟩ := hp
  subst hi
  exact ⟨us.length + 1, fun β K => keep_out s a us hus hu hl hk hp hq β K us.length 0 (by omega)⟩
set_option maxRecDepth 100000 in
theorem t9w (s : XK) (a : Int) (us : List Int) (g n j : Int) (m : Nat) (β : Type) (K : Exit -> List CV -> List (List CV) -> Option β) : loopB z9c [5, 9, 11, 14, 18, 19, 20, 21] o9w p9w (bodyL (bodyOf Tryz.f9) p9w) (m + 1) [.ref 0, .ref 1, cI.enc a, cIs.enc us, .ref 2, cI.enc g, cI.enc n, cI.enc j] (cXK.enc s) K =
 bif decide (j < n) then
 Option.bind (rdE (encI (Hp.w (XK.k s))) (IntKind.wrap IntKind.i64 (IntKind.wrap IntKind.i64 (a + j) - 16))) fun c =>
 Option.bind c[0]? fun x =>
 Option.bind (asI IntKind.i64 x) fun n_1 =>
 bif n_1 != 0 then
 K Exit.ret [CV.bool false] [[CV.bool (Hd.a (XK.x s)), CV.bool (Hd.b (XK.x s)), CV.bool (Hd.c (XK.x s)), CV.int IntKind.i64 (Hd.x (XK.x s)), CV.int IntKind.i64 (Hd.y (XK.x s)), CV.int IntKind.i64 (Hd.z (XK.x s))], [CV.sl 1 (encI (Hp.w (XK.k s))), CV.sl 2 (List.map encP (Hp.p (XK.k s))), CV.sl 1 (encI (Ls.a (Hp.f (XK.k s)))), CV.sl 1 (encI (Ls.b (Hp.f (XK.k s)))), CV.sl 1 (encI (Ls.c (Hp.f (XK.k s)))), CV.sl 1 (encBs (Hp.c (XK.k s)))], [CV.bool (Hd.a (XK.y s)), CV.bool (Hd.b (XK.y s)), CV.bool (Hd.c (XK.y s)), CV.int IntKind.i64 (Hd.x (XK.y s)), CV.int IntKind.i64 (Hd.y (XK.y s)), CV.int IntKind.i64 (Hd.z (XK.y s))]]
 else loopB z9c [5, 9, 11, 14, 18, 19, 20, 21] o9w [false, true, false, true, true, true, true, true, true, true, true, true, true, true, true] (bodyL (bodyOf Tryz.f9) p9w) m [CV.ref 0, CV.ref 1, CV.int IntKind.i64 a, CV.sl 1 (encI us), CV.ref 2, CV.int IntKind.i64 g, CV.int IntKind.i64 n, CV.int IntKind.i64 (IntKind.wrap IntKind.i64 (j + 1))] [[CV.bool (Hd.a (XK.x s)), CV.bool (Hd.b (XK.x s)), CV.bool (Hd.c (XK.x s)), CV.int IntKind.i64 (Hd.x (XK.x s)), CV.int IntKind.i64 (Hd.y (XK.x s)), CV.int IntKind.i64 (Hd.z (XK.x s))], [CV.sl 1 (encI (Hp.w (XK.k s))), CV.sl 2 (List.map encP (Hp.p (XK.k s))), CV.sl 1 (encI (Ls.a (Hp.f (XK.k s)))), CV.sl 1 (encI (Ls.b (Hp.f (XK.k s)))), CV.sl 1 (encI (Ls.c (Hp.f (XK.k s)))), CV.sl 1 (encBs (Hp.c (XK.k s)))], [CV.bool (Hd.a (XK.y s)), CV.bool (Hd.b (XK.y s)), CV.bool (Hd.c (XK.y s)), CV.int IntKind.i64 (Hd.x (XK.y s)), CV.int IntKind.i64 (Hd.y (XK.y s)), CV.int IntKind.i64 (Hd.z (XK.y s))]] fun a a_1 a_2 => K a a_1 a_2
 else
 K (Exit.exit 4) [CV.ref 0, CV.ref 1, CV.sl 1 (encI us), CV.ref 2, CV.int IntKind.i64 g, CV.int IntKind.i64 n] [[CV.bool (Hd.a (XK.x s)), CV.bool (Hd.b (XK.x s)), CV.bool (Hd.c (XK.x s)), CV.int IntKind.i64 (Hd.x (XK.x s)), CV.int IntKind.i64 (Hd.y (XK.x s)), CV.int IntKind.i64 (Hd.z (XK.x s))], [CV.sl 1 (encI (Hp.w (XK.k s))), CV.sl 2 (List.map encP (Hp.p (XK.k s))), CV.sl 1 (encI (Ls.a (Hp.f (XK.k s)))), CV.sl 1 (encI (Ls.b (Hp.f (XK.k s)))), CV.sl 1 (encI (Ls.c (Hp.f (XK.k s)))), CV.sl 1 (encBs (Hp.c (XK.k s)))], [CV.bool (Hd.a (XK.y s)), CV.bool (Hd.b (XK.y s)), CV.bool (Hd.c (XK.y s)), CV.int IntKind.i64 (Hd.x (XK.y s)), CV.int IntKind.i64 (Hd.y (XK.y s)), CV.int IntKind.i64 (Hd.z (XK.y s))]] := by kernel_rfl
theorem zero_in9 (s : XK) (a : Int) (us : List Int) (g n : Int) (h16 : 16 <= a) (hend : a - 16 + n <= (s.k.w.length : Int)) (hl : s.k.w.length <= 100000) (β : Type) (K : Exit -> List CV -> List (List CV) -> Option β) : ∀ (m j : Nat), (j : Int) + m = n -> zerR s.k a m j = true ->
    loopB z9c [5, 9, 11, 14, 18, 19, 20, 21] o9w p9w (bodyL (bodyOf Tryz.f9) p9w) (m + 1) [.ref 0, .ref 1, cI.enc a, cIs.enc us, .ref 2, cI.enc g, cI.enc n, cI.enc (j : Int)] (cXK.enc s) K = K (.exit 4) [.ref 0, .ref 1, cIs.enc us, .ref 2, cI.enc g, cI.enc n] (cXK.enc s) := by
  intro m
  induction m with
  | zero =>
    intro j h1 _
    rw [t9w, decide_eq_false (by omega), cond_false]
    rfl
  | succ m ih =>
    intro j h1 he
    have w1 : IntKind.i64.wrap (a + (j : Int)) = a + (j : Int) := wrap_in (by omega)
    have w2 : IntKind.i64.wrap (a + (j : Int) - 16) = a + (j : Int) - 16 := wrap_in (by omega)
    have w3 : IntKind.i64.wrap ((j : Int) + 1) = ((j + 1 : Nat) : Int) := by rw [wrap_in (by omega)]; omega
    have hy : (a + (j : Int) - 16).toNat < s.k.w.length := by omega
    have e3 : (encI s.k.w)[(a + (j : Int) - 16).toNat]? = some [CV.int .i64 (s.k.w.getD (a + (j : Int) - 16).toNat 0)] := by simp [encI, hy]
    unfold zerR at he
    cases hq : (s.k.w.getD (a + (j : Int) - 16).toNat 0 != 0) with
    | true => rw [hq] at he; cases he
    | false =>
      rw [hq, cond_false] at he
      rw [t9w, decide_eq_true (by omega), cond_true, w1, w2, rdE_nat (by omega), e3, Option.bind_some, zero_get, Option.bind_some, asI_i, Option.bind_some, hq, cond_false, w3]
      exact ih (j + 1) (by omega) he
noncomputable abbrev z9 : Cx := z9c.loop p9w L9w
theorem z9_ok : CxOK z9 l9G := by
  refine CxOK.loop8 z9c_ok rfl fun _ _ a us _ g n j s hp => ?_
  simp only [Bool.and_eq_true, beq_iff_eq, decide_eq_true_eq] at hp
  obtain ⟨hj, hn, h16, hend, hl, hz⟩ := hp
  subst hj
  exact ⟨(n - 1).toNat + 1, fun β K => zero_in9 s a us g n h16 hend hl β K (n - 1).toNat 1 (by omega) hz⟩
end Go.Ab

namespace Go.Ab
open Go
open Go.Proofs
set_option maxRecDepth 100000 in
theorem zr9 (h : Hp) (ls : List Ls) (x : Hd) (β : Type) (K : CV -> List (List CV) -> Option β) : fnK z9 Tryz.f9 [cHp.enc h, cLss.enc ls, cHd.enc x] [] K =
 Option.bind (Option.bind (decI (encI (Hp.w h))) fun w =>
 Option.bind (decP (List.map encP (Hp.p h))) fun p =>
 Option.bind (decI (encI (Ls.a (Hp.f h)))) fun a =>
 Option.bind (decI (encI (Ls.b (Hp.f h)))) fun b =>
 Option.bind (decI (encI (Ls.c (Hp.f h)))) fun c =>
 Option.bind (decBs (encBs (Hp.c h))) fun d => some { w := w, p := p, f := { a := a, b := b, c := c }, c := d }) fun a =>
 Option.bind (decLs (List.map encLs ls)) fun b =>
 bif Nat.ble (List.length b) 9223372036854775807 then
 bif !fewV a b then K (CV.bool true) []
 else
 bif decide ((↑(List.length (List.map encLs ls)) : Int) < 1) then K (CV.bool true) []
 else
 Option.bind (Option.bind (decI (encI (Hp.w h))) fun w =>
 Option.bind (decP (List.map encP (Hp.p h))) fun p =>
 Option.bind (decI (encI (Ls.a (Hp.f h)))) fun a =>
 Option.bind (decI (encI (Ls.b (Hp.f h)))) fun b =>
 Option.bind (decI (encI (Ls.c (Hp.f h)))) fun c =>
 Option.bind (decBs (encBs (Hp.c h))) fun d => some { w := w, p := p, f := { a := a, b := b, c := c }, c := d }) fun a =>
 Option.bind (decLs (List.map encLs ls)) fun b =>
 bif smH a && smLs (Hp.f a :: b) then
 bif !wholeHV a b then K (CV.bool true) []
 else
 Option.bind (rdE (List.map encLs ls) 0) fun c =>
 Option.bind c[0]? fun x_1 =>
 Option.bind (asL 1 x_1) fun l =>
 Option.bind c[1]? fun x_2 =>
 Option.bind (asL 1 x_2) fun l_1 =>
 Option.bind c[2]? fun x_3 =>
 Option.bind (asL 1 x_3) fun l_2 =>
 Option.bind (Option.bind (decI (encI (Hp.w h))) fun w =>
 Option.bind (decP (List.map encP (Hp.p h))) fun p =>
 Option.bind (decI (encI (Ls.a (Hp.f h)))) fun a =>
 Option.bind (decI (encI (Ls.b (Hp.f h)))) fun b =>
 Option.bind (decI (encI (Ls.c (Hp.f h)))) fun c =>
 Option.bind (decBs (encBs (Hp.c h))) fun d => some { w := w, p := p, f := { a := a, b := b, c := c }, c := d }) fun a =>
 Option.bind (Option.bind (decI l) fun a =>
 Option.bind (decI l_1) fun b =>
 Option.bind (decI l_2) fun c => some { a := a, b := b, c := c }) fun b =>
 bif preT a b then
 bif Prod.snd (Prod.snd (Prod.snd (takeE a b { a := Hd.a x, b := Hd.b x, c := Hd.c x, x := Hd.x x, y := Hd.y x, z := Hd.z x }))) != 0 then
 bif (↑(List.length (encI (Hp.w (Prod.fst (takeE a b { a := Hd.a x, b := Hd.b x, c := Hd.c x, x := Hd.x x, y := Hd.y x, z := Hd.z x }))))) : Int) == 0 then
 K (CV.bool (Prod.fst (Prod.snd (Prod.snd (takeE a b { a := Hd.a x, b := Hd.b x, c := Hd.c x, x := Hd.x x, y := Hd.y x, z := Hd.z x }))) == 0)) []
 else K (CV.bool false) []
 else
 bif okBounds (List.length (List.map encLs ls)) (some 1) none none then
 if List.length ([[CV.sl 1 (encI (Ls.a (Prod.fst (Prod.snd (takeE a b { a := Hd.a x, b := Hd.b x, c := Hd.c x, x := Hd.x x, y := Hd.y x, z := Hd.z x }))))), CV.sl 1 (encI (Ls.b (Prod.fst (Prod.snd (takeE a b { a := Hd.a x, b := Hd.b x, c := Hd.c x, x := Hd.x x, y := Hd.y x, z := Hd.z x }))))), CV.sl 1 (encI (Ls.c (Prod.fst (Prod.snd (takeE a b { a := Hd.a x, b := Hd.b x, c := Hd.c x, x := Hd.x x, y := Hd.y x, z := Hd.z x })))))]] ++ subl (List.map encLs ls) 1 (Int.toNat (Option.getD none (↑(List.length (List.map encLs ls)) : Int) - 1))) <= LIM then
 Option.bind (Option.bind (decI (encI (Hp.w (Prod.fst (takeE a b { a := Hd.a x, b := Hd.b x, c := Hd.c x, x := Hd.x x, y := Hd.y x, z := Hd.z x }))))) fun w =>
 Option.bind (decP (List.map encP (Hp.p (Prod.fst (takeE a b { a := Hd.a x, b := Hd.b x, c := Hd.c x, x := Hd.x x, y := Hd.y x, z := Hd.z x }))))) fun p =>
 Option.bind (decI (encI (Ls.a (Hp.f (Prod.fst (takeE a b { a := Hd.a x, b := Hd.b x, c := Hd.c x, x := Hd.x x, y := Hd.y x, z := Hd.z x })))))) fun a_1 =>
 Option.bind (decI (encI (Ls.b (Hp.f (Prod.fst (takeE a b { a := Hd.a x, b := Hd.b x, c := Hd.c x, x := Hd.x x, y := Hd.y x, z := Hd.z x })))))) fun b_1 =>
 Option.bind (decI (encI (Ls.c (Hp.f (Prod.fst (takeE a b { a := Hd.a x, b := Hd.b x, c := Hd.c x, x := Hd.x x, y := Hd.y x, z := Hd.z x })))))) fun c =>
 Option.bind (decBs (encBs (Hp.c (Prod.fst (takeE a b { a := Hd.a x, b := Hd.b x, c := Hd.c x, x := Hd.x x, y := Hd.y x, z := Hd.z x }))))) fun d => some { w := w, p := p, f := { a := a_1, b := b_1, c := c }, c := d }) fun a_1 =>
 Option.bind (decLs ([CV.sl 1 (encI (Ls.a (Prod.fst (Prod.snd (takeE a b { a := Hd.a x, b := Hd.b x, c := Hd.c x, x := Hd.x x, y := Hd.y x, z := Hd.z x }))))), CV.sl 1 (encI (Ls.b (Prod.fst (Prod.snd (takeE a b { a := Hd.a x, b := Hd.b x, c := Hd.c x, x := Hd.x x, y := Hd.y x, z := Hd.z x }))))), CV.sl 1 (encI (Ls.c (Prod.fst (Prod.snd (takeE a b { a := Hd.a x, b := Hd.b x, c := Hd.c x, x := Hd.x x, y := Hd.y x, z := Hd.z x })))))] :: List.append [] (subl (List.map encLs ls) 1 (Int.toNat (Option.getD none (↑(List.length (List.map encLs ls)) : Int) - 1))))) fun b_1 =>
 bif smH a_1 && smLs (Hp.f a_1 :: b_1) then
 bif !wholeHV a_1 b_1 then K (CV.bool false) []
 else
 bif (↑(List.length (encI (Hp.w (Prod.fst (takeE a b { a := Hd.a x, b := Hd.b x, c := Hd.c x, x := Hd.x x, y := Hd.y x, z := Hd.z x }))))) : Int) != (↑(List.length (encI (Hp.w h))) : Int) then
 K (CV.bool false) []
 else
 Option.bind (Option.bind (decI (encI (Hp.w h))) fun w =>
 Option.bind (decP (List.map encP (Hp.p h))) fun p =>
 Option.bind (decI (encI (Ls.a (Hp.f h)))) fun a =>
 Option.bind (decI (encI (Ls.b (Hp.f h)))) fun b =>
 Option.bind (decI (encI (Ls.c (Hp.f h)))) fun c =>
 Option.bind (decBs (encBs (Hp.c h))) fun d => some { w := w, p := p, f := { a := a, b := b, c := c }, c := d }) fun a_2 =>
 bif smH a_2 && smLs [Hp.f a_2] then
 Option.bind (decI (encI (usedE a_2))) fun e =>
 Option.bind (Option.bind (decW (encI (Hp.w h)) (List.map encP (Hp.p h)) (encI (Ls.a (Hp.f h))) (encI (Ls.b (Hp.f h))) (encI (Ls.c (Hp.f h))) (encBs (Hp.c h))) fun h =>
 Option.bind (decW (encI (Hp.w (Prod.fst (takeE a b { a := Hd.a x, b := Hd.b x, c := Hd.c x, x := Hd.x x, y := Hd.y x, z := Hd.z x })))) (List.map encP (Hp.p (Prod.fst (takeE a b { a := Hd.a x, b := Hd.b x, c := Hd.c x, x := Hd.x x, y := Hd.y x, z := Hd.z x })))) (encI (Ls.a (Hp.f (Prod.fst (takeE a b { a := Hd.a x, b := Hd.b x, c := Hd.c x, x := Hd.x x, y := Hd.y x, z := Hd.z x }))))) (encI (Ls.b (Hp.f (Prod.fst (takeE a b { a := Hd.a x, b := Hd.b x, c := Hd.c x, x := Hd.x x, y := Hd.y x, z := Hd.z x }))))) (encI (Ls.c (Hp.f (Prod.fst (takeE a b { a := Hd.a x, b := Hd.b x, c := Hd.c x, x := Hd.x x, y := Hd.y x, z := Hd.z x }))))) (encBs (Hp.c (Prod.fst (takeE a b { a := Hd.a x, b := Hd.b x, c := Hd.c x, x := Hd.x x, y := Hd.y x, z := Hd.z x }))))) fun k => some { h := h, x := { a := Hd.a x, b := Hd.b x, c := Hd.c x, x := Hd.x x, y := Hd.y x, z := Hd.z x }, k := k }) fun u =>
 bif decide (List.length e <= 100000) && (List.all e (good9 u (Prod.fst (Prod.snd (Prod.snd (takeE a b { a := Hd.a x, b := Hd.b x, c := Hd.c x, x := Hd.x x, y := Hd.y x, z := Hd.z x }))))) && (decide (List.length (Hp.w (HK.h u)) <= 100000) && (decide (List.length (Hp.w (HK.k u)) = List.length (Hp.w (HK.h u))) && (Nat.ble (List.length (Hp.p (HK.h u))) 200 && Nat.ble (List.length (Hp.p (HK.k u))) 200)))) then
 Option.bind (Option.bind (decI (encI (Hp.w (HK.k u)))) fun w =>
 Option.bind (decP (List.map encP (Hp.p (HK.k u)))) fun p =>
 Option.bind (decI (encI (Ls.a (Hp.f (HK.k u))))) fun a =>
 Option.bind (decI (encI (Ls.b (Hp.f (HK.k u))))) fun b =>
 Option.bind (decI (encI (Ls.c (Hp.f (HK.k u))))) fun c =>
 Option.bind (decBs (encBs (Hp.c (HK.k u)))) fun d => some { w := w, p := p, f := { a := a, b := b, c := c }, c := d }) fun a_3 =>
 bif smH a_3 && smLs [Hp.f a_3] then
 Option.bind (decP (List.map encP (Hp.p (HK.k u)))) fun a_4 =>
 bif Nat.ble (List.length a_4) 200 then
 Option.bind (decI (encI e)) fun d =>
 Option.bind (Option.bind (decW (encI (Hp.w (HK.k u))) (List.map encP (Hp.p (HK.k u))) (encI (Ls.a (Hp.f (HK.k u)))) (encI (Ls.b (Hp.f (HK.k u)))) (encI (Ls.c (Hp.f (HK.k u)))) (encBs (Hp.c (HK.k u)))) fun k => some { x := { a := Hd.a (HK.x u), b := Hd.b (HK.x u), c := Hd.c (HK.x u), x := Hd.x (HK.x u), y := Hd.y (HK.x u), z := Hd.z (HK.x u) }, k := k, y := { a := Hd.a (Prod.fst (headE a_3 (Prod.fst (Prod.snd (Prod.snd (takeE a b { a := Hd.a x, b := Hd.b x, c := Hd.c x, x := Hd.x x, y := Hd.y x, z := Hd.z x })))))), b := Hd.b (Prod.fst (headE a_3 (Prod.fst (Prod.snd (Prod.snd (takeE a b { a := Hd.a x, b := Hd.b x, c := Hd.c x, x := Hd.x x, y := Hd.y x, z := Hd.z x })))))), c := Hd.c (Prod.fst (headE a_3 (Prod.fst (Prod.snd (Prod.snd (takeE a b { a := Hd.a x, b := Hd.b x, c := Hd.c x, x := Hd.x x, y := Hd.y x, z := Hd.z x })))))), x := Hd.x (Prod.fst (headE a_3 (Prod.fst (Prod.snd (Prod.snd (takeE a b { a := Hd.a x, b := Hd.b x, c := Hd.c x, x := Hd.x x, y := Hd.y x, z := Hd.z x })))))), y := Hd.y (Prod.fst (headE a_3 (Prod.fst (Prod.snd (Prod.snd (takeE a b { a := Hd.a x, b := Hd.b x, c := Hd.c x, x := Hd.x x, y := Hd.y x, z := Hd.z x })))))), z := Hd.z (Prod.fst (headE a_3 (Prod.fst (Prod.snd (Prod.snd (takeE a b { a := Hd.a x, b := Hd.b x, c := Hd.c x, x := Hd.x x, y := Hd.y x, z := Hd.z x })))))) } }) fun u =>
 bif decide (1 <= roomA a_4 (Prod.fst (Prod.snd (Prod.snd (takeE a b { a := Hd.a x, b := Hd.b x, c := Hd.c x, x := Hd.x x, y := Hd.y x, z := Hd.z x }))))) && (decide (16 <= Prod.fst (Prod.snd (Prod.snd (takeE a b { a := Hd.a x, b := Hd.b x, c := Hd.c x, x := Hd.x x, y := Hd.y x, z := Hd.z x })))) && (decide (Prod.fst (Prod.snd (Prod.snd (takeE a b { a := Hd.a x, b := Hd.b x, c := Hd.c x, x := Hd.x x, y := Hd.y x, z := Hd.z x }))) - 16 + roomA a_4 (Prod.fst (Prod.snd (Prod.snd (takeE a b { a := Hd.a x, b := Hd.b x, c := Hd.c x, x := Hd.x x, y := Hd.y x, z := Hd.z x })))) <= (↑(List.length (Hp.w (XK.k u))) : Int)) && (decide (List.length (Hp.w (XK.k u)) <= 100000) && zerR (XK.k u) (Prod.fst (Prod.snd (Prod.snd (takeE a b { a := Hd.a x, b := Hd.b x, c := Hd.c x, x := Hd.x x, y := Hd.y x, z := Hd.z x })))) (Int.toNat (roomA a_4 (Prod.fst (Prod.snd (Prod.snd (takeE a b { a := Hd.a x, b := Hd.b x, c := Hd.c x, x := Hd.x x, y := Hd.y x, z := Hd.z x })))) - 1)) 1))) then
 bif Prod.snd (headE a_3 (Prod.fst (Prod.snd (Prod.snd (takeE a b { a := Hd.a x, b := Hd.b x, c := Hd.c x, x := Hd.x x, y := Hd.y x, z := Hd.z x }))))) == 0 then
 bif Hd.a (XK.y u) == Hd.a (XK.x u) && (Hd.b (XK.y u) == Hd.b (XK.x u) && (Hd.c (XK.y u) == Hd.c (XK.x u) && (Hd.x (XK.y u) == Hd.x (XK.x u) && (Hd.y (XK.y u) == Hd.y (XK.x u) && (Hd.z (XK.y u) == Hd.z (XK.x u) && true))))) then
 bif decide (roomA a_4 (Prod.fst (Prod.snd (Prod.snd (takeE a b { a := Hd.a x, b := Hd.b x, c := Hd.c x, x := Hd.x x, y := Hd.y x, z := Hd.z x })))) > Hd.x (XK.x u)) then
 Option.bind (Option.bind (decI (encI (Hp.w (XK.k u)))) fun w =>
 Option.bind (decP (List.map encP (Hp.p (XK.k u)))) fun p =>
 Option.bind (decI (encI (Ls.a (Hp.f (XK.k u))))) fun a =>
 Option.bind (decI (encI (Ls.b (Hp.f (XK.k u))))) fun b =>
 Option.bind (decI (encI (Ls.c (Hp.f (XK.k u))))) fun c =>
 Option.bind (decBs (encBs (Hp.c (XK.k u)))) fun d => some { w := w, p := p, f := { a := a, b := b, c := c }, c := d }) fun a =>
 bif smH a && smLs [Hp.f a] then
 K (CV.bool ((↑(List.length (encI (usedE a))) : Int) == IntKind.wrap IntKind.i64 ((↑(List.length (encI d)) : Int) + 1))) []
 else none
 else K (CV.bool false) []
 else K (CV.bool false) []
 else K (CV.bool false) []
 else none
 else none
 else none
 else none
 else none
 else none
 else none
 else none
 else none
 else none
 else none := by kernel_rfl
end Go.Ab

namespace Go.Ab
open Go
open Go.Proofs
theorem zerR_of {k : Hp} {a : Int} : ∀ (m j : Nat), (∀ i, j <= i -> i < j + m -> k.w.getD (a + (i : Int) - 16).toNat 0 = 0) -> zerR k a m j = true
  | 0, _, _ => rfl
  | m + 1, j, h => by
    unfold zerR
    rw [h j (by omega) (by omega), bne_self_eq_false, cond_false]
    exact zerR_of m (j + 1) fun i h1 h2 => h i (by omega) (by omega)
theorem take_bad {h : Hp} {c : Ls} {x : Hd} (lf : lenL h.f 90000) (lc : lenL c 90000) (he : ((takeE h c x).2.2.2 != 0) = true) : ∃ e, takeE h c x = badT e := by
  rcases take_fin x lf lc with ⟨e, _⟩ | ⟨_, _, _, o, e⟩ | ⟨_, _, _, _, _, e, _⟩ | ⟨_, _, _, _, _, e, _⟩ | ⟨m, x1, x2, _, _, k, d, a, e, _⟩ | ⟨m, x1, x2, _, _, k, a, e, _⟩
  . exact ⟨_, e⟩
  . exact ⟨_, e⟩
  . exact ⟨_, e⟩
  . exact ⟨_, e⟩
  . rw [e] at he; cases he
  . rw [e] at he; cases he
theorem took_good9 {h k : Hp} {c d : Ls} {x : Hd} {a : Int} (t : Took h c x k d a) (hm : MayF h [c]) (hs : smH h = true) : (usedE h).all (good9 ⟨h, x, k⟩ a) = true := List.all_eq_true.2 fun u hu => by
  obtain ⟨g1, g2⟩ := (used_mem hm.none).1 hu
  obtain ⟨hne, st⟩ := t.old u g1 g2
  have hE : eqR ⟨h, k⟩ u (roomA h.p u).toNat 0 = true := eqR_of _ _ fun i _ hi => by
    show k.w.getD _ 0 = h.w.getD _ 0
    have h16 := (room_in g1).1
    rw [List.getD_eq_getElem?_getD, List.getD_eq_getElem?_getD, st.2.2 _ (by omega) (by omega)]
  have hr : roomA k.p u = roomA h.p u := st.1
  unfold good9
  show (!(u == a) && (roomA k.p u == roomA h.p u && (okU ⟨h, k⟩ u && eqR ⟨h, k⟩ u (roomA h.p u).toNat 0))) = true
  rw [beq_eq_false_iff_ne.2 hne, hr, beq_self_eq_true, used_ok hs hu, hE]; rfl
theorem took_zer {h k : Hp} {c d : Ls} {x : Hd} {a : Int} (t : Took h c x k d a) : zerR k a (roomA k.p a - 1).toNat 1 = true := zerR_of _ _ fun i h1 h2 => by
  have := (room_in t.r).1
  rw [List.getD_eq_getElem?_getD, t.z _ (by omega) (by omega)]; rfl
def gLaw9 : Callee := g3 cHp cLss cHd (fun _ ls _ => Nat.ble ls.length 9223372036854775807) fun _ _ _ => .bool true
theorem law9_good : GoodC Pr 9 gLaw9 :=
  good3 (z9_ok.sound (cx := z9) Tryz.func9 (by kernel_rfl) (by kernel_rfl) rfl (by kernel_rfl)) fun h ls x hls β K => by
    have e : ∀ h : Hp, (⟨h.w, h.p, ⟨h.f.a, h.f.b, h.f.c⟩, h.c⟩ : Hp) = h := fun _ => rfl
    have el : ∀ l : Ls, (⟨l.a, l.b, l.c⟩ : Ls) = l := fun _ => rfl
    have ex : ({ a := Hd.a x, b := Hd.b x, c := Hd.c x, x := Hd.x x, y := Hd.y x, z := Hd.z x } : Hd) = x := rfl
    rw [zr9]
    simp only [decI_map, decP_map, decBs_enc, decLs_map, Option.bind_some, e, el, ex, hls, cond_true]
    cases hf : fewV h ls with
    | false => rfl
    | true =>
      simp only [Bool.not_true, cond_false]
      cases ls with
      | nil => rfl
      | cons l0 rest =>
        obtain ⟨hF, hsl, hli, h4⟩ := few_of hf
        obtain ⟨s1, s2, s3, s4⟩ := hF.sm (by omega)
        have hlen : decide (((List.length (List.map encLs (l0 :: rest)) : Nat) : Int) < 1) = false := decide_eq_false (by simp; omega)
        have h0 : rdE (List.map encLs (l0 :: rest)) 0 = some (encLs l0) := rfl
        have g1 : (encLs l0)[0]? = some (.sl 1 (encI l0.a)) := rfl
        have g2 : (encLs l0)[1]? = some (.sl 1 (encI l0.b)) := rfl
        have g3 : (encLs l0)[2]? = some (.sl 1 (encI l0.c)) := rfl
        have hok : okBounds (List.length (List.map encLs (l0 :: rest))) (some 1) none none = true := by
          simp [okBounds]; omega
        have l1 := hF.f
        have l2 : lenL l0 70 := lightL (hli l0 (by simp))
        have hlr : ∀ l ∈ rest, lightV l = true := fun l hl => hli l (by simp [hl])
        have hr4 : rest.length <= 4 := by simp only [List.length_cons] at h4; omega
        simp only [hlen, cond_false, s1, hsl, Bool.and_self, cond_true]
        cases hwh : wholeHV h (l0 :: rest) with
        | false => rfl
        | true =>
          simp only [Bool.not_true, cond_false, h0, g1, g2, g3, asL_1, Option.bind_some, decI_map, el, pre_of hF l2 (show 70 <= 90000 by omega) (show 70 <= 90000 by omega), cond_true]
          cases he : (takeE h l0 x).2.2.2 != 0 with
          | true =>
            obtain ⟨e0, hb⟩ := take_bad (lenL.mono l1 (show 70 <= 90000 by omega)) (l2.mono (show 70 <= 90000 by omega)) he
            rw [hb]; rfl
          | false =>
            obtain ⟨k, d, a, e1, hm, x1, x2, t, nn⟩ := take_got (lenL.mono l1 (show 70 <= 90000 by omega)) (l2.mono (show 70 <= 90000 by omega)) he
            obtain ⟨m1, m2⟩ := nn 70 70 l1 l2
            have kF := hF.took t m1
            obtain ⟨k1, k2, k3, _⟩ := kF.sm (by omega)
            have hmk := t.m [] hm
            have hwk : wholeHV k (d :: rest) = true := t.whole hwh
            have hkl : smLs (k.f :: d :: rest) = true := smLs_of (n := 70 + 8192) (m := 70 + 2) m1 m2 (by omega) (by omega) hlr hr4
            have hll : List.length ([[CV.sl 1 (encI d.a), CV.sl 1 (encI d.b), CV.sl 1 (encI d.c)]] ++ List.map encLs rest) <= LIM := by
              rw [lim_val]; simp; omega
            have hd2 : decLs ([CV.sl 1 (encI d.a), CV.sl 1 (encI d.b), CV.sl 1 (encI d.c)] :: [].append (List.map encLs rest)) = some (d :: rest) := decLs_map (d :: rest)
            have hd1 : decLs ([[CV.sl 1 (encI d.a), CV.sl 1 (encI d.b), CV.sl 1 (encI d.c)]] ++ List.map encLs rest) = some (d :: rest) := decLs_map (d :: rest)
            have hul := used_len s1
            have hwl : (((k.w.length : Nat) : Int) != ((h.w.length : Nat) : Int)) = false := by rw [t.wl]; simp
            obtain ⟨z1, z2, z3⟩ := zero_in hmk.sh t.r
            obtain ⟨f1, f2, f3⟩ := t.fits
            have hr := t.r
            have hh := t.head hm x1 x2
            have p1 : Nat.ble h.p.length 200 = true := Nat.ble_eq_true_of_le (by have := hF.p; omega)
            have p2 : Nat.ble k.p.length 200 = true := Nat.ble_eq_true_of_le (by have := kF.p; omega)
            have wu : IntKind.i64.wrap ((((usedE h).length : Nat) : Int) + 1) = (((usedE k).length : Nat) : Int) := by
              rw [wrap_in (by omega), t.usedLen hm x1 x2 t.was]; omega
            have dW : ∀ h : Hp, decW (encI h.w) (List.map encP h.p) (encI h.f.a) (encI h.f.b) (encI h.f.c) (encBs h.c) = some h := decW_enc
            simp only [e1, bne_self_eq_false, cond_false, cond_true, hok, Option.getD_none, sub_rest]
            rw [if_pos hll]
            simp only [k1, k3, s1, s3, Bool.and_self, cond_true, hd1, hd2, Option.bind_some, hkl, hwk, Bool.not_true, cond_false, encI_len, hwl, dW, decide_eq_true hul, took_good9 t hm s1, decide_eq_true (show h.w.length <= 100000 by have := hF.w; omega), decide_eq_true (show k.w.length <= 100000 by have := kF.w; omega), decide_eq_true t.wl, p1, p2,
              decide_eq_true (show 1 <= roomA k.p a by omega), decide_eq_true z1, decide_eq_true z3, took_zer t, hh, beq_self_eq_true, decide_eq_true (show roomA k.p a > x.x by omega), wu]
theorem law9_run (h : Hp) (ls : List Ls) (x : Hd) (hl : ls.length <= 9223372036854775807) (β : Type) (K : CV -> List (List CV) -> Option β) : gLaw9.run [cHp.enc h, cLss.enc ls, cHd.enc x] [] β K = K (.bool true) [] := by
  unfold gLaw9 g3
  dsimp only
  rw [cHp.de, cLss.de, cHd.de]
  simp only [Option.bind_some, Nat.ble_eq_true_of_le hl, cond_true]
end Go.Ab
