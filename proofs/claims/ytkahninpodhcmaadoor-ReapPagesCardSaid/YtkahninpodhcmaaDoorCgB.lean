/- Codes of values; what pages' cells are, by definition.
Pages that are taken and dropped, by themselves.
ragpickerref03.Words, ragpickerref05.Begins, All, On, Start, Next: what they come to.
pages.Clone, put, free, Small, Drop; what the laws on cells call. -/
import Derived.Test.YtkahninpodhcmaaDoorCgA
import Derived.Test.YtkahninpodhcmaaDoorAbD
namespace Go.Ab
open Go

def cI : Cod Int where
  enc := fun a => .int .i64 a
  dec := fun c => match c with | .int .i64 a => some a | _ => none
  ok := fun c a h => by
    split at h
    · cases h; rfl
    · cases h
  de := fun _ => rfl
def cB : Cod Bool where
  enc := fun a => .bool a
  dec := fun c => match c with | .bool a => some a | _ => none
  ok := fun c a h => by
    split at h
    · cases h; rfl
    · cases h
  de := fun _ => rfl
def cPs : Cod (List Pg) where
  enc := fun ps => .sl 2 (ps.map encP)
  dec := fun c => match c with | .sl 2 L => decP L | _ => none
  ok := fun c a h => by
    split at h
    · rw [decP_enc h]
    · cases h
  de := fun _ => decP_map _
def cIs : Cod (List Int) where
  enc := fun xs => .sl 1 (encI xs)
  dec := fun c => match c with | .sl 1 L => decI L | _ => none
  ok := fun c a h => by
    split at h
    · rw [decI_enc h]
    · cases h
  de := fun _ => decI_map _

def cOI : Cod (List Int) where
  enc := fun xs => .own 1 (encI xs)
  dec := fun c => match c with | .own 1 L => decI L | _ => none
  ok := fun c a h => by
    split at h
    · rw [decI_enc h]
    · cases h
  de := fun _ => decI_map _
@[simp] theorem cOI_enc (xs : List Int) : cOI.enc xs = .own 1 (encI xs) := rfl
@[simp] theorem cOI_dec (xs : List Int) : cOI.dec (.own 1 (encI xs)) = some xs := decI_map xs
@[simp] theorem cI_enc (a : Int) : cI.enc a = .int .i64 a := rfl
@[simp] theorem cB_enc (a : Bool) : cB.enc a = .bool a := rfl
@[simp] theorem cPs_enc (ps : List Pg) : cPs.enc ps = .sl 2 (ps.map encP) := rfl
@[simp] theorem cIs_enc (xs : List Int) : cIs.enc xs = .sl 1 (encI xs) := rfl
@[simp] theorem cI_dec (a : Int) : cI.dec (.int .i64 a) = some a := rfl
@[simp] theorem cB_dec (a : Bool) : cB.dec (.bool a) = some a := rfl
@[simp] theorem cPs_dec (ps : List Pg) : cPs.dec (.sl 2 (ps.map encP)) = some ps := decP_map ps
@[simp] theorem cIs_dec (xs : List Int) : cIs.dec (.sl 1 (encI xs)) = some xs := decI_map xs

/-- Numbers in a row. -/
def upto : Int → Nat → List Int
  | _, 0 => []
  | a, n + 1 => a :: upto (a + 1) n

theorem mem_upto : ∀ {n : Nat} {a x : Int}, x ∈ upto a n ↔ a ≤ x ∧ x < a + n
  | 0, a, x => by simp only [upto, List.not_mem_nil, false_iff]; omega
  | n + 1, a, x => by
    simp only [upto, List.mem_cons, mem_upto (n := n)]
    omega

theorem upto_add : ∀ (n m : Nat) (a : Int), upto a (n + m) = upto a n ++ upto (a + n) m
  | 0, m, a => by simp [upto]
  | n + 1, m, a => by
    rw [show n + 1 + m = (n + m) + 1 by omega, upto, upto, upto_add n m (a + 1)]
    simp only [List.cons_append]
    rw [show a + 1 + (n : Int) = a + ((n + 1 : Nat) : Int) by omega]

/-- Numbers that rise, from lo on, below hi. -/
def rises : Int → Int → List Int → Prop
  | _, _, [] => True
  | lo, hi, x :: xs => lo ≤ x ∧ x < hi ∧ rises (x + 1) hi xs

theorem rises_mem : ∀ {xs : List Int} {lo hi : Int}, rises lo hi xs → ∀ x ∈ xs, lo ≤ x ∧ x < hi
  | [], _, _, _, x, h => by cases h
  | y :: xs, lo, hi, ⟨h1, h2, h3⟩, x, h => by
    rcases List.mem_cons.1 h with rfl | h
    · exact ⟨h1, h2⟩
    · have := rises_mem h3 x h; omega

theorem rises_mono : ∀ {xs : List Int} {lo lo' hi : Int}, lo' ≤ lo → rises lo hi xs → rises lo' hi xs
  | [], _, _, _, _, _ => trivial
  | _ :: _, _, _, _, h, ⟨h1, h2⟩ => ⟨by omega, h2⟩

theorem filter_rises : ∀ (n : Nat) (lo : Int) (xs : List Int), rises lo (lo + n) xs → (upto lo n).filter (fun a => decide (a ∈ xs)) = xs
  | 0, lo, [], _ => rfl
  | 0, lo, x :: xs, h => by obtain ⟨h1, h2, _⟩ := h; omega
  | n + 1, lo, xs, h => by
    rw [upto, List.filter_cons]
    by_cases hm : lo ∈ xs
    · rw [if_pos (by simp [hm])]
      cases xs with
      | nil => cases hm
      | cons x xs =>
        obtain ⟨h1, h2, h3⟩ := h
        have e : lo = x := by
          rcases List.mem_cons.1 hm with e | hm
          · exact e
          · have := rises_mem h3 lo hm; omega
        subst e
        have ih := filter_rises n (lo + 1) xs (by rw [show lo + 1 + (n : Int) = lo + ((n + 1 : Nat) : Int) by omega]; exact h3)
        congr 1
        refine Eq.trans (List.filter_congr fun y hy => ?_) ih
        have := (mem_upto.1 hy).1
        have hne : y ≠ lo := by omega
        simp [hne]
    · rw [if_neg (by simp [hm])]
      refine filter_rises n (lo + 1) xs ?_
      cases xs with
      | nil => trivial
      | cons x xs =>
        obtain ⟨h1, h2, h3⟩ := h
        have : x ≠ lo := fun e => hm (by simp [e])
        refine ⟨by omega, by omega, ?_⟩
        rw [show lo + 1 + (n : Int) = lo + ((n + 1 : Nat) : Int) by omega]
        exact h3

/-! ### Where a cell begins -/

theorem firstC_append (f : Nat) (a : Int) (cs ds : List Cell) : firstC f a (cs ++ ds) = (firstC f a cs).or (firstC f a ds) := by simp [firstC, List.find?_append]

theorem firstC_none {f : Nat} {a : Int} {cs : List Cell} (h : ∀ c ∈ cs, predB f a c.1 c.2 = false) : firstC f a cs = none := by
  simp only [firstC, List.find?_eq_none]
  intro c hc
  simp [h c hc]

theorem pred29 (a x y : Int) : predB 71 a x y = (a == x) := rfl

theorem cellRow_find (b w : Int) (hw : 0 < w) (r : Nat) : ∀ (n i : Nat), firstC 71 (b + (r : Int)) (cellRow b w i n) = if (r : Int) % w = 0 ∧ (i : Int) * w ≤ r ∧ (r : Int) < ((i + n : Nat) : Int) * w then some (b + (r : Int), w) else none
  | 0, i => by
    have hn : ¬ ((r : Int) % w = 0 ∧ (i : Int) * w ≤ r ∧ (r : Int) < ((i + 0 : Nat) : Int) * w) := fun ⟨_, h1, h2⟩ => by
      rw [Nat.add_zero] at h2; omega
    rw [if_neg hn]
    rfl
  | n + 1, i => by
    have ih := cellRow_find b w hw r n (i + 1)
    simp only [cellRow, firstC, List.find?_cons, pred29] at ih ⊢
    by_cases h : (r : Int) = (i : Int) * w
    · have e : (b + (r : Int) == b + (i : Int) * w) = true := by simp [h]
      rw [e]
      have hlt : (i : Int) * w < ((i + (n + 1) : Nat) : Int) * w := Int.mul_lt_mul_of_pos_right (by omega) hw
      rw [if_pos ⟨by rw [h]; exact Int.mul_emod_left _ _, by omega, by omega⟩, h]
    · have e : (b + (r : Int) == b + (i : Int) * w) = false := by simp; omega
      rw [e]
      refine Eq.trans ih ?_
      have hiff : ((r : Int) % w = 0 ∧ ((i + 1 : Nat) : Int) * w ≤ r ∧ (r : Int) < ((i + 1 + n : Nat) : Int) * w) ↔ ((r : Int) % w = 0 ∧ (i : Int) * w ≤ r ∧ (r : Int) < ((i + (n + 1) : Nat) : Int) * w) := by
        rw [show i + 1 + n = i + (n + 1) by omega]
        have he : ((i + 1 : Nat) : Int) * w = (i : Int) * w + w := by rw [show ((i + 1 : Nat) : Int) = (i : Int) + 1 by omega, Int.add_mul, Int.one_mul]
        constructor
        · rintro ⟨h1, h2, h3⟩
          exact ⟨h1, by omega, h3⟩
        · rintro ⟨h1, h2, h3⟩
          refine ⟨h1, ?_, h3⟩
          obtain ⟨k, hk⟩ := Int.dvd_of_emod_eq_zero h1
          rw [hk, Int.mul_comm w k] at h2 h ⊢
          have h4 : (i : Int) ≤ k := Int.le_of_mul_le_mul_right h2 hw
          have h5 : (i : Int) ≠ k := fun e => h (by rw [e])
          exact Int.mul_le_mul_of_nonneg_right (by omega) (by omega)
      by_cases hc : ((r : Int) % w = 0 ∧ (i : Int) * w ≤ r ∧ (r : Int) < ((i + (n + 1) : Nat) : Int) * w)
      · rw [if_pos hc, if_pos (hiff.2 hc)]
      · rw [if_neg hc, if_neg fun h => hc (hiff.1 h)]

/-- A cell that begins at a page's r-th word. -/
def cellAt (q : Pg) (r : Nat) : Int := bif q.1 == 2 && r == 0 then 16 * q.2 else bif q.1 == 1 && ((r : Int) % wordsOf q.2 == 0) then wordsOf q.2 else 0

/-- A page that may be, by itself. -/
def okPg (q : Pg) : Prop := q.1 = 3 ∨ q.1 = 0 ∨ (q.1 = 1 ∧ 0 ≤ q.2 ∧ q.2 ≤ 2) ∨ (q.1 = 2 ∧ 1 ≤ q.2 ∧ q.2 ≤ 4)

theorem okPg_of {r : Nat} {ps : List Pg} {e : Int} (h : mayGo r ps = some e) : ∀ q ∈ ps, okPg q := by
  induction ps generalizing r with
  | nil => intro q hq; cases hq
  | cons p ps ih =>
    intro q hq
    rcases mayGo_cons h with ⟨h3, k, _, h'⟩ | ⟨_, rfl, h'⟩ | ⟨_, h1, hb, h'⟩ | ⟨_, h2, hb, h'⟩ <;> rcases List.mem_cons.1 hq with rfl | hq
    · exact .inl h3
    · exact ih h' q hq
    · exact .inr (.inl rfl)
    · exact ih h' q hq
    · exact .inr (.inr (.inl ⟨h1, hb⟩))
    · exact ih h' q hq
    · exact .inr (.inr (.inr ⟨h2, hb⟩))
    · exact ih h' q hq

theorem cellsP_at {q : Pg} (hq : okPg q) (i r : Nat) (hr : r < 16) : optE (firstC 71 (16 * ((i : Int) + 1) + r) (cellsP i q)) 0 (·.2) = cellAt q r := by
  unfold cellAt
  rcases hq with h | h | ⟨h, hb⟩ | ⟨h, hb⟩
  · rw [cellsP_rest (.inl h), h]; rfl
  · rw [cellsP_rest (.inr h), h]; rfl
  · obtain ⟨w2, _, hf, _, _⟩ := small_full hb
    rw [cellsP_small h, cellRow_find _ _ (by omega), h]
    have h21 : ((1 : Int) == 2) = false := rfl
    rw [h21, beq_self_eq_true, Bool.false_and, cond_false, Bool.true_and, Nat.zero_add, hf]
    by_cases hm : (r : Int) % wordsOf q.2 = 0
    · rw [if_pos ⟨hm, by omega, by omega⟩, beq_of hm]; rfl
    · rw [if_neg (fun h => hm h.1), beq_ne hm]; rfl
  · rw [cellsP_large h hb, h]
    by_cases h0 : r = 0
    · subst h0
      simp [firstC, pred29, optE]
    · have e1 : (r == 0) = false := by simp [h0]
      have e2 : (16 * ((i : Int) + 1) + (r : Int) == 16 * ((i : Int) + 1)) = false := by simp; omega
      rw [e1]
      simp [firstC, pred29, e2, optE]

theorem cellsP_in {q : Pg} (hq : okPg q) (i : Nat) : ∀ c ∈ cellsP (i : Int) q, 16 * ((i : Int) + 1) ≤ c.1 ∧ c.1 < 16 * ((i : Int) + 2) := by
  rcases hq with h | h | ⟨h, hb⟩ | ⟨h, hb⟩
  · rw [cellsP_rest (.inl h)]; intro c hc; cases hc
  · rw [cellsP_rest (.inr h)]; intro c hc; cases hc
  · obtain ⟨w2, w8, hf, hn, _⟩ := small_full hb
    rw [cellsP_small h]
    intro c hc
    have h1 := cellRow_hi (16 * ((i : Int) + 1)) (wordsOf q.2) w2 (cellsN q.2).toNat 0 c hc
    rw [Nat.zero_add, hf] at h1
    have lo : ∀ (n k : Nat), ∀ c ∈ cellRow (16 * ((i : Int) + 1)) (wordsOf q.2) k n, 16 * ((i : Int) + 1) ≤ c.1 ∧ c.2 = wordsOf q.2 := by
      intro n
      induction n with
      | zero => intro k c hc; cases hc
      | succ n ih =>
        intro k c hc
        simp only [cellRow, List.mem_cons] at hc
        rcases hc with rfl | hc
        · have : 0 ≤ (k : Int) * wordsOf q.2 := Int.mul_nonneg (by omega) (by omega)
          exact ⟨by dsimp only; omega, rfl⟩
        · exact ih _ c hc
    have := lo _ _ c hc
    omega
  · rw [cellsP_large h hb]
    intro c hc
    simp at hc
    subst hc
    dsimp only
    omega

theorem allFrom_find (r : Nat) (hr : r < 16) : ∀ (ps : List Pg) (i : Nat), (∀ q ∈ ps, okPg q) → ∀ (j : Nat) (h : j < ps.length), optE (firstC 71 (16 * (((i + j : Nat) : Int) + 1) + r) (allFrom i ps)) 0 (·.2) = cellAt ps[j] r
  | [], i, _, j, h => by simp at h
  | q :: ps, i, hq, j, h => by
    have hin := cellsP_in (hq q (by simp)) i
    simp only [allFrom, firstC_append]
    cases j with
    | zero =>
      have hrest : firstC 71 (16 * (((i + 0 : Nat) : Int) + 1) + r) (allFrom (i + 1) ps) = none := by
        refine firstC_none fun c hc => ?_
        have : ∀ (ps : List Pg) (k : Nat), (∀ q ∈ ps, okPg q) → ∀ c ∈ allFrom k ps, 16 * ((k : Int) + 1) ≤ c.1 := by
          intro ps
          induction ps with
          | nil => intro k _ c hc; cases hc
          | cons p ps ih =>
            intro k hp c hc
            simp only [allFrom, List.mem_append] at hc
            rcases hc with hc | hc
            · exact (cellsP_in (hp p (by simp)) k c hc).1
            · have := ih (k + 1) (fun q hq => hp q (by simp [hq])) c hc
              omega
        have := this ps (i + 1) (fun q h => hq q (by simp [h])) c hc
        rw [pred29]
        simp
        omega
      rw [hrest, Option.or_none]
      exact cellsP_at (hq q (by simp)) i r hr
    | succ j =>
      have hf : firstC 71 (16 * (((i + (j + 1) : Nat) : Int) + 1) + r) (cellsP i q) = none := by
        refine firstC_none fun c hc => ?_
        have := hin c hc
        rw [pred29]
        simp
        omega
      rw [hf, Option.none_or, show i + (j + 1) = i + 1 + j by omega]
      exact allFrom_find r hr ps (i + 1) (fun q h => hq q (by simp [h])) j (by simpa using h)

theorem allFrom_in : ∀ (ps : List Pg) (i : Nat), (∀ q ∈ ps, okPg q) → ∀ c ∈ allFrom i ps, 16 * ((i : Int) + 1) ≤ c.1 ∧ c.1 < 16 * ((i : Int) + 1 + ps.length)
  | [], i, _, c, h => by cases h
  | q :: ps, i, hq, c, h => by
    simp only [allFrom, List.mem_append] at h
    rcases h with h | h
    · have := cellsP_in (hq q (by simp)) i c h
      simp only [List.length_cons]
      omega
    · have := allFrom_in ps (i + 1) (fun q h => hq q (by simp [h])) c h
      simp only [List.length_cons]
      omega

theorem roomA_def (ps : List Pg) (a : Int) : roomA ps a = optE (firstC 71 a (allCs ps)) 0 (·.2) := rfl

/-- A cell's room, as the document has it. -/
theorem roomA_doc (ps : List Pg) (a : Int) : roomA ps a = bif may ps && decide (16 ≤ a) && decide (a < 16 + 16 * (ps.length : Int)) then cellAt (ps.getD (a / 16 - 1).toNat (0, 0)) (a % 16).toNat else 0 := by
  rw [roomA_def]
  unfold allCs
  cases hm : may ps with
  | false => rfl
  | true =>
    obtain ⟨h1, h2, h3⟩ := may_go hm
    have hok := okPg_of h1
    rw [cond_true, Bool.true_and]
    by_cases hlo : 16 ≤ a
    · by_cases hhi : a < 16 + 16 * (ps.length : Int)
      · rw [decide_eq_true hlo, decide_eq_true hhi]
        have hj : (a / 16 - 1).toNat < ps.length := by omega
        have := allFrom_find (a % 16).toNat (by omega) ps 0 hok (a / 16 - 1).toNat hj
        rw [Nat.zero_add, show 16 * (((a / 16 - 1).toNat : Int) + 1) + ((a % 16).toNat : Int) = a by omega] at this
        rw [this, show ps.getD (a / 16 - 1).toNat (0, 0) = ps[(a / 16 - 1).toNat] by rw [List.getD_eq_getElem?_getD, List.getElem?_eq_getElem hj]; rfl]
        rfl
      · rw [decide_eq_true hlo, decide_eq_false hhi]
        rw [firstC_none fun c hc => ?_]
        · rfl
        · have := allFrom_in ps 0 hok c hc
          rw [pred29]; simp; omega
    · rw [decide_eq_false hlo]
      rw [firstC_none fun c hc => ?_]
      · rfl
      · have := allFrom_in ps 0 hok c hc
        rw [pred29]; simp; omega
end Go.Ab

namespace Go.Ab
open Go

def allFree : Nat → List Pg → Bool
  | 0, _ => true
  | _ + 1, [] => false
  | n + 1, p :: ps => cond (p.1 == 0) (allFree n ps) false

def putP (ps : List Pg) (a : Nat) (own : List Pg) : List Pg := splice ps a (own.take (min own.length (ps.length - a)))

def freeE (ps : List Pg) (a n : Int) : Int := cond (decide (a < 0) || decide (a > (ps.length : Int) - n)) 3 (cond (allFree n.toNat (ps.drop a.toNat)) 0 4)

theorem cnt_le (ps : List Pg) (k : Int) : cnt ps k ≤ ps.length := List.length_filter_le _ _

theorem allFree_cnt : ∀ (n : Nat) (ps : List Pg), n ≤ ps.length → decide (((cnt (ps.take n) 0 : Nat) : Int) < (n : Int)) = !(allFree n ps)
  | 0, ps, _ => by simp [cnt, allFree]
  | n + 1, [], h => by simp at h
  | n + 1, p :: ps, h => by
    have ih := allFree_cnt n ps (by simpa using h)
    have hle := cnt_le (ps.take n) 0
    simp only [List.length_take] at hle
    simp only [allFree]
    cases hp : p.1 == 0 with
    | true =>
      have : cnt ((p :: ps).take (n + 1)) 0 = cnt (ps.take n) 0 + 1 := by simp [cnt, hp]
      rw [this, cond_true, ← ih]
      simp
    | false =>
      have : cnt ((p :: ps).take (n + 1)) 0 = cnt (ps.take n) 0 := by simp [cnt, hp]
      rw [this]
      simp
      omega

def resC (r : Int × List Pg) : CV := .tup [.own 2 (r.2.map encP), .int .i64 r.1]

def in3 (n a b : Int) : Bool := cond (decide (n ≥ a)) (decide (n ≤ b)) false

def smallE (ps : List Pg) (a c : Int) : Int × List Pg := cond (!(may ps)) (1, []) (cond (!(in3 c 0 2)) (1, []) (cond (freeE ps a 1 != 0) (freeE ps a 1, []) (0, putP ps a.toNat [(1, c)])))

def ownL (n : Int) : List Pg := (2, n) :: List.replicate (n.toNat - 1) (3, 0)

def largeE (ps : List Pg) (a n : Int) : Int × List Pg := cond (!(may ps)) (1, []) (cond (!(in3 n 1 4)) (1, []) (cond (freeE ps a n != 0) (freeE ps a n, []) (0, putP ps a.toNat (ownL n))))

theorem may_len {ps : List Pg} (h : may ps = true) : 1 ≤ ps.length ∧ ps.length ≤ 64 := by
  rw [may_eq] at h
  by_cases h1 : (ps.length : Int) < 1
  · simp [h1] at h
  · by_cases h2 : (ps.length : Int) > 64
    · simp [h1, h2] at h
    · omega

theorem freeE_in {ps : List Pg} {a n : Int} (h : freeE ps a n = 0) : 0 ≤ a ∧ a ≤ (ps.length : Int) - n ∧ allFree n.toNat (ps.drop a.toNat) = true := by
  unfold freeE at h
  cases h1 : decide (a < 0) with
  | true => simp [h1] at h
  | false =>
    cases h2 : decide (a > (ps.length : Int) - n) with
    | true => simp [h1, h2] at h
    | false =>
      simp only [decide_eq_false_iff_not] at h1 h2
      refine ⟨by omega, by omega, ?_⟩
      simp [h1, h2] at h
      have e1 : decide (a < 0) = false := by simpa using h1
      cases ha : allFree n.toNat (ps.drop a.toNat) with
      | true => rfl
      | false => rw [ha] at h; simp at h

theorem mayGo_tail {r : Int} {p : Pg} {ps : List Pg} (h : mayGo r (p :: ps) = some 0) : ∃ r', mayGo r' ps = some 0 := by
  obtain ⟨a, b⟩ := p
  simp only [mayGo, Bool.cond_eq_ite] at h
  repeat' (split at h)
  all_goals first | exact ⟨_, h⟩ | cases h

theorem in3_iff {n a b : Int} : in3 n a b = true ↔ a ≤ n ∧ n ≤ b := by
  unfold in3
  by_cases h : n ≥ a
  · simp [h]
  · simp [h]

theorem mayGo_large {r b : Int} {ps : List Pg} (h : mayGo r ((2, b) :: ps) = some 0) : 1 ≤ b ∧ b ≤ 4 ∧ ∃ rest, eat (b - 1).toNat ps = some rest ∧ mayGo 0 rest = some 0 := by
  have h' : (bif !(in3 b 1 4) then none else bif decide (r > 0) then none else mayGo (b - 1) ps) = some 0 := h
  cases hi : in3 b 1 4 with
  | false => rw [hi] at h'; cases h'
  | true =>
    obtain ⟨h1, h4⟩ := in3_iff.1 hi
    rw [hi] at h'
    cases hr : decide (r > 0) with
    | true => rw [hr] at h'; cases h'
    | false =>
      rw [hr] at h'
      simp only [Bool.not_true, cond_false] at h'
      have hg := mayGo_eat (b - 1).toNat ps
      rw [show (((b - 1).toNat : Nat) : Int) = b - 1 by omega, h'] at hg
      refine ⟨h1, h4, ?_⟩
      cases he : eat (b - 1).toNat ps with
      | none => rw [he] at hg; simp at hg
      | some rest => rw [he] at hg; exact ⟨rest, rfl, by simpa using hg.symm⟩

theorem mayGo_at : ∀ {ps : List Pg} {r : Int} {i : Nat} {b : Int}, mayGo r ps = some 0 → ps[i]? = some (2, b) → 1 ≤ b ∧ b ≤ 4 ∧ ∃ rest, eat (b - 1).toNat (ps.drop (i + 1)) = some rest ∧ mayGo 0 rest = some 0
  | [], _, _, _, _, hi => by simp at hi
  | p :: ps, r, 0, b, h, hi => by
    simp at hi
    subst hi
    simpa using mayGo_large h
  | p :: ps, r, i + 1, b, h, hi => by
    obtain ⟨r', h'⟩ := mayGo_tail h
    simpa using mayGo_at (i := i) h' (by simpa using hi)

theorem may_go0 {ps : List Pg} (h : may ps = true) : mayGo 0 ps = some 0 := by
  have hl := may_len h
  rw [may_eq, mayR_iff _ _ (Nat.le_refl _)] at h
  have e1 : decide ((ps.length : Int) < 1) = false := by simp; omega
  have e2 : decide ((ps.length : Int) > 64) = false := by simp; omega
  rw [e1, e2] at h
  simpa using h

theorem go_may {ps : List Pg} (h1 : 1 ≤ ps.length) (h2 : ps.length ≤ 64) (h : mayGo 0 ps = some 0) : may ps = true := by
  rw [may_eq, mayR_iff _ _ (Nat.le_refl _), h]
  have e1 : decide ((ps.length : Int) < 1) = false := by simp; omega
  have e2 : decide ((ps.length : Int) > 64) = false := by simp; omega
  rw [e1, e2]
  rfl

def runOf (p : Pg) : Int := cond (p.1 == 2) p.2 1

def dropE (ps : List Pg) (a : Int) : Int × List Pg := cond (!(may ps)) (1, []) (cond (decide (a < 0) || decide (a ≥ (ps.length : Int))) (3, [])
  (match ps[a.toNat]? with
    | none => (3, [])
    | some p => cond (p.1 == 0 || p.1 == 3) (3, []) (0, putP ps a.toNat (List.replicate (runOf p).toNat (0, 0)))))

theorem decP_rep (n : Nat) (a b : Int) : decP (List.replicate n [.int .i64 a, .int .i64 b]) = some (List.replicate n (a, b)) := by
  have : (List.replicate n [CV.int .i64 a, CV.int .i64 b]) = (List.replicate n (a, b)).map encP := by simp [encP]
  rw [this, decP_map]

theorem rdE_at {ps : List Pg} {a : Int} (h0 : 0 ≤ a) (hl : a.toNat < ps.length) {γ : Type} (f : List CV → Option γ) : (rdE (ps.map encP) a).bind f = f (encP ps[a.toNat]) := by
  have h := rdE_map (f := f) hl
  rw [Int.toNat_of_nonneg h0] at h
  exact h

theorem splice_len {α : Type} (l x : List α) (a : Nat) (h : a + x.length ≤ l.length) : (splice l a x).length = l.length := by
  simp [splice]
  omega

theorem mayGo_append : ∀ (xs ys : List Pg) (r : Int), mayGo r (xs ++ ys) = (mayGo r xs).bind fun r' => mayGo r' ys
  | [], ys, r => rfl
  | p :: xs, ys, r => by
    simp only [List.cons_append, mayGo, Bool.cond_eq_ite, mayGo_append xs ys]
    repeat' split
    all_goals rfl

theorem allFree_short : ∀ (n : Nat) (ps : List Pg), ps.length < n → allFree n ps = false
  | 0, ps, h => by omega
  | n + 1, [], _ => rfl
  | n + 1, p :: ps, h => by
    rw [allFree, allFree_short n ps (by simpa using h)]
    cases p.1 == 0 <;> rfl

theorem mayGo_nonneg : ∀ {xs : List Pg} {r r' : Int}, 0 ≤ r → mayGo r xs = some r' → 0 ≤ r'
  | [], r, r', h, e => by
    simp only [mayGo, Option.some.injEq] at e
    omega
  | (a, b) :: xs, r, r', h, e => by
    by_cases h2 : a = 2
    · subst h2
      have e' : (bif !(in3 b 1 4) then none else bif decide (r > 0) then none else mayGo (b - 1) xs) = some r' := e
      cases hi : in3 b 1 4 with
      | false => rw [hi] at e'; cases e'
      | true =>
        obtain ⟨h1, h4⟩ := in3_iff.1 hi
        rw [hi] at e'
        cases hr : decide (r > 0) with
        | true => rw [hr] at e'; cases e'
        | false =>
          rw [hr] at e'
          exact mayGo_nonneg (by omega) e'
    · have e2 : (a == 2) = false := by simpa using h2
      simp only [mayGo, e2, Bool.cond_eq_ite] at e
      split at e
      · split at e
        · cases e
        · rename_i hr
          split at e
          · cases e
          · exact mayGo_nonneg (by simp at hr; omega) e
      · repeat' (split at e)
        all_goals first | exact mayGo_nonneg h e | contradiction | (simp at e; done)

theorem mayGo_free1 {r s b : Int} {ps : List Pg} (h : mayGo r ((0, b) :: ps) = some s) : b = 0 ∧ ¬ r > 0 ∧ mayGo r ps = some s := by
  have h' : (bif b != 0 then none else bif decide (r > 0) then none else mayGo r ps) = some s := h
  by_cases hb : b = 0
  · subst hb
    by_cases hr : r > 0
    · simp [hr] at h'
    · simp [hr] at h'
      exact ⟨rfl, by omega, h'⟩
  · have e : (b != 0) = true := by simpa using hb
    rw [e] at h'
    cases h'

theorem mayGo_frees : ∀ {n : Nat} {r s : Int} {ps : List Pg}, 0 ≤ r → mayGo r ps = some s → allFree (n + 1) ps = true → r = 0 ∧ ∃ Z, ps = List.replicate (n + 1) (0, 0) ++ Z ∧ mayGo 0 Z = some s
  | n, r, s, [], _, _, ha => by simp [allFree] at ha
  | n, r, s, (a, b) :: ps, h0, hm, ha => by
    rw [allFree] at ha
    have ha0 : a = 0 := by
      by_cases h : a = 0
      · exact h
      · have e : (a == 0) = false := by simpa using h
        rw [e] at ha
        cases ha
    subst ha0
    obtain ⟨rfl, hr, hm'⟩ := mayGo_free1 hm
    have hr0 : r = 0 := by omega
    subst hr0
    have ha' : allFree n ps = true := ha
    cases n with
    | zero => exact ⟨rfl, ps, rfl, hm'⟩
    | succ n =>
      obtain ⟨_, Z, hZ, hmZ⟩ := mayGo_frees h0 hm' ha'
      exact ⟨rfl, Z, by rw [hZ]; rfl, hmZ⟩

theorem allFree_len {n : Nat} {ps : List Pg} (h : allFree n ps = true) : n ≤ ps.length := by
  by_cases hl : ps.length < n
  · rw [allFree_short n ps hl] at h
    cases h
  · omega

theorem may_free {l : List Pg} {k n : Nat} (hm : mayGo 0 l = some 0) (h1 : 1 ≤ n) (ha : allFree n (l.drop k) = true) : ∃ X Z, l = X ++ List.replicate n (0, 0) ++ Z ∧ X.length = k ∧ mayGo 0 X = some 0 ∧ mayGo 0 Z = some 0 := by
  obtain ⟨n, rfl⟩ : ∃ m, n = m + 1 := ⟨n - 1, by omega⟩
  have hl := allFree_len ha
  simp at hl
  have hs : l = l.take k ++ l.drop k := (List.take_append_drop k l).symm
  rw [hs, mayGo_append] at hm
  obtain ⟨r, hr, hm⟩ := bind_some' hm
  obtain ⟨rfl, Z, hZ, hmZ⟩ := mayGo_frees (mayGo_nonneg (by omega) hr) hm ha
  exact ⟨l.take k, Z, by rw [List.append_assoc, ← hZ, ← hs], by simp; omega, hr, hmZ⟩

theorem mayGo_join {X Y Z : List Pg} (hX : mayGo 0 X = some 0) (hY : mayGo 0 Y = some 0) (hZ : mayGo 0 Z = some 0) : mayGo 0 (X ++ Y ++ Z) = some 0 := by
  rw [mayGo_append, mayGo_append, hX, Option.bind_some, hY, Option.bind_some, hZ]

theorem mayGo_zeros : ∀ n : Nat, mayGo 0 (List.replicate n (0, 0)) = some 0
  | 0 => rfl
  | n + 1 => mayGo_zeros n

theorem mayGo_rests : ∀ (n : Nat), mayGo n (List.replicate n (3, 0)) = some 0
  | 0 => rfl
  | n + 1 => by
    have h0 : (((n + 1 : Nat) : Int) == 0) = false := beq_false_of_ne (by omega)
    have h2 : ((n + 1 : Nat) : Int) - 1 = (n : Int) := by omega
    show (bif (((n + 1 : Nat) : Int) == 0) then none else mayGo (((n + 1 : Nat) : Int) - 1) (List.replicate n (3, 0))) = some 0
    rw [h0, h2]
    exact mayGo_rests n

theorem mayGo_ownL {n : Int} (h1 : 1 ≤ n) (h4 : n ≤ 4) : mayGo 0 (ownL n) = some 0 := by
  have : (bif !(in3 n 1 4) then none else mayGo (n - 1) (List.replicate (n.toNat - 1) (3, 0))) = some 0 := by
    rw [in3_iff.2 ⟨h1, h4⟩]
    have := mayGo_rests (n.toNat - 1)
    rw [show ((n.toNat - 1 : Nat) : Int) = n - 1 by omega] at this
    exact this
  exact this

theorem mayGo_small {c : Int} (h0 : 0 ≤ c) (h2 : c ≤ 2) : mayGo 0 [(1, c)] = some 0 := by
  have : (bif !(in3 c 0 2) then (none : Option Int) else some 0) = some 0 := by
    rw [in3_iff.2 ⟨h0, h2⟩]
    rfl
  exact this

theorem splice_mid {α : Type} (X F Z Y : List α) (h : Y.length = F.length) : splice (X ++ F ++ Z) X.length Y = X ++ Y ++ Z := by
  simp [splice, h, List.drop_append]

theorem cnt_append (xs ys : List Pg) (k : Int) : cnt (xs ++ ys) k = cnt xs k + cnt ys k := by simp [cnt]

theorem cnt_zeros (n : Nat) : cnt (List.replicate n (0, 0)) 0 = n := by simp [cnt]

theorem ownL_len {n : Int} (h : 1 ≤ n) : (ownL n).length = n.toNat := by
  simp [ownL]
  omega

theorem putP_fit {ps own : List Pg} {a : Nat} (h : a + own.length ≤ ps.length) : putP ps a own = splice ps a own := by
  unfold putP
  rw [List.take_of_length_le (by omega)]

theorem may_run {ps : List Pg} (h : may ps = true) {i : Nat} {b : Int} (hi : ps[i]? = some (2, b)) : 1 ≤ b ∧ b ≤ 4 ∧ i + b.toNat ≤ ps.length := by
  obtain ⟨h1, h4, rest, he, _⟩ := mayGo_at (may_go0 h) hi
  obtain ⟨hlt, _⟩ := List.getElem?_eq_some_iff.1 hi
  obtain ⟨_, hk⟩ := eat_len _ _ _ he
  simp at hk
  omega

theorem freeE_ok {ps : List Pg} {a n : Int} (h1 : 1 ≤ n) (h0 : 0 ≤ a) (ha : allFree n.toNat (ps.drop a.toNat) = true) : freeE ps a n = 0 := by
  have hl := allFree_len ha
  simp at hl
  unfold freeE
  have e1 : decide (a < 0) = false := by simpa using h0
  have e2 : decide (a > (ps.length : Int) - n) = false := by simp; omega
  rw [e1, e2, ha]
  rfl

theorem large_parts {X Z : List Pg} {n : Int} (h1 : 1 ≤ n) (h4 : n ≤ 4) (hm : may (X ++ List.replicate n.toNat (0, 0) ++ Z) = true) : largeE (X ++ List.replicate n.toNat (0, 0) ++ Z) (X.length : Nat) n = (0, X ++ ownL n ++ Z) := by
  have ha : allFree n.toNat ((X ++ List.replicate n.toNat (0, 0) ++ Z).drop X.length) = true := by
    rw [List.append_assoc, List.drop_left]
    have : ∀ m : Nat, allFree m (List.replicate m (0, 0) ++ Z) = true := fun m => by
      induction m with
      | zero => rfl
      | succ m ih => exact ih
    exact this _
  unfold largeE
  rw [hm, in3_iff.2 ⟨h1, h4⟩, freeE_ok h1 (by omega) (by simpa using ha)]
  simp only [Bool.not_true, cond_false, bne_self_eq_false, Int.toNat_natCast]
  have ho := ownL_len h1
  rw [putP_fit (by simp; omega), splice_mid _ _ _ _ (by simp; omega)]

theorem small_parts {X Z : List Pg} {c : Int} (h0 : 0 ≤ c) (h2 : c ≤ 2) (hm : may (X ++ [(0, 0)] ++ Z) = true) : smallE (X ++ [(0, 0)] ++ Z) (X.length : Nat) c = (0, X ++ [(1, c)] ++ Z) := by
  have ha : allFree (1 : Int).toNat ((X ++ [(0, 0)] ++ Z).drop X.length) = true := by
    rw [List.append_assoc, List.drop_left]
    rfl
  unfold smallE
  rw [hm, in3_iff.2 ⟨h0, h2⟩, freeE_ok (by omega) (by omega) (by simpa using ha)]
  simp only [Bool.not_true, cond_false, bne_self_eq_false, Int.toNat_natCast]
  rw [putP_fit (by simp), splice_mid _ _ _ _ (by simp)]

theorem drop_parts {X Y Z : List Pg} {p : Pg} {Y' : List Pg} (hY : Y = p :: Y') (hp : p.1 = 1 ∨ p.1 = 2) (hn : runOf p = (Y.length : Int)) (hm : may (X ++ Y ++ Z) = true) : dropE (X ++ Y ++ Z) (X.length : Nat) = (0, X ++ List.replicate Y.length (0, 0) ++ Z) := by
  unfold dropE
  have hg : (X ++ Y ++ Z)[X.length]? = some p := by
    rw [hY, List.append_assoc, List.getElem?_append_right (Nat.le_refl _), Nat.sub_self]
    rfl
  have e1 : decide (((X.length : Nat) : Int) < 0) = false := by simp
  have e2 : decide (((X.length : Nat) : Int) ≥ ((X ++ Y ++ Z).length : Int)) = false := by simp [hY]; omega
  have e3 : (p.1 == 0 || p.1 == 3) = false := by rcases hp with h | h <;> simp [h]
  rw [hm, e1, e2, Int.toNat_natCast, hg]
  simp only [Bool.not_true, Bool.or_self, cond_false, e3, hn, Int.toNat_natCast]
  rw [putP_fit (by simp), splice_mid _ _ _ _ (by simp)]

theorem smallE_len (ps : List Pg) (a c : Int) : (smallE ps a c).2.length ≤ ps.length := by
  unfold smallE
  cases may ps with
  | false => simp
  | true =>
    cases in3 c 0 2 with
    | false => simp
    | true =>
      cases hf : freeE ps a 1 != 0 with
      | true => simp
      | false =>
        obtain ⟨h0, hl, _⟩ := freeE_in (by simpa using hf)
        simp only [Bool.not_true, cond_false]
        rw [putP_fit (by simp; omega), splice_len _ _ _ (by simp; omega)]
        exact Nat.le_refl _

theorem largeE_len (ps : List Pg) (a n : Int) : (largeE ps a n).2.length ≤ ps.length := by
  unfold largeE
  cases may ps with
  | false => simp
  | true =>
    cases hn : in3 n 1 4 with
    | false => simp
    | true =>
      cases hf : freeE ps a n != 0 with
      | true => simp
      | false =>
        obtain ⟨h1, _⟩ := in3_iff.1 hn
        obtain ⟨h0, hl, _⟩ := freeE_in (by simpa using hf)
        simp only [Bool.not_true, cond_false]
        have ho := ownL_len h1
        rw [putP_fit (by omega), splice_len _ _ _ (by omega)]
        exact Nat.le_refl _

theorem dropE_len (ps : List Pg) (a : Int) : (dropE ps a).2.length ≤ ps.length := by
  unfold dropE
  cases hm : may ps with
  | false => simp
  | true =>
    by_cases h1 : a < 0
    · simp [h1]
    · by_cases h2 : a ≥ (ps.length : Int)
      · simp [h2]
      · have d1 : decide (a < 0) = false := by simpa using h1
        have d2 : decide (a ≥ (ps.length : Int)) = false := by simpa using h2
        have hl : a.toNat < ps.length := by omega
        have hg : ps[a.toNat]? = some ps[a.toNat] := List.getElem?_eq_getElem hl
        rw [d1, d2, hg]
        generalize hp : ps[a.toNat] = p at hg
        obtain ⟨k, b⟩ := p
        simp only [Bool.not_true, Bool.or_self, cond_false, runOf]
        cases (k == 0 || k == 3) with
        | true => simp
        | false =>
          cases hk : k == 2 with
          | false =>
            simp only [cond_false]
            rw [putP_fit (by simp; omega), splice_len _ _ _ (by simp; omega)]
            exact Nat.le_refl _
          | true =>
            have hk2 : k = 2 := by simpa using hk
            subst hk2
            obtain ⟨b1, b4, hb⟩ := may_run hm hg
            simp only [cond_false, cond_true]
            rw [putP_fit (by simp; omega), splice_len _ _ _ (by simp; omega)]
            exact Nat.le_refl _
end Go.Ab

namespace Go.Ab
open Go
open Go.Proofs

noncomputable abbrev Pr : Program := Go.Proofs.Tryd.prog

def gWordsR : Callee := g1 cI (fun _ => true) fun c => cI.enc (wordsOf c)
def gBegins : Callee := g2 cPs cI (fun ps _ => Nat.ble ps.length 200) fun ps a => cI.enc (roomA ps a)
def gAllR : Callee := g1 cPs (fun ps => Nat.ble ps.length 200) fun ps => cOI.enc ((allCs ps).map (·.1))
noncomputable abbrev c34 : Cx := cxF Pr Tryd.f48 []
noncomputable abbrev c23 : Cx := cxF Pr Tryd.f46 [(74, gMayS), (48, gWordsR)]
abbrev o19 : Exit → List Nat := fun _ => [3]
abbrev p19 := [false, true, false, true, true]
def L19 : LoopSem := l3 [0, 3, 4] o19 cPs cOI cI c0 (fun ps O i _ => Nat.ble ps.length 200 && O.isEmpty && i == 16) fun ps _ _ _ => .one (.exit 0) [cOI.enc ((allCs ps).map (·.1))] []
abbrev o18 : Exit → List Nat := fun _ => [6]
abbrev p18 := [false, true, false, true, true, true]
def L18 : LoopSem := l4 [1, 5, 6, 7] o18 cI cOI cOI cI c0 (fun _ xs O i _ => Nat.ble xs.length 8192 && O.isEmpty && i == 0) fun p xs _ _ _ => .one (.exit 0) [cOI.enc (xs.filter fun a => IntKind.i64.wrap (IntKind.i64.wrap (a.tdiv 16) - 1) == p)] []
abbrev o20 : Exit → List Nat := fun | .ret => [4, 5] | _ => []
def find20 (ps : List Pg) (a : Int) (xs : List Int) : Option Int := xs.find? fun x => bif decide (x ≤ a) then decide (a < IntKind.i64.wrap (x + roomA ps x)) else false
def L20 : LoopSem := l4 [0, 1, 6, 7] o20 cPs cI cOI cI c0 (fun ps _ xs i _ => Nat.ble xs.length 8192 && Nat.ble ps.length 200 && i == 0) fun ps a xs _ _ =>
  .alt (find20 ps a xs).isSome (.one .ret [cI.enc ((find20 ps a xs).getD 0), cB.enc true] []) (.one (.exit 0) [] [])
def find22 (a : Int) (xs : List Int) : Option Int := xs.find? fun x => decide (x > a)
def L22 : LoopSem := l3 [1, 6, 7] o20 cI cOI cI c0 (fun _ xs i _ => Nat.ble xs.length 8192 && i == 0) fun a xs _ _ => .alt (find22 a xs).isSome (.one .ret [cI.enc ((find22 a xs).getD 0), cB.enc true] []) (.one (.exit 0) [] [])
set_option maxRecDepth 100000 in
theorem s34 (a : Int) (β : Type) (K : CV → List (List CV) → Option β) : fnK c34 Tryd.f48 [cI.enc a] [] K =
 bif a == 0 then K (CV.int IntKind.i64 2) []
 else
 bif a == 1 then K (CV.int IntKind.i64 4) []
 else bif a == 2 then K (CV.int IntKind.i64 8) [] else K (CV.int IntKind.i64 0) [] := by kernel_rfl

set_option maxRecDepth 100000 in
theorem s23 (ps : List Pg) (a : Int) (β : Type) (K : CV → List (List CV) → Option β) : fnK c23 Tryd.f46 [cPs.enc ps, cI.enc a] [] K =
 Option.bind (decP (List.map encP ps)) fun ps_1 =>
 bif Nat.ble (List.length ps_1) 200 then
 bif !may ps_1 then K (CV.int IntKind.i64 0) []
 else
 bif decide (a < 16) then K (CV.int IntKind.i64 0) []
 else
 bif decide (a ≥ IntKind.wrap IntKind.i64 (16 + IntKind.wrap IntKind.i64 (16 * (↑(List.length (List.map encP ps)) : Int)))) then
 K (CV.int IntKind.i64 0) []
 else
 Option.bind (rdE (List.map encP ps) (IntKind.wrap IntKind.i64 (IntKind.wrap IntKind.i64 (Int.tdiv a 16) - 1))) fun c =>
 Option.bind c[0]? fun x =>
 Option.bind (asI IntKind.i64 x) fun n =>
 Option.bind c[1]? fun x =>
 Option.bind (asI IntKind.i64 x) fun n_1 =>
 bif n == 2 then
 bif Int.tmod a 16 == 0 then K (CV.int IntKind.i64 (IntKind.wrap IntKind.i64 (16 * n_1))) []
 else
 bif n == 1 then
 if wordsOf n_1 = 0 then none
 else
 bif Int.tmod a (wordsOf n_1) == 0 then K (CV.int IntKind.i64 (wordsOf n_1)) []
 else K (CV.int IntKind.i64 0) []
 else K (CV.int IntKind.i64 0) []
 else
 bif n == 1 then
 if wordsOf n_1 = 0 then none
 else
 bif Int.tmod a (wordsOf n_1) == 0 then K (CV.int IntKind.i64 (wordsOf n_1)) []
 else K (CV.int IntKind.i64 0) []
 else K (CV.int IntKind.i64 0) []
 else none := by kernel_rfl

theorem wrap_in {a : Int} (h : -9223372036854775808 ≤ a ∧ a ≤ 9223372036854775807) : IntKind.i64.wrap a = a := IntWalk.i64_in a h

theorem encI_snoc (O : List Int) (a : Int) : encI O ++ [[CV.int .i64 a]] = encI (O ++ [a]) := by simp [encI]

theorem lim_of {n : Nat} (h : n ≤ 4000000000) : n ≤ LIM := by
  have : LIM = 4294967296 := rfl
  omega

/-- The i-th number of a list. -/
theorem ix_int {xs : List Int} {i : Nat} (h : i < xs.length) {γ : Type} (f : List CV → Option γ) :
    (if 0 ≤ (i : Int) ∧ (i : Int) < ((encI xs).length : Int) then Option.bind (encI xs)[(i : Int).toNat]? f else none) = f [CV.int .i64 xs[i]] := by
  rw [if_pos ⟨by omega, by simp; omega⟩]
  simp [encI, h]

@[simp] theorem zero_get (x : CV) (l : List CV) : (x :: l)[0]? = some x := rfl
@[simp] theorem one_get (x y : CV) (l : List CV) : (x :: y :: l)[1]? = some y := rfl

theorem words_good : GoodC Pr 48 gWordsR :=
  good1 ((CxOK.base Good.nil (eqOK_none fun _ => rfl)).sound (cx := c34) Tryd.func48 (by kernel_rfl) (by kernel_rfl) rfl (by kernel_rfl)) fun a _ β K => by
    rw [s34]
    unfold wordsOf
    by_cases h0 : a = 0
    · subst h0; rfl
    · by_cases h1 : a = 1
      · subst h1; rfl
      · by_cases h2 : a = 2
        · subst h2; rfl
        · rw [beq_ne h0, beq_ne h1, beq_ne h2]
          simp only [cond_false]
          by_cases hlo : a < 0
          · rw [if_pos hlo]; rfl
          · by_cases hhi : a ≥ 3
            · rw [if_neg hlo, if_pos hhi]; rfl
            · omega

theorem refMay_good : GoodC Pr 74 gMayS := ⟨mayS14, mayS_nat⟩

theorem tmod_pos {a b : Int} (h : 0 ≤ a) : Int.tmod a b = a % b := Int.tmod_eq_emod_of_nonneg h
theorem tdiv_pos {a b : Int} (h : 0 ≤ a) : Int.tdiv a b = a / b := Int.tdiv_eq_ediv_of_nonneg h

theorem rdE_nat {α : Type} {l : List α} {n : Int} (h : 0 ≤ n) : rdE l n = l[n.toNat]? := by unfold rdE; rw [if_pos h]

theorem begins_good : GoodC Pr 46 gBegins :=
  good2 ((CxOK.base (Good.cons refMay_good (Good.cons words_good Good.nil)) (eqOK_none fun _ => rfl)).sound (cx := c23) Tryd.func46 (by kernel_rfl) (by kernel_rfl) rfl (by kernel_rfl)) fun ps a hp β K => by
    rw [s23, roomA_doc]
    have hl := Nat.le_of_ble_eq_true hp
    simp only [decP_map, Option.bind_some, hp, cond_true, List.length_map]
    cases hm : may ps with
    | false => rfl
    | true =>
      obtain ⟨h1, _, h64⟩ := may_go hm
      rw [wrap_in (a := 16 * (ps.length : Int)) (by omega), wrap_in (a := 16 + 16 * (ps.length : Int)) (by omega)]
      by_cases hlo : a < 16
      · rw [decide_eq_true hlo, decide_eq_false (show ¬ 16 ≤ a by omega)]; rfl
      · rw [decide_eq_false hlo, decide_eq_true (show 16 ≤ a by omega)]
        by_cases hhi : a ≥ 16 + 16 * (ps.length : Int)
        · rw [decide_eq_true hhi, decide_eq_false (show ¬ a < 16 + 16 * (ps.length : Int) by omega)]; rfl
        · rw [decide_eq_false hhi, decide_eq_true (show a < 16 + 16 * (ps.length : Int) by omega)]
          have hj : (a / 16 - 1).toNat < ps.length := by omega
          rw [tdiv_pos (by omega), wrap_in (a := a / 16) (by omega), wrap_in (a := a / 16 - 1) (by omega), rdE_nat (by omega), List.getElem?_map, List.getElem?_eq_getElem hj]
          have hok := okPg_of h1 ps[(a / 16 - 1).toNat] (List.getElem_mem hj)
          have hg : ps.getD (a / 16 - 1).toNat (0, 0) = ps[(a / 16 - 1).toNat] := by rw [List.getD_eq_getElem?_getD, List.getElem?_eq_getElem hj]; rfl
          rw [hg]
          generalize ps[(a / 16 - 1).toNat] = q at hok ⊢
          obtain ⟨k, n⟩ := q
          have hr : (((a % 16).toNat : Nat) : Int) = a % 16 := by omega
          simp only [Option.map_some, Option.bind_some, encP, zero_get, one_get, asI_i, Bool.not_true, cond_false, Bool.and_self, cond_true, cellAt, tmod_pos (show 0 ≤ a by omega), hr]
          have h16 : ((a % 16).toNat == 0) = (a % 16 == 0) := by
            by_cases e : a % 16 = 0
            · rw [beq_of e, e]; rfl
            · rw [beq_ne e]; simp; omega
          rw [h16]
          rcases hok with h | h | ⟨h, hb⟩ | ⟨h, hb⟩ <;> dsimp only at h <;> subst h
          · rfl
          · rfl
          · obtain ⟨w2, _⟩ := small_full hb
            dsimp only at w2
            have hdvd : a % 16 % wordsOf n = a % wordsOf n := by
              have hb' : n = 0 ∨ n = 1 ∨ n = 2 := by dsimp only at hb; omega
              rcases hb' with rfl | rfl | rfl
              · exact show a % 16 % 2 = a % 2 by omega
              · exact show a % 16 % 4 = a % 4 by omega
              · exact show a % 16 % 8 = a % 8 by omega
            rw [hdvd, if_neg (show ¬ wordsOf n = 0 by omega)]
            cases hz : a % wordsOf n == 0 <;> rfl
          · rw [wrap_in (a := 16 * n) (by dsimp only at hb; omega)]
            cases a % 16 == 0 <;> rfl

theorem allCs_rises (ps : List Pg) : rises 16 (16 + (16 * ps.length : Nat)) ((allCs ps).map (·.1)) := by
  have go : ∀ (cs : List Cell) (lo : Int), chain lo cs → (∀ c ∈ cs, c.1 < 16 + (16 * ps.length : Nat)) → rises lo (16 + (16 * ps.length : Nat)) (cs.map (·.1)) := by
    intro cs
    induction cs with
    | nil => intro lo _ _; trivial
    | cons c cs ih =>
      rintro lo ⟨h1, h2, h3, h4, h5⟩ hb
      exact ⟨h1, hb c (by simp), ih _ (chain_mono (show c.1 + 1 ≤ c.1 + c.2 by omega) h5) fun d hd => hb d (by simp [hd])⟩
  refine go _ _ (all_chain ps) fun c hc => ?_
  unfold allCs at hc
  cases hm : may ps with
  | false => rw [hm] at hc; cases hc
  | true =>
    rw [hm] at hc
    have := allFrom_in ps 0 (okPg_of (may_go hm).1) c hc
    omega

theorem room_pos (ps : List Pg) (a : Int) : decide (roomA ps a > 0) = decide (a ∈ (allCs ps).map (·.1)) := by
  by_cases h : a ∈ (allCs ps).map (·.1)
  · obtain ⟨c, hc, rfl⟩ := List.mem_map.1 h
    have h1 : roomA ps c.1 = c.2 := by rw [roomA_def, find29 (all_chain ps) c hc]; rfl
    have h2 := chain_mem (all_chain ps) c hc
    rw [decide_eq_true h, h1]
    exact decide_eq_true (by omega)
  · rw [decide_eq_false h]
    refine decide_eq_false fun hp => ?_
    rw [roomA_def] at hp
    cases hf : firstC 71 a (allCs ps) with
    | none => rw [hf] at hp; cases hp
    | some c =>
      obtain ⟨h1, h2⟩ := of29 hf
      exact h (List.mem_map.2 ⟨c, h1, h2⟩)

theorem onL_filter (ps : List Pg) (p : Int) : ((allCs ps).map (·.1)).filter (fun a => IntKind.i64.wrap (IntKind.i64.wrap (a.tdiv 16) - 1) == p) = (onL ps p).map (·.1) := by
  have go : ∀ (ps : List Pg) (i : Nat), i + ps.length ≤ 300 → (∀ q ∈ ps, okPg q) → ((allFrom i ps).map (·.1)).filter (fun a => IntKind.i64.wrap (IntKind.i64.wrap (a.tdiv 16) - 1) == p) = (bif decide ((i : Int) ≤ p) && decide (p < (i : Int) + ps.length) then cellsP p (ps.getD (p - i).toNat (0, 0)) else []).map (·.1) := by
    intro ps
    induction ps with
    | nil =>
      intro i _ _
      by_cases h : (i : Int) ≤ p
      · rw [decide_eq_false (show ¬ p < (i : Int) + ([] : List Pg).length by simp; omega), Bool.and_false]; rfl
      · rw [decide_eq_false h]; rfl
    | cons q ps ih =>
      intro i hi hq
      have hin := cellsP_in (hq q (by simp)) i
      have ih := ih (i + 1) (by simp at hi; omega) fun q h => hq q (by simp [h])
      have hval : ∀ c ∈ cellsP (i : Int) q, IntKind.i64.wrap (IntKind.i64.wrap (c.1.tdiv 16) - 1) = i := fun c hc => by
        have := hin c hc
        simp at hi
        rw [tdiv_pos (by omega), wrap_in (a := c.1 / 16) (by omega), wrap_in (a := c.1 / 16 - 1) (by omega)]
        omega
      simp only [allFrom, List.map_append, List.filter_append, ih, List.length_cons]
      by_cases hp : p = i
      · subst hp
        have e1 : ((cellsP (i : Int) q).map (·.1)).filter (fun a => IntKind.i64.wrap (IntKind.i64.wrap (a.tdiv 16) - 1) == (i : Int)) = (cellsP (i : Int) q).map (·.1) := by
          refine List.filter_eq_self.2 fun a ha => ?_
          obtain ⟨c, hc, rfl⟩ := List.mem_map.1 ha
          simp [hval c hc]
        rw [e1, decide_eq_false (show ¬ ((i + 1 : Nat) : Int) ≤ (i : Int) by omega), decide_eq_true (show (i : Int) ≤ i by omega), decide_eq_true (show (i : Int) < (i : Int) + ((ps.length + 1 : Nat) : Int) by omega)]
        simp
      · have e1 : ((cellsP (i : Int) q).map (·.1)).filter (fun a => IntKind.i64.wrap (IntKind.i64.wrap (a.tdiv 16) - 1) == p) = [] := by
          refine List.filter_eq_nil_iff.2 fun a ha => ?_
          obtain ⟨c, hc, rfl⟩ := List.mem_map.1 ha
          simp only [hval c hc, beq_iff_eq]
          omega
        rw [e1, List.nil_append]
        by_cases hlo : ((i + 1 : Nat) : Int) ≤ p
        · rw [decide_eq_true hlo, decide_eq_true (show (i : Int) ≤ p by omega), show (p - ((i : Nat) : Int)).toNat = (p - ((i + 1 : Nat) : Int)).toNat + 1 by omega]
          by_cases hhi : p < ((i + 1 : Nat) : Int) + ps.length
          · rw [decide_eq_true hhi, decide_eq_true (show p < (i : Int) + ((ps.length + 1 : Nat) : Int) by omega)]
            simp
          · rw [decide_eq_false hhi, decide_eq_false (show ¬ p < (i : Int) + ((ps.length + 1 : Nat) : Int) by omega)]
            rfl
        · rw [decide_eq_false hlo, decide_eq_false (show ¬ (i : Int) ≤ p by omega)]
          rfl
  unfold allCs onL
  cases hm : may ps with
  | false => by_cases h0 : p < 0 <;> by_cases h1 : p ≥ (ps.length : Int) <;> simp [h0, h1]
  | true =>
    obtain ⟨h1, h2, h3⟩ := may_go hm
    have := go ps 0 (by omega) (okPg_of h1)
    simp only [cond_true]
    rw [this]
    by_cases h0 : p < 0
    · rw [decide_eq_true h0, decide_eq_false (show ¬ ((0 : Nat) : Int) ≤ p by omega)]; rfl
    · rw [decide_eq_false h0, decide_eq_true (show ((0 : Nat) : Int) ≤ p by omega)]
      by_cases h1 : p ≥ (ps.length : Int)
      · rw [decide_eq_true h1, decide_eq_false (show ¬ p < ((0 : Nat) : Int) + (ps.length : Int) by omega)]; rfl
      · rw [decide_eq_false h1, decide_eq_true (show p < ((0 : Nat) : Int) + (ps.length : Int) by omega)]
        simp

def gOnR : Callee := g2 cPs cI (fun ps _ => Nat.ble ps.length 200) fun ps p => cOI.enc ((onL ps p).map (·.1))

theorem all_len8 {ps : List Pg} (h : Nat.ble ps.length 200 = true) : Nat.ble ((allCs ps).map (·.1)).length 8192 = true := by
  have := Nat.le_of_ble_eq_true h
  refine Nat.ble_eq_true_of_le ?_
  rw [List.length_map]
  unfold allCs
  cases may ps with
  | false => simp
  | true => have := allFrom_len ps 0; simp only [cond_true]; omega

theorem find20_cons (ps : List Pg) (a x : Int) (xs : List Int) : find20 ps a (x :: xs) = bif decide (x ≤ a) then (bif decide (a < IntKind.i64.wrap (x + roomA ps x)) then some x else find20 ps a xs) else find20 ps a xs := by
  unfold find20
  rw [List.find?_cons]
  cases decide (x ≤ a) with
  | false => rfl
  | true =>
    simp only [cond_true]
    cases decide (a < IntKind.i64.wrap (x + roomA ps x)) <;> rfl

theorem find22_cons (a x : Int) (xs : List Int) : find22 a (x :: xs) = bif decide (x > a) then some x else find22 a xs := by
  unfold find22
  rw [List.find?_cons]
  cases decide (x > a) <;> rfl

theorem find_map (p : Int → Bool) (q : Cell → Bool) : ∀ (cs : List Cell), (∀ c ∈ cs, p c.1 = q c) → (cs.map (·.1)).find? p = (cs.find? q).map (·.1)
  | [], _ => rfl
  | c :: cs, h => by
    simp only [List.map_cons, List.find?_cons]
    rw [h c (by simp)]
    cases q c with
    | true => rfl
    | false => exact find_map p q cs fun d hd => h d (by simp [hd])

theorem optE_getD {α : Type} (o : Option α) (d : Int) (f : α → Int) : (o.map f).getD d = optE o d f := by cases o <;> rfl

def okInt (a : Int) : Bool := decide (-9223372036854775808 ≤ a) && decide (a ≤ 9223372036854775807)

def gStartR : Callee := g2 cPs cI (fun ps a => Nat.ble ps.length 200 && okInt a) fun ps a => .tup [cI.enc (startA ps a).1, cB.enc (startA ps a).2]
def gNextR : Callee := g2 cPs cI (fun ps _ => Nat.ble ps.length 200) fun ps a => .tup [cI.enc (nextA ps a).1, cB.enc (nextA ps a).2]

end Go.Ab

namespace Go.Ab
open Go
open Go.Proofs

def cOP : Cod (List Pg) where
  enc := fun ps => .own 2 (ps.map encP)
  dec := fun c => match c with | .own 2 L => decP L | _ => none
  ok := fun c a h => by
    split at h
    · rw [decP_enc h]
    · cases h
  de := fun _ => decP_map _
@[simp] theorem cOP_enc (ps : List Pg) : cOP.enc ps = .own 2 (ps.map encP) := rfl
@[simp] theorem cOP_dec (ps : List Pg) : cOP.dec (.own 2 (ps.map encP)) = some ps := decP_map ps

def sm (ps : List Pg) : Bool := Nat.ble ps.length 200
def gCloneP : Callee := g1 cPs (fun ps => !ps.isEmpty && sm ps) fun ps => cOP.enc ps
def gPutP : Callee := g3 cPs cI cPs (fun ps a _ => !ps.isEmpty && sm ps && decide (0 ≤ a) && decide (a ≤ (ps.length : Int))) fun ps a own => cOP.enc (putP ps a.toNat own)
def gFreeP : Callee := g3 cPs cI cI (fun ps _ n => sm ps && decide (1 ≤ n) && decide (n ≤ 4)) fun ps a n => cI.enc (freeE ps a n)
def gSmallP : Callee := g3 cPs cI cI (fun ps _ _ => sm ps) fun ps a c => resC (smallE ps a c)
def gDropP : Callee := g2 cPs cI (fun ps _ => sm ps) fun ps a => resC (dropE ps a)
def gCountP : Callee := g2 cPs cI (fun ps _ => sm ps) fun ps k => cI.enc (cnt ps k)
def gMayP : Callee := g1 cPs sm fun ps => cB.enc (may ps)
def gIn3 : Callee := g3 cI cI cI (fun _ _ _ => true) fun n a b => cB.enc (in3 n a b)

noncomputable abbrev c43 : Cx := cxF Pr Tryd.f62 [] (fun q => Nat.beq q 5)
noncomputable abbrev c36 : Cx := cxF Pr Tryd.f86 [(62, gCloneP)]
noncomputable abbrev c26 : Cx := cxF Pr Tryd.f76 []
noncomputable abbrev c25 : Cx := cxF Pr Tryd.f72 [(50, gMayP), (86, gPutP)]
set_option maxRecDepth 100000 in
theorem s43 (ps : List Pg) (β : Type) (K : CV → List (List CV) → Option β) : fnK c43 Tryd.f62 [cPs.enc ps] [] K =
 bif List.isEmpty (List.map encP ps) then none
 else if List.length ([] ++ List.map encP ps) ≤ LIM then K (CV.own 2 ([] ++ List.map encP ps)) [] else none := by kernel_rfl

set_option maxRecDepth 100000 in
theorem s36 (ps : List Pg) (a : Int) (own : List Pg) (β : Type) (K : CV → List (List CV) → Option β) : fnK c36 Tryd.f86 [cPs.enc ps, cI.enc a, cPs.enc own] [] K =
 Option.bind (decP (List.map encP ps)) fun a_1 =>
 bif !List.isEmpty a_1 && sm a_1 then
 bif okBounds (List.length (List.map encP a_1)) (some a) none none then
 K (CV.own 2 (splice (List.map encP a_1) (Int.toNat (Option.getD (some a) 0)) (List.take (min (List.length (List.map encP own)) (Int.toNat (Option.getD none (↑(List.length (List.map encP a_1)) : Int) - Option.getD (some a) 0))) (List.map encP own)))) []
 else none
 else none := by kernel_rfl

set_option maxRecDepth 100000 in
theorem s26 (n a b : Int) (β : Type) (K : CV → List (List CV) → Option β) : fnK c26 Tryd.f76 [cI.enc n, cI.enc a, cI.enc b] [] K =
 bif decide (n ≥ a) then K (CV.bool (decide (n ≤ b))) [] else K (CV.bool false) [] := by kernel_rfl

set_option maxRecDepth 100000 in
theorem s25 (ps : List Pg) (a : Int) (β : Type) (K : CV → List (List CV) → Option β) : fnK c25 Tryd.f72 [cPs.enc ps, cI.enc a] [] K =
 Option.bind (decP (List.map encP ps)) fun a_1 =>
 bif sm a_1 then
 bif !may a_1 then K (CV.tup [CV.own 2 [], CV.int IntKind.i64 1]) []
 else
 bif decide (a < 0) then
 bif decide (a < 0) then K (CV.tup [CV.own 2 [], CV.int IntKind.i64 3]) []
 else
 Option.bind (rdE (List.map encP ps) a) fun c =>
 Option.bind c[0]? fun x =>
 Option.bind (asI IntKind.i64 x) fun n =>
 bif n == 2 then
 Option.bind (rdE (List.map encP ps) a) fun c =>
 Option.bind c[1]? fun x =>
 Option.bind (asI IntKind.i64 x) fun n =>
 if 0 ≤ n ∧ n ≤ n ∧ n ≤ (↑LIM : Int) then
 Option.bind (decP (List.map encP ps)) fun a_2 =>
 Option.bind (decP (List.replicate (Int.toNat n) [CV.int IntKind.i64 0, CV.int IntKind.i64 0])) fun c =>
 bif !List.isEmpty a_2 && sm a_2 && decide (0 ≤ a) && decide (a ≤ (↑(List.length a_2) : Int)) then
 K (CV.tup [CV.own 2 (List.map encP (putP a_2 (Int.toNat a) c)), CV.int IntKind.i64 0]) []
 else none
 else none
 else
 Option.bind (decP (List.map encP ps)) fun a_2 =>
 bif !List.isEmpty a_2 && sm a_2 && decide (0 ≤ a) && decide (a ≤ (↑(List.length a_2) : Int)) then
 K (CV.tup [CV.own 2 (List.map encP (putP a_2 (Int.toNat a) [(0, 0)])), CV.int IntKind.i64 0]) []
 else none
 else
 bif decide (a ≥ (↑(List.length (List.map encP ps)) : Int)) then
 bif decide (a ≥ (↑(List.length (List.map encP ps)) : Int)) then
 K (CV.tup [CV.own 2 [], CV.int IntKind.i64 3]) []
 else
 Option.bind (rdE (List.map encP ps) a) fun c =>
 Option.bind c[0]? fun x =>
 Option.bind (asI IntKind.i64 x) fun n =>
 bif n == 2 then
 Option.bind (rdE (List.map encP ps) a) fun c =>
 Option.bind c[1]? fun x =>
 Option.bind (asI IntKind.i64 x) fun n =>
 if 0 ≤ n ∧ n ≤ n ∧ n ≤ (↑LIM : Int) then
 Option.bind (decP (List.map encP ps)) fun a_2 =>
 Option.bind (decP (List.replicate (Int.toNat n) [CV.int IntKind.i64 0, CV.int IntKind.i64 0])) fun c =>
 bif !List.isEmpty a_2 && sm a_2 && decide (0 ≤ a) && decide (a ≤ (↑(List.length a_2) : Int)) then
 K (CV.tup [CV.own 2 (List.map encP (putP a_2 (Int.toNat a) c)), CV.int IntKind.i64 0]) []
 else none
 else none
 else
 Option.bind (decP (List.map encP ps)) fun a_2 =>
 bif !List.isEmpty a_2 && sm a_2 && decide (0 ≤ a) && decide (a ≤ (↑(List.length a_2) : Int)) then
 K (CV.tup [CV.own 2 (List.map encP (putP a_2 (Int.toNat a) [(0, 0)])), CV.int IntKind.i64 0]) []
 else none
 else
 Option.bind (rdE (List.map encP ps) a) fun c =>
 Option.bind c[0]? fun x =>
 Option.bind (asI IntKind.i64 x) fun n =>
 bif n == 0 then
 bif n == 0 then K (CV.tup [CV.own 2 [], CV.int IntKind.i64 3]) []
 else
 Option.bind (rdE (List.map encP ps) a) fun c =>
 Option.bind c[0]? fun x =>
 Option.bind (asI IntKind.i64 x) fun n =>
 bif n == 2 then
 Option.bind (rdE (List.map encP ps) a) fun c =>
 Option.bind c[1]? fun x =>
 Option.bind (asI IntKind.i64 x) fun n =>
 if 0 ≤ n ∧ n ≤ n ∧ n ≤ (↑LIM : Int) then
 Option.bind (decP (List.map encP ps)) fun a_2 =>
 Option.bind (decP (List.replicate (Int.toNat n) [CV.int IntKind.i64 0, CV.int IntKind.i64 0])) fun c =>
 bif !List.isEmpty a_2 && sm a_2 && decide (0 ≤ a) && decide (a ≤ (↑(List.length a_2) : Int)) then
 K (CV.tup [CV.own 2 (List.map encP (putP a_2 (Int.toNat a) c)), CV.int IntKind.i64 0]) []
 else none
 else none
 else
 Option.bind (decP (List.map encP ps)) fun a_2 =>
 bif !List.isEmpty a_2 && sm a_2 && decide (0 ≤ a) && decide (a ≤ (↑(List.length a_2) : Int)) then
 K (CV.tup [CV.own 2 (List.map encP (putP a_2 (Int.toNat a) [(0, 0)])), CV.int IntKind.i64 0]) []
 else none
 else
 Option.bind (rdE (List.map encP ps) a) fun c =>
 Option.bind c[0]? fun x =>
 Option.bind (asI IntKind.i64 x) fun n =>
 bif n == 3 then K (CV.tup [CV.own 2 [], CV.int IntKind.i64 3]) []
 else
 Option.bind (rdE (List.map encP ps) a) fun c =>
 Option.bind c[0]? fun x =>
 Option.bind (asI IntKind.i64 x) fun n =>
 bif n == 2 then
 Option.bind (rdE (List.map encP ps) a) fun c =>
 Option.bind c[1]? fun x =>
 Option.bind (asI IntKind.i64 x) fun n =>
 if 0 ≤ n ∧ n ≤ n ∧ n ≤ (↑LIM : Int) then
 Option.bind (decP (List.map encP ps)) fun a_2 =>
 Option.bind (decP (List.replicate (Int.toNat n) [CV.int IntKind.i64 0, CV.int IntKind.i64 0])) fun c =>
 bif !List.isEmpty a_2 && sm a_2 && decide (0 ≤ a) && decide (a ≤ (↑(List.length a_2) : Int)) then
 K (CV.tup [CV.own 2 (List.map encP (putP a_2 (Int.toNat a) c)), CV.int IntKind.i64 0]) []
 else none
 else none
 else
 Option.bind (decP (List.map encP ps)) fun a_2 =>
 bif !List.isEmpty a_2 && sm a_2 && decide (0 ≤ a) && decide (a ≤ (↑(List.length a_2) : Int)) then
 K (CV.tup [CV.own 2 (List.map encP (putP a_2 (Int.toNat a) [(0, 0)])), CV.int IntKind.i64 0]) []
 else none
 else none := by kernel_rfl


theorem sm_le {ps : List Pg} (h : sm ps = true) : ps.length ≤ 200 := Nat.le_of_ble_eq_true h
theorem sm_of {ps : List Pg} (h : ps.length ≤ 200) : sm ps = true := Nat.ble_eq_true_of_le h
theorem lim_val : LIM = 4294967296 := rfl

theorem clone_good : GoodC Pr 62 gCloneP :=
  good1 ((CxOK.base Good.nil (eqOK_none fun _ => rfl)).sound (cx := c43) Tryd.func62 (by kernel_rfl) (by kernel_rfl) rfl (by kernel_rfl)) fun ps hp β K => by
    simp only [Bool.and_eq_true, Bool.not_eq_true', List.isEmpty_eq_false_iff] at hp
    have hl := sm_le hp.2
    have e1 : (ps.map encP).isEmpty = false := by simpa using hp.1
    rw [s43, e1, cond_false, List.nil_append, if_pos (lim_of (by simp; omega))]
    rfl

theorem splice_map {α γ : Type} (f : α → γ) (l : List α) (a : Nat) (x : List α) : splice (l.map f) a (x.map f) = (splice l a x).map f := by simp [splice]

theorem put_good : GoodC Pr 86 gPutP :=
  good3 ((CxOK.base (Good.cons clone_good Good.nil) (eqOK_none fun _ => rfl)).sound (cx := c36) Tryd.func86 (by kernel_rfl) (by kernel_rfl) rfl (by kernel_rfl)) fun ps a own hp β K => by
    simp only [Bool.and_eq_true, decide_eq_true_eq, Bool.not_eq_true'] at hp
    obtain ⟨⟨⟨he, hs⟩, h0⟩, hl⟩ := hp
    have e2 : okBounds ps.length (some a) none none = true := by simp [okBounds, h0, hl]
    have e3 : ((ps.length : Int) - a).toNat = ps.length - a.toNat := by omega
    rw [s36]
    simp only [decP_map, Option.bind_some, he, hs, Bool.not_false, Bool.and_self, cond_true, List.length_map, e2, Option.getD_some, Option.getD_none, e3, ← List.map_take, splice_map]
    rfl

theorem countP_good : GoodC Pr 15 gCountP :=
  GoodC.of count_sound (g2_nat _ _) fun args conts β K r h => by
    unfold gCountP g2 at h
    dsimp only at h
    split at h
    · rename_i a b
      replace h := bind_some' h
      obtain ⟨ps, hps, h⟩ := h
      replace h := bind_some' h
      obtain ⟨k, hk, h⟩ := h
      replace h := cond_some h
      obtain ⟨hs, h⟩ := h
      have e1 := cPs.ok _ _ hps
      have e2 := cI.ok _ _ hk
      subst e1; subst e2
      have hS : SMALL = 1152921504606846976 := rfl
      have := sm_le hs
      have h2 : Nat.ble ps.length SMALL = true := Nat.ble_eq_true_of_le (by omega)
      simp only [gCount, cPs_enc, cI_enc, decP_map, Option.bind_some, h2, cond_true]
      exact h
    · cases h

theorem mayP_good : GoodC Pr 50 gMayP :=
  GoodC.of mayS13 (g1_nat _) fun args conts β K r h => by
    unfold gMayP g1 at h
    dsimp only at h
    split at h
    · rename_i a
      replace h := bind_some' h
      obtain ⟨ps, hps, h⟩ := h
      replace h := cond_some h
      obtain ⟨hs, h⟩ := h
      have e1 := cPs.ok _ _ hps
      subst e1
      have hs' : Nat.ble ps.length 200 = true := hs
      simp only [gMayS, cPs_enc, decP_map, Option.bind_some, hs', cond_true]
      exact h
    · cases h

theorem in3_good : GoodC Pr 76 gIn3 :=
  good3 ((CxOK.base Good.nil (eqOK_none fun _ => rfl)).sound (cx := c26) Tryd.func76 (by kernel_rfl) (by kernel_rfl) rfl (by kernel_rfl)) fun n a b _ β K => by
    rw [s26]
    unfold in3
    cases decide (n ≥ a) <;> rfl

theorem drop_good : GoodC Pr 72 gDropP :=
  good2 ((CxOK.base (Good.cons mayP_good (Good.cons put_good Good.nil)) (eqOK_none fun _ => rfl)).sound (cx := c25) Tryd.func72 (by kernel_rfl) (by kernel_rfl) rfl (by kernel_rfl)) fun ps a hs β K => by
    rw [s25]
    have hL := lim_val
    have hlen := sm_le hs
    simp only [decP_map, Option.bind_some, hs, cond_true, dropE, List.length_map, decP_rep]
    cases hm : may ps with
    | false => rfl
    | true =>
      obtain ⟨l1, _⟩ := may_len hm
      by_cases h0 : a < 0
      · rw [decide_eq_true h0]; rfl
      · by_cases h1 : a ≥ (ps.length : Int)
        · rw [decide_eq_false h0, decide_eq_true h1]; rfl
        · rw [decide_eq_false h0, decide_eq_false h1]
          have hl : a.toNat < ps.length := by omega
          have hok := okPg_of (may_go hm).1 ps[a.toNat] (List.getElem_mem hl)
          simp only [rdE_at (show 0 ≤ a by omega) hl, List.getElem?_eq_getElem hl]
          generalize hq : ps[a.toNat] = q at hok
          have he : ps.isEmpty = false := by cases ps with | nil => simp at hl | cons _ _ => rfl
          have hc : (!ps.isEmpty && true && decide (0 ≤ a) && decide (a ≤ (ps.length : Int))) = true := by
            rw [he]; simp; omega
          obtain ⟨k, n⟩ := q
          simp only [encP, zero_get, one_get, Option.bind_some, asI_i, hc, cond_true, cond_false, Bool.not_true, Bool.or_self]
          rcases hok with h | h | ⟨h, hb⟩ | ⟨h, hb⟩ <;> dsimp only at h <;> subst h
          · rfl
          · rfl
          · rfl
          · dsimp only at hb
            rw [if_pos (by omega)]
            rfl
end Go.Ab
