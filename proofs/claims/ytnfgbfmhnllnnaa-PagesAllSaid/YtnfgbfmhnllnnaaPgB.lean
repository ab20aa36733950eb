/- Pages in parts.
PagesBack comes to true. -/
import Derived.Test.YtnfgbfmhnllnnaaPgA
namespace Go.Ab
open Go

theorem mayGo_append : ∀ (xs ys : List Pg) (r : Int), mayGo r (xs ++ ys) = (mayGo r xs).bind fun r' => mayGo r' ys
  | [], ys, r => rfl
  | p :: xs, ys, r => by
    simp only [List.cons_append, mayGo, Bool.cond_eq_ite, mayGo_append xs ys]
    repeat' split
    all_goals rfl

theorem mayGo_nonneg : ∀ {xs : List Pg} {r r' : Int}, 0 ≤ r → mayGo r xs = some r' → 0 ≤ r'
  | [], r, r', h, e => by
    simp only [mayGo, Option.some.injEq] at e
    omega
  | (a, b) :: xs, r, r', h, e => by
    by_cases h2 : a = 2
    · subst h2
      have e' : (bif !(in3 b 1 4) then none else bif decide (r > 0) then none else mayGo (b - 1) xs) = some r' := e
      cases hi : in3 b 1 4 with
      | false => rw [hi] at e'; cases e'
      | true =>
        obtain ⟨h1, h4⟩ := in3_iff.1 hi
        rw [hi] at e'
        cases hr : decide (r > 0) with
        | true => rw [hr] at e'; cases e'
        | false =>
          rw [hr] at e'
          exact mayGo_nonneg (by omega) e'
    · have e2 : (a == 2) = false := by simpa using h2
      simp only [mayGo, e2, Bool.cond_eq_ite] at e
      split at e
      · split at e
        · cases e
        · rename_i hr
          split at e
          · cases e
          · exact mayGo_nonneg (by simp at hr; omega) e
      · repeat' (split at e)
        all_goals first | exact mayGo_nonneg h e | contradiction | (simp at e; done)

theorem mayGo_free1 {r s b : Int} {ps : List Pg} (h : mayGo r ((0, b) :: ps) = some s) : b = 0 ∧ ¬ r > 0 ∧ mayGo r ps = some s := by
  have h' : (bif b != 0 then none else bif decide (r > 0) then none else mayGo r ps) = some s := h
  by_cases hb : b = 0
  · subst hb
    by_cases hr : r > 0
    · simp [hr] at h'
    · simp [hr] at h'
      exact ⟨rfl, by omega, h'⟩
  · have e : (b != 0) = true := by simpa using hb
    rw [e] at h'
    cases h'

theorem mayGo_frees : ∀ {n : Nat} {r s : Int} {ps : List Pg}, 0 ≤ r → mayGo r ps = some s → allFree (n + 1) ps = true → r = 0 ∧ ∃ Z, ps = List.replicate (n + 1) (0, 0) ++ Z ∧ mayGo 0 Z = some s
  | n, r, s, [], _, _, ha => by simp [allFree] at ha
  | n, r, s, (a, b) :: ps, h0, hm, ha => by
    rw [allFree] at ha
    have ha0 : a = 0 := by
      by_cases h : a = 0
      · exact h
      · have e : (a == 0) = false := by simpa using h
        rw [e] at ha
        cases ha
    subst ha0
    obtain ⟨rfl, hr, hm'⟩ := mayGo_free1 hm
    have hr0 : r = 0 := by omega
    subst hr0
    have ha' : allFree n ps = true := ha
    cases n with
    | zero => exact ⟨rfl, ps, rfl, hm'⟩
    | succ n =>
      obtain ⟨_, Z, hZ, hmZ⟩ := mayGo_frees h0 hm' ha'
      exact ⟨rfl, Z, by rw [hZ]; rfl, hmZ⟩

theorem allFree_len {n : Nat} {ps : List Pg} (h : allFree n ps = true) : n ≤ ps.length := by
  by_cases hl : ps.length < n
  · rw [allFree_short n ps hl] at h
    cases h
  · omega

/-- Pages of which some are free, in parts. -/
theorem may_free {l : List Pg} {k n : Nat} (hm : mayGo 0 l = some 0) (h1 : 1 ≤ n) (ha : allFree n (l.drop k) = true) : ∃ X Z, l = X ++ List.replicate n (0, 0) ++ Z ∧ X.length = k ∧ mayGo 0 X = some 0 ∧ mayGo 0 Z = some 0 := by
  obtain ⟨n, rfl⟩ : ∃ m, n = m + 1 := ⟨n - 1, by omega⟩
  have hl := allFree_len ha
  simp at hl
  have hs : l = l.take k ++ l.drop k := (List.take_append_drop k l).symm
  rw [hs, mayGo_append] at hm
  obtain ⟨r, hr, hm⟩ := bind_some' hm
  obtain ⟨rfl, Z, hZ, hmZ⟩ := mayGo_frees (mayGo_nonneg (by omega) hr) hm ha
  exact ⟨l.take k, Z, by rw [List.append_assoc, ← hZ, ← hs], by simp; omega, hr, hmZ⟩

theorem mayGo_join {X Y Z : List Pg} (hX : mayGo 0 X = some 0) (hY : mayGo 0 Y = some 0) (hZ : mayGo 0 Z = some 0) : mayGo 0 (X ++ Y ++ Z) = some 0 := by
  rw [mayGo_append, mayGo_append, hX, Option.bind_some, hY, Option.bind_some, hZ]

theorem mayGo_zeros : ∀ n : Nat, mayGo 0 (List.replicate n (0, 0)) = some 0
  | 0 => rfl
  | n + 1 => mayGo_zeros n

theorem mayGo_rests : ∀ (n : Nat), mayGo n (List.replicate n (3, 0)) = some 0
  | 0 => rfl
  | n + 1 => by
    have h0 : (((n + 1 : Nat) : Int) == 0) = false := beq_false_of_ne (by omega)
    have h2 : ((n + 1 : Nat) : Int) - 1 = (n : Int) := by omega
    show (bif (((n + 1 : Nat) : Int) == 0) then none else mayGo (((n + 1 : Nat) : Int) - 1) (List.replicate n (3, 0))) = some 0
    rw [h0, h2]
    exact mayGo_rests n

theorem mayGo_ownL {n : Int} (h1 : 1 ≤ n) (h4 : n ≤ 4) : mayGo 0 (ownL n) = some 0 := by
  have : (bif !(in3 n 1 4) then none else mayGo (n - 1) (List.replicate (n.toNat - 1) (3, 0))) = some 0 := by
    rw [in3_iff.2 ⟨h1, h4⟩]
    have := mayGo_rests (n.toNat - 1)
    rw [show ((n.toNat - 1 : Nat) : Int) = n - 1 by omega] at this
    exact this
  exact this

theorem mayGo_small {c : Int} (h0 : 0 ≤ c) (h2 : c ≤ 2) : mayGo 0 [(1, c)] = some 0 := by
  have : (bif !(in3 c 0 2) then (none : Option Int) else some 0) = some 0 := by
    rw [in3_iff.2 ⟨h0, h2⟩]
    rfl
  exact this

theorem splice_mid {α : Type} (X F Z Y : List α) (h : Y.length = F.length) : splice (X ++ F ++ Z) X.length Y = X ++ Y ++ Z := by
  simp [splice, h, List.drop_append]

theorem cnt_append (xs ys : List Pg) (k : Int) : cnt (xs ++ ys) k = cnt xs k + cnt ys k := by simp [cnt]

theorem cnt_zeros (n : Nat) : cnt (List.replicate n (0, 0)) 0 = n := by simp [cnt]

theorem cnt_ownL (n : Int) : cnt (ownL n) 0 = 0 := by
  simp only [cnt, ownL, List.length_eq_zero_iff, List.filter_eq_nil_iff]
  intro p hp
  simp only [List.mem_cons, List.mem_replicate] at hp
  rcases hp with rfl | ⟨_, rfl⟩ <;> simp

theorem findL_some : ∀ {n : Nat} {ps : List Pg} {k : Nat}, findL n ps = some k → allFree n (ps.drop k) = true ∧ ∀ i, i < k → allFree n (ps.drop i) = false
  | n, [], k, h => by simp [findL] at h
  | n, p :: ps, k, h => by
    rw [findL] at h
    cases ha : allFree n (p :: ps) with
    | true =>
      rw [ha] at h
      obtain rfl := Option.some.inj h
      exact ⟨ha, fun i hi => by omega⟩
    | false =>
      rw [ha] at h
      simp only [cond_false, Option.map_eq_some_iff] at h
      obtain ⟨j, hj, rfl⟩ := h
      obtain ⟨h1, h2⟩ := findL_some hj
      refine ⟨h1, fun i hi => ?_⟩
      cases i with
      | zero => exact ha
      | succ i => exact h2 i (by omega)

theorem findL_none : ∀ {n : Nat} {ps : List Pg}, 1 ≤ n → findL n ps = none → ∀ i, allFree n (ps.drop i) = false
  | n, [], h1, _, i => by
    rw [List.drop_nil]
    exact allFree_short n [] h1
  | n, p :: ps, h1, h, i => by
    rw [findL] at h
    cases ha : allFree n (p :: ps) with
    | true => rw [ha] at h; cases h
    | false =>
      rw [ha] at h
      simp only [cond_false, Option.map_eq_none_iff] at h
      cases i with
      | zero => exact ha
      | succ i => exact findL_none h1 h i

/-- What Find says of pages that may be. -/
theorem findR_may {ps : List Pg} {n : Int} (hm : may ps = true) (h1 : 1 ≤ n) (h4 : n ≤ 4) : findR ps n = match findL n.toNat ps with | some k => ((k : Nat), true) | none => (0, false) := by
  unfold findR
  rw [hm, in3_iff.2 ⟨h1, h4⟩]
  rfl

theorem freeE_ok {ps : List Pg} {a n : Int} (h1 : 1 ≤ n) (h0 : 0 ≤ a) (ha : allFree n.toNat (ps.drop a.toNat) = true) : freeE ps a n = 0 := by
  have hl := allFree_len ha
  simp at hl
  unfold freeE
  have e1 : decide (a < 0) = false := by simpa using h0
  have e2 : decide (a > (ps.length : Int) - n) = false := by simp; omega
  rw [e1, e2, ha]
  rfl

/-- Pages of which some are taken. -/
theorem large_parts {X Z : List Pg} {n : Int} (h1 : 1 ≤ n) (h4 : n ≤ 4) (hm : may (X ++ List.replicate n.toNat (0, 0) ++ Z) = true) : largeE (X ++ List.replicate n.toNat (0, 0) ++ Z) (X.length : Nat) n = (0, X ++ ownL n ++ Z) := by
  have ha : allFree n.toNat ((X ++ List.replicate n.toNat (0, 0) ++ Z).drop X.length) = true := by
    rw [List.append_assoc, List.drop_left]
    have : ∀ m : Nat, allFree m (List.replicate m (0, 0) ++ Z) = true := fun m => by
      induction m with
      | zero => rfl
      | succ m ih => exact ih
    exact this _
  unfold largeE
  rw [hm, in3_iff.2 ⟨h1, h4⟩, freeE_ok h1 (by omega) (by simpa using ha)]
  simp only [Bool.not_true, cond_false, bne_self_eq_false, Int.toNat_natCast]
  have ho := ownL_len h1
  rw [putP_fit (by simp; omega), splice_mid _ _ _ _ (by simp; omega)]

theorem small_parts {X Z : List Pg} {c : Int} (h0 : 0 ≤ c) (h2 : c ≤ 2) (hm : may (X ++ [(0, 0)] ++ Z) = true) : smallE (X ++ [(0, 0)] ++ Z) (X.length : Nat) c = (0, X ++ [(1, c)] ++ Z) := by
  have ha : allFree (1 : Int).toNat ((X ++ [(0, 0)] ++ Z).drop X.length) = true := by
    rw [List.append_assoc, List.drop_left]
    rfl
  unfold smallE
  rw [hm, in3_iff.2 ⟨h0, h2⟩, freeE_ok (by omega) (by omega) (by simpa using ha)]
  simp only [Bool.not_true, cond_false, bne_self_eq_false, Int.toNat_natCast]
  rw [putP_fit (by simp), splice_mid _ _ _ _ (by simp)]

/-- Pages of which some are let go. -/
theorem drop_parts {X Y Z : List Pg} {p : Pg} {Y' : List Pg} (hY : Y = p :: Y') (hp : p.1 = 1 ∨ p.1 = 2) (hn : runOf p = (Y.length : Int)) (hm : may (X ++ Y ++ Z) = true) : dropE (X ++ Y ++ Z) (X.length : Nat) = (0, X ++ List.replicate Y.length (0, 0) ++ Z) := by
  unfold dropE
  have hg : (X ++ Y ++ Z)[X.length]? = some p := by
    rw [hY, List.append_assoc, List.getElem?_append_right (Nat.le_refl _), Nat.sub_self]
    rfl
  have e1 : decide (((X.length : Nat) : Int) < 0) = false := by simp
  have e2 : decide (((X.length : Nat) : Int) ≥ ((X ++ Y ++ Z).length : Int)) = false := by simp [hY]; omega
  have e3 : (p.1 == 0 || p.1 == 3) = false := by rcases hp with h | h <;> simp [h]
  rw [hm, e1, e2, Int.toNat_natCast, hg]
  simp only [Bool.not_true, Bool.or_self, cond_false, e3, hn, Int.toNat_natCast]
  rw [putP_fit (by simp), splice_mid _ _ _ _ (by simp)]
end Go.Ab

namespace Go.Ab
open Go

noncomputable def cx8 : Cx := cxP 138 (bodyOf Go.Proofs.Try.f8) ΓL (fun _ => none) (fun _ => false)

set_option maxRecDepth 100000 in
theorem step8f (L : List (List CV)) (n c : Int) (β : Type) (K : CV → List (List CV) → Option β) : fnK cx8 Go.Proofs.Try.f8 [.sl 2 L, .int .i64 n, .int .i64 c] [] K =
  bif decide ((↑(List.length L) : Int) > 64) then K (CV.bool true) []
  else
    Option.bind (decP L) fun ps =>
      bif Nat.ble (List.length ps) 200 then
        bif !may ps then K (CV.bool true) []
        else
          bif decide (n < 1) then K (CV.bool true) []
          else
            bif decide (n > 4) then K (CV.bool true) []
            else
              bif decide (c < 0) then K (CV.bool true) []
              else
                bif decide (c > 2) then K (CV.bool true) []
                else
                  Option.bind (decP L) fun ps =>
                    bif Nat.ble (List.length ps) 200 then
                      bif !Prod.snd (findR ps n) then K (CV.bool (Prod.fst (findR ps n) == 0)) []
                      else
                        Option.bind (decP L) fun ps_1 =>
                          bif Nat.ble (List.length ps_1) 200 then
                            Option.bind (decP (List.map encP (Prod.snd (largeE ps_1 (Prod.fst (findR ps n)) n))))
                              fun ps_2 =>
                              bif Nat.ble (List.length ps_2) 200 then
                                Option.bind (decP L) fun ps_3 =>
                                  bif Nat.ble (List.length ps_3) 200 then
                                    Option.bind
                                      (decP (List.map encP (Prod.snd (smallE ps_3 (Prod.fst (findR ps n)) c))))
                                      fun ps_4 =>
                                      bif Nat.ble (List.length ps_4) 200 then
                                        Option.bind
                                          (decP (List.map encP (Prod.snd (dropE ps_2 (Prod.fst (findR ps n))))))
                                          fun ps_5 =>
                                          Option.bind (decP L) fun qs =>
                                            bif Nat.ble (List.length ps_5) 200 then
                                              Option.bind
                                                (decP (List.map encP (Prod.snd (dropE ps_4 (Prod.fst (findR ps n))))))
                                                fun ps_6 =>
                                                Option.bind (decP L) fun qs_1 =>
                                                  bif Nat.ble (List.length ps_6) 200 then
                                                    Option.bind (decP L) fun ps_7 =>
                                                      bif Nat.ble (List.length ps_7) 200 then
                                                        bif Prod.fst (largeE ps_1 (Prod.fst (findR ps n)) n) == 0 then
                                                          bif Prod.fst (dropE ps_2 (Prod.fst (findR ps n))) == 0 then
                                                            bif
                                                                Prod.fst (smallE ps_3 (Prod.fst (findR ps n)) c) ==
                                                                  0 then
                                                              bif
                                                                  Prod.fst (dropE ps_4 (Prod.fst (findR ps n))) ==
                                                                    0 then
                                                                bif sameP ps_5 qs then
                                                                  bif sameP ps_6 qs_1 then
                                                                    Option.bind
                                                                      (decP
                                                                        (List.map encP
                                                                          (Prod.snd
                                                                            (largeE ps_1 (Prod.fst (findR ps n)) n))))
                                                                      fun ps_8 =>
                                                                      bif Nat.ble (List.length ps_8) 200 then
                                                                        bif may ps_8 then
                                                                          Option.bind
                                                                            (decP
                                                                              (List.map encP
                                                                                (Prod.snd
                                                                                  (smallE ps_3 (Prod.fst (findR ps n))
                                                                                    c))))
                                                                            fun ps_9 =>
                                                                            bif Nat.ble (List.length ps_9) 200 then
                                                                              bif may ps_9 then
                                                                                Option.bind
                                                                                  (decP
                                                                                    (List.map encP
                                                                                      (Prod.snd
                                                                                        (largeE ps_1
                                                                                          (Prod.fst (findR ps n)) n))))
                                                                                  fun ps_10 =>
                                                                                  bif
                                                                                      Nat.ble (List.length ps_10)
                                                                                        200 then
                                                                                    bif
                                                                                        (↑(cnt ps_10 0) : Int) ==
                                                                                          IntKind.wrap IntKind.i64
                                                                                            ((↑(cnt ps_7 0) : Int) -
                                                                                              n) then
                                                                                      Option.bind
                                                                                        (decP
                                                                                          (List.map encP
                                                                                            (Prod.snd
                                                                                              (smallE ps_3
                                                                                                (Prod.fst (findR ps n))
                                                                                                c))))
                                                                                        fun ps =>
                                                                                        bif
                                                                                            Nat.ble (List.length ps)
                                                                                              200 then
                                                                                          K
                                                                                            (CV.bool
                                                                                              ((↑(cnt ps 0) : Int) ==
                                                                                                IntKind.wrap IntKind.i64
                                                                                                  ((↑(cnt ps_7 0) :
                                                                                                      Int) -
                                                                                                    1)))
                                                                                            []
                                                                                        else none
                                                                                    else K (CV.bool false) []
                                                                                  else none
                                                                              else K (CV.bool false) []
                                                                            else none
                                                                        else K (CV.bool false) []
                                                                      else none
                                                                  else K (CV.bool false) []
                                                                else K (CV.bool false) []
                                                              else K (CV.bool false) []
                                                            else K (CV.bool false) []
                                                          else K (CV.bool false) []
                                                        else K (CV.bool false) []
                                                      else none
                                                  else none
                                            else none
                                      else none
                                  else none
                              else none
                          else none
                    else none
      else none := by kernel_rfl

theorem law8 (l : List Pg) (n c : Int) (β : Type) (K : CV → List (List CV) → Option β) : fnK cx8 Go.Proofs.Try.f8 [.sl 2 (l.map encP), .int .i64 n, .int .i64 c] [] K = K (.bool true) [] := by
  rw [step8f]
  simp only [decP_map, List.length_map]
  by_cases h : (l.length : Int) > 64
  · simp only [h, decide_true, cond_true]
  have hs : Nat.ble l.length 200 = true := Nat.ble_eq_true_of_le (by omega)
  simp only [h, decide_false, cond_false, Option.bind_some, hs, cond_true]
  cases hm : may l with
  | false => rfl
  | true =>
  by_cases h1 : n < 1
  · simp only [h1, decide_true, cond_true, Bool.not_true, cond_false]
  by_cases h4 : n > 4
  · simp only [h1, h4, decide_true, decide_false, cond_true, Bool.not_true, cond_false]
  by_cases hc0 : c < 0
  · simp only [h1, h4, hc0, decide_true, decide_false, cond_true, Bool.not_true, cond_false]
  by_cases hc2 : c > 2
  · simp only [h1, h4, hc0, hc2, decide_true, decide_false, cond_true, Bool.not_true, cond_false]
  simp only [h1, h4, hc0, hc2, decide_false, Bool.not_true, cond_false]
  have n1 : 1 ≤ n := by omega
  have n4 : n ≤ 4 := by omega
  rw [findR_may hm n1 n4]
  cases hf : findL n.toNat l with
  | none => rfl
  | some k =>
    obtain ⟨ha, _⟩ := findL_some hf
    obtain ⟨X, Z, rfl, rfl, hX, hZ⟩ := may_free (may_go hm) (by omega) ha
    have hlen := may_len hm
    simp only [List.length_append, List.length_replicate] at hlen
    have e1 := large_parts n1 n4 hm
    have ho := ownL_len n1
    have hma : may (X ++ ownL n ++ Z) = true := go_may (by simp [ho]; omega) (by simp [ho]; omega) (mayGo_join hX (mayGo_ownL n1 n4) hZ)
    have e2 := drop_parts (X := X) (Y := ownL n) (Z := Z) (p := (2, n)) rfl (.inr rfl) (by rw [ho]; simp [runOf]; omega) hma
    have hsplit : X ++ List.replicate n.toNat (0, 0) ++ Z = X ++ [(0, 0)] ++ (List.replicate (n.toNat - 1) (0, 0) ++ Z) := by
      have : List.replicate n.toNat ((0 : Int), (0 : Int)) = (0, 0) :: List.replicate (n.toNat - 1) (0, 0) := by
        rw [← List.replicate_succ, show n.toNat - 1 + 1 = n.toNat by omega]
      rw [this]
      simp
    have hm' := hm
    rw [hsplit] at hm'
    have e3 := small_parts (show 0 ≤ c by omega) (show c ≤ 2 by omega) hm'
    have hmc : may (X ++ [(1, c)] ++ (List.replicate (n.toNat - 1) (0, 0) ++ Z)) = true := go_may (by simp; omega) (by simp; omega)
      (mayGo_join hX (mayGo_small (by omega) (by omega)) (by rw [mayGo_append, mayGo_zeros, Option.bind_some, hZ]))
    have e4 := drop_parts (X := X) (Y := [(1, c)]) (Z := List.replicate (n.toNat - 1) (0, 0) ++ Z) (p := (1, c)) rfl (.inl rfl) rfl hmc
    rw [← hsplit] at e3
    have l1 : Nat.ble (X ++ ownL n ++ Z).length 200 = true := Nat.ble_eq_true_of_le (by simp [ho]; omega)
    have l2 : Nat.ble (X ++ [(1, c)] ++ (List.replicate (n.toNat - 1) (0, 0) ++ Z)).length 200 = true := Nat.ble_eq_true_of_le (by simp; omega)
    have l3 : Nat.ble (X ++ List.replicate (ownL n).length (0, 0) ++ Z).length 200 = true := Nat.ble_eq_true_of_le (by simp [ho]; omega)
    have s1 : X ++ List.replicate (ownL n).length (0, 0) ++ Z = X ++ List.replicate n.toNat (0, 0) ++ Z := by rw [ho]
    have s2 : X ++ List.replicate [((1 : Int), c)].length (0, 0) ++ (List.replicate (n.toNat - 1) (0, 0) ++ Z) = X ++ List.replicate n.toNat (0, 0) ++ Z := by rw [hsplit]; rfl
    have c1 : ((cnt (X ++ ownL n ++ Z) 0 : Nat) : Int) = ((cnt (X ++ List.replicate n.toNat (0, 0) ++ Z) 0 : Nat) : Int) - n := by
      simp only [cnt_append, cnt_ownL, cnt_zeros]
      omega
    have c2 : ((cnt (X ++ [(1, c)] ++ (List.replicate (n.toNat - 1) (0, 0) ++ Z)) 0 : Nat) : Int) = ((cnt (X ++ List.replicate n.toNat (0, 0) ++ Z) 0 : Nat) : Int) - 1 := by
      have : cnt [((1 : Int), c)] 0 = 0 := by simp [cnt]
      simp only [cnt_append, this, cnt_zeros]
      omega
    have hcl := cnt_le (X ++ List.replicate n.toNat (0, 0) ++ Z) 0
    simp only [List.length_append, List.length_replicate] at hcl
    rw [s1] at e2 l3
    rw [s2] at e4
    simp only [e1, e2, e3, e4, l1, l2, l3, hma, hmc, cond_true, cond_false, Bool.not_true, beq_self_eq_true, sameP_self, c1, c2]
    rw [IntWalk.i64_in (_ - n) (by omega), IntWalk.i64_in (_ - 1) (by omega)]
    simp only [beq_self_eq_true, cond_true]
end Go.Ab
