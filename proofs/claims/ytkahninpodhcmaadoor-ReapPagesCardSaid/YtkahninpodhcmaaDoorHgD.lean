/- ReapFlushes.
The law ReapFlushes.
heap.Used's contract.
kept.
kept's contract. -/
import Derived.Test.YtkahninpodhcmaaDoorHgB
import Derived.Test.YtkahninpodhcmaaDoorHgC
namespace Go.Ab
open Go
open Go.Proofs
noncomputable abbrev k3 : Cx := cxN Pr Tryd.f3 [(7, gAwake), (8, gFew), (9, gMayHp), (10, gFlush), (11, gSameP)] [] (fun q => Nat.beq q 60 || Nat.beq q 64) (fun q => Nat.beq q 2042 || Nat.beq q 16378)
set_option maxRecDepth 100000 in
theorem r3 (h : Hp) (a b : Ls) (β : Type) (K : CV → List (List CV) → Option β) : fnK k3 Tryd.f3 [cHp.enc h, cLs.enc a, cLs.enc b] [] K =
 Option.bind (Option.bind (decI (encI (Hp.w h))) fun w =>
 Option.bind (decP (List.map encP (Hp.p h))) fun p =>
 Option.bind (decI (encI (Ls.a (Hp.f h)))) fun a =>
 Option.bind (decI (encI (Ls.b (Hp.f h)))) fun b =>
 Option.bind (decI (encI (Ls.c (Hp.f h)))) fun c =>
 Option.bind (decBs (encBs (Hp.c h))) fun d => some { w := w, p := p, f := { a := a, b := b, c := c }, c := d }) fun a_1 =>
 Option.bind (decLs [[CV.sl 1 (encI (Ls.a a)), CV.sl 1 (encI (Ls.b a)), CV.sl 1 (encI (Ls.c a))], [CV.sl 1 (encI (Ls.a b)), CV.sl 1 (encI (Ls.b b)), CV.sl 1 (encI (Ls.c b))]]) fun b_1 =>
 bif Nat.ble (List.length b_1) 9223372036854775807 then
 bif !fewV a_1 b_1 then K (CV.bool true) []
 else
 Option.bind (Option.bind (decI (encI (Hp.w h))) fun w =>
 Option.bind (decP (List.map encP (Hp.p h))) fun p =>
 Option.bind (decI (encI (Ls.a (Hp.f h)))) fun a =>
 Option.bind (decI (encI (Ls.b (Hp.f h)))) fun b =>
 Option.bind (decI (encI (Ls.c (Hp.f h)))) fun c =>
 Option.bind (decBs (encBs (Hp.c h))) fun d => some { w := w, p := p, f := { a := a, b := b, c := c }, c := d }) fun a_2 =>
 Option.bind (decLs [[CV.sl 1 (encI (Ls.a a)), CV.sl 1 (encI (Ls.b a)), CV.sl 1 (encI (Ls.c a))], [CV.sl 1 (encI (Ls.a b)), CV.sl 1 (encI (Ls.b b)), CV.sl 1 (encI (Ls.c b))]]) fun b_2 =>
 bif smH a_2 && smLs (Hp.f a_2 :: b_2) then
 bif !mayHpV a_2 b_2 then K (CV.bool true) []
 else
 Option.bind (Option.bind (decI (encI (Hp.w h))) fun w =>
 Option.bind (decP (List.map encP (Hp.p h))) fun p =>
 Option.bind (decI (encI (Ls.a (Hp.f h)))) fun a =>
 Option.bind (decI (encI (Ls.b (Hp.f h)))) fun b =>
 Option.bind (decI (encI (Ls.c (Hp.f h)))) fun c =>
 Option.bind (decBs (encBs (Hp.c h))) fun d => some { w := w, p := p, f := { a := a, b := b, c := c }, c := d }) fun a_3 =>
 Option.bind (Option.bind (decI (encI (Ls.a a))) fun a_4 =>
 Option.bind (decI (encI (Ls.b a))) fun b =>
 Option.bind (decI (encI (Ls.c a))) fun c => some { a := a_4, b := b, c := c }) fun b_3 =>
 bif smH a_3 && (smL b_3 && smL (app3 (Hp.f a_3) b_3)) then
 Option.bind (Option.bind (decI (encI (Hp.w (Prod.fst (flushE a_3 b_3))))) fun w =>
 Option.bind (decP (List.map encP (Hp.p (Prod.fst (flushE a_3 b_3))))) fun p =>
 Option.bind (decI (encI (Ls.a (Hp.f (Prod.fst (flushE a_3 b_3)))))) fun a =>
 Option.bind (decI (encI (Ls.b (Hp.f (Prod.fst (flushE a_3 b_3)))))) fun b =>
 Option.bind (decI (encI (Ls.c (Hp.f (Prod.fst (flushE a_3 b_3)))))) fun c =>
 Option.bind (decBs (encBs (Hp.c (Prod.fst (flushE a_3 b_3))))) fun d => some { w := w, p := p, f := { a := a, b := b, c := c }, c := d }) fun a_4 =>
 Option.bind (Option.bind (decI (encI (Ls.a b))) fun a =>
 Option.bind (decI (encI (Ls.b b))) fun b_4 =>
 Option.bind (decI (encI (Ls.c b))) fun c => some { a := a, b := b_4, c := c }) fun b_4 =>
 bif smH a_4 && (smL b_4 && smL (app3 (Hp.f a_4) b_4)) then
 if List.length (encI (Ls.a a)) ≤ LIM then
 if List.length (encI (Ls.a a) ++ encI (Ls.a b)) ≤ LIM then
 if List.length (encI (Ls.b a)) ≤ LIM then
 if List.length (encI (Ls.b a) ++ encI (Ls.b b)) ≤ LIM then
 if List.length (encI (Ls.c a)) ≤ LIM then
 if List.length (encI (Ls.c a) ++ encI (Ls.c b)) ≤ LIM then
 Option.bind (Option.bind (decI (encI (Hp.w h))) fun w =>
 Option.bind (decP (List.map encP (Hp.p h))) fun p =>
 Option.bind (decI (encI (Ls.a (Hp.f h)))) fun a =>
 Option.bind (decI (encI (Ls.b (Hp.f h)))) fun b =>
 Option.bind (decI (encI (Ls.c (Hp.f h)))) fun c =>
 Option.bind (decBs (encBs (Hp.c h))) fun d => some { w := w, p := p, f := { a := a, b := b, c := c }, c := d }) fun a_5 =>
 Option.bind (Option.bind (decI (encI (Ls.a a) ++ encI (Ls.a b))) fun a_6 =>
 Option.bind (decI (encI (Ls.b a) ++ encI (Ls.b b))) fun b_5 =>
 Option.bind (decI (encI (Ls.c a) ++ encI (Ls.c b))) fun c => some { a := a_6, b := b_5, c := c }) fun b =>
 bif smH a_5 && (smL b && smL (app3 (Hp.f a_5) b)) then
 bif Prod.snd (flushE a_3 b_3) != 0 then K (CV.bool false) []
 else
 bif Prod.snd (flushE a_4 b_4) != 0 then K (CV.bool false) []
 else
 bif Prod.snd (flushE a_5 b) != 0 then K (CV.bool false) []
 else
 bif (↑(List.length (encI (Ls.a (Hp.f (Prod.fst (flushE a_4 b_4)))))) : Int) != (↑(List.length (encI (Ls.a (Hp.f (Prod.fst (flushE a_5 b)))))) : Int) then
 K (CV.bool false) []
 else
 bif (↑(List.length (encI (Ls.b (Hp.f (Prod.fst (flushE a_4 b_4)))))) : Int) != (↑(List.length (encI (Ls.b (Hp.f (Prod.fst (flushE a_5 b)))))) : Int) then
 K (CV.bool false) []
 else
 bif (↑(List.length (encI (Ls.c (Hp.f (Prod.fst (flushE a_4 b_4)))))) : Int) != (↑(List.length (encI (Ls.c (Hp.f (Prod.fst (flushE a_5 b)))))) : Int) then
 K (CV.bool false) []
 else
 Option.bind (decP (List.map encP (Hp.p (Prod.fst (flushE a_4 b_4))))) fun a =>
 Option.bind (decP (List.map encP (Hp.p (Prod.fst (flushE a_5 b))))) fun b =>
 bif Nat.ble (List.length a) 100000 then
 K (CV.bool (decide (a = b))) []
 else none
 else none
 else none
 else none
 else none
 else none
 else none
 else none
 else none
 else none
 else none
 else none := by kernel_rfl

end Go.Ab

namespace Go.Ab
open Go
open Go.Proofs
theorem light_le {l : Ls} (h : lightV l = true) : l.a.length ≤ 70 ∧ l.b.length ≤ 70 ∧ l.c.length ≤ 70 := by
  simp only [lightV, Bool.and_eq_true, decide_eq_true_eq] at h
  omega
theorem few_le {h : Hp} {ls : List Ls} (hf : fewV h ls = true) : h.w.length ≤ 130 ∧ h.p.length ≤ 9 ∧ h.c.length ≤ 20 ∧ lightV h.f = true ∧ (∀ l ∈ ls, lightV l = true) ∧ ls.length ≤ 4 := by
  simp only [fewV, fewH, Bool.and_eq_true, decide_eq_true_eq, List.all_eq_true] at hf
  obtain ⟨⟨⟨h1, h2, h3, h4⟩, h5⟩, h6⟩ := hf
  exact ⟨by omega, by omega, by omega, h4, h5, by omega⟩
theorem smH_of {h : Hp} (h1 : h.w.length ≤ 100000) (h2 : h.p.length ≤ 200) (h3 : h.c.length ≤ 100000) (h4 : smL h.f = true) : smH h = true := by
  simp only [smH, sm, Nat.ble_eq_true_of_le h1, Nat.ble_eq_true_of_le h2, Nat.ble_eq_true_of_le h3, h4, Bool.and_self]
theorem light_sm {l : Ls} (h : lightV l = true) : smL l = true := by
  obtain ⟨h1, h2, h3⟩ := light_le h
  exact smL_len (by omega) (by omega) (by omega)
theorem smL_app3 {f l : Ls} {n m : Nat} (hf : ∀ k, k < 3 → (f.get k).length ≤ n) (hl : ∀ k, k < 3 → (l.get k).length ≤ m) (h : n + m ≤ 100000) : smL (app3 f l) = true ∧ ∀ k, k < 3 → ((app3 f l).get k).length ≤ n + m := by
  have g : ∀ k, k < 3 → ((app3 f l).get k).length ≤ n + m := fun k hk => by
    rw [app3_get, List.length_append]
    have h1 := hf k hk
    have h2 := hl k hk
    omega
  refine ⟨smL_len ?_ ?_ ?_, g⟩
  · exact Nat.le_trans (g 0 (by omega)) h
  · exact Nat.le_trans (g 1 (by omega)) h
  · exact Nat.le_trans (g 2 (by omega)) h
theorem light_get {l : Ls} (h : lightV l = true) : ∀ k, k < 3 → (l.get k).length ≤ 70 := fun k hk => by
  obtain ⟨h1, h2, h3⟩ := light_le h
  have : k = 0 ∨ k = 1 ∨ k = 2 := by omega
  rcases this with rfl | rfl | rfl
  · exact h1
  · exact h2
  · exact h3
theorem flushE_of {h : Hp} {a : Ls} (hm : MayF h [a]) : flushE h a = (flushH h a, 0) := by
  unfold flushE
  rw [mayF_iff.2 hm]; rfl
def gLaw3 : Callee := g3 cHp cLs cLs (fun _ _ _ => true) fun _ _ _ => .bool true
theorem law3_good : GoodC Pr 3 gLaw3 :=
  good3 ((CxOK.baseN (Good.cons awake_good (Good.cons few_good (Good.cons mayHp_good (Good.cons flush_good (Good.cons sameP_good Good.nil))))) GoodI.nil (eqOK_none fun _ => rfl)).sound (cx := k3) Tryd.func3 (by kernel_rfl) (by kernel_rfl) rfl (by kernel_rfl)) fun h a b _ β K => by
    have e : (⟨h.w, h.p, ⟨h.f.a, h.f.b, h.f.c⟩, h.c⟩ : Hp) = h := rfl
    have ea : ∀ l : Ls, (⟨l.a, l.b, l.c⟩ : Ls) = l := fun _ => rfl
    have el : decLs [[CV.sl 1 (encI (Ls.a a)), CV.sl 1 (encI (Ls.b a)), CV.sl 1 (encI (Ls.c a))], [CV.sl 1 (encI (Ls.a b)), CV.sl 1 (encI (Ls.b b)), CV.sl 1 (encI (Ls.c b))]] = some [a, b] := decLs_map [a, b]
    have hL := lim_val
    rw [r3]
    simp only [decI_map, decP_map, decBs_enc, Option.bind_some, e, ea, el, show Nat.ble [a, b].length 9223372036854775807 = true from rfl, cond_true]
    cases hf : fewV h [a, b] with
    | false => rfl
    | true =>
      obtain ⟨w1, w2, w3, w4, w5, _⟩ := few_le hf
      have la := w5 a (by simp)
      have lb := w5 b (by simp)
      have hs : smH h = true := smH_of (by omega) (by omega) (by omega) (light_sm w4)
      have hls : smLs [h.f, a, b] = true := by simp [smLs, light_sm w4, light_sm la, light_sm lb]
      simp only [Bool.not_true, cond_false, hs, hls, Bool.and_self, cond_true]
      cases hm : mayHpV h [a, b] with
      | false => rfl
      | true =>
        have hmf := mayF_iff.1 hm
        obtain ⟨s1, g1⟩ := smL_app3 (light_get w4) (light_get la) (by omega)
        obtain ⟨s0, g0⟩ := smL_app3 (light_get la) (light_get lb) (by omega)
        obtain ⟨s3, g3⟩ := smL_app3 (light_get w4) g0 (by omega)
        obtain ⟨f1, f2, f3, f4, f5, f6⟩ := flush_fin hmf s1
        have hmx := hmf.flush s1
        have gx : ∀ k, k < 3 → ((flushH h a).f.get k).length ≤ 140 := fun k hk => by
          rw [f6 k hk]
          refine Nat.le_trans (List.length_filter_le _ _) ?_
          have := g1 k hk
          rw [app3_get] at this
          exact this
        obtain ⟨s2, g2⟩ := smL_app3 gx (light_get lb) (by omega)
        have hsx : smH (flushH h a) = true := smH_of (by rw [f1]; omega) (by rw [f4]; omega) (by rw [f2]; omega) (by
          have := f3
          simp only [okW, Bool.and_eq_true] at this
          exact this.2)
        have ex : (⟨(flushH h a).w, (flushH h a).p, ⟨(flushH h a).f.a, (flushH h a).f.b, (flushH h a).f.c⟩, (flushH h a).c⟩ : Hp) = flushH h a := rfl
        have eb : (⟨a.a ++ b.a, a.b ++ b.b, a.c ++ b.c⟩ : Ls) = app3 a b := rfl
        obtain ⟨p1, p2⟩ := flush_both hmf s1 s2 s3
        obtain ⟨l1, l2, l3⟩ := light_le la
        obtain ⟨m1, m2, m3⟩ := light_le lb
        simp only [Bool.not_true, cond_false, light_sm la, light_sm lb, s1, Bool.and_self, cond_true, flushE_of hmf.one, ex, hsx, s2, flushE_of hmx, flushE_of hmf.both, encI_app, decI_map, Option.bind_some, eb, s0, s3, encI_len, List.length_append]
        rw [if_pos (by omega), if_pos (by omega), if_pos (by omega), if_pos (by omega), if_pos (by omega), if_pos (by omega)]
        have q0 : (flushH (flushH h a) b).f.a = (flushH h (app3 a b)).f.a := p2 0 (by omega)
        have q1 : (flushH (flushH h a) b).f.b = (flushH h (app3 a b)).f.b := p2 1 (by omega)
        have q2 : (flushH (flushH h a) b).f.c = (flushH h (app3 a b)).f.c := p2 2 (by omega)
        have q3 : (flushH h (app3 a b)).p.length ≤ 9 := by
          have := (flush_fin hmf.both s3).2.2.2.1
          omega
        have nb : ∀ n : Int, (n != n) = false := fun n => by simp
        simp only [q0, q1, q2, p1, nb, cond_false, decP_map, Option.bind_some, Nat.ble_eq_true_of_le (show (flushH h (app3 a b)).p.length ≤ 100000 by omega), cond_true, decide_true]
theorem law3_run (h : Hp) (a b : Ls) (β : Type) (K : CV → List (List CV) → Option β) : gLaw3.run [cHp.enc h, cLs.enc a, cLs.enc b] [] β K = K (.bool true) [] := by
  unfold gLaw3 g3
  dsimp only
  rw [cHp.de, cLs.de, cLs.de]
  rfl
end Go.Ab

namespace Go.Ab
open Go
open Go.Proofs
theorem del_spec (h : Hp) : ∀ (m : Nat) (xs : List Int) (i j : Nat), i ≤ j → j + m = xs.length → (delL h m xs i j).1.length = xs.length ∧ (delL h m xs i j).2 ≤ xs.length ∧
    (delL h m xs i j).1.take (delL h m xs i j).2 = xs.take i ++ (xs.drop j).filter fun a => !usedV h a := by
  intro m
  induction m with
  | zero =>
    intro xs i j hij h1
    refine ⟨rfl, by show i ≤ _; omega, ?_⟩
    rw [List.drop_eq_nil_of_le (by omega)]
    simp [delL]
  | succ m ih =>
    intro xs i j hij h1
    have hjj : j < xs.length := by omega
    have eg : xs.getD j 0 = xs[j] := by simp [hjj]
    unfold delL
    rw [eg, List.drop_eq_getElem_cons hjj, List.filter_cons]
    cases hu : usedV h xs[j] with
    | true =>
      simp only [Bool.not_true, cond_false, Bool.false_eq_true, if_false]
      exact ih xs i (j + 1) (by omega) (by omega)
    | false =>
      simp only [Bool.not_false, cond_true, if_true]
      obtain ⟨g1, g2, g3⟩ := ih (xs.set i xs[j]) (i + 1) (j + 1) (by omega) (by simp; omega)
      refine ⟨by simpa using g1, by simpa using g2, g3.trans ?_⟩
      have hii : i < xs.length := by omega
      have t1 : (xs.set i xs[j]).take (i + 1) = xs.take i ++ [xs[j]] := by
        rw [List.set_eq_take_append_cons_drop, if_pos hii]
        rw [List.take_append, List.length_take, Nat.min_eq_left (by omega)]
        rw [List.take_take, Nat.min_eq_right (by omega)]
        simp [show i + 1 - i = 1 by omega]
      have t2 : (xs.set i xs[j]).drop (j + 1) = xs.drop (j + 1) := by
        rw [List.drop_set]
        simp; omega
      rw [t1, t2]
      simp
theorem delZ_spec (h : Hp) (xs : List Int) (k : Nat) (hk : k < xs.length) : (delZ h xs (k : Int) ((k + 1 : Nat) : Int)).l.length = xs.length ∧ (delZ h xs (k : Int) ((k + 1 : Nat) : Int)).n ≤ xs.length ∧
    (delZ h xs (k : Int) ((k + 1 : Nat) : Int)).l.take (delZ h xs (k : Int) ((k + 1 : Nat) : Int)).n = xs.take k ++ (xs.drop (k + 1)).filter fun a => !usedV h a := by
  unfold delZ
  simp only [Int.toNat_natCast]
  exact del_spec h (xs.length - (k + 1)) xs k (k + 1) (by omega) (by omega)
def usedE (h : Hp) : List Int := bif mayHpV h [] then (cellAs h.p).filter (fun a => !usedV h a) else []
def gUsed : Callee := g1 cHp (fun h => smH h && smLs [h.f]) fun h => cIs.enc (usedE h)
theorem used_good : GoodC Pr 16 gUsed :=
  good1S ((CxOK.baseG (Good.cons mayHp_good (Good.cons allCG_good Good.nil)) (GoodI.cons del_inl GoodI.nil) (eqOK_none fun _ => rfl)).sound (cx := k16) Tryd.func16 (by kernel_rfl) (by kernel_rfl) rfl (by kernel_rfl)) fun h hp => by
    have hp0 := hp
    simp only [Bool.and_eq_true] at hp
    obtain ⟨hs, hls⟩ := hp
    have hL := lim_val
    have hca : List.map (fun x => x.fst) (allCs h.p) = cellAs h.p := rfl
    have e : (⟨h.w, h.p, ⟨h.f.a, h.f.b, h.f.c⟩, h.c⟩ : Hp) = h := rfl
    unfold usedE
    cases hm : mayHpV h [] with
    | false =>
      refine ⟨.own 1 [], rfl, fun β K => ?_⟩
      rw [r16]
      simp only [decI_map, decP_map, decBs_enc, Option.bind_some, e, hp0, cond_true, hm, Bool.not_false]
    | true =>
      have hsh := shaped_of hm
      have hc8 : (cellAs h.p).length ≤ 100000 := by
        have := Nat.le_of_ble_eq_true (all_len8 (ps := h.p) (Nat.ble_eq_true_of_le (smH_le hs).2.1))
        have e2 : (cellAs h.p).length = ((allCs h.p).map (·.1)).length := rfl
        omega
      have hpre : (cellAs h.p).all (inW h) = true := by
        have := cells_pre hs hsh
        rw [List.all_eq_true] at this ⊢
        intro a ha
        have h3 : (inW h a && inP h a) = true := this a ha
        simp only [Bool.and_eq_true] at h3
        exact h3.1
      have hall : ∀ xs : List Int, (xs.all (inW h) && Nat.ble xs.length 100000) = true → True := fun _ _ => trivial
      cases hf : firstU h (cellAs h.p) with
      | none =>
        have hfil : (cellAs h.p).filter (fun a => !usedV h a) = cellAs h.p := by
          rw [List.filter_eq_self]
          intro a ha
          unfold firstU at hf
          rw [List.findIdx?_eq_none_iff] at hf
          rw [hf a ha]; rfl
        refine ⟨.own 1 (encI (cellAs h.p)), by rw [cond_true, hfil]; rfl, fun β K => ?_⟩
        rw [r16]
        simp only [decI_map, decP_map, decBs_enc, Option.bind_some, e, hp0, cond_true, hm, Bool.not_true, cond_false, Nat.ble_eq_true_of_le (smH_le hs).2.1, atV_enc, hca, hpre, Nat.ble_eq_true_of_le hc8, Bool.and_self, hf, Option.isSome_none]
        rfl
      | some k =>
        have hf0 := hf
        unfold firstU at hf0
        obtain ⟨hk, hk1, hk2⟩ := List.findIdx?_eq_some_iff_getElem.1 hf0
        obtain ⟨z1, z2, z3⟩ := delZ_spec h (cellAs h.p) k hk
        have hfil : (cellAs h.p).filter (fun a => !usedV h a) = (cellAs h.p).take k ++ ((cellAs h.p).drop (k + 1)).filter fun a => !usedV h a := by
          conv => lhs; rw [← List.take_append_drop k (cellAs h.p), List.drop_eq_getElem_cons hk, List.filter_append, List.filter_cons]
          have h1 : ((cellAs h.p).take k).filter (fun a => !usedV h a) = (cellAs h.p).take k := by
            rw [List.filter_eq_self]
            intro a ha
            obtain ⟨i, hi, rfl⟩ := List.mem_iff_getElem.1 ha
            have hik : i < k := by simp at hi; omega
            have := hk2 i hik
            simp only [List.getElem_take]
            simpa using this
          rw [h1, hk1]
          simp
        have wk : IntKind.i64.wrap ((k : Int) + 1) = ((k + 1 : Nat) : Int) := by rw [wrap_in (by omega)]; omega
        have c1 : (((k : Nat) : Int) == Int.negSucc 0) = false := beq_eq_false_iff_ne.2 (by omega)
        have c2 : (decide (0 ≤ ((k : Nat) : Int)) && (decide (((k : Nat) : Int) ≤ ((k + 1 : Nat) : Int)) && decide (((k + 1 : Nat) : Int) ≤ ((cellAs h.p).length : Int)))) = true := by
          rw [decide_eq_true (by omega), decide_eq_true (by omega), decide_eq_true (by omega)]; rfl
        generalize hD : delZ h (cellAs h.p) (k : Int) ((k + 1 : Nat) : Int) = D at z1 z2 z3
        have b1 : okBounds (List.length (encI D.l)) (some ((D.n : Nat) : Int)) none none = true := by
          unfold okBounds
          simp only [Option.getD_some, Option.getD_none, encI_len, Bool.true_and, Bool.and_eq_true, decide_eq_true_eq]
          omega
        have sl : (splice (encI D.l) (Int.toNat (Option.getD (some ((D.n : Nat) : Int)) 0)) (List.replicate (Int.toNat (Option.getD none ((List.length (encI D.l) : Nat) : Int) - Option.getD (some ((D.n : Nat) : Int)) 0)) [CV.int IntKind.i64 0])).length = D.l.length := by
          unfold splice
          simp only [Option.getD_some, Option.getD_none, encI_len, List.length_append, List.length_take, List.length_replicate, List.length_drop, Int.toNat_natCast]
          omega
        have st : (splice (encI D.l) (Int.toNat (Option.getD (some ((D.n : Nat) : Int)) 0)) (List.replicate (Int.toNat (Option.getD none ((List.length (encI D.l) : Nat) : Int) - Option.getD (some ((D.n : Nat) : Int)) 0)) [CV.int IntKind.i64 0])).take D.n = encI (D.l.take D.n) := by
          unfold splice
          simp only [Option.getD_some, Int.toNat_natCast]
          rw [List.append_assoc, List.take_append_of_le_length (by simp; omega), List.take_take, Nat.min_self]
          simp [encI, List.map_take]
        have b2 : ∀ n : Nat, n = D.l.length → okBounds n none (some ((D.n : Nat) : Int)) none = true := fun n hn => by
          unfold okBounds
          simp only [Option.getD_some, Option.getD_none, Bool.true_and, Bool.and_eq_true, decide_eq_true_eq]
          omega
        refine ⟨.sl 1 (encI (D.l.take D.n)), by rw [cond_true, hfil, ← z3]; rfl, fun β K => ?_⟩
        rw [r16]
        simp only [decI_map, decP_map, decBs_enc, Option.bind_some, e, hp0, cond_true, hm, Bool.not_true, cond_false, Nat.ble_eq_true_of_le (smH_le hs).2.1, atV_enc, hca, hpre, Nat.ble_eq_true_of_le hc8, Bool.and_self, hf, Option.isSome_some, Option.getD_some, c1, wk, c2, hD, b1]
        have b2' := b2 _ sl
        simp only [Option.getD_some] at b2'
        simp only [Option.getD_some, Int.toNat_natCast] at st
        rw [b2', cond_true]
        show K (.sl 1 (((splice _ _ _).drop 0).take _)) [] = _
        rw [List.drop_zero]
        simp only [Int.sub_zero, Int.toNat_natCast, st]
end Go.Ab

namespace Go.Ab
open Go
open Go.Proofs
/-- Two heaps' boxes. -/
structure HH where
  h : Hp
  k : Hp
def cHH : CodB HH where
  enc := fun s => [encHp s.h, encHp s.k]
  dec := fun c => match c with
    | [[.sl 1 w, .sl 2 p, .sl 1 a, .sl 1 b, .sl 1 c, .sl 1 d], [.sl 1 w', .sl 2 p', .sl 1 a', .sl 1 b', .sl 1 c', .sl 1 d']] => (decW w p a b c d).bind fun h => (decW w' p' a' b' c' d').bind fun k => some ⟨h, k⟩
    | _ => none
  ok := fun c s e => by
    split at e
    · replace e := bind_some' e
      obtain ⟨h, h1, e⟩ := e
      replace e := bind_some' e
      obtain ⟨k, h2, e⟩ := e
      cases e
      obtain ⟨rfl, rfl, rfl, rfl, rfl, rfl⟩ := decW_ok h1
      obtain ⟨rfl, rfl, rfl, rfl, rfl, rfl⟩ := decW_ok h2
      rfl
    · cases e
  de := fun s => by
    show (decW _ _ _ _ _ _).bind _ = _
    rw [decW_enc]
    show (decW _ _ _ _ _ _).bind _ = _
    rw [decW_enc]; rfl
noncomputable abbrev k17a : Cx := cxG Pr Tryd.f17 [(16, gUsed), (46, gBegins)]
abbrev p17i := [false, true, true, true, true, false, false, true, false, false, true, false, true, true, true]
abbrev o17i : Exit → List Nat := fun | .ret => [6] | _ => [2, 3, 4, 7, 8]
set_option maxRecDepth 100000 in
theorem t17i (s : HH) (a : Int) (us : List Int) (i n j : Int) (m : Nat) (β : Type) (K : Exit → List CV → List (List CV) → Option β) : loopB k17a [2, 3, 4, 7, 8, 9, 10] o17i p17i (bodyL (bodyOf Tryd.f17) p17i) (m + 1) [cI.enc a, .ref 0, .ref 1, cIs.enc us, cI.enc i, cI.enc n, cI.enc j] (cHH.enc s) K =
 bif decide (j < n) then
 Option.bind (rdE (encI us) i) fun c =>
 Option.bind c[0]? fun x =>
 Option.bind (asI IntKind.i64 x) fun n_1 =>
 Option.bind (rdE (encI (Hp.w (HH.k s))) (IntKind.wrap IntKind.i64 (IntKind.wrap IntKind.i64 (n_1 + j) - 16))) fun c =>
 Option.bind c[0]? fun x =>
 Option.bind (asI IntKind.i64 x) fun n_2 =>
 Option.bind (rdE (encI us) i) fun c =>
 Option.bind c[0]? fun x =>
 Option.bind (asI IntKind.i64 x) fun n_3 =>
 Option.bind (rdE (encI (Hp.w (HH.h s))) (IntKind.wrap IntKind.i64 (IntKind.wrap IntKind.i64 (n_3 + j) - 16))) fun c =>
 Option.bind c[0]? fun x =>
 Option.bind (asI IntKind.i64 x) fun n_4 =>
 bif n_2 != n_4 then
 K Exit.ret [CV.bool false] [[CV.sl 1 (encI (Hp.w (HH.h s))), CV.sl 2 (List.map encP (Hp.p (HH.h s))), CV.sl 1 (encI (Ls.a (Hp.f (HH.h s)))), CV.sl 1 (encI (Ls.b (Hp.f (HH.h s)))), CV.sl 1 (encI (Ls.c (Hp.f (HH.h s)))), CV.sl 1 (encBs (Hp.c (HH.h s)))], [CV.sl 1 (encI (Hp.w (HH.k s))), CV.sl 2 (List.map encP (Hp.p (HH.k s))), CV.sl 1 (encI (Ls.a (Hp.f (HH.k s)))), CV.sl 1 (encI (Ls.b (Hp.f (HH.k s)))), CV.sl 1 (encI (Ls.c (Hp.f (HH.k s)))), CV.sl 1 (encBs (Hp.c (HH.k s)))]]
 else loopB k17a [2, 3, 4, 7, 8, 9, 10] o17i [false, true, true, true, true, false, false, true, false, false, true, false, true, true, true] (bodyL (bodyOf Tryd.f17) p17i) m [CV.int IntKind.i64 a, CV.ref 0, CV.ref 1, CV.sl 1 (encI us), CV.int IntKind.i64 i, CV.int IntKind.i64 n, CV.int IntKind.i64 (IntKind.wrap IntKind.i64 (j + 1))] [[CV.sl 1 (encI (Hp.w (HH.h s))), CV.sl 2 (List.map encP (Hp.p (HH.h s))), CV.sl 1 (encI (Ls.a (Hp.f (HH.h s)))), CV.sl 1 (encI (Ls.b (Hp.f (HH.h s)))), CV.sl 1 (encI (Ls.c (Hp.f (HH.h s)))), CV.sl 1 (encBs (Hp.c (HH.h s)))], [CV.sl 1 (encI (Hp.w (HH.k s))), CV.sl 2 (List.map encP (Hp.p (HH.k s))), CV.sl 1 (encI (Ls.a (Hp.f (HH.k s)))), CV.sl 1 (encI (Ls.b (Hp.f (HH.k s)))), CV.sl 1 (encI (Ls.c (Hp.f (HH.k s)))), CV.sl 1 (encBs (Hp.c (HH.k s)))]] fun a a_1 a_2 => K a a_1 a_2
 else
 K (Exit.exit 2) [CV.int IntKind.i64 a, CV.ref 0, CV.ref 1, CV.sl 1 (encI us), CV.int IntKind.i64 i] [[CV.sl 1 (encI (Hp.w (HH.h s))), CV.sl 2 (List.map encP (Hp.p (HH.h s))), CV.sl 1 (encI (Ls.a (Hp.f (HH.h s)))), CV.sl 1 (encI (Ls.b (Hp.f (HH.h s)))), CV.sl 1 (encI (Ls.c (Hp.f (HH.h s)))), CV.sl 1 (encBs (Hp.c (HH.h s)))], [CV.sl 1 (encI (Hp.w (HH.k s))), CV.sl 2 (List.map encP (Hp.p (HH.k s))), CV.sl 1 (encI (Ls.a (Hp.f (HH.k s)))), CV.sl 1 (encI (Ls.b (Hp.f (HH.k s)))), CV.sl 1 (encI (Ls.c (Hp.f (HH.k s)))), CV.sl 1 (encBs (Hp.c (HH.k s)))]] := by kernel_rfl

/-- Are words from an address on the same? -/
def eqR (s : HH) (u : Int) : Nat → Nat → Bool
  | 0, _ => true
  | m + 1, j => bif s.k.w.getD (u + (j : Int) - 16).toNat 0 != s.h.w.getD (u + (j : Int) - 16).toNat 0 then false else eqR s u m (j + 1)
def L17i : LoopSem := l7 [2, 3, 4, 7, 8, 9, 10] o17i cI (cRef 0) (cRef 1) cIs cI cI cI cHH
  (fun _ _ _ us i n j s => decide (0 ≤ i) && (decide (i < (us.length : Int)) && (j == 0 && (decide (0 ≤ n) && (decide (16 ≤ us.getD i.toNat 0) && (decide (us.getD i.toNat 0 - 16 + n ≤ (s.h.w.length : Int)) && (decide (s.h.w.length ≤ 100000) && decide (s.k.w.length = s.h.w.length))))))))
  fun a _ _ us i n _ s => .alt (eqR s (us.getD i.toNat 0) n.toNat 0) (.one (.exit 2) [cI.enc a, .ref 0, .ref 1, cIs.enc us, cI.enc i] (cHH.enc s)) (.one .ret [cB.enc false] (cHH.enc s))
noncomputable abbrev k17b : Cx := k17a.loop p17i L17i
abbrev p17o := [false, true, false, true, true, true]
abbrev o17o : Exit → List Nat := fun | .ret => [6] | _ => []
set_option maxRecDepth 100000 in
theorem t17o (s : HH) (a : Int) (us : List Int) (i : Int) (m : Nat) (β : Type) (K : Exit → List CV → List (List CV) → Option β) : loopB k17b [2, 3, 4, 7, 8] o17o p17o (bodyL (bodyOf Tryd.f17) p17o) (m + 1) [cI.enc a, .ref 0, .ref 1, cIs.enc us, cI.enc i] (cHH.enc s) K =
 bif decide (i < (↑(List.length (encI us)) : Int)) then
 Option.bind (rdE (encI us) i) fun c =>
 Option.bind c[0]? fun x =>
 Option.bind (asI IntKind.i64 x) fun n =>
 Option.bind (decP (List.map encP (Hp.p (HH.h s)))) fun a_1 =>
 bif Nat.ble (List.length a_1) 200 then
 Option.bind (rdE (encI us) i) fun c =>
 Option.bind c[0]? fun x =>
 Option.bind (asI IntKind.i64 x) fun n_1 =>
 bif n_1 == a then loopB k17b [2, 3, 4, 7, 8] o17o [false, true, false, true, true, true] (bodyL (bodyOf Tryd.f17) p17o) m [CV.int IntKind.i64 a, CV.ref 0, CV.ref 1, CV.sl 1 (encI us), CV.int IntKind.i64 (IntKind.wrap IntKind.i64 (i + 1))] [[CV.sl 1 (encI (Hp.w (HH.h s))), CV.sl 2 (List.map encP (Hp.p (HH.h s))), CV.sl 1 (encI (Ls.a (Hp.f (HH.h s)))), CV.sl 1 (encI (Ls.b (Hp.f (HH.h s)))), CV.sl 1 (encI (Ls.c (Hp.f (HH.h s)))), CV.sl 1 (encBs (Hp.c (HH.h s)))], [CV.sl 1 (encI (Hp.w (HH.k s))), CV.sl 2 (List.map encP (Hp.p (HH.k s))), CV.sl 1 (encI (Ls.a (Hp.f (HH.k s)))), CV.sl 1 (encI (Ls.b (Hp.f (HH.k s)))), CV.sl 1 (encI (Ls.c (Hp.f (HH.k s)))), CV.sl 1 (encBs (Hp.c (HH.k s)))]] fun a a_2 a_3 => K a a_2 a_3
 else
 Option.bind (rdE (encI us) i) fun c =>
 Option.bind c[0]? fun x =>
 Option.bind (asI IntKind.i64 x) fun n_2 =>
 Option.bind (decP (List.map encP (Hp.p (HH.k s)))) fun a_2 =>
 bif Nat.ble (List.length a_2) 200 then
 bif roomA a_2 n_2 != roomA a_1 n then
 K Exit.ret [CV.bool false] [[CV.sl 1 (encI (Hp.w (HH.h s))), CV.sl 2 (List.map encP (Hp.p (HH.h s))), CV.sl 1 (encI (Ls.a (Hp.f (HH.h s)))), CV.sl 1 (encI (Ls.b (Hp.f (HH.h s)))), CV.sl 1 (encI (Ls.c (Hp.f (HH.h s)))), CV.sl 1 (encBs (Hp.c (HH.h s)))], [CV.sl 1 (encI (Hp.w (HH.k s))), CV.sl 2 (List.map encP (Hp.p (HH.k s))), CV.sl 1 (encI (Ls.a (Hp.f (HH.k s)))), CV.sl 1 (encI (Ls.b (Hp.f (HH.k s)))), CV.sl 1 (encI (Ls.c (Hp.f (HH.k s)))), CV.sl 1 (encBs (Hp.c (HH.k s)))]]
 else
 Option.bind (decI (encI us)) fun d =>
 Option.bind (Option.bind (decW (encI (Hp.w (HH.h s))) (List.map encP (Hp.p (HH.h s))) (encI (Ls.a (Hp.f (HH.h s)))) (encI (Ls.b (Hp.f (HH.h s)))) (encI (Ls.c (Hp.f (HH.h s)))) (encBs (Hp.c (HH.h s)))) fun h =>
 Option.bind (decW (encI (Hp.w (HH.k s))) (List.map encP (Hp.p (HH.k s))) (encI (Ls.a (Hp.f (HH.k s)))) (encI (Ls.b (Hp.f (HH.k s)))) (encI (Ls.c (Hp.f (HH.k s)))) (encBs (Hp.c (HH.k s)))) fun k => some { h := h, k := k }) fun u =>
 bif decide (0 ≤ i) && (decide (i < (↑(List.length d) : Int)) && (decide (0 ≤ roomA a_1 n) && (decide (16 ≤ List.getD d (Int.toNat i) 0) && (decide (List.getD d (Int.toNat i) 0 - 16 + roomA a_1 n ≤ (↑(List.length (Hp.w (HH.h u))) : Int)) && (decide (List.length (Hp.w (HH.h u)) ≤ 100000) && decide (List.length (Hp.w (HH.k u)) = List.length (Hp.w (HH.h u)))))))) then
 bif eqR u (List.getD d (Int.toNat i) 0) (Int.toNat (roomA a_1 n)) 0 then loopB k17b [2, 3, 4, 7, 8] o17o [false, true, false, true, true, true] (bodyL (bodyOf Tryd.f17) p17o) m [CV.int IntKind.i64 a, CV.ref 0, CV.ref 1, CV.sl 1 (encI d), CV.int IntKind.i64 (IntKind.wrap IntKind.i64 (i + 1))] [[CV.sl 1 (encI (Hp.w (HH.h u))), CV.sl 2 (List.map encP (Hp.p (HH.h u))), CV.sl 1 (encI (Ls.a (Hp.f (HH.h u)))), CV.sl 1 (encI (Ls.b (Hp.f (HH.h u)))), CV.sl 1 (encI (Ls.c (Hp.f (HH.h u)))), CV.sl 1 (encBs (Hp.c (HH.h u)))], [CV.sl 1 (encI (Hp.w (HH.k u))), CV.sl 2 (List.map encP (Hp.p (HH.k u))), CV.sl 1 (encI (Ls.a (Hp.f (HH.k u)))), CV.sl 1 (encI (Ls.b (Hp.f (HH.k u)))), CV.sl 1 (encI (Ls.c (Hp.f (HH.k u)))), CV.sl 1 (encBs (Hp.c (HH.k u)))]] fun a a_3 a_4 => K a a_3 a_4
 else
 K Exit.ret [CV.bool false] [[CV.sl 1 (encI (Hp.w (HH.h u))), CV.sl 2 (List.map encP (Hp.p (HH.h u))), CV.sl 1 (encI (Ls.a (Hp.f (HH.h u)))), CV.sl 1 (encI (Ls.b (Hp.f (HH.h u)))), CV.sl 1 (encI (Ls.c (Hp.f (HH.h u)))), CV.sl 1 (encBs (Hp.c (HH.h u)))], [CV.sl 1 (encI (Hp.w (HH.k u))), CV.sl 2 (List.map encP (Hp.p (HH.k u))), CV.sl 1 (encI (Ls.a (Hp.f (HH.k u)))), CV.sl 1 (encI (Ls.b (Hp.f (HH.k u)))), CV.sl 1 (encI (Ls.c (Hp.f (HH.k u)))), CV.sl 1 (encBs (Hp.c (HH.k u)))]]
 else none
 else none
 else none
 else
 K (Exit.exit 0) [] [[CV.sl 1 (encI (Hp.w (HH.h s))), CV.sl 2 (List.map encP (Hp.p (HH.h s))), CV.sl 1 (encI (Ls.a (Hp.f (HH.h s)))), CV.sl 1 (encI (Ls.b (Hp.f (HH.h s)))), CV.sl 1 (encI (Ls.c (Hp.f (HH.h s)))), CV.sl 1 (encBs (Hp.c (HH.h s)))], [CV.sl 1 (encI (Hp.w (HH.k s))), CV.sl 2 (List.map encP (Hp.p (HH.k s))), CV.sl 1 (encI (Ls.a (Hp.f (HH.k s)))), CV.sl 1 (encI (Ls.b (Hp.f (HH.k s)))), CV.sl 1 (encI (Ls.c (Hp.f (HH.k s)))), CV.sl 1 (encBs (Hp.c (HH.k s)))]] := by kernel_rfl

end Go.Ab

namespace Go.Ab
open Go
open Go.Proofs
theorem kept_round (s : HH) (a : Int) (us : List Int) (i n : Int) (j m : Nat) (hi0 : 0 ≤ i) (hi : i < (us.length : Int)) (hj : (j : Int) < n) (h16 : 16 ≤ us.getD i.toNat 0) (hend : us.getD i.toNat 0 - 16 + n ≤ (s.h.w.length : Int)) (hl : s.h.w.length ≤ 100000) (hk : s.k.w.length = s.h.w.length) (β : Type) (K : Exit → List CV → List (List CV) → Option β) :
    loopB k17a [2, 3, 4, 7, 8, 9, 10] o17i p17i (bodyL (bodyOf Tryd.f17) p17i) (m + 1) [cI.enc a, .ref 0, .ref 1, cIs.enc us, cI.enc i, cI.enc n, cI.enc (j : Int)] (cHH.enc s) K =
      bif s.k.w.getD (us.getD i.toNat 0 + (j : Int) - 16).toNat 0 != s.h.w.getD (us.getD i.toNat 0 + (j : Int) - 16).toNat 0 then K .ret [cB.enc false] (cHH.enc s)
      else loopB k17a [2, 3, 4, 7, 8, 9, 10] o17i p17i (bodyL (bodyOf Tryd.f17) p17i) m [cI.enc a, .ref 0, .ref 1, cIs.enc us, cI.enc i, cI.enc n, cI.enc ((j + 1 : Nat) : Int)] (cHH.enc s) K := by
  have hii : i.toNat < us.length := by omega
  have eg : us.getD i.toNat 0 = us[i.toNat] := by simp [hii]
  rw [eg] at h16 hend ⊢
  have e1 : (encI us)[i.toNat]? = some [CV.int .i64 us[i.toNat]] := by simp [encI, hii]
  generalize us[i.toNat] = u at *
  have w1 : IntKind.i64.wrap (u + (j : Int)) = u + (j : Int) := wrap_in (by omega)
  have w2 : IntKind.i64.wrap (u + (j : Int) - 16) = u + (j : Int) - 16 := wrap_in (by omega)
  have w3 : IntKind.i64.wrap ((j : Int) + 1) = ((j + 1 : Nat) : Int) := by rw [wrap_in (by omega)]; omega
  have hx : (u + (j : Int) - 16).toNat < s.h.w.length := by omega
  have hy : (u + (j : Int) - 16).toNat < s.k.w.length := by omega
  have e2 : (encI s.h.w)[(u + (j : Int) - 16).toNat]? = some [CV.int .i64 (s.h.w.getD (u + (j : Int) - 16).toNat 0)] := by simp [encI, hx]
  have e3 : (encI s.k.w)[(u + (j : Int) - 16).toNat]? = some [CV.int .i64 (s.k.w.getD (u + (j : Int) - 16).toNat 0)] := by simp [encI, hy]
  rw [t17i, decide_eq_true hj, cond_true, rdE_nat hi0, e1, Option.bind_some, zero_get, Option.bind_some, asI_i, Option.bind_some, w1, w2, rdE_nat (by omega), e3, Option.bind_some, zero_get, Option.bind_some, asI_i, Option.bind_some, Option.bind_some, zero_get, Option.bind_some, asI_i, Option.bind_some, w1, w2, rdE_nat (by omega), e2, Option.bind_some, zero_get, Option.bind_some, asI_i, Option.bind_some, w3]
  rfl
theorem kept_in (s : HH) (a : Int) (us : List Int) (i n : Int) (hi0 : 0 ≤ i) (hi : i < (us.length : Int)) (h16 : 16 ≤ us.getD i.toNat 0) (hend : us.getD i.toNat 0 - 16 + n ≤ (s.h.w.length : Int)) (hl : s.h.w.length ≤ 100000) (hk : s.k.w.length = s.h.w.length) (β : Type) (K : Exit → List CV → List (List CV) → Option β) : ∀ (m j : Nat), (j + m : Int) = n →
    loopB k17a [2, 3, 4, 7, 8, 9, 10] o17i p17i (bodyL (bodyOf Tryd.f17) p17i) (m + 1) [cI.enc a, .ref 0, .ref 1, cIs.enc us, cI.enc i, cI.enc n, cI.enc (j : Int)] (cHH.enc s) K =
      bif eqR s (us.getD i.toNat 0) m j then K (.exit 2) [cI.enc a, .ref 0, .ref 1, cIs.enc us, cI.enc i] (cHH.enc s) else K .ret [cB.enc false] (cHH.enc s) := by
  intro m
  induction m with
  | zero =>
    intro j h1
    rw [t17i, decide_eq_false (by omega), cond_false]
    rfl
  | succ m ih =>
    intro j h1
    rw [kept_round s a us i n j (m + 1) hi0 hi (by omega) h16 hend hl hk]
    conv => rhs; unfold eqR
    generalize (s.k.w.getD (us.getD i.toNat 0 + (j : Int) - 16).toNat 0 != s.h.w.getD (us.getD i.toNat 0 + (j : Int) - 16).toNat 0) = b
    cases b with
    | true => rfl
    | false =>
      rw [cond_false, cond_false]
      exact ih (j + 1) (by omega)
theorem k17b_ok : CxOK k17b [(16, gUsed), (46, gBegins)] := by
  refine CxOK.loop7 (CxOK.baseG (Good.cons used_good (Good.cons begins_good Good.nil)) GoodI.nil (eqOK_none fun _ => rfl)) rfl fun a x y us i n j s hp => ?_
  simp only [Bool.and_eq_true, beq_iff_eq, decide_eq_true_eq] at hp
  obtain ⟨hi0, hi, hj, hn, h16, hend, hl, hk⟩ := hp
  subst hj
  refine ⟨n.toNat + 1, fun β K => ?_⟩
  have := kept_in s a us i n hi0 hi h16 hend hl hk β K n.toNat 0 (by omega)
  refine this.trans ?_
  generalize eqR s (us.getD i.toNat 0) n.toNat 0 = b
  cases b <;> rfl
/-- Are objects, but one, the same in both? -/
def keptR (s : HH) (a : Int) : List Int → Bool
  | [] => true
  | u :: us => bif u == a then keptR s a us else bif roomA s.k.p u != roomA s.h.p u then false else bif eqR s u (roomA s.h.p u).toNat 0 then keptR s a us else false
def okU (s : HH) (u : Int) : Bool := decide (16 ≤ u) && (decide (0 ≤ roomA s.h.p u) && decide (u - 16 + roomA s.h.p u ≤ (s.h.w.length : Int)))
theorem outer_round (s : HH) (a : Int) (us : List Int) (i m : Nat) (hi : i < us.length) (hus : us.length ≤ 100000) (hu : okU s us[i] = true) (hl : s.h.w.length ≤ 100000) (hk : s.k.w.length = s.h.w.length) (hp : Nat.ble s.h.p.length 200 = true) (hq : Nat.ble s.k.p.length 200 = true) (β : Type) (K : Exit → List CV → List (List CV) → Option β) :
    loopB k17b [2, 3, 4, 7, 8] o17o p17o (bodyL (bodyOf Tryd.f17) p17o) (m + 1) [cI.enc a, .ref 0, .ref 1, cIs.enc us, cI.enc (i : Int)] (cHH.enc s) K =
      bif us[i] == a then loopB k17b [2, 3, 4, 7, 8] o17o p17o (bodyL (bodyOf Tryd.f17) p17o) m [cI.enc a, .ref 0, .ref 1, cIs.enc us, cI.enc ((i + 1 : Nat) : Int)] (cHH.enc s) K
      else bif roomA s.k.p us[i] != roomA s.h.p us[i] then K .ret [cB.enc false] (cHH.enc s)
      else bif eqR s us[i] (roomA s.h.p us[i]).toNat 0 then loopB k17b [2, 3, 4, 7, 8] o17o p17o (bodyL (bodyOf Tryd.f17) p17o) m [cI.enc a, .ref 0, .ref 1, cIs.enc us, cI.enc ((i + 1 : Nat) : Int)] (cHH.enc s) K
      else K .ret [cB.enc false] (cHH.enc s) := by
  simp only [okU, Bool.and_eq_true, decide_eq_true_eq] at hu
  obtain ⟨h16, h0, hend⟩ := hu
  have e1 : (encI us)[(i : Int).toNat]? = some [CV.int .i64 us[i]] := by simp [encI, hi]
  have w3 : IntKind.i64.wrap ((i : Int) + 1) = ((i + 1 : Nat) : Int) := by rw [wrap_in (by omega)]; omega
  have eh : (⟨s.h, s.k⟩ : HH) = s := rfl
  have eg : us.getD (i : Int).toNat 0 = us[i] := by simp [hi]
  have d1 : decide ((0 : Int) ≤ (i : Int)) = true := decide_eq_true (by omega)
  have d2 : decide ((i : Int) < (us.length : Int)) = true := decide_eq_true (by omega)
  have d3 : decide (16 ≤ us[i]) = true := decide_eq_true h16
  have d4 : decide (0 ≤ roomA s.h.p us[i]) = true := decide_eq_true h0
  have d5 : decide (us[i] - 16 + roomA s.h.p us[i] ≤ (s.h.w.length : Int)) = true := decide_eq_true hend
  have d6 : decide (s.h.w.length ≤ 100000) = true := decide_eq_true hl
  have d7 : decide (s.k.w.length = s.h.w.length) = true := decide_eq_true hk
  rw [t17o, decide_eq_true (by rw [encI_len]; omega), cond_true, rdE_nat (by omega), e1, Option.bind_some, zero_get, Option.bind_some, asI_i, Option.bind_some, decP_map, Option.bind_some, hp, cond_true, Option.bind_some, zero_get, Option.bind_some, asI_i, Option.bind_some, w3]
  generalize (us[i] == a) = b
  cases b with
  | true => rfl
  | false =>
    rw [cond_false, cond_false, Option.bind_some, zero_get, Option.bind_some, asI_i, Option.bind_some, decP_map, Option.bind_some, hq, cond_true]
    generalize (roomA s.k.p us[i] != roomA s.h.p us[i]) = b
    cases b with
    | true => rfl
    | false =>
      rw [cond_false, cond_false, decI_map, Option.bind_some, decW_enc, Option.bind_some, decW_enc, Option.bind_some, Option.bind_some, eh, eg, d1, d2, d3, d4, d5, d6, d7, Bool.and_self, Bool.and_self, Bool.and_self, Bool.and_self, Bool.and_self, Bool.and_self, cond_true]
      generalize eqR s us[i] (roomA s.h.p us[i]).toNat 0 = b
      cases b <;> rfl
theorem kept_out (s : HH) (a : Int) (us : List Int) (hus : us.length ≤ 100000) (hu : us.all (okU s) = true) (hl : s.h.w.length ≤ 100000) (hk : s.k.w.length = s.h.w.length) (hp : Nat.ble s.h.p.length 200 = true) (hq : Nat.ble s.k.p.length 200 = true) (β : Type) (K : Exit → List CV → List (List CV) → Option β) : ∀ (m i : Nat), i + m = us.length →
    loopB k17b [2, 3, 4, 7, 8] o17o p17o (bodyL (bodyOf Tryd.f17) p17o) (m + 1) [cI.enc a, .ref 0, .ref 1, cIs.enc us, cI.enc (i : Int)] (cHH.enc s) K =
      bif keptR s a (us.drop i) then K (.exit 0) [] (cHH.enc s) else K .ret [cB.enc false] (cHH.enc s) := by
  intro m
  induction m with
  | zero =>
    intro i h1
    rw [t17o, decide_eq_false (by rw [encI_len]; omega), cond_false, List.drop_eq_nil_of_le (by omega)]
    rfl
  | succ m ih =>
    intro i h1
    have hi : i < us.length := by omega
    rw [outer_round s a us i (m + 1) hi hus (List.all_eq_true.1 hu _ (List.getElem_mem hi)) hl hk hp hq, List.drop_eq_getElem_cons hi]
    conv => rhs; unfold keptR
    have := ih (i + 1) (by omega)
    generalize (us[i] == a) = b
    cases b with
    | true => rw [cond_true, cond_true]; exact this
    | false =>
      rw [cond_false, cond_false]
      generalize (roomA s.k.p us[i] != roomA s.h.p us[i]) = b
      cases b with
      | true => rw [cond_true, cond_true, cond_false]
      | false =>
        rw [cond_false, cond_false]
        generalize eqR s us[i] (roomA s.h.p us[i]).toNat 0 = b
        cases b with
        | false => rw [cond_false, cond_false, cond_false]
        | true => rw [cond_true, cond_true]; exact this
def L17o : LoopSem := l5 [2, 3, 4, 7, 8] o17o cI (cRef 0) (cRef 1) cIs cI cHH
  (fun _ _ _ us i s => i == 0 && (decide (us.length ≤ 100000) && (us.all (okU s) && (decide (s.h.w.length ≤ 100000) && (decide (s.k.w.length = s.h.w.length) && (Nat.ble s.h.p.length 200 && Nat.ble s.k.p.length 200))))))
  fun a _ _ us _ s => .alt (keptR s a us) (.one (.exit 0) [] (cHH.enc s)) (.one .ret [cB.enc false] (cHH.enc s))
noncomputable abbrev k17 : Cx := k17b.loop p17o L17o
theorem k17_ok : CxOK k17 [(16, gUsed), (46, gBegins)] := by
  refine CxOK.loop5 k17b_ok rfl fun a x y us i s hp => ?_
  simp only [Bool.and_eq_true, beq_iff_eq, decide_eq_true_eq] at hp
  obtain ⟨hi, hus, hu, hl, hk, hp, hq⟩ := hp
  subst hi
  refine ⟨us.length + 1, fun β K => ?_⟩
  have := kept_out s a us hus hu hl hk hp hq β K us.length 0 (by omega)
  rw [List.drop_zero] at this
  refine this.trans ?_
  generalize keptR s a us = b
  cases b <;> rfl
set_option maxRecDepth 100000 in
theorem r17 (h k : Hp) (a : Int) (β : Type) (K : CV → List (List CV) → Option β) : fnK k17 Tryd.f17 [cHp.enc h, cHp.enc k, cI.enc a] [] K =
 Option.bind (Option.bind (decI (encI (Hp.w h))) fun w =>
 Option.bind (decP (List.map encP (Hp.p h))) fun p =>
 Option.bind (decI (encI (Ls.a (Hp.f h)))) fun a =>
 Option.bind (decI (encI (Ls.b (Hp.f h)))) fun b =>
 Option.bind (decI (encI (Ls.c (Hp.f h)))) fun c =>
 Option.bind (decBs (encBs (Hp.c h))) fun d => some { w := w, p := p, f := { a := a, b := b, c := c }, c := d }) fun a_1 =>
 bif smH a_1 && smLs [Hp.f a_1] then
 bif (↑(List.length (encI (Hp.w k))) : Int) != (↑(List.length (encI (Hp.w h))) : Int) then K (CV.bool false) []
 else
 Option.bind (decI (encI (usedE a_1))) fun d =>
 Option.bind (Option.bind (decW (encI (Hp.w h)) (List.map encP (Hp.p h)) (encI (Ls.a (Hp.f h))) (encI (Ls.b (Hp.f h))) (encI (Ls.c (Hp.f h))) (encBs (Hp.c h))) fun h =>
 Option.bind (decW (encI (Hp.w k)) (List.map encP (Hp.p k)) (encI (Ls.a (Hp.f k))) (encI (Ls.b (Hp.f k))) (encI (Ls.c (Hp.f k))) (encBs (Hp.c k))) fun k => some { h := h, k := k }) fun u =>
 bif decide (List.length d ≤ 100000) && (List.all d (okU u) && (decide (List.length (Hp.w (HH.h u)) ≤ 100000) && (decide (List.length (Hp.w (HH.k u)) = List.length (Hp.w (HH.h u))) && (Nat.ble (List.length (Hp.p (HH.h u))) 200 && Nat.ble (List.length (Hp.p (HH.k u))) 200)))) then
 bif keptR u a d then K (CV.bool true) [] else K (CV.bool false) []
 else none
 else none := by kernel_rfl

def keptV (h k : Hp) (a : Int) : Bool := bif (k.w.length : Int) != (h.w.length : Int) then false else keptR ⟨h, k⟩ a (usedE h)
def gKept : Callee := g3 cHp cHp cI (fun h k _ => (smH h && smLs [h.f]) && smH k) fun h k a => cB.enc (keptV h k a)
theorem used_sub {h : Hp} {a : Int} (ha : a ∈ usedE h) : mayHpV h [] = true ∧ a ∈ cellAs h.p ∧ usedV h a = false := by
  unfold usedE at ha
  cases hm : mayHpV h [] with
  | false => rw [hm] at ha; cases ha
  | true =>
    rw [hm] at ha
    have := List.mem_filter.1 (show a ∈ (cellAs h.p).filter (fun a => !usedV h a) from ha)
    exact ⟨rfl, this.1, by simpa using this.2⟩
theorem used_ok {h k : Hp} (hs : smH h = true) {a : Int} (ha : a ∈ usedE h) : okU ⟨h, k⟩ a = true := by
  obtain ⟨hm, hc, _⟩ := used_sub ha
  have h1 := room_pos h.p a
  rw [decide_eq_true (show a ∈ (allCs h.p).map (·.1) from hc)] at h1
  have h2 := of_decide_eq_true h1
  have h3 := cell_end h2
  have h4 := room_in h2
  have hw : h.w.length = 16 * h.p.length := by
    have := shaped_of hm
    simp only [shapedE, Bool.and_eq_true] at this
    exact Nat.eq_of_beq_eq_true this.2.2.1
  unfold okU
  rw [decide_eq_true h4.1, decide_eq_true (show 0 ≤ roomA h.p a by omega), decide_eq_true (by show a - 16 + roomA h.p a ≤ (h.w.length : Int); omega)]
  rfl
theorem used_len {h : Hp} (hs : smH h = true) : (usedE h).length ≤ 100000 := by
  have := Nat.le_of_ble_eq_true (all_len8 (ps := h.p) (Nat.ble_eq_true_of_le (smH_le hs).2.1))
  have e2 : (cellAs h.p).length = ((allCs h.p).map (·.1)).length := rfl
  unfold usedE
  cases mayHpV h [] with
  | false => exact Nat.zero_le _
  | true =>
    have := List.length_filter_le (fun a => !usedV h a) (cellAs h.p)
    rw [cond_true]; omega
theorem kept_good : GoodC Pr 17 gKept :=
  good3 (k17_ok.sound (cx := k17) Tryd.func17 (by kernel_rfl) (by kernel_rfl) rfl (by kernel_rfl)) fun h k a hp β K => by
    simp only [Bool.and_eq_true] at hp
    obtain ⟨⟨hs, hls⟩, hk⟩ := hp
    have e : (⟨h.w, h.p, ⟨h.f.a, h.f.b, h.f.c⟩, h.c⟩ : Hp) = h := rfl
    rw [r17]
    simp only [decI_map, decP_map, decBs_enc, decW_enc, Option.bind_some, e, hs, hls, Bool.and_self, cond_true, encI_len]
    unfold keptV
    cases hl : ((k.w.length : Int) != (h.w.length : Int)) with
    | true => rfl
    | false =>
      have hl2 : k.w.length = h.w.length := by simp at hl; exact_mod_cast hl
      have h1 : (usedE h).all (okU ⟨h, k⟩) = true := List.all_eq_true.2 fun a ha => used_ok hs ha
      rw [cond_false, cond_false, decide_eq_true (used_len hs), h1, decide_eq_true (smH_le hs).1, decide_eq_true hl2, Nat.ble_eq_true_of_le (smH_le hs).2.1, Nat.ble_eq_true_of_le (smH_le hk).2.1]
      simp only [Bool.and_self, cond_true]
      cases keptR ⟨h, k⟩ a (usedE h) <;> rfl
end Go.Ab
