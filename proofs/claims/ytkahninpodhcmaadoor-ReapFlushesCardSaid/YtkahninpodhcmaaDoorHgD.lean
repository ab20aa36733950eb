/- ReapFlushes.
The law ReapFlushes. -/
import Derived.Test.YtkahninpodhcmaaDoorHgB
import Derived.Test.YtkahninpodhcmaaDoorHgC
namespace Go.Ab
open Go
open Go.Proofs
noncomputable abbrev k3 : Cx := cxN Pr Tryd.f3 [(7, gAwake), (8, gFew), (9, gMayHp), (10, gFlush), (11, gSameP)] [] (fun q => Nat.beq q 60 || Nat.beq q 64) (fun q => Nat.beq q 2042 || Nat.beq q 16378)
set_option maxRecDepth 100000 in
theorem r3 (h : Hp) (a b : Ls) (β : Type) (K : CV → List (List CV) → Option β) : fnK k3 Tryd.f3 [cHp.enc h, cLs.enc a, cLs.enc b] [] K =
    Option.bind
        (Option.bind (decI (encI (Hp.w h))) fun w =>
          Option.bind (decP (List.map encP (Hp.p h))) fun p =>
            Option.bind (decI (encI (Ls.a (Hp.f h)))) fun a =>
              Option.bind (decI (encI (Ls.b (Hp.f h)))) fun b =>
                Option.bind (decI (encI (Ls.c (Hp.f h)))) fun c =>
                  Option.bind (decBs (encBs (Hp.c h))) fun d =>
                    some { w := w, p := p, f := { a := a, b := b, c := c }, c := d })
        fun a_1 =>
        Option.bind
          (decLs
            [[CV.sl 1 (encI (Ls.a a)), CV.sl 1 (encI (Ls.b a)), CV.sl 1 (encI (Ls.c a))],
              [CV.sl 1 (encI (Ls.a b)), CV.sl 1 (encI (Ls.b b)), CV.sl 1 (encI (Ls.c b))]])
          fun b_1 =>
          bif Nat.ble (List.length b_1) 4000000000 then
            bif !fewV a_1 b_1 then K (CV.bool true) []
            else
              Option.bind
                (Option.bind (decI (encI (Hp.w h))) fun w =>
                  Option.bind (decP (List.map encP (Hp.p h))) fun p =>
                    Option.bind (decI (encI (Ls.a (Hp.f h)))) fun a =>
                      Option.bind (decI (encI (Ls.b (Hp.f h)))) fun b =>
                        Option.bind (decI (encI (Ls.c (Hp.f h)))) fun c =>
                          Option.bind (decBs (encBs (Hp.c h))) fun d =>
                            some { w := w, p := p, f := { a := a, b := b, c := c }, c := d })
                fun a_2 =>
                Option.bind
                  (decLs
                    [[CV.sl 1 (encI (Ls.a a)), CV.sl 1 (encI (Ls.b a)), CV.sl 1 (encI (Ls.c a))],
                      [CV.sl 1 (encI (Ls.a b)), CV.sl 1 (encI (Ls.b b)), CV.sl 1 (encI (Ls.c b))]])
                  fun b_2 =>
                  bif smH a_2 && smLs (Hp.f a_2 :: b_2) then
                    bif !mayHpV a_2 b_2 then K (CV.bool true) []
                    else
                      Option.bind
                        (Option.bind (decI (encI (Hp.w h))) fun w =>
                          Option.bind (decP (List.map encP (Hp.p h))) fun p =>
                            Option.bind (decI (encI (Ls.a (Hp.f h)))) fun a =>
                              Option.bind (decI (encI (Ls.b (Hp.f h)))) fun b =>
                                Option.bind (decI (encI (Ls.c (Hp.f h)))) fun c =>
                                  Option.bind (decBs (encBs (Hp.c h))) fun d =>
                                    some { w := w, p := p, f := { a := a, b := b, c := c }, c := d })
                        fun a_3 =>
                        Option.bind
                          (Option.bind (decI (encI (Ls.a a))) fun a_4 =>
                            Option.bind (decI (encI (Ls.b a))) fun b =>
                              Option.bind (decI (encI (Ls.c a))) fun c => some { a := a_4, b := b, c := c })
                          fun b_3 =>
                          bif smH a_3 && (smL b_3 && smL (app3 (Hp.f a_3) b_3)) then
                            Option.bind
                              (Option.bind (decI (encI (Hp.w (Prod.fst (flushE a_3 b_3))))) fun w =>
                                Option.bind (decP (List.map encP (Hp.p (Prod.fst (flushE a_3 b_3))))) fun p =>
                                  Option.bind (decI (encI (Ls.a (Hp.f (Prod.fst (flushE a_3 b_3)))))) fun a =>
                                    Option.bind (decI (encI (Ls.b (Hp.f (Prod.fst (flushE a_3 b_3)))))) fun b =>
                                      Option.bind (decI (encI (Ls.c (Hp.f (Prod.fst (flushE a_3 b_3)))))) fun c =>
                                        Option.bind (decBs (encBs (Hp.c (Prod.fst (flushE a_3 b_3))))) fun d =>
                                          some { w := w, p := p, f := { a := a, b := b, c := c }, c := d })
                              fun a_4 =>
                              Option.bind
                                (Option.bind (decI (encI (Ls.a b))) fun a =>
                                  Option.bind (decI (encI (Ls.b b))) fun b_4 =>
                                    Option.bind (decI (encI (Ls.c b))) fun c => some { a := a, b := b_4, c := c })
                                fun b_4 =>
                                bif smH a_4 && (smL b_4 && smL (app3 (Hp.f a_4) b_4)) then
                                  if List.length (encI (Ls.a a)) ≤ LIM then
                                    if List.length (encI (Ls.a a) ++ encI (Ls.a b)) ≤ LIM then
                                      if List.length (encI (Ls.b a)) ≤ LIM then
                                        if List.length (encI (Ls.b a) ++ encI (Ls.b b)) ≤ LIM then
                                          if List.length (encI (Ls.c a)) ≤ LIM then
                                            if List.length (encI (Ls.c a) ++ encI (Ls.c b)) ≤ LIM then
                                              Option.bind
                                                (Option.bind (decI (encI (Hp.w h))) fun w =>
                                                  Option.bind (decP (List.map encP (Hp.p h))) fun p =>
                                                    Option.bind (decI (encI (Ls.a (Hp.f h)))) fun a =>
                                                      Option.bind (decI (encI (Ls.b (Hp.f h)))) fun b =>
                                                        Option.bind (decI (encI (Ls.c (Hp.f h)))) fun c =>
                                                          Option.bind (decBs (encBs (Hp.c h))) fun d =>
                                                            some
                                                              { w := w, p := p, f := { a := a, b := b, c := c }, c := d })
                                                fun a_5 =>
                                                Option.bind
                                                  (Option.bind (decI (encI (Ls.a a) ++ encI (Ls.a b))) fun a_6 =>
                                                    Option.bind (decI (encI (Ls.b a) ++ encI (Ls.b b))) fun b_5 =>
                                                      Option.bind (decI (encI (Ls.c a) ++ encI (Ls.c b))) fun c =>
                                                        some { a := a_6, b := b_5, c := c })
                                                  fun b =>
                                                  bif smH a_5 && (smL b && smL (app3 (Hp.f a_5) b)) then
                                                    bif Prod.snd (flushE a_3 b_3) != 0 then K (CV.bool false) []
                                                    else
                                                      bif Prod.snd (flushE a_4 b_4) != 0 then K (CV.bool false) []
                                                      else
                                                        bif Prod.snd (flushE a_5 b) != 0 then K (CV.bool false) []
                                                        else
                                                          bif
                                                              (↑(List.length
                                                                      (encI (Ls.a (Hp.f (Prod.fst (flushE a_4 b_4)))))) :
                                                                  Int) !=
                                                                (↑(List.length
                                                                      (encI (Ls.a (Hp.f (Prod.fst (flushE a_5 b)))))) :
                                                                  Int) then
                                                            K (CV.bool false) []
                                                          else
                                                            bif
                                                                (↑(List.length
                                                                        (encI (Ls.b (Hp.f (Prod.fst (flushE a_4 b_4)))))) :
                                                                    Int) !=
                                                                  (↑(List.length
                                                                        (encI (Ls.b (Hp.f (Prod.fst (flushE a_5 b)))))) :
                                                                    Int) then
                                                              K (CV.bool false) []
                                                            else
                                                              bif
                                                                  (↑(List.length
                                                                          (encI
                                                                            (Ls.c (Hp.f (Prod.fst (flushE a_4 b_4)))))) :
                                                                      Int) !=
                                                                    (↑(List.length
                                                                          (encI (Ls.c (Hp.f (Prod.fst (flushE a_5 b)))))) :
                                                                      Int) then
                                                                K (CV.bool false) []
                                                              else
                                                                Option.bind
                                                                  (decP (List.map encP (Hp.p (Prod.fst (flushE a_4 b_4)))))
                                                                  fun a =>
                                                                  Option.bind
                                                                    (decP (List.map encP (Hp.p (Prod.fst (flushE a_5 b)))))
                                                                    fun b =>
                                                                    bif Nat.ble (List.length a) 100000 then
                                                                      K (CV.bool (decide (a = b))) []
                                                                    else none
                                                  else none
                                            else none
                                          else none
                                        else none
                                      else none
                                    else none
                                  else none
                                else none
                          else none
                  else none
          else none := by kernel_rfl

end Go.Ab

namespace Go.Ab
open Go
open Go.Proofs
theorem light_le {l : Ls} (h : lightV l = true) : l.a.length ≤ 70 ∧ l.b.length ≤ 70 ∧ l.c.length ≤ 70 := by
  simp only [lightV, Bool.and_eq_true, decide_eq_true_eq] at h
  omega
theorem few_le {h : Hp} {ls : List Ls} (hf : fewV h ls = true) : h.w.length ≤ 130 ∧ h.p.length ≤ 9 ∧ h.c.length ≤ 20 ∧ lightV h.f = true ∧ (∀ l ∈ ls, lightV l = true) ∧ ls.length ≤ 4 := by
  simp only [fewV, fewH, Bool.and_eq_true, decide_eq_true_eq, List.all_eq_true] at hf
  obtain ⟨⟨⟨h1, h2, h3, h4⟩, h5⟩, h6⟩ := hf
  exact ⟨by omega, by omega, by omega, h4, h5, by omega⟩
theorem smH_of {h : Hp} (h1 : h.w.length ≤ 100000) (h2 : h.p.length ≤ 200) (h3 : h.c.length ≤ 100000) (h4 : smL h.f = true) : smH h = true := by
  simp only [smH, sm, Nat.ble_eq_true_of_le h1, Nat.ble_eq_true_of_le h2, Nat.ble_eq_true_of_le h3, h4, Bool.and_self]
theorem light_sm {l : Ls} (h : lightV l = true) : smL l = true := by
  obtain ⟨h1, h2, h3⟩ := light_le h
  exact smL_len (by omega) (by omega) (by omega)
theorem smL_app3 {f l : Ls} {n m : Nat} (hf : ∀ k, k < 3 → (f.get k).length ≤ n) (hl : ∀ k, k < 3 → (l.get k).length ≤ m) (h : n + m ≤ 100000) : smL (app3 f l) = true ∧ ∀ k, k < 3 → ((app3 f l).get k).length ≤ n + m := by
  have g : ∀ k, k < 3 → ((app3 f l).get k).length ≤ n + m := fun k hk => by
    rw [app3_get, List.length_append]
    have h1 := hf k hk
    have h2 := hl k hk
    omega
  refine ⟨smL_len ?_ ?_ ?_, g⟩
  · exact Nat.le_trans (g 0 (by omega)) h
  · exact Nat.le_trans (g 1 (by omega)) h
  · exact Nat.le_trans (g 2 (by omega)) h
theorem light_get {l : Ls} (h : lightV l = true) : ∀ k, k < 3 → (l.get k).length ≤ 70 := fun k hk => by
  obtain ⟨h1, h2, h3⟩ := light_le h
  have : k = 0 ∨ k = 1 ∨ k = 2 := by omega
  rcases this with rfl | rfl | rfl
  · exact h1
  · exact h2
  · exact h3
theorem flushE_of {h : Hp} {a : Ls} (hm : MayF h [a]) : flushE h a = (flushH h a, 0) := by
  unfold flushE
  rw [mayF_iff.2 hm]; rfl
def gLaw3 : Callee := g3 cHp cLs cLs (fun _ _ _ => true) fun _ _ _ => .bool true
theorem law3_good : GoodC Pr 3 gLaw3 :=
  good3 ((CxOK.baseN (Good.cons awake_good (Good.cons few_good (Good.cons mayHp_good (Good.cons flush_good (Good.cons sameP_good Good.nil))))) GoodI.nil (eqOK_none fun _ => rfl)).sound (cx := k3) Tryd.func3 (by kernel_rfl) (by kernel_rfl) rfl (by kernel_rfl)) fun h a b _ β K => by
    have e : (⟨h.w, h.p, ⟨h.f.a, h.f.b, h.f.c⟩, h.c⟩ : Hp) = h := rfl
    have ea : ∀ l : Ls, (⟨l.a, l.b, l.c⟩ : Ls) = l := fun _ => rfl
    have el : decLs [[CV.sl 1 (encI (Ls.a a)), CV.sl 1 (encI (Ls.b a)), CV.sl 1 (encI (Ls.c a))], [CV.sl 1 (encI (Ls.a b)), CV.sl 1 (encI (Ls.b b)), CV.sl 1 (encI (Ls.c b))]] = some [a, b] := decLs_map [a, b]
    have hL := lim_val
    rw [r3]
    simp only [decI_map, decP_map, decBs_enc, Option.bind_some, e, ea, el, show Nat.ble [a, b].length 4000000000 = true from rfl, cond_true]
    cases hf : fewV h [a, b] with
    | false => rfl
    | true =>
      obtain ⟨w1, w2, w3, w4, w5, _⟩ := few_le hf
      have la := w5 a (by simp)
      have lb := w5 b (by simp)
      have hs : smH h = true := smH_of (by omega) (by omega) (by omega) (light_sm w4)
      have hls : smLs [h.f, a, b] = true := by simp [smLs, light_sm w4, light_sm la, light_sm lb]
      simp only [Bool.not_true, cond_false, hs, hls, Bool.and_self, cond_true]
      cases hm : mayHpV h [a, b] with
      | false => rfl
      | true =>
        have hmf := mayF_iff.1 hm
        obtain ⟨s1, g1⟩ := smL_app3 (light_get w4) (light_get la) (by omega)
        obtain ⟨s0, g0⟩ := smL_app3 (light_get la) (light_get lb) (by omega)
        obtain ⟨s3, g3⟩ := smL_app3 (light_get w4) g0 (by omega)
        obtain ⟨f1, f2, f3, f4, f5, f6⟩ := flush_fin hmf s1
        have hmx := hmf.flush s1
        have gx : ∀ k, k < 3 → ((flushH h a).f.get k).length ≤ 140 := fun k hk => by
          rw [f6 k hk]
          refine Nat.le_trans (List.length_filter_le _ _) ?_
          have := g1 k hk
          rw [app3_get] at this
          exact this
        obtain ⟨s2, g2⟩ := smL_app3 gx (light_get lb) (by omega)
        have hsx : smH (flushH h a) = true := smH_of (by rw [f1]; omega) (by rw [f4]; omega) (by rw [f2]; omega) (by
          have := f3
          simp only [okW, Bool.and_eq_true] at this
          exact this.2)
        have ex : (⟨(flushH h a).w, (flushH h a).p, ⟨(flushH h a).f.a, (flushH h a).f.b, (flushH h a).f.c⟩, (flushH h a).c⟩ : Hp) = flushH h a := rfl
        have eb : (⟨a.a ++ b.a, a.b ++ b.b, a.c ++ b.c⟩ : Ls) = app3 a b := rfl
        obtain ⟨p1, p2⟩ := flush_both hmf s1 s2 s3
        obtain ⟨l1, l2, l3⟩ := light_le la
        obtain ⟨m1, m2, m3⟩ := light_le lb
        simp only [Bool.not_true, cond_false, light_sm la, light_sm lb, s1, Bool.and_self, cond_true, flushE_of hmf.one, ex, hsx, s2, flushE_of hmx, flushE_of hmf.both, encI_app, decI_map, Option.bind_some, eb, s0, s3, encI_len, List.length_append]
        rw [if_pos (by omega), if_pos (by omega), if_pos (by omega), if_pos (by omega), if_pos (by omega), if_pos (by omega)]
        have q0 : (flushH (flushH h a) b).f.a = (flushH h (app3 a b)).f.a := p2 0 (by omega)
        have q1 : (flushH (flushH h a) b).f.b = (flushH h (app3 a b)).f.b := p2 1 (by omega)
        have q2 : (flushH (flushH h a) b).f.c = (flushH h (app3 a b)).f.c := p2 2 (by omega)
        have q3 : (flushH h (app3 a b)).p.length ≤ 9 := by
          have := (flush_fin hmf.both s3).2.2.2.1
          omega
        have nb : ∀ n : Int, (n != n) = false := fun n => by simp
        simp only [q0, q1, q2, p1, nb, cond_false, decP_map, Option.bind_some, Nat.ble_eq_true_of_le (show (flushH h (app3 a b)).p.length ≤ 100000 by omega), cond_true, decide_true]
theorem law3_run (h : Hp) (a b : Ls) (β : Type) (K : CV → List (List CV) → Option β) : gLaw3.run [cHp.enc h, cLs.enc a, cLs.enc b] [] β K = K (.bool true) [] := by
  unfold gLaw3 g3
  dsimp only
  rw [cHp.de, cLs.de, cLs.de]
  rfl
end Go.Ab
