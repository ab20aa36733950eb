/- ReapKeeps.
What was whole is whole without an object, or a cache; other objects are as they were.
What was whole is whole behind Flush; all objects are as they were.
The law ReapKeeps. -/
import Derived.Test.YtkahninpodhcmaaDoorHgD
import Derived.Test.YtkahninpodhcmaaDoorHgE
namespace Go.Ab
open Go
open Go.Proofs
noncomputable abbrev k5 : Cx := cxN Pr Tryd.f5 [(7, gAwake), (8, gFew), (10, gFlush), (12, gWhole), (13, gFree), (16, gUsed), (17, gKept)]
set_option maxRecDepth 100000 in
theorem r5 (h : Hp) (ls : List Ls) (a : Int) (β : Type) (K : CV → List (List CV) → Option β) : fnK k5 Tryd.f5 [cHp.enc h, cLss.enc ls, cI.enc a] [] K =
 Option.bind (Option.bind (decI (encI (Hp.w h))) fun w =>
 Option.bind (decP (List.map encP (Hp.p h))) fun p =>
 Option.bind (decI (encI (Ls.a (Hp.f h)))) fun a =>
 Option.bind (decI (encI (Ls.b (Hp.f h)))) fun b =>
 Option.bind (decI (encI (Ls.c (Hp.f h)))) fun c =>
 Option.bind (decBs (encBs (Hp.c h))) fun d => some { w := w, p := p, f := { a := a, b := b, c := c }, c := d }) fun a_1 =>
 Option.bind (decLs (List.map encLs ls)) fun b =>
 bif Nat.ble (List.length b) 9223372036854775807 then
 bif !fewV a_1 b then K (CV.bool true) []
 else
 bif decide ((↑(List.length (List.map encLs ls)) : Int) < 1) then K (CV.bool true) []
 else
 Option.bind (Option.bind (decI (encI (Hp.w h))) fun w =>
 Option.bind (decP (List.map encP (Hp.p h))) fun p =>
 Option.bind (decI (encI (Ls.a (Hp.f h)))) fun a =>
 Option.bind (decI (encI (Ls.b (Hp.f h)))) fun b =>
 Option.bind (decI (encI (Ls.c (Hp.f h)))) fun c =>
 Option.bind (decBs (encBs (Hp.c h))) fun d => some { w := w, p := p, f := { a := a, b := b, c := c }, c := d }) fun a_2 =>
 Option.bind (decLs (List.map encLs ls)) fun b =>
 bif smH a_2 && smLs (Hp.f a_2 :: b) then
 bif !wholeHV a_2 b then K (CV.bool true) []
 else
 Option.bind (Option.bind (decI (encI (Hp.w h))) fun w =>
 Option.bind (decP (List.map encP (Hp.p h))) fun p =>
 Option.bind (decI (encI (Ls.a (Hp.f h)))) fun a =>
 Option.bind (decI (encI (Ls.b (Hp.f h)))) fun b =>
 Option.bind (decI (encI (Ls.c (Hp.f h)))) fun c =>
 Option.bind (decBs (encBs (Hp.c h))) fun d => some { w := w, p := p, f := { a := a, b := b, c := c }, c := d }) fun a_3 =>
 bif smH a_3 && smL1 (Hp.f a_3) then
 bif Prod.snd (freeHE a_3 a) == 0 then
 Option.bind (Option.bind (decI (encI (Hp.w (Prod.fst (freeHE a_3 a))))) fun w =>
 Option.bind (decP (List.map encP (Hp.p (Prod.fst (freeHE a_3 a))))) fun p =>
 Option.bind (decI (encI (Ls.a (Hp.f (Prod.fst (freeHE a_3 a)))))) fun a_4 =>
 Option.bind (decI (encI (Ls.b (Hp.f (Prod.fst (freeHE a_3 a)))))) fun b =>
 Option.bind (decI (encI (Ls.c (Hp.f (Prod.fst (freeHE a_3 a)))))) fun c =>
 Option.bind (decBs (encBs (Hp.c (Prod.fst (freeHE a_3 a))))) fun d => some { w := w, p := p, f := { a := a_4, b := b, c := c }, c := d }) fun a_4 =>
 Option.bind (decLs (List.map encLs ls)) fun b =>
 bif smH a_4 && smLs (Hp.f a_4 :: b) then
 bif !wholeHV a_4 b then K (CV.bool false) []
 else
 Option.bind (Option.bind (decI (encI (Hp.w h))) fun w =>
 Option.bind (decP (List.map encP (Hp.p h))) fun p =>
 Option.bind (decI (encI (Ls.a (Hp.f h)))) fun a =>
 Option.bind (decI (encI (Ls.b (Hp.f h)))) fun b =>
 Option.bind (decI (encI (Ls.c (Hp.f h)))) fun c =>
 Option.bind (decBs (encBs (Hp.c h))) fun d => some { w := w, p := p, f := { a := a, b := b, c := c }, c := d }) fun a_5 =>
 Option.bind (Option.bind (decI (encI (Hp.w (Prod.fst (freeHE a_3 a))))) fun w =>
 Option.bind (decP (List.map encP (Hp.p (Prod.fst (freeHE a_3 a))))) fun p =>
 Option.bind (decI (encI (Ls.a (Hp.f (Prod.fst (freeHE a_3 a)))))) fun a_6 =>
 Option.bind (decI (encI (Ls.b (Hp.f (Prod.fst (freeHE a_3 a)))))) fun b =>
 Option.bind (decI (encI (Ls.c (Hp.f (Prod.fst (freeHE a_3 a)))))) fun c =>
 Option.bind (decBs (encBs (Hp.c (Prod.fst (freeHE a_3 a))))) fun d => some { w := w, p := p, f := { a := a_6, b := b, c := c }, c := d }) fun b =>
 bif smH a_5 && smLs [Hp.f a_5] && smH b then
 bif !keptV a_5 b a then K (CV.bool false) []
 else
 Option.bind (Option.bind (decI (encI (Hp.w (Prod.fst (freeHE a_3 a))))) fun w =>
 Option.bind (decP (List.map encP (Hp.p (Prod.fst (freeHE a_3 a))))) fun p =>
 Option.bind (decI (encI (Ls.a (Hp.f (Prod.fst (freeHE a_3 a)))))) fun a_6 =>
 Option.bind (decI (encI (Ls.b (Hp.f (Prod.fst (freeHE a_3 a)))))) fun b =>
 Option.bind (decI (encI (Ls.c (Hp.f (Prod.fst (freeHE a_3 a)))))) fun c =>
 Option.bind (decBs (encBs (Hp.c (Prod.fst (freeHE a_3 a))))) fun d => some { w := w, p := p, f := { a := a_6, b := b, c := c }, c := d }) fun a =>
 bif smH a && smLs [Hp.f a] then
 Option.bind (Option.bind (decI (encI (Hp.w h))) fun w =>
 Option.bind (decP (List.map encP (Hp.p h))) fun p =>
 Option.bind (decI (encI (Ls.a (Hp.f h)))) fun a =>
 Option.bind (decI (encI (Ls.b (Hp.f h)))) fun b =>
 Option.bind (decI (encI (Ls.c (Hp.f h)))) fun c =>
 Option.bind (decBs (encBs (Hp.c h))) fun d => some { w := w, p := p, f := { a := a, b := b, c := c }, c := d }) fun a_6 =>
 bif smH a_6 && smLs [Hp.f a_6] then
 bif (↑(List.length (encI (usedE a))) : Int) != IntKind.wrap IntKind.i64 ((↑(List.length (encI (usedE a_6))) : Int) - 1) then
 K (CV.bool false) []
 else
 Option.bind (rdE (List.map encLs ls) 0) fun c =>
 Option.bind c[0]? fun x =>
 Option.bind (asL 1 x) fun l =>
 Option.bind c[1]? fun x =>
 Option.bind (asL 1 x) fun l_1 =>
 Option.bind c[2]? fun x =>
 Option.bind (asL 1 x) fun l_2 =>
 Option.bind (Option.bind (decI (encI (Hp.w h))) fun w =>
 Option.bind (decP (List.map encP (Hp.p h))) fun p =>
 Option.bind (decI (encI (Ls.a (Hp.f h)))) fun a =>
 Option.bind (decI (encI (Ls.b (Hp.f h)))) fun b =>
 Option.bind (decI (encI (Ls.c (Hp.f h)))) fun c =>
 Option.bind (decBs (encBs (Hp.c h))) fun d => some { w := w, p := p, f := { a := a, b := b, c := c }, c := d }) fun a =>
 Option.bind (Option.bind (decI l) fun a =>
 Option.bind (decI l_1) fun b =>
 Option.bind (decI l_2) fun c => some { a := a, b := b, c := c }) fun b =>
 bif smH a && (smL b && smL (app3 (Hp.f a) b)) then
 bif Prod.snd (flushE a b) == 0 then
 bif okBounds (List.length (List.map encLs ls)) (some 1) none none then
 Option.bind (Option.bind (decI (encI (Hp.w (Prod.fst (flushE a b))))) fun w =>
 Option.bind (decP (List.map encP (Hp.p (Prod.fst (flushE a b))))) fun p =>
 Option.bind (decI (encI (Ls.a (Hp.f (Prod.fst (flushE a b)))))) fun a_7 =>
 Option.bind (decI (encI (Ls.b (Hp.f (Prod.fst (flushE a b)))))) fun b_1 =>
 Option.bind (decI (encI (Ls.c (Hp.f (Prod.fst (flushE a b)))))) fun c =>
 Option.bind (decBs (encBs (Hp.c (Prod.fst (flushE a b))))) fun d => some { w := w, p := p, f := { a := a_7, b := b_1, c := c }, c := d }) fun a_7 =>
 Option.bind (decLs (subl (List.map encLs ls) 1 (Int.toNat (Option.getD none (↑(List.length (List.map encLs ls)) : Int) - 1)))) fun b_1 =>
 bif smH a_7 && smLs (Hp.f a_7 :: b_1) then
 bif wholeHV a_7 b_1 then
 Option.bind (Option.bind (decI (encI (Hp.w h))) fun w =>
 Option.bind (decP (List.map encP (Hp.p h))) fun p =>
 Option.bind (decI (encI (Ls.a (Hp.f h)))) fun a =>
 Option.bind (decI (encI (Ls.b (Hp.f h)))) fun b =>
 Option.bind (decI (encI (Ls.c (Hp.f h)))) fun c =>
 Option.bind (decBs (encBs (Hp.c h))) fun d => some { w := w, p := p, f := { a := a, b := b, c := c }, c := d }) fun a_8 =>
 Option.bind (Option.bind (decI (encI (Hp.w (Prod.fst (flushE a b))))) fun w =>
 Option.bind (decP (List.map encP (Hp.p (Prod.fst (flushE a b))))) fun p =>
 Option.bind (decI (encI (Ls.a (Hp.f (Prod.fst (flushE a b)))))) fun a_9 =>
 Option.bind (decI (encI (Ls.b (Hp.f (Prod.fst (flushE a b)))))) fun b_2 =>
 Option.bind (decI (encI (Ls.c (Hp.f (Prod.fst (flushE a b)))))) fun c =>
 Option.bind (decBs (encBs (Hp.c (Prod.fst (flushE a b))))) fun d => some { w := w, p := p, f := { a := a_9, b := b_2, c := c }, c := d }) fun b_2 =>
 bif smH a_8 && smLs [Hp.f a_8] && smH b_2 then
 bif keptV a_8 b_2 0 then
 Option.bind (Option.bind (decI (encI (Hp.w (Prod.fst (flushE a b))))) fun w =>
 Option.bind (decP (List.map encP (Hp.p (Prod.fst (flushE a b))))) fun p =>
 Option.bind (decI (encI (Ls.a (Hp.f (Prod.fst (flushE a b)))))) fun a_9 =>
 Option.bind (decI (encI (Ls.b (Hp.f (Prod.fst (flushE a b)))))) fun b_3 =>
 Option.bind (decI (encI (Ls.c (Hp.f (Prod.fst (flushE a b)))))) fun c =>
 Option.bind (decBs (encBs (Hp.c (Prod.fst (flushE a b))))) fun d => some { w := w, p := p, f := { a := a_9, b := b_3, c := c }, c := d }) fun a =>
 bif smH a && smLs [Hp.f a] then
 Option.bind (Option.bind (decI (encI (Hp.w h))) fun w =>
 Option.bind (decP (List.map encP (Hp.p h))) fun p =>
 Option.bind (decI (encI (Ls.a (Hp.f h)))) fun a =>
 Option.bind (decI (encI (Ls.b (Hp.f h)))) fun b =>
 Option.bind (decI (encI (Ls.c (Hp.f h)))) fun c =>
 Option.bind (decBs (encBs (Hp.c h))) fun d => some { w := w, p := p, f := { a := a, b := b, c := c }, c := d }) fun a_9 =>
 bif smH a_9 && smLs [Hp.f a_9] then
 K (CV.bool ((↑(List.length (encI (usedE a))) : Int) == (↑(List.length (encI (usedE a_9))) : Int))) []
 else none
 else none
 else K (CV.bool false) []
 else none
 else K (CV.bool false) []
 else none
 else none
 else K (CV.bool false) []
 else none
 else none
 else none
 else none
 else none
 else
 Option.bind (rdE (List.map encLs ls) 0) fun c =>
 Option.bind c[0]? fun x =>
 Option.bind (asL 1 x) fun l =>
 Option.bind c[1]? fun x =>
 Option.bind (asL 1 x) fun l_1 =>
 Option.bind c[2]? fun x =>
 Option.bind (asL 1 x) fun l_2 =>
 Option.bind (Option.bind (decI (encI (Hp.w h))) fun w =>
 Option.bind (decP (List.map encP (Hp.p h))) fun p =>
 Option.bind (decI (encI (Ls.a (Hp.f h)))) fun a =>
 Option.bind (decI (encI (Ls.b (Hp.f h)))) fun b =>
 Option.bind (decI (encI (Ls.c (Hp.f h)))) fun c =>
 Option.bind (decBs (encBs (Hp.c h))) fun d => some { w := w, p := p, f := { a := a, b := b, c := c }, c := d }) fun a =>
 Option.bind (Option.bind (decI l) fun a =>
 Option.bind (decI l_1) fun b =>
 Option.bind (decI l_2) fun c => some { a := a, b := b, c := c }) fun b =>
 bif smH a && (smL b && smL (app3 (Hp.f a) b)) then
 bif Prod.snd (flushE a b) == 0 then
 bif okBounds (List.length (List.map encLs ls)) (some 1) none none then
 Option.bind (Option.bind (decI (encI (Hp.w (Prod.fst (flushE a b))))) fun w =>
 Option.bind (decP (List.map encP (Hp.p (Prod.fst (flushE a b))))) fun p =>
 Option.bind (decI (encI (Ls.a (Hp.f (Prod.fst (flushE a b)))))) fun a_4 =>
 Option.bind (decI (encI (Ls.b (Hp.f (Prod.fst (flushE a b)))))) fun b_1 =>
 Option.bind (decI (encI (Ls.c (Hp.f (Prod.fst (flushE a b)))))) fun c =>
 Option.bind (decBs (encBs (Hp.c (Prod.fst (flushE a b))))) fun d => some { w := w, p := p, f := { a := a_4, b := b_1, c := c }, c := d }) fun a_4 =>
 Option.bind (decLs (subl (List.map encLs ls) 1 (Int.toNat (Option.getD none (↑(List.length (List.map encLs ls)) : Int) - 1)))) fun b_1 =>
 bif smH a_4 && smLs (Hp.f a_4 :: b_1) then
 bif wholeHV a_4 b_1 then
 Option.bind (Option.bind (decI (encI (Hp.w h))) fun w =>
 Option.bind (decP (List.map encP (Hp.p h))) fun p =>
 Option.bind (decI (encI (Ls.a (Hp.f h)))) fun a =>
 Option.bind (decI (encI (Ls.b (Hp.f h)))) fun b =>
 Option.bind (decI (encI (Ls.c (Hp.f h)))) fun c =>
 Option.bind (decBs (encBs (Hp.c h))) fun d => some { w := w, p := p, f := { a := a, b := b, c := c }, c := d }) fun a_5 =>
 Option.bind (Option.bind (decI (encI (Hp.w (Prod.fst (flushE a b))))) fun w =>
 Option.bind (decP (List.map encP (Hp.p (Prod.fst (flushE a b))))) fun p =>
 Option.bind (decI (encI (Ls.a (Hp.f (Prod.fst (flushE a b)))))) fun a_6 =>
 Option.bind (decI (encI (Ls.b (Hp.f (Prod.fst (flushE a b)))))) fun b_2 =>
 Option.bind (decI (encI (Ls.c (Hp.f (Prod.fst (flushE a b)))))) fun c =>
 Option.bind (decBs (encBs (Hp.c (Prod.fst (flushE a b))))) fun d => some { w := w, p := p, f := { a := a_6, b := b_2, c := c }, c := d }) fun b_2 =>
 bif smH a_5 && smLs [Hp.f a_5] && smH b_2 then
 bif keptV a_5 b_2 0 then
 Option.bind (Option.bind (decI (encI (Hp.w (Prod.fst (flushE a b))))) fun w =>
 Option.bind (decP (List.map encP (Hp.p (Prod.fst (flushE a b))))) fun p =>
 Option.bind (decI (encI (Ls.a (Hp.f (Prod.fst (flushE a b)))))) fun a_6 =>
 Option.bind (decI (encI (Ls.b (Hp.f (Prod.fst (flushE a b)))))) fun b_3 =>
 Option.bind (decI (encI (Ls.c (Hp.f (Prod.fst (flushE a b)))))) fun c =>
 Option.bind (decBs (encBs (Hp.c (Prod.fst (flushE a b))))) fun d => some { w := w, p := p, f := { a := a_6, b := b_3, c := c }, c := d }) fun a =>
 bif smH a && smLs [Hp.f a] then
 Option.bind (Option.bind (decI (encI (Hp.w h))) fun w =>
 Option.bind (decP (List.map encP (Hp.p h))) fun p =>
 Option.bind (decI (encI (Ls.a (Hp.f h)))) fun a =>
 Option.bind (decI (encI (Ls.b (Hp.f h)))) fun b =>
 Option.bind (decI (encI (Ls.c (Hp.f h)))) fun c =>
 Option.bind (decBs (encBs (Hp.c h))) fun d => some { w := w, p := p, f := { a := a, b := b, c := c }, c := d }) fun a_6 =>
 bif smH a_6 && smLs [Hp.f a_6] then
 K (CV.bool ((↑(List.length (encI (usedE a))) : Int) == (↑(List.length (encI (usedE a_6))) : Int))) []
 else none
 else none
 else K (CV.bool false) []
 else none
 else K (CV.bool false) []
 else none
 else none
 else K (CV.bool false) []
 else none
 else none
 else none
 else none := by kernel_rfl

end Go.Ab

namespace Go.Ab
open Go
open Go.Proofs
theorem whole_iff {h : Hp} {ls : List Ls} : wholeHV h ls = true ↔ MayF h ls ∧ ∀ c, roomA h.p c > 0 → wordE h c = 0 → c ∈ catI (h.f :: ls) := by
  unfold wholeHV
  rw [Bool.and_eq_true, mayF_iff, List.all_eq_true]
  constructor
  · rintro ⟨h1, h2⟩
    refine ⟨h1, fun c hc hw => ?_⟩
    have := h2 c (cell_mem.2 hc)
    rw [hw] at this
    simpa using this
  · rintro ⟨h1, h2⟩
    refine ⟨h1, fun c hc => ?_⟩
    have := h2 c (cell_mem.1 hc)
    cases hw : wordE h c != 0 with
    | true => rfl
    | false =>
      have := this (by simpa using hw)
      simpa using this
theorem free_cell {h : Hp} {ls : List Ls} (hm : MayF h ls) {a : Int} (ho : Obj h a) (hs : smL (freeL h a) = true) {e : Int} (he : roomA (freeH h a).p e > 0) : freeD h a (pgN e) = false := by
  obtain ⟨_, _, _, _, _, f6, _⟩ := free_fin hm ho hs
  cases hd : freeD h a (pgN e) with
  | false => rfl
  | true =>
    obtain ⟨_, _, _, _, p, g4, _, g6⟩ := cell_facts he
    have g4 : (freeH h a).p[pgN e]? = some p := g4
    rw [f6, if_pos hd] at g4
    cases g4
    rcases g6 with ⟨k2, _⟩ | ⟨k1, _⟩
    · cases k2
    · cases k1
theorem cat_mem {ls : List Ls} {e : Int} : e ∈ catI ls ↔ ∃ l ∈ ls, ∃ k, k < 3 ∧ e ∈ l.get k := by
  unfold catI
  rw [List.mem_flatMap]
  constructor
  · rintro ⟨l, hl, he⟩; exact ⟨l, hl, one3_mem.1 he⟩
  · rintro ⟨l, hl, he⟩; exact ⟨l, hl, one3_mem.2 he⟩
theorem whole_free {h : Hp} {ls : List Ls} (hw : wholeHV h ls = true) {a : Int} (ho : Obj h a) (hs : smL (freeL h a) = true) : wholeHV (freeH h a) ls = true := by
  obtain ⟨hm, hc⟩ := whole_iff.1 hw
  obtain ⟨f1, f2, f3, f4, f5, f6, f7, f8⟩ := free_fin hm ho hs
  refine whole_iff.2 ⟨f1, fun c hr hz => ?_⟩
  have hd := free_cell hm ho hs hr
  have hin : ∀ k, k < 3 → c ∈ (freeL h a).get k → c ∈ catI ((freeH h a).f :: ls) := fun k hk hck => by
    refine cat_mem.2 ⟨_, List.mem_cons_self, k, hk, ?_⟩
    rw [f7 k hk, List.mem_filter]
    exact ⟨hck, by rw [hd]; rfl⟩
  by_cases hca : c = a
  · subst hca
    obtain ⟨p1, p2, p3⟩ := obj_page ho.r
    rcases p3 with ⟨n, hn⟩ | ⟨d, hd', d0, d2⟩
    · exfalso
      obtain ⟨q1, _, _⟩ := shaped_ne hm.sh
      rw [hn] at p2
      obtain ⟨n1, _⟩ := large_drop q1 p2
      unfold freeD at hd
      rw [hn] at hd
      have hd : (decide (pgN c ≤ pgN c) && decide (pgN c < pgN c + n.toNat)) = false := hd
      rw [decide_eq_true (Nat.le_refl _), decide_eq_true (by omega)] at hd
      cases hd
    · refine hin d.toNat (by omega) ?_
      unfold freeL
      rw [hd']
      show c ∈ (app3 h.f (oneL d c)).get d.toNat
      rw [app3_get, oneL_get d0 d2 (by omega), if_pos (by omega)]
      simp
  · obtain ⟨g1, _⟩ := f8 c hr hca
    obtain ⟨_, _, r3⟩ := free_same hm ho hs g1 hca hd
    rw [r3] at hz
    obtain ⟨l, hl, k, hk, he⟩ := cat_mem.1 (hc c g1 hz)
    rcases List.mem_cons.1 hl with rfl | hl
    · refine hin k hk ?_
      unfold freeL
      cases (pageE h a).1 == 2 with
      | true => exact he
      | false =>
        show c ∈ (app3 h.f _).get k
        rw [app3_get]
        exact List.mem_append_left _ he
    · exact cat_mem.2 ⟨l, List.mem_cons_of_mem _ hl, k, hk, he⟩
/-- Lists that rise are told by what they have. -/
theorem rises_ext {lo : Int} {n : Nat} {xs ys : List Int} (hx : rises lo (lo + n) xs) (hy : rises lo (lo + n) ys) (h : ∀ e, e ∈ xs ↔ e ∈ ys) : xs = ys := by
  rw [← filter_rises n lo xs hx, ← filter_rises n lo ys hy]
  refine List.filter_congr fun e _ => ?_
  simp only [h e]
theorem rises_filter {q : Int → Bool} : ∀ {xs : List Int} {lo hi : Int}, rises lo hi xs → rises lo hi (xs.filter q)
  | [], _, _, h => h
  | x :: xs, lo, hi, h => by
    obtain ⟨h1, h2, h3⟩ := h
    rw [List.filter_cons]
    cases q x with
    | true => exact ⟨h1, h2, rises_filter h3⟩
    | false => exact rises_mono (by omega) (rises_filter h3)
theorem rises_nodup : ∀ {xs : List Int} {lo hi : Int}, rises lo hi xs → xs.Nodup
  | [], _, _, _ => List.nodup_nil
  | x :: xs, lo, hi, h => by
    obtain ⟨h1, h2, h3⟩ := h
    refine List.nodup_cons.2 ⟨fun hin => ?_, rises_nodup h3⟩
    have := (rises_mem h3 x hin).1
    omega
theorem used_mem {h : Hp} (hm : MayF h []) {e : Int} : e ∈ usedE h ↔ roomA h.p e > 0 ∧ wordE h e ≠ 0 := by
  unfold usedE
  rw [mayF_iff.2 hm]
  show e ∈ (cellAs h.p).filter _ ↔ _
  rw [List.mem_filter, cell_mem]
  unfold usedV
  simp
theorem used_rises {h : Hp} : rises 16 (16 + (16 * h.p.length : Nat)) (usedE h) := by
  unfold usedE
  cases mayHpV h [] with
  | false => trivial
  | true => exact rises_filter (allCs_rises h.p)
/-- The objects behind it are those that were there, but one. -/
theorem used_but {h x : Hp} (hm : MayF h []) (hx : MayF x []) (hl : x.p.length = h.p.length) {a : Int} (h1 : ∀ e, (roomA x.p e > 0 ∧ wordE x e ≠ 0) ↔ (roomA h.p e > 0 ∧ wordE h e ≠ 0) ∧ e ≠ a) : usedE x = (usedE h).filter fun e => e != a := by
  have hr := used_rises (h := x)
  rw [hl] at hr
  refine rises_ext hr (rises_filter used_rises) fun e => ?_
  rw [used_mem hx, List.mem_filter, used_mem hm, h1 e]
  simp
theorem used_all {h x : Hp} (hm : MayF h []) (hx : MayF x []) (hl : x.p.length = h.p.length) (h1 : ∀ e, (roomA x.p e > 0 ∧ wordE x e ≠ 0) ↔ (roomA h.p e > 0 ∧ wordE h e ≠ 0)) : usedE x = usedE h := by
  have hr := used_rises (h := x)
  rw [hl] at hr
  refine rises_ext hr used_rises fun e => ?_
  rw [used_mem hx, used_mem hm, h1 e]
theorem filter_one {a : Int} : ∀ {xs : List Int}, xs.Nodup → a ∈ xs → (xs.filter fun e => e != a).length + 1 = xs.length
  | [], _, h => by cases h
  | x :: xs, hn, h => by
    obtain ⟨h1, h2⟩ := List.nodup_cons.1 hn
    rw [List.filter_cons]
    by_cases hx : x = a
    · subst hx
      rw [if_neg (by simp), List.filter_eq_self.2]
      · rfl
      · intro e he
        simp only [bne_iff_ne]
        intro hq
        exact h1 (hq ▸ he)
    · rw [if_pos (by simpa using hx)]
      have := filter_one h2 (by rcases List.mem_cons.1 h with h | h; exact absurd h.symm hx; exact h)
      simp only [List.length_cons]
      omega
theorem used_free {h : Hp} (hm : MayF h []) {a : Int} (ho : Obj h a) (hs : smL (freeL h a) = true) : (usedE (freeH h a)).length + 1 = (usedE h).length := by
  obtain ⟨f1, f2, f3, f4, f5, f6, f7, f8⟩ := free_fin hm ho hs
  have hza : wordE (freeH h a) a = 0 := by
    have : wordE (freeH h a) a = wordE (zeroH h a) a := by unfold wordE; rw [f2]
    rw [this, word_gone hm.sh ho.r]
  rw [used_but hm f1 f4 (a := a) fun e => ?_]
  · exact filter_one (rises_nodup used_rises) ((used_mem hm).2 ⟨ho.r, ho.w⟩)
  · constructor
    · rintro ⟨g1, g2⟩
      have hne : e ≠ a := fun q => by rw [q] at g2; exact g2 hza
      obtain ⟨g3, g4⟩ := f8 e g1 hne
      obtain ⟨_, _, r3⟩ := free_same hm ho hs g3 hne g4
      exact ⟨⟨g3, by rw [← r3]; exact g2⟩, hne⟩
    · rintro ⟨⟨g1, g2⟩, hne⟩
      obtain ⟨r1, _, r3⟩ := free_same hm ho hs g1 hne (free_stays hm ho g1 g2 hne)
      exact ⟨by rw [r1]; exact g1, by rw [r3]; exact g2⟩
theorem eqR_of {s : HH} {u : Int} : ∀ (m j : Nat), (∀ i, j ≤ i → i < j + m → s.k.w.getD (u + (i : Int) - 16).toNat 0 = s.h.w.getD (u + (i : Int) - 16).toNat 0) → eqR s u m j = true
  | 0, _, _ => rfl
  | m + 1, j, h => by
    unfold eqR
    rw [h j (by omega) (by omega), bne_self_eq_false, cond_false]
    exact eqR_of m (j + 1) fun i h1 h2 => h i (by omega) (by omega)
theorem keptR_of {s : HH} {a : Int} : ∀ (us : List Int), (∀ u ∈ us, u ≠ a → roomA s.k.p u = roomA s.h.p u ∧ eqR s u (roomA s.h.p u).toNat 0 = true) → keptR s a us = true
  | [], _ => rfl
  | u :: us, h => by
    unfold keptR
    have ih := keptR_of us fun v hv => h v (List.mem_cons_of_mem _ hv)
    cases hu : u == a with
    | true => exact ih
    | false =>
      obtain ⟨g1, g2⟩ := h u List.mem_cons_self (by simpa using hu)
      rw [g1, bne_self_eq_false, g2, ih]; rfl
theorem keptV_of {h k : Hp} (hm : MayF h []) (hw : k.w.length = h.w.length) {a : Int} (h1 : ∀ u, roomA h.p u > 0 → wordE h u ≠ 0 → u ≠ a → roomA k.p u = roomA h.p u ∧ eqR ⟨h, k⟩ u (roomA h.p u).toNat 0 = true) : keptV h k a = true := by
  unfold keptV
  rw [hw, bne_self_eq_false, cond_false]
  exact keptR_of (s := ⟨h, k⟩) _ fun u hu hne => h1 u ((used_mem hm).1 hu).1 ((used_mem hm).1 hu).2 hne
theorem kept_free {h : Hp} (hm : MayF h []) {a : Int} (ho : Obj h a) (hs : smL (freeL h a) = true) : keptV h (freeH h a) a = true := by
  obtain ⟨f1, f2, f3, f4, f5, f6, f7, f8⟩ := free_fin hm ho hs
  obtain ⟨z1, z2, z3⟩ := zero_in hm.sh ho.r
  refine keptV_of hm (by rw [f2, zero_len z1 z2 z3]) fun u hr hw hne => ?_
  obtain ⟨r1, _, _⟩ := free_same hm ho hs hr hne (free_stays hm ho hr hw hne)
  refine ⟨r1, eqR_of _ _ fun i _ hi => ?_⟩
  show (freeH h a).w.getD _ 0 = h.w.getD _ 0
  have h16 := (room_in hr).1
  rw [f2, List.getD_eq_getElem?_getD, List.getD_eq_getElem?_getD, zero_get' z1 z2 z3, if_neg]
  rcases cells_apart ho.r hr hne with g | g
  · rcases cells_apart hr ho.r hne.symm with g2 | g2 <;> omega
  · omega
end Go.Ab

namespace Go.Ab
open Go
open Go.Proofs
theorem MayF.swap {h : Hp} {a b : Ls} {ls : List Ls} (hm : MayF h (a :: b :: ls)) : MayF h (b :: a :: ls) := by
  refine ⟨hm.sh, fun l hl => hm.li l ?_, hm.ce, ?_⟩
  · simp only [List.mem_cons] at hl ⊢
    rcases hl with h | h | h | h
    · exact .inl h
    · exact .inr (.inr (.inl h))
    · exact .inr (.inl h)
    · exact .inr (.inr (.inr h))
  · have hnd := hm.nd
    rw [catI_cons, catI_cons, catI_cons] at hnd ⊢
    exact ((swp _ _ _).append_left _).nodup_iff.1 hnd
theorem flush_stays {h : Hp} {l0 : Ls} {ls : List Ls} (hm : MayF h (l0 :: ls)) {u : Int} (hr : roomA h.p u > 0) (hw : wordE h u ≠ 0) : hitE (addF h l0) (pgN u) = false := by
  obtain ⟨p1, p2, p3⟩ := obj_page hr
  rcases p3 with ⟨n, hn⟩ | ⟨c, hc, c0, c2⟩
  · cases hh : hitE (addF h l0) (pgN u) with
    | false => rfl
    | true =>
      obtain ⟨c, hc, _⟩ := hit_small hh
      have hc : h.p[pgN u]? = some (1, c) := hc
      rw [p2, hn] at hc
      cases hc
  · have m1 : MayF (zeroH h u) (l0 :: oneL c u :: ls) := (hm.zero hr hc c0 c2 hw).swap
    exact m1.alone (l := oneL c u) (by simp) (k := c.toNat) (by omega) (e := u) (by
      rw [oneL_get c0 c2 (by omega), if_pos (by omega)]; simp) p1.symm
theorem flush_same {h : Hp} {l0 : Ls} {ls : List Ls} (hm : MayF h (l0 :: ls)) (hs : smL (app3 h.f l0) = true) {e : Int} (hh : hitE (addF h l0) (pgN e) = false) :
    roomA (flushH h l0).p e = roomA h.p e ∧ pageE (flushH h l0) e = pageE h e ∧ wordE (flushH h l0) e = wordE h e := by
  obtain ⟨f1, f2, f3, f4, f5, f6⟩ := flush_fin hm hs
  obtain ⟨q1, _, _⟩ := shaped_ne hm.sh
  simp only [okW, Bool.and_eq_true] at f3
  refine same_at f1 f4 (by rw [f3.1, q1]) ?_
  show (flushH h l0).p[pgN e]? = h.p[pgN e]?
  rw [f5, hh]; simp
theorem flush_cell {h : Hp} {l0 : Ls} {ls : List Ls} (hm : MayF h (l0 :: ls)) (hs : smL (app3 h.f l0) = true) {e : Int} (he : roomA (flushH h l0).p e > 0) : hitE (addF h l0) (pgN e) = false := by
  obtain ⟨f1, f2, f3, f4, f5, f6⟩ := flush_fin hm hs
  cases hh : hitE (addF h l0) (pgN e) with
  | false => rfl
  | true =>
    obtain ⟨_, _, _, _, p, g4, _, g6⟩ := cell_facts he
    have g4 : (flushH h l0).p[pgN e]? = some p := g4
    rw [f5, if_pos hh] at g4
    cases g4
    rcases g6 with ⟨k2, _⟩ | ⟨k1, _⟩
    · cases k2
    · cases k1
theorem whole_flush {h : Hp} {l0 : Ls} {ls : List Ls} (hw : wholeHV h (l0 :: ls) = true) (hs : smL (app3 h.f l0) = true) : wholeHV (flushH h l0) ls = true := by
  obtain ⟨hm, hc⟩ := whole_iff.1 hw
  obtain ⟨f1, f2, f3, f4, f5, f6⟩ := flush_fin hm hs
  refine whole_iff.2 ⟨hm.flush hs, fun c hr hz => ?_⟩
  have hh := flush_cell hm hs hr
  obtain ⟨r1, _, r3⟩ := flush_same hm hs hh
  rw [r1] at hr
  rw [r3] at hz
  obtain ⟨p1, _, _⟩ := obj_page hr
  obtain ⟨l, hl, k, hk, he⟩ := cat_mem.1 (hc c hr hz)
  have hin : c ∈ h.f.get k ++ l0.get k → c ∈ catI ((flushH h l0).f :: ls) := fun hi => by
    refine cat_mem.2 ⟨_, List.mem_cons_self, k, hk, ?_⟩
    rw [f6 k hk, List.mem_filter]
    refine ⟨hi, ?_⟩
    cases hr : rem (addF h l0) h.p.length k c with
    | false => rfl
    | true =>
      obtain ⟨j, _, g2, _, g4⟩ := rem_iff.1 hr
      have : j = pgN c := by omega
      rw [this, hh] at g2; cases g2
  rcases List.mem_cons.1 hl with rfl | hl
  · exact hin (List.mem_append_left _ he)
  · rcases List.mem_cons.1 hl with rfl | hl
    · exact hin (List.mem_append_right _ he)
    · exact cat_mem.2 ⟨l, List.mem_cons_of_mem _ hl, k, hk, he⟩
theorem used_flush {h : Hp} {l0 : Ls} {ls : List Ls} (hm : MayF h (l0 :: ls)) (hs : smL (app3 h.f l0) = true) : usedE (flushH h l0) = usedE h := by
  obtain ⟨f1, f2, f3, f4, f5, f6⟩ := flush_fin hm hs
  refine used_all hm.none (hm.flush hs).none f4 fun e => ?_
  constructor
  · rintro ⟨g1, g2⟩
    obtain ⟨r1, _, r3⟩ := flush_same hm hs (flush_cell hm hs g1)
    exact ⟨by rw [← r1]; exact g1, by rw [← r3]; exact g2⟩
  · rintro ⟨g1, g2⟩
    obtain ⟨r1, _, r3⟩ := flush_same hm hs (flush_stays hm g1 g2)
    exact ⟨by rw [r1]; exact g1, by rw [r3]; exact g2⟩
theorem kept_flush {h : Hp} {l0 : Ls} {ls : List Ls} (hm : MayF h (l0 :: ls)) (hs : smL (app3 h.f l0) = true) (a : Int) : keptV h (flushH h l0) a = true := by
  obtain ⟨f1, f2, f3, f4, f5, f6⟩ := flush_fin hm hs
  exact keptV_of hm.none (by rw [f1]) fun u hr hw _ => ⟨(flush_same hm hs (flush_stays hm hr hw)).1, eqR_same (s := ⟨h, flushH h l0⟩) f1 u _ _⟩
end Go.Ab

namespace Go.Ab
open Go
open Go.Proofs
theorem Few.flush {h : Hp} {n m : Nat} (hf : Few h n) {l0 : Ls} {ls : List Ls} (hm : MayF h (l0 :: ls)) (hl : ∀ k, k < 3 → (l0.get k).length ≤ m) (hn : n + m ≤ 90000) : smL (app3 h.f l0) = true ∧ Few (flushH h l0) (n + m) := by
  obtain ⟨s1, g1⟩ := smL_app3 hf.f hl (by omega)
  obtain ⟨f1, f2, f3, f4, f5, f6⟩ := flush_fin hm s1
  refine ⟨s1, by rw [f1]; exact hf.w, by rw [f4]; exact hf.p, by rw [f2]; exact hf.c, fun k hk => ?_⟩
  rw [f6 k hk]
  refine Nat.le_trans (List.length_filter_le _ _) ?_
  have := g1 k hk
  rw [app3_get] at this
  exact this
theorem smLs_cons {f : Ls} {ls : List Ls} (hf : smL f = true) (hl : ∀ l ∈ ls, lightV l = true) (h4 : ls.length ≤ 4) : smLs (f :: ls) = true := by
  unfold smLs
  rw [Nat.ble_eq_true_of_le (by simp; omega), Bool.true_and, List.all_eq_true]
  intro l hm
  rcases List.mem_cons.1 hm with rfl | hm
  · exact hf
  · exact light_sm (hl l hm)
theorem eq_ne {x : Int} (h : (x != 0) = true) : (x == 0) = false := by
  cases hx : x == 0 with
  | false => rfl
  | true => rw [bne, hx] at h; cases h
def gLaw5 : Callee := g3 cHp cLss cI (fun _ ls _ => Nat.ble ls.length 9223372036854775807) fun _ _ _ => .bool true
theorem law5_good : GoodC Pr 5 gLaw5 :=
  good3 ((CxOK.baseN (Good.cons awake_good (Good.cons few_good (Good.cons flush_good (Good.cons whole_good (Good.cons free_good (Good.cons used_good (Good.cons kept_good Good.nil))))))) GoodI.nil (eqOK_none fun _ => rfl)).sound (cx := k5) Tryd.func5 (by kernel_rfl) (by kernel_rfl) rfl (by kernel_rfl)) fun h ls a hls β K => by
    have e : ∀ h : Hp, (⟨h.w, h.p, ⟨h.f.a, h.f.b, h.f.c⟩, h.c⟩ : Hp) = h := fun _ => rfl
    have el : ∀ l : Ls, (⟨l.a, l.b, l.c⟩ : Ls) = l := fun _ => rfl
    rw [r5]
    simp only [decI_map, decP_map, decBs_enc, decLs_map, Option.bind_some, e, hls, cond_true]
    cases hf : fewV h ls with
    | false => rfl
    | true =>
      simp only [Bool.not_true, cond_false]
      cases ls with
      | nil => rfl
      | cons l0 rest =>
        obtain ⟨hF, hsl, hli, h4⟩ := few_of hf
        obtain ⟨s1, s2, s3, s4⟩ := hF.sm (by omega)
        have hlen : decide (((List.length (List.map encLs (l0 :: rest)) : Nat) : Int) < 1) = false := decide_eq_false (by simp; omega)
        have h0 : rdE (List.map encLs (l0 :: rest)) 0 = some (encLs l0) := rfl
        have g1 : (encLs l0)[0]? = some (.sl 1 (encI l0.a)) := rfl
        have g2 : (encLs l0)[1]? = some (.sl 1 (encI l0.b)) := rfl
        have g3 : (encLs l0)[2]? = some (.sl 1 (encI l0.c)) := rfl
        have hok : okBounds (List.length (List.map encLs (l0 :: rest))) (some 1) none none = true := by
          simp [okBounds]; omega
        have hsub : decLs (subl (List.map encLs (l0 :: rest)) 1 (Int.toNat (((List.length (List.map encLs (l0 :: rest)) : Nat) : Int) - 1))) = some rest := by
          have : subl (List.map encLs (l0 :: rest)) 1 (Int.toNat (((List.length (List.map encLs (l0 :: rest)) : Nat) : Int) - 1)) = List.map encLs rest := by
            simp only [subl, List.length_map, List.length_cons, List.map_cons, List.drop_succ_cons, List.drop_zero]
            exact List.take_of_length_le (by simp)
          rw [this, decLs_map]
        simp only [hlen, cond_false, s1, s2, hsl, Bool.and_self, cond_true]
        cases hwh : wholeHV h (l0 :: rest) with
        | false => rfl
        | true =>
          have hm := whole_may hwh
          have hm0 := hm.none
          have l0s := light_sm (hli l0 (by simp))
          obtain ⟨sx, Fx⟩ := hF.flush hm (light_get (hli l0 (by simp))) (by omega)
          obtain ⟨x1, x2, x3, x4⟩ := Fx.sm (by omega)
          have hxl : smLs ((flushH h l0).f :: rest) = true := smLs_cons (Fx.f.smL (by omega)).1 (fun l hl => hli l (by simp [hl])) (by simp only [List.length_cons] at h4; omega)
          have hfl : flushE h l0 = (flushH h l0, 0) := flushE_of hm.one
          have hwx := whole_flush hwh sx
          simp only [Bool.not_true, cond_false]
          cases ea : (headE h a).2 != 0 with
          | true =>
            simp only [eq_ne (freeHE_bad ea), cond_false, h0, g1, g2, g3, asL_1, Option.bind_some, decI_map, el, l0s, sx, Bool.and_self, cond_true, hfl, beq_self_eq_true, hok, Option.getD_none, hsub, e, x1, hxl, hwx, s1, s3, kept_flush hm sx, x3, used_flush hm sx, encI_len]
          | false =>
            have oa := obj_head ea
            have Fb := hF.free (by omega) hm oa
            obtain ⟨b1, b2, b3, b4⟩ := Fb.sm (by omega)
            have hbl : smLs ((freeH h a).f :: l0 :: rest) = true := smLs_cons (Fb.f.smL (by omega)).1 hli h4
            have hwb := whole_free hwh oa (hF.f.freeL (by omega) a)
            have hkb := kept_free hm0 oa (hF.f.freeL (by omega) a)
            have hub := used_free hm0 oa (hF.f.freeL (by omega) a)
            have hul := used_len s1
            have hun : ((((usedE (freeH h a)).length : Nat) : Int) != IntKind.i64.wrap ((((usedE h).length : Nat) : Int) - 1)) = false := by
              rw [wrap_in (by omega), ← hub]
              simp
            simp only [freeHE_obj hm0 oa, beq_self_eq_true, cond_true, e, b1, hbl, Bool.and_self, hwb, Bool.not_true, cond_false, s1, s3, hkb, b3, encI_len, hun, h0, g1, g2, g3, asL_1, Option.bind_some, decI_map, el, l0s, sx, hfl, hok, Option.getD_none, hsub, x1, hxl, hwx, kept_flush hm sx, x3, used_flush hm sx]
theorem law5_run (h : Hp) (ls : List Ls) (a : Int) (hl : ls.length ≤ 9223372036854775807) (β : Type) (K : CV → List (List CV) → Option β) : gLaw5.run [cHp.enc h, cLss.enc ls, cI.enc a] [] β K = K (.bool true) [] := by
  unfold gLaw5 g3
  dsimp only
  rw [cHp.de, cLss.de, cI.de]
  simp only [Option.bind_some, Nat.ble_eq_true_of_le hl, cond_true]
end Go.Ab
