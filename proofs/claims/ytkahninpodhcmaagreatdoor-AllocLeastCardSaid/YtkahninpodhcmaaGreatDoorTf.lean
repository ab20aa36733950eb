/- alloc.small and large: where there is room, and what they leave.
alloc.Take: its contract, and what it leaves.
What is taken fits; how many are used; where there is room.
The reference's Of, Run, Same.
alloc.Take's contract.
Behind an object that is given back there is room; what is taken and given back is as it was.
alloc.Room; few of chapter 08; awake of chapter 08.
few of chapter 08; awake of chapter 08.
AllocLeast's residual.
ReapBack's residual.
AllocTwice's residual.
The law AllocTwice.
The law ReapBack.
The law AllocLeast. -/
import Derived.Test.YtkahninpodhcmaaGreatDoorTe
import Derived.Test.YtkahninpodhcmaaGreatDoorTd
namespace Go.Ab
open Go
open Go.Proofs
def lenL (l : Ls) (n : Nat) : Prop := ∀ k, k < 3 -> (l.get k).length <= n
theorem lenL.smL {l : Ls} {n : Nat} (hl : lenL l n) (hn : n <= 100000) : smL l = true :=
  smL_len (Nat.le_trans (hl 0 (by omega)) hn) (Nat.le_trans (hl 1 (by omega)) hn) (Nat.le_trans (hl 2 (by omega)) hn)
theorem lenL.mono {l : Ls} {n m : Nat} (hl : lenL l n) (h : n <= m) : lenL l m := fun k hk => Nat.le_trans (hl k hk) h
theorem lenL.set {l : Ls} {n m : Nat} (hl : lenL l n) {x : List Int} {i : Nat} (hi : i < 3) (hx : x.length <= m) (hn : n <= m) : lenL (l.set x i) m := fun k hk => by
  rw [get_set hk hi]
  by_cases h : k = i
  . rw [if_pos h]; exact hx
  . rw [if_neg h]; exact Nat.le_trans (hl k hk) hn
theorem newYs_len {h : Hp} (hl : h.p.length <= 200) (at' : Nat) (i : Int) : (newYs h at' i).length <= 8192 := by
  unfold newYs
  rw [List.length_reverse, <- onL_filter]
  refine Nat.le_trans (List.length_filter_le _ _) ?_
  exact Nat.le_of_ble_eq_true (all_len8 (Nat.ble_eq_true_of_le (by simpa using hl)))
theorem pg_some {h : Hp} {c : Ls} {at' : Nat} (hf : findE h.p 1 = some at') {i : Int} (i0 : 0 <= i) (i2 : i <= 2) :
    pgE ⟨h, c⟩ = 0 /\ pgFr ⟨h, c⟩ i = ⟨pageH h at' i, c⟩ /\ pgPs ⟨h, c⟩ i = h.p.set at' (1, i) /\ pgYs ⟨h, c⟩ i = newYs h at' i := by
  have a0 : pgAt ⟨h, c⟩ = (at' : Int) := by unfold pgAt; show (((findE h.p 1).getD 0 : Nat) : Int) = _; rw [hf]; rfl
  have a1 : pgPs ⟨h, c⟩ i = h.p.set at' (1, i) := by unfold pgPs; rw [a0]; exact (small_put hf i0 i2).2.2.1
  have a2 : pgYs ⟨h, c⟩ i = newYs h at' i := by unfold pgYs; rw [a1, a0, segR_all]; rfl
  refine ⟨?_, ?_, a1, a2⟩
  . unfold pgE; show (bif (findE h.p 1).isSome then 0 else 4) = (0 : Int); rw [hf]; rfl
  . unfold pgFr
    show (bif (findE h.p 1).isSome then _ else _) = _
    rw [hf, a1, a2]; rfl
theorem move_len {f t : Ls} {n m : Nat} (hf : lenL f n) (ht : lenL t m) {i : Int} (i0 : 0 <= i) (i2 : i <= 2) : lenL (moveF f i) n /\ lenL (moveT f t i) (m + 2) := by
  refine ⟨hf.set (by omega) ?_ (Nat.le_refl n), ht.set (by omega) ?_ (by omega)⟩
  . have := hf i.toNat (by omega)
    rw [List.length_take]; omega
  . have := ht i.toNat (by omega)
    rw [List.length_append, List.length_reverse, List.length_drop]; omega
theorem pop_len {t : Ls} {m : Nat} (ht : lenL t m) {i : Int} (i0 : 0 <= i) (i2 : i <= 2) : lenL (popL t i) m := by
  refine ht.set (by omega) ?_ (Nat.le_refl m)
  have := ht i.toNat (by omega)
  rw [List.length_take]; omega
theorem move_ne {f t : Ls} {i : Int} (i0 : 0 <= i) (i2 : i <= 2) (hn : f.get i.toNat ≠ []) : (moveT f t i).get i.toNat ≠ [] := by
  unfold moveT
  rw [get_set (by omega) (by omega), if_pos rfl]
  intro q
  have := congrArg List.length q
  have h1 := List.length_pos_iff.2 hn
  rw [List.length_append, List.length_reverse, List.length_drop, List.length_nil] at this
  omega
theorem pop_one {f t : Ls} {i : Int} (i0 : 0 <= i) (i2 : i <= 2) (hn : t.get i.toNat = []) : ((popL (moveT f t i) i).get i.toNat).length <= 1 := by
  unfold popL moveT
  rw [get_set (by omega) (by omega), if_pos rfl, get_set (by omega) (by omega), if_pos rfl, hn, List.length_take, List.nil_append, List.length_reverse, List.length_drop]
  omega
theorem isE {l : List Int} (h : l.isEmpty = true) : l = [] := List.isEmpty_iff.1 h
theorem isNE {l : List Int} (h : l.isEmpty = false) : l ≠ [] := fun q => by rw [q] at h; cases h
inductive Small (h : Hp) (c : Ls) (i : Int) : Prop where
  | full (e : smE ⟨h, c⟩ i = (0, 4)) (e1 : c.get i.toNat = []) (e2 : h.f.get i.toNat = []) (e3 : findE h.p 1 = none)
  | some (e : (smE ⟨h, c⟩ i).2 = 0) (r : Ready h c (smFr ⟨h, c⟩ i).h (smFr ⟨h, c⟩ i).c (smE ⟨h, c⟩ i).1) (p : pageE (smFr ⟨h, c⟩ i).h (smE ⟨h, c⟩ i).1 = (1, i))
      (ne : (findE h.p 1).isSome = true \/ h.f.get i.toNat ≠ [] \/ c.get i.toNat ≠ [])
      (l : (c.get i.toNat = [] /\ ((smFr ⟨h, c⟩ i).c.get i.toNat).length <= 1) \/ (c.get i.toNat ≠ [] /\ (smFr ⟨h, c⟩ i).c = popL c i /\ (smE ⟨h, c⟩ i).1 = lastL c i /\ (smFr ⟨h, c⟩ i).h.f = h.f))
      (n : ∀ n m, lenL h.f n -> lenL c m -> lenL (smFr ⟨h, c⟩ i).h.f (n + 8192) /\ lenL (smFr ⟨h, c⟩ i).c (m + 2))
theorem isC_of {i : Int} (i0 : 0 <= i) (i2 : i <= 2) : isC i = true := by
  have : i = 0 \/ i = 1 \/ i = 2 := by omega
  rcases this with rfl | rfl | rfl <;> rfl
theorem sm_take {h : Hp} {c : Ls} (hm : MayF h [c]) (hf : lenL h.f 90000) (hc : lenL c 90000) {i : Int} (i0 : 0 <= i) (i2 : i <= 2) : smPre ⟨h, c⟩ i = true /\ Small h c i := by
  obtain ⟨q1, _, _⟩ := shaped_ne hm.sh
  obtain ⟨_, l64⟩ := may_len q1
  have hsc : Go.Ab.smL c = true := hc.smL (by omega)
  have hsf : Go.Ab.smL h.f = true := hf.smL (by omega)
  have okMP_of : ∀ (f : Ls), lenL f 99000 -> f.get i.toNat ≠ [] -> ∀ g : Hp, g.f = f -> okMP ⟨g, c⟩ i = true := fun f h1 h2 g hg => by
    obtain ⟨m1, m2⟩ := move_len h1 hc i0 i2
    unfold okMP
    show (Go.Ab.smL g.f && (Go.Ab.smL c && (Go.Ab.smL (moveT g.f c i) && !((moveT g.f c i).get i.toNat).isEmpty))) = true
    rw [hg, h1.smL (by omega), hsc, m2.smL (by omega)]
    cases hq : ((moveT f c i).get i.toNat).isEmpty with
    | false => rfl
    | true => exact absurd (isE hq) (move_ne i0 i2 h2)
  have hpre : smPre ⟨h, c⟩ i = (isC i && (Go.Ab.smL c && bif !(c.get i.toNat).isEmpty then true else bif !(h.f.get i.toNat).isEmpty then okMP ⟨h, c⟩ i else pgPre ⟨h, c⟩ i && bif pgE ⟨h, c⟩ != 0 then true else okMP (pgFr ⟨h, c⟩ i) i)) := rfl
  have hE : smE ⟨h, c⟩ i = bif !(c.get i.toNat).isEmpty then (lastL c i, 0) else bif !(h.f.get i.toNat).isEmpty then (lastL (moveT h.f c i) i, 0) else bif pgE ⟨h, c⟩ != 0 then (0, pgE ⟨h, c⟩) else (lastL (smMove (pgFr ⟨h, c⟩ i) i).c i, 0) := rfl
  have hF : smFr ⟨h, c⟩ i = bif !(c.get i.toNat).isEmpty then ⟨h, popL c i⟩ else bif !(h.f.get i.toNat).isEmpty then ⟨{ h with f := moveF h.f i }, popL (moveT h.f c i) i⟩ else bif pgE ⟨h, c⟩ != 0 then pgFr ⟨h, c⟩ i else smPop (smMove (pgFr ⟨h, c⟩ i) i) i := rfl
  rw [hpre, isC_of i0 i2, hsc, Bool.true_and, Bool.true_and]
  cases e1 : (c.get i.toNat).isEmpty with
  | false =>
    rw [e1] at hE hF
    simp only [Bool.not_false, cond_true] at hE hF ⊢
    obtain ⟨R, _, hp⟩ := (Step0.refl h c).pop hm i0 i2 (isNE e1)
    refine ⟨trivial, .some (by rw [hE]) (by rw [hE, hF]; exact R) (by rw [hE, hF]; exact hp) (.inr (.inr (isNE e1))) (.inr ⟨isNE e1, by rw [hF], by rw [hE], by rw [hF]⟩) fun n m h1 h2 => ?_⟩
    rw [hF]
    exact ⟨h1.mono (by omega), (pop_len h2 i0 i2).mono (by omega)⟩
  | true =>
    rw [e1] at hE hF
    simp only [Bool.not_true, cond_false] at hE hF ⊢
    cases e2 : (h.f.get i.toNat).isEmpty with
    | false =>
      rw [e2] at hE hF
      simp only [Bool.not_false, cond_true] at hE hF ⊢
      obtain ⟨R, _, hp⟩ := ((Step0.refl h c).move i0 i2).pop hm i0 i2 (move_ne i0 i2 (isNE e2))
      refine ⟨okMP_of h.f (hf.mono (by omega)) (isNE e2) h rfl, .some (by rw [hE]) (by rw [hE, hF]; exact R) (by rw [hE, hF]; exact hp) (.inr (.inl (isNE e2))) (.inl ⟨isE e1, by rw [hF]; exact pop_one i0 i2 (isE e1)⟩) fun n m h1 h2 => ?_⟩
      rw [hF]
      obtain ⟨m1, m2⟩ := move_len h1 h2 i0 i2
      exact ⟨m1.mono (by omega), pop_len m2 i0 i2⟩
    | true =>
      rw [e2] at hE hF
      simp only [Bool.not_true, cond_false] at hE hF ⊢
      cases e3 : findE h.p 1 with
      | none =>
        have p1 : pgE ⟨h, c⟩ = 4 := by unfold pgE; show (bif (findE h.p 1).isSome then 0 else 4) = (4 : Int); rw [e3]; rfl
        have p2 : pgPre ⟨h, c⟩ i = true := by
          unfold pgPre
          show (Go.Ab.sm h.p && bif (findE h.p 1).isSome then _ else true) = true
          rw [e3, Go.Ab.sm_of (by omega)]; rfl
        rw [p1] at hE ⊢
        rw [p2]
        exact ⟨rfl, .full hE (isE e1) (isE e2) e3⟩
      | some at' =>
        obtain ⟨g1, g2, g3, g4⟩ := pg_some (c := c) e3 i0 i2
        have P := hm.page e3 i0 i2
        have S := page_step hm e3 i0 i2
        have hyl := newYs_len (h := h) (by omega) at' i
        have hpf : ∀ n, lenL h.f n -> lenL (pageH h at' i).f (n + 8192) := fun n hn k hk => by
          rw [show (pageH h at' i).f = app3 h.f (manyL i (newYs h at' i)) from push_many h.f _ i0 i2, app3_get, List.length_append, manyL_get i0 i2 hk]
          have := hn k hk
          by_cases q : (k : Int) = i
          . rw [if_pos q]; omega
          . rw [if_neg q]; show _ + 0 <= _; omega
        have hne : (pageH h at' i).f.get i.toNat ≠ [] := by
          rw [show (pageH h at' i).f = app3 h.f (manyL i (newYs h at' i)) from push_many h.f _ i0 i2, app3_get, manyL_get i0 i2 (by omega), if_pos (by omega)]
          intro q
          exact P.ne (List.append_eq_nil_iff.1 q).2
        rw [g1, g2] at hE hF
        have hE : smE ⟨h, c⟩ i = (lastL (moveT (pageH h at' i).f c i) i, 0) := hE
        have hF : smFr ⟨h, c⟩ i = ⟨{ pageH h at' i with f := moveF (pageH h at' i).f i }, popL (moveT (pageH h at' i).f c i) i⟩ := hF
        have hpre2 : pgPre ⟨h, c⟩ i = true := by
          unfold pgPre
          show (Go.Ab.sm h.p && bif (findE h.p 1).isSome then (Nat.ble (pgPs ⟨h, c⟩ i).length 200 && (Nat.ble (pgYs ⟨h, c⟩ i).length 100000 && (mayA h.w.length && ((pgYs ⟨h, c⟩ i).all (inA h.w) && (Go.Ab.smL h.f && isC i))))) else true) = true
          have hma : mayA h.w.length = true := by
            have := hm.sh
            simp only [shapedE, Bool.and_eq_true] at this
            exact this.1
          have hin : (newYs h at' i).all (inA h.w) = true := List.all_eq_true.2 fun y hy => by
            obtain ⟨y1, _⟩ := (P.ys y).1 hy
            obtain ⟨r1, r2⟩ := room_in y1
            have hpl : (pageH h at' i).p.length = h.p.length := S.pl
            have := shaped_w hm.sh
            unfold inA
            rw [decide_eq_true r1, decide_eq_true (by rw [hpl] at r2; omega)]; rfl
          rw [e3, g3, g4, Go.Ab.sm_of (by omega), List.length_set, Nat.ble_eq_true_of_le (show h.p.length <= 200 by omega), Nat.ble_eq_true_of_le (show (newYs h at' i).length <= 100000 by omega), hma, hin, hsf, isC_of i0 i2]; rfl
        obtain ⟨R, _, hp⟩ := (S.move i0 i2).pop hm i0 i2 (move_ne i0 i2 hne)
        refine ⟨?_, .some (by rw [hE]) (by rw [hE, hF]; exact R) (by rw [hE, hF]; exact hp) (.inl (by rw [e3]; rfl)) (.inl ⟨isE e1, by rw [hF]; exact pop_one i0 i2 (isE e1)⟩) fun n m h1 h2 => ?_⟩
        . rw [hpre2, g1, g2]
          exact okMP_of (pageH h at' i).f ((hpf 90000 hf).mono (by omega)) hne (pageH h at' i) rfl
        . rw [hF]
          obtain ⟨m1, m2⟩ := move_len (hpf n h1) h2 i0 i2
          exact ⟨m1, pop_len m2 i0 i2⟩
inductive Large (h : Hp) (c : Ls) (x : Int) : Prop where
  | full (e : lgE ⟨h, c⟩ x = (0, 4)) (e3 : findE h.p (runE x).1 = none)
  | some (e : (lgE ⟨h, c⟩ x).2 = 0) (r : Ready h c (lgFr ⟨h, c⟩ x).h c (lgE ⟨h, c⟩ x).1) (p : pageE (lgFr ⟨h, c⟩ x).h (lgE ⟨h, c⟩ x).1 = (2, (runE x).1)) (o : roomA (lgFr ⟨h, c⟩ x).h.p (lgE ⟨h, c⟩ x).1 = 16 * (runE x).1)
      (ne : (findE h.p (runE x).1).isSome = true) (lc : (lgFr ⟨h, c⟩ x).c = c) (lf : (lgFr ⟨h, c⟩ x).h.f = h.f)
theorem lg_take {h : Hp} {c : Ls} (hm : MayF h [c]) (x : Int) : lgPre ⟨h, c⟩ x = true /\ Large h c x := by
  obtain ⟨q1, _, _⟩ := shaped_ne hm.sh
  obtain ⟨_, l64⟩ := may_len q1
  have hma : mayA h.w.length = true := by
    have := hm.sh
    simp only [shapedE, Bool.and_eq_true] at this
    exact this.1
  have hpre : lgPre ⟨h, c⟩ x = (Go.Ab.sm h.p && bif (findE h.p (runE x).1).isSome then (mayA h.w.length && decide (16 * lgAt ⟨h, c⟩ x < (h.w.length : Int))) else true) := rfl
  have hE : lgE ⟨h, c⟩ x = bif (findE h.p (runE x).1).isSome then (16 * (lgAt ⟨h, c⟩ x + 1), 0) else (0, 4) := rfl
  have hF : lgFr ⟨h, c⟩ x = bif (findE h.p (runE x).1).isSome then ⟨⟨h.w, (largeE h.p (lgAt ⟨h, c⟩ x) (runE x).1).2, h.f, h.c⟩, c⟩ else ⟨h, c⟩ := rfl
  rw [hpre, Go.Ab.sm_of (by omega), Bool.true_and]
  cases e3 : findE h.p (runE x).1 with
  | none =>
    rw [e3] at hE
    exact ⟨rfl, .full hE e3⟩
  | some at' =>
    have ha : lgAt ⟨h, c⟩ x = (at' : Int) := by unfold lgAt; show (((findE h.p (runE x).1).getD 0 : Nat) : Int) = _; rw [e3]; rfl
    rw [e3, ha] at hE hF
    have hE : lgE ⟨h, c⟩ x = (16 * ((at' : Int) + 1), 0) := hE
    have hF : lgFr ⟨h, c⟩ x = ⟨largeH h at' (runE x).1, c⟩ := hF
    obtain ⟨n1, n4, hle, _⟩ := large_put e3
    have L := hm.large e3
    have := shaped_w hm.sh
    refine ⟨?_, .some (by rw [hE]) (by rw [hE, hF]; exact large_ready hm e3) (by rw [hE, hF]; exact L.p) (by rw [hE, hF]; exact L.r) (by rw [e3]; rfl) (by rw [hF]) (by rw [hF]; rfl)⟩
    rw [ha, hma, decide_eq_true (by omega)]; rfl
end Go.Ab

namespace Go.Ab
open Go
open Go.Proofs
def hZ : Hp := ⟨[], [], ⟨[], [], []⟩, []⟩
def badT (e : Int) : Hp × Ls × Int × Int := (hZ, Ls.e, 0, e)
def takeS (s : Fr) (r : Int × Int) (x : Hd) : Hp × Ls × Int × Int := bif r.2 != 0 then badT r.2 else (putH s.h r.1 (packH x), s.c, r.1, 0)
def takeE (h : Hp) (c : Ls) (x : Hd) : Hp × Ls × Int × Int := bif (packE x).2 != 0 then badT 1 else bif !x.a then badT 1 else bif !mayHpV h [c] then badT 1 else bif (ofE x.x).2 != 0 then badT (ofE x.x).2 else
  bif (ofE x.x).1 == 3 then takeS (lgFr ⟨h, c⟩ x.x) (lgE ⟨h, c⟩ x.x) x else takeS (smFr ⟨h, c⟩ (ofE x.x).1) (smE ⟨h, c⟩ (ofE x.x).1) x
theorem of_small {n : Int} (h0 : ((ofE n).2 != 0) = false) (h3 : ((ofE n).1 == 3) = false) : 0 <= (ofE n).1 /\ (ofE n).1 <= 2 := by
  revert h0 h3
  unfold ofE
  cases decide (n < 1) with
  | true => intro h; cases h
  | false =>
    cases decide (n > 63) with
    | true => intro h; cases h
    | false =>
      cases decide (n > 7) with
      | true => intro _ h; cases h
      | false =>
        cases decide (n > 3) with
        | true => intro _ _; exact ⟨(by decide : (0 : Int) <= 2), (by decide : (2 : Int) <= 2)⟩
        | false =>
          cases decide (n > 1) with
          | true => intro _ _; exact ⟨(by decide : (0 : Int) <= 1), (by decide : (1 : Int) <= 2)⟩
          | false => intro _ _; exact ⟨(by decide : (0 : Int) <= 0), (by decide : (0 : Int) <= 2)⟩
theorem nE {x : Int} (h : (x != 0) = false) : x = 0 := by simpa using h
theorem run_val {n : Int} (h0 : ((ofE n).2 != 0) = false) (h3 : ((ofE n).1 == 3) = true) : (runE n).2 = 0 := by
  unfold runE
  rw [h0]
  rw [beq_iff_eq] at h3
  rw [h3]; rfl
theorem pack_ok {x : Hd} (h : ((packE x).2 != 0) = false) : mayH x = true /\ (packE x).1 = packH x := by
  unfold packE at h ⊢
  cases hm : mayH x with
  | false => rw [hm] at h; cases h
  | true => exact ⟨rfl, rfl⟩
inductive Take (h : Hp) (c : Ls) (x : Hd) : Prop where
  | arg (e : takeE h c x = badT 1) (no : mayH x = true -> x.a = true -> MayF h [c] -> False)
  | of (m : MayF h [c]) (x1 : mayH x = true) (x2 : x.a = true) (o : (ofE x.x).2 ≠ 0) (e : takeE h c x = badT (ofE x.x).2)
  | fullS (m : MayF h [c]) (x1 : mayH x = true) (x2 : x.a = true) (o : ((ofE x.x).2 != 0) = false) (o3 : ((ofE x.x).1 == 3) = false) (e : takeE h c x = badT 4) (e1 : c.get (ofE x.x).1.toNat = []) (e2 : h.f.get (ofE x.x).1.toNat = []) (e3 : findE h.p 1 = none)
  | fullL (m : MayF h [c]) (x1 : mayH x = true) (x2 : x.a = true) (o : ((ofE x.x).2 != 0) = false) (o3 : ((ofE x.x).1 == 3) = true) (e : takeE h c x = badT 4) (e3 : findE h.p (runE x.x).1 = none)
  | small (m : MayF h [c]) (x1 : mayH x = true) (x2 : x.a = true) (o : ((ofE x.x).2 != 0) = false) (o3 : ((ofE x.x).1 == 3) = false) (k : Hp) (d : Ls) (a : Int) (e : takeE h c x = (k, d, a, 0)) (t : Took h c x k d a) (r : roomA k.p a = wordsOf (ofE x.x).1)
      (ne : (findE h.p 1).isSome = true \/ h.f.get (ofE x.x).1.toNat ≠ [] \/ c.get (ofE x.x).1.toNat ≠ [])
      (l : (c.get (ofE x.x).1.toNat = [] /\ (d.get (ofE x.x).1.toNat).length <= 1) \/ (c.get (ofE x.x).1.toNat ≠ [] /\ d = popL c (ofE x.x).1 /\ a = lastL c (ofE x.x).1 /\ k.f = h.f))
      (n : ∀ n m, lenL h.f n -> lenL c m -> lenL k.f (n + 8192) /\ lenL d (m + 2))
  | large (m : MayF h [c]) (x1 : mayH x = true) (x2 : x.a = true) (o : ((ofE x.x).2 != 0) = false) (o3 : ((ofE x.x).1 == 3) = true) (k : Hp) (a : Int) (e : takeE h c x = (k, c, a, 0)) (t : Took h c x k c a) (r : roomA k.p a = 16 * (runE x.x).1)
      (ne : (findE h.p (runE x.x).1).isSome = true) (l : k.f = h.f)
theorem take_arg1 {h : Hp} {c : Ls} {x : Hd} (h1 : ((packE x).2 != 0) = true) : takeE h c x = badT 1 := by unfold takeE; rw [h1]; rfl
theorem take_arg2 {h : Hp} {c : Ls} {x : Hd} (h1 : ((packE x).2 != 0) = false) (h2 : (!x.a) = true) : takeE h c x = badT 1 := by unfold takeE; rw [h1, h2]; rfl
theorem take_arg3 {h : Hp} {c : Ls} {x : Hd} (h1 : ((packE x).2 != 0) = false) (h2 : (!x.a) = false) (h3 : (!mayHpV h [c]) = true) : takeE h c x = badT 1 := by unfold takeE; rw [h1, h2, h3]; rfl
theorem take_of {h : Hp} {c : Ls} {x : Hd} (h1 : ((packE x).2 != 0) = false) (h2 : (!x.a) = false) (h3 : (!mayHpV h [c]) = false) (h4 : ((ofE x.x).2 != 0) = true) : takeE h c x = badT (ofE x.x).2 := by unfold takeE; rw [h1, h2, h3, h4]; rfl
theorem take_lg {h : Hp} {c : Ls} {x : Hd} (h1 : ((packE x).2 != 0) = false) (h2 : (!x.a) = false) (h3 : (!mayHpV h [c]) = false) (h4 : ((ofE x.x).2 != 0) = false) (h5 : ((ofE x.x).1 == 3) = true) : takeE h c x = takeS (lgFr ⟨h, c⟩ x.x) (lgE ⟨h, c⟩ x.x) x := by unfold takeE; rw [h1, h2, h3, h4, h5]; rfl
theorem take_sm {h : Hp} {c : Ls} {x : Hd} (h1 : ((packE x).2 != 0) = false) (h2 : (!x.a) = false) (h3 : (!mayHpV h [c]) = false) (h4 : ((ofE x.x).2 != 0) = false) (h5 : ((ofE x.x).1 == 3) = false) : takeE h c x = takeS (smFr ⟨h, c⟩ (ofE x.x).1) (smE ⟨h, c⟩ (ofE x.x).1) x := by unfold takeE; rw [h1, h2, h3, h4, h5]; rfl
theorem take_fin {h : Hp} {c : Ls} (x : Hd) (hf : lenL h.f 90000) (hc : lenL c 90000) : Take h c x := by
  cases h1 : (packE x).2 != 0 with
  | true => exact .arg (take_arg1 h1) fun q _ _ => by unfold packE at h1; rw [q] at h1; cases h1
  | false =>
    obtain ⟨x1, _⟩ := pack_ok h1
    cases h2 : !x.a with
    | true => exact .arg (take_arg2 h1 h2) fun _ q _ => by rw [q] at h2; cases h2
    | false =>
      have x2 : x.a = true := by simpa using h2
      cases h3 : !mayHpV h [c] with
      | true => exact .arg (take_arg3 h1 h2 h3) fun _ _ q => by rw [mayF_iff.2 q] at h3; cases h3
      | false =>
        have hm : MayF h [c] := mayF_iff.1 (by simpa using h3)
        cases h4 : (ofE x.x).2 != 0 with
        | true => exact .of hm x1 x2 (by simpa using h4) (take_of h1 h2 h3 h4)
        | false =>
          cases h5 : (ofE x.x).1 == 3 with
          | true =>
            have e0 := take_lg h1 h2 h3 h4 h5
            rcases (lg_take hm x.x).2 with ⟨e, e3⟩ | ⟨e, r, p, o, ne, lc, lf⟩
            . rw [e] at e0
              exact .fullL hm x1 x2 h4 h5 e0 e3
            . have e1 : takeE h c x = (putH (lgFr ⟨h, c⟩ x.x).h (lgE ⟨h, c⟩ x.x).1 (packH x), c, (lgE ⟨h, c⟩ x.x).1, 0) := by
                rw [e0]; unfold takeS; rw [e, lc]; rfl
              refine .large hm x1 x2 h4 h5 _ _ e1 (r.took hm x1 x2 ?_) o ne lf
              rw [p]
              show ((runE x.x).2 == 0 && (runE x.x).1 == (runE x.x).1) = true
              rw [run_val h4 h5]; simp
          | false =>
            have e0 := take_sm h1 h2 h3 h4 h5
            obtain ⟨i0, i2⟩ := of_small h4 h5
            rcases (sm_take hm hf hc i0 i2).2 with ⟨e, e1, e2, e3⟩ | ⟨e, r, p, ne, l, n⟩
            . rw [e] at e0
              exact .fullS hm x1 x2 h4 h5 e0 e1 e2 e3
            . have e1 : takeE h c x = (putH (smFr ⟨h, c⟩ (ofE x.x).1).h (smE ⟨h, c⟩ (ofE x.x).1).1 (packH x), (smFr ⟨h, c⟩ (ofE x.x).1).c, (smE ⟨h, c⟩ (ofE x.x).1).1, 0) := by
                rw [e0]; unfold takeS; rw [e]; rfl
              refine .small hm x1 x2 h4 h5 _ _ _ e1 (r.took hm x1 x2 ?_) ?_ ne l n
              . rw [p]
                show ((ofE x.x).2 == 0 && (ofE x.x).1 == (ofE x.x).1) = true
                rw [nE h4]; simp
              . have hr := (r.m [] hm).r
                obtain ⟨_, _, _, _, q, _, q5, q6⟩ := cell_facts hr
                have q5 : pageE (smFr ⟨h, c⟩ (ofE x.x).1).h (smE ⟨h, c⟩ (ofE x.x).1).1 = q := q5
                rw [p] at q5
                subst q5
                rcases q6 with ⟨g, _⟩ | ⟨_, _, _, _, g⟩
                . cases g
                . exact g
end Go.Ab

namespace Go.Ab
open Go
open Go.Proofs
def hdN (n : Int) : Hd := ⟨true, false, false, n, 0, 0⟩
theorem of_in {n : Int} (h : ((ofE n).2 != 0) = false) : 1 <= n /\ n <= 63 := by
  revert h
  unfold ofE
  cases h1 : decide (n < 1) with
  | true => intro h; cases h
  | false =>
    cases h2 : decide (n > 63) with
    | true => intro h; cases h
    | false =>
      intro _
      have := of_decide_eq_false h1
      have := of_decide_eq_false h2
      omega
theorem of_val {n : Int} (h0 : 1 <= n) (h1 : n <= 63) : ofE n = (if n > 7 then 3 else if n > 3 then 2 else if n > 1 then 1 else 0, 0) := by
  unfold ofE
  rw [decide_eq_false (by omega), decide_eq_false (by omega)]
  show ((bif decide (n > 7) then 3 else bif decide (n > 3) then 2 else bif decide (n > 1) then 1 else 0 : Int), (0 : Int)) = _
  by_cases a : n > 7
  . rw [decide_eq_true a, if_pos a]; rfl
  . rw [decide_eq_false a, if_neg a]
    by_cases b : n > 3
    . rw [decide_eq_true b, if_pos b]; rfl
    . rw [decide_eq_false b, if_neg b]
      by_cases c : n > 1
      . rw [decide_eq_true c, if_pos c]; rfl
      . rw [decide_eq_false c, if_neg c]; rfl
theorem run_of {n : Int} (h0 : 8 <= n) (h1 : n <= 63) : runE n = (n / 16 + 1, 0) := by
  unfold runE
  rw [of_val (by omega) h1, if_pos (by omega)]
  show (IntKind.i64.wrap (IntKind.i64.wrap (Int.tdiv n 16) + 1), (0 : Int)) = _
  rw [tdiv_pos (by omega), wrap_in (a := n / 16) (by omega), wrap_in (by omega)]
section
variable {h k : Hp} {c d : Ls} {x : Hd} {a : Int}
theorem Few.took {n : Nat} (hf : Few h n) (t : Took h c x k d a) {m : Nat} (hl : lenL k.f m) : Few k m :=
  ⟨by rw [t.wl]; exact hf.w, by rw [t.pl]; exact hf.p, by rw [t.cl]; exact hf.c, hl⟩
theorem whole_told {ls : List Ls} : wholeHV h ls = true ↔ MayF h ls /\ Told h ls := whole_iff
theorem Took.whole (t : Took h c x k d a) {ls : List Ls} (hw : wholeHV h (c :: ls) = true) : wholeHV k (d :: ls) = true := by
  obtain ⟨h1, h2⟩ := whole_told.1 hw
  exact whole_told.2 ⟨t.m ls h1, t.told ls h2⟩
end
end Go.Ab

namespace Go.Ab
open Go
open Go.Proofs
noncomputable abbrev zx28 : Cx := cxG Pr Tryz.f28 [(32, gWords3)] [] (fun _ => false) (fun q => Nat.beq q 122)
set_option maxRecDepth 100000 in
theorem zr28 (n : Int) (β : Type) (K : CV -> List (List CV) -> Option β) : fnK zx28 Tryz.f28 [cI.enc n] [] K =
 bif decide (n < 1) then K (CV.tup [CV.int IntKind.i64 0, CV.int IntKind.i64 1]) []
 else
 bif decide (n > 63) then K (CV.tup [CV.int IntKind.i64 0, CV.int IntKind.i64 2]) []
 else
 bif decide (words3 0 >= IntKind.wrap IntKind.i64 (n + 1)) then
 K (CV.tup [CV.int IntKind.i64 0, CV.int IntKind.i64 0]) []
 else
 bif decide (words3 1 >= IntKind.wrap IntKind.i64 (n + 1)) then
 K (CV.tup [CV.int IntKind.i64 1, CV.int IntKind.i64 0]) []
 else
 bif decide (words3 2 >= IntKind.wrap IntKind.i64 (n + 1)) then
 K (CV.tup [CV.int IntKind.i64 2, CV.int IntKind.i64 0]) []
 else K (CV.tup [CV.int IntKind.i64 3, CV.int IntKind.i64 0]) [] := by kernel_rfl
noncomputable abbrev zx25 : Cx := cxG Pr Tryz.f25 [(50, gInts)] [] (fun _ => false) (fun q => Nat.beq q 26)
set_option maxRecDepth 100000 in
theorem zr25 (l m : Ls) (β : Type) (K : CV -> List (List CV) -> Option β) : fnK zx25 Tryz.f25 [cLs.enc l, cLs.enc m] [] K =
 Option.bind (decI (encI (Ls.a l))) fun ps =>
 Option.bind (decI (encI (Ls.a m))) fun qs =>
 bif Nat.ble (List.length ps) 65536 then
 bif !ps == qs then K (CV.bool false) []
 else
 Option.bind (decI (encI (Ls.b l))) fun ps =>
 Option.bind (decI (encI (Ls.b m))) fun qs =>
 bif Nat.ble (List.length ps) 65536 then
 bif !ps == qs then K (CV.bool false) []
 else
 Option.bind (decI (encI (Ls.c l))) fun ps =>
 Option.bind (decI (encI (Ls.c m))) fun qs =>
 bif Nat.ble (List.length ps) 65536 then
 bif !ps == qs then K (CV.bool false) [] else K (CV.bool true) []
 else none
 else none
 else none := by kernel_rfl
def gOfA : Callee := g1 cI (fun _ => true) fun n => .tup [cI.enc (ofE n).1, cI.enc (ofE n).2]
noncomputable abbrev zx29 : Cx := cxG Pr Tryz.f29 [(28, gOfA)]
abbrev px29 := [false, false, true, true, true, true, true]
abbrev ox29 : Exit -> List Nat := fun _ => [6]
set_option maxRecDepth 100000 in
theorem zt29 (n i : Int) (m : Nat) (β : Type) (K : Exit -> List CV -> List (List CV) -> Option β) : loopB zx29 [0, 6] ox29 px29 (bodyL (bodyOf Tryz.f29) px29) (m + 1) [cI.enc n, cI.enc i] [] K =
 bif decide (IntKind.wrap IntKind.i64 (16 * i) < IntKind.wrap IntKind.i64 (n + 1)) then loopB zx29 [0, 6] ox29 [false, false, true, true, true, true, true] (bodyL (bodyOf Tryz.f29) px29) m [CV.int IntKind.i64 n, CV.int IntKind.i64 (IntKind.wrap IntKind.i64 (i + 1))] [] fun a a_1 a_2 => K a a_1 a_2
 else K (Exit.exit 0) [CV.int IntKind.i64 i] [] := by kernel_rfl
theorem run_loop (n : Int) (h0 : 1 <= n) (h1 : n <= 63) (β : Type) (K : Exit -> List CV -> List (List CV) -> Option β) : ∀ (m i : Nat), i + m = (n / 16 + 1).toNat ->
    loopB zx29 [0, 6] ox29 px29 (bodyL (bodyOf Tryz.f29) px29) (m + 1) [cI.enc n, cI.enc (i : Int)] [] K = K (.exit 0) [cI.enc (n / 16 + 1)] [] := by
  intro m
  induction m with
  | zero =>
    intro i hi
    have e1 : IntKind.i64.wrap (16 * (i : Int)) = 16 * (i : Int) := wrap_in (by omega)
    have e2 : IntKind.i64.wrap (n + 1) = n + 1 := wrap_in (by omega)
    rw [zt29, e1, e2, decide_eq_false (by omega), cond_false, show (i : Int) = n / 16 + 1 by omega]
    rfl
  | succ m ih =>
    intro i hi
    have e1 : IntKind.i64.wrap (16 * (i : Int)) = 16 * (i : Int) := wrap_in (by omega)
    have e2 : IntKind.i64.wrap (n + 1) = n + 1 := wrap_in (by omega)
    have e3 : IntKind.i64.wrap ((i : Int) + 1) = ((i + 1 : Nat) : Int) := by rw [wrap_in (by omega)]; omega
    rw [zt29, e1, e2, e3, decide_eq_true (by omega), cond_true]
    exact ih (i + 1) (by omega)
def Lx29 : LoopSem := l2 [0, 6] ox29 cI cI c0 (fun n i _ => i == 0 && (decide (1 <= n) && decide (n <= 63))) fun n _ _ => .one (.exit 0) [cI.enc (n / 16 + 1)] []
noncomputable abbrev zy29 : Cx := zx29.loop px29 Lx29
theorem words3_0 : words3 0 = 2 := rfl
theorem words3_1 : words3 1 = 4 := rfl
theorem words3_2 : words3 2 = 8 := rfl
theorem ofA_good : GoodC Pr 28 gOfA :=
  good1 ((CxOK.baseG (Good.cons words3_good Good.nil) GoodI.nil (eqOK_none fun _ => rfl)).sound (cx := zx28) Tryz.func28 (by kernel_rfl) (by kernel_rfl) rfl (by kernel_rfl)) fun n _ β K => by
    rw [zr28, words3_0, words3_1, words3_2]
    unfold ofE
    by_cases h1 : n < 1
    . rw [decide_eq_true h1]; rfl
    . rw [decide_eq_false h1, cond_false, cond_false]
      by_cases h2 : n > 63
      . rw [decide_eq_true h2]; rfl
      . rw [decide_eq_false h2, cond_false, cond_false, wrap_in (a := n + 1) (by omega)]
        by_cases h3 : n > 7
        . rw [decide_eq_true h3, decide_eq_false (by omega), decide_eq_false (by omega), decide_eq_false (by omega)]; rfl
        . rw [decide_eq_false h3]
          by_cases h4 : n > 3
          . rw [decide_eq_true h4, decide_eq_false (by omega), decide_eq_false (by omega), decide_eq_true (by omega)]; rfl
          . rw [decide_eq_false h4]
            by_cases h5 : n > 1
            . rw [decide_eq_true h5, decide_eq_false (by omega), decide_eq_true (by omega)]; rfl
            . rw [decide_eq_false h5, decide_eq_true (by omega)]; rfl
def gOf3 : Callee := ⟨fun args conts _ K => match args, conts with
  | [a], [] => (cI.dec a).bind fun n => bif (ofE n).2 != 0 then K (.tup [.int .i64 0, cI.enc (ofE n).2]) [] else bif (ofE n).1 == 0 then K (.tup [.int .i64 0, .int .i64 0]) [] else bif (ofE n).1 == 1 then K (.tup [.int .i64 1, .int .i64 0]) [] else
      bif (ofE n).1 == 2 then K (.tup [.int .i64 2, .int .i64 0]) [] else bif (ofE n).1 == 3 then K (.tup [.int .i64 3, .int .i64 0]) [] else none
  | _, _ => none⟩
theorem of3_nat : NatC gOf3 := fun args conts => by
  unfold gOf3
  dsimp only
  split
  . exact .bind _ fun _ => .cond _ (.ret _ _) (.cond _ (.ret _ _) (.cond _ (.ret _ _) (.cond _ (.ret _ _) (.cond _ (.ret _ _) .none))))
  . exact .none
theorem of_err {n : Int} (h : ((ofE n).2 != 0) = true) : (ofE n).1 = 0 := by
  by_cases h1 : n < 1
  . unfold ofE; rw [decide_eq_true h1]; rfl
  . by_cases h2 : n > 63
    . unfold ofE; rw [decide_eq_false h1, decide_eq_true h2]; rfl
    . rw [of_val (by omega) (by omega)] at h
      cases h
theorem of3_good : GoodC Pr 28 gOf3 := GoodC.of ofA_good.s of3_nat fun args conts β K r hr => by
  unfold gOf3 at hr
  dsimp only at hr
  split at hr
  . rename_i a
    replace hr := bind_some' hr
    obtain ⟨n, hn, hr⟩ := hr
    have hg : gOfA.run [a] [] β K = K (.tup [cI.enc (ofE n).1, cI.enc (ofE n).2]) [] := by
      show ((cI.dec a).bind fun n => bif true then K (.tup [cI.enc (ofE n).1, cI.enc (ofE n).2]) [] else none) = _
      rw [hn]; rfl
    rw [hg]
    cases h0 : (ofE n).2 != 0 with
    | true =>
      rw [h0] at hr
      rw [of_err h0]; exact hr
    | false =>
      rw [h0, cond_false] at hr
      rw [nE h0]
      cases e0 : (ofE n).1 == 0 with
      | true => rw [e0] at hr; rw [eq_of_beq e0]; exact hr
      | false =>
        rw [e0, cond_false] at hr
        cases e1 : (ofE n).1 == 1 with
        | true => rw [e1] at hr; rw [eq_of_beq e1]; exact hr
        | false =>
          rw [e1, cond_false] at hr
          cases e2 : (ofE n).1 == 2 with
          | true => rw [e2] at hr; rw [eq_of_beq e2]; exact hr
          | false =>
            rw [e2, cond_false] at hr
            cases e3 : (ofE n).1 == 3 with
            | true => rw [e3] at hr; rw [eq_of_beq e3]; exact hr
            | false => rw [e3] at hr; cases hr
  . cases hr
set_option maxRecDepth 100000 in
theorem zr29 (n : Int) (β : Type) (K : CV -> List (List CV) -> Option β) : fnK zy29 Tryz.f29 [cI.enc n] [] K =
 bif Prod.snd (ofE n) != 0 then K (CV.tup [CV.int IntKind.i64 0, CV.int IntKind.i64 (Prod.snd (ofE n))]) []
 else
 bif decide (Prod.fst (ofE n) < 3) then K (CV.tup [CV.int IntKind.i64 0, CV.int IntKind.i64 3]) []
 else
 bif decide (1 <= n) && decide (n <= 63) then K (CV.tup [CV.int IntKind.i64 (n / 16 + 1), CV.int IntKind.i64 0]) []
 else none := by kernel_rfl
def gRun3 : Callee := g1 cI (fun _ => true) fun n => .tup [cI.enc (runE n).1, cI.enc (runE n).2]
theorem ge8_of {n : Int} (h0 : ((ofE n).2 != 0) = false) (h : ¬ (ofE n).1 < 3) : 8 <= n := by
  obtain ⟨a1, a2⟩ := of_in h0
  rw [of_val a1 a2] at h
  have h : ¬ (if n > 7 then 3 else if n > 3 then 2 else if n > 1 then 1 else 0 : Int) < 3 := h
  by_cases q : n > 7
  . omega
  . exfalso
    rw [if_neg q] at h
    apply h
    repeat' split
    all_goals decide
theorem zy29_ok : CxOK zy29 [(28, gOfA)] := by
  refine CxOK.loop2 (CxOK.baseG (Good.cons ofA_good Good.nil) GoodI.nil (eqOK_none fun _ => rfl)) rfl fun n i u hp => ?_
  simp only [Bool.and_eq_true, beq_iff_eq, decide_eq_true_eq] at hp
  obtain ⟨hi, h0, h1⟩ := hp
  subst hi
  exact ⟨(n / 16 + 1).toNat + 1, fun β K => run_loop n h0 h1 β K (n / 16 + 1).toNat 0 (by omega)⟩
theorem run3_good : GoodC Pr 29 gRun3 :=
  good1 (zy29_ok.sound (cx := zy29) Tryz.func29 (by kernel_rfl) (by kernel_rfl) rfl (by kernel_rfl)) fun n _ β K => by
    rw [zr29]
    cases h0 : (ofE n).2 != 0 with
    | true =>
      unfold runE
      rw [h0]; rfl
    | false =>
      by_cases h1 : (ofE n).1 < 3
      . unfold runE
        rw [h0, decide_eq_true h1]; rfl
      . obtain ⟨a1, a2⟩ := of_in h0
        have a8 := ge8_of h0 h1
        rw [decide_eq_false h1, run_of a8 a2, decide_eq_true a1, decide_eq_true a2]
        rfl
def same6 (l m : Ls) : Bool := l.a == m.a && (l.b == m.b && l.c == m.c)
def gSame6 : Callee := g2 cLs cLs (fun l _ => Nat.ble l.a.length 65536 && (Nat.ble l.b.length 65536 && Nat.ble l.c.length 65536)) fun l m => cB.enc (same6 l m)
theorem same6_good : GoodC Pr 25 gSame6 :=
  good2 ((CxOK.baseG (Good.cons ⟨ints_sound, ints_nat⟩ Good.nil) GoodI.nil (eqOK_none fun _ => rfl)).sound (cx := zx25) Tryz.func25 (by kernel_rfl) (by kernel_rfl) rfl (by kernel_rfl)) fun l m hp β K => by
    simp only [Bool.and_eq_true] at hp
    obtain ⟨h1, h2, h3⟩ := hp
    rw [zr25]
    simp only [decI_map, Option.bind_some, h1, h2, h3, cond_true]
    unfold same6
    cases l.a == m.a with
    | false => rfl
    | true =>
      cases l.b == m.b with
      | false => rfl
      | true => cases l.c == m.c <;> rfl
end Go.Ab

namespace Go.Ab
open Go
open Go.Proofs
def preT (h : Hp) (c : Ls) : Bool := smH h && (smL1 h.f && smL1 c)
def gTake : Callee := g3 cHp cLs cHd (fun h c _ => preT h c) fun h c x => .tup [cHp.enc (takeE h c x).1, cLs.enc (takeE h c x).2.1, cI.enc (takeE h c x).2.2.1, cI.enc (takeE h c x).2.2.2]
theorem smL1_len {l : Ls} (h : smL1 l = true) : lenL l 90000 := fun k hk => by
  unfold smL1 at h
  simp only [Bool.and_eq_true] at h
  have : k = 0 \/ k = 1 \/ k = 2 := by omega
  rcases this with rfl | rfl | rfl
  . exact Nat.le_of_ble_eq_true h.1
  . exact Nat.le_of_ble_eq_true h.2.1
  . exact Nat.le_of_ble_eq_true h.2.2
theorem soft_bad (e : Int) : soft 4 (CV.tup [CV.agg [CV.own 1 [], CV.own 2 [], CV.own 1 [], CV.own 1 [], CV.own 1 [], CV.own 1 []], CV.agg [CV.own 1 [], CV.own 1 [], CV.own 1 []], CV.int IntKind.i64 0, CV.int IntKind.i64 e]) =
    some (.tup [cHp.enc (badT e).1, cLs.enc (badT e).2.1, cI.enc (badT e).2.2.1, cI.enc (badT e).2.2.2]) := rfl
def rvBad (e : Int) : CV := CV.tup [CV.agg [CV.own 1 [], CV.own 2 [], CV.own 1 [], CV.own 1 [], CV.own 1 [], CV.own 1 []], CV.agg [CV.own 1 [], CV.own 1 [], CV.own 1 []], CV.int IntKind.i64 0, CV.int IntKind.i64 e]
theorem take_good : GoodC Pr 23 gTake :=
  good3S ((CxOK.baseN (Good.cons pack57_good (Good.cons mayHp_good (Good.cons of_good (Good.cons ownH_good (Good.cons cloneA_good (Good.cons zeroC_good (Good.cons roomH_good (Good.cons putC_good (Good.cons smallF_good (Good.cons largeF_good Good.nil)))))))))) (GoodI.cons fail_inl GoodI.nil) (eqOK_none fun _ => rfl)).sound (cx := z23) Tryz.func23 (by kernel_rfl) (by kernel_rfl) rfl (by kernel_rfl)) fun h c x hp => by
    unfold preT at hp
    simp only [Bool.and_eq_true] at hp
    obtain ⟨hs, hf, hc⟩ := hp
    have lf := smL1_len hf
    have lc := smL1_len hc
    have hls : smLs [h.f, c] = true := by
      unfold smLs
      rw [List.all_cons, List.all_cons, lf.smL (by omega), lc.smL (by omega)]; rfl
    have eh : (⟨h.w, h.p, ⟨h.f.a, h.f.b, h.f.c⟩, h.c⟩ : Hp) = h := rfl
    have ec : (⟨c.a, c.b, c.c⟩ : Ls) = c := rfl
    have ex : ({ a := Hd.a x, b := Hd.b x, c := Hd.c x, x := Hd.x x, y := Hd.y x, z := Hd.z x } : Hd) = x := rfl
    have d1 : decLs [[CV.sl 1 (encI (Ls.a c)), CV.sl 1 (encI (Ls.b c)), CV.sl 1 (encI (Ls.c c))]] = some [c] := decLs_map [c]
    cases h1 : (packE x).2 != 0 with
    | true =>
      rw [take_arg1 h1]
      exact ⟨_, soft_bad 1, fun β K => by rw [zr23, ex, h1]; rfl⟩
    | false =>
      obtain ⟨x1, xw⟩ := pack_ok h1
      cases h2 : !x.a with
      | true =>
        rw [take_arg2 h1 h2]
        exact ⟨_, soft_bad 1, fun β K => by rw [zr23, ex, h1, h2]; rfl⟩
      | false =>
        have x2 : x.a = true := by simpa using h2
        cases h3 : !mayHpV h [c] with
        | true =>
          rw [take_arg3 h1 h2 h3]
          refine ⟨_, soft_bad 1, fun β K => ?_⟩
          rw [zr23, ex, h1, h2]
          simp only [cond_false, decI_map, decP_map, decBs_enc, Option.bind_some, d1, eh, hs, hls, Bool.and_self, cond_true, h3]
        | false =>
          have hm : MayF h [c] := mayF_iff.1 (by simpa using h3)
          obtain ⟨q1, q2, q3⟩ := shaped_ne hm.sh
          obtain ⟨_, l64⟩ := may_len q1
          cases h4 : (ofE x.x).2 != 0 with
          | true =>
            rw [take_of h1 h2 h3 h4]
            refine ⟨_, soft_bad _, fun β K => ?_⟩
            rw [zr23, ex, h1, h2]
            simp only [cond_false, decI_map, decP_map, decBs_enc, Option.bind_some, d1, eh, hs, hls, Bool.and_self, cond_true, h3, h4]
          | false =>
            have dF : decFr (encI h.w) (List.map encP h.p) (encI h.f.a) (encI h.f.b) (encI h.f.c) (encBs h.c) (encI c.a) (encI c.b) (encI c.c) = some ⟨h, c⟩ := decFr_enc ⟨h, c⟩
            have ba : Nat.ble c.a.length 4000000000 = true := Nat.ble_eq_true_of_le (Nat.le_trans (lc 0 (by omega)) (by omega))
            have bb : Nat.ble c.b.length 4000000000 = true := Nat.ble_eq_true_of_le (Nat.le_trans (lc 1 (by omega)) (by omega))
            have bc : Nat.ble c.c.length 4000000000 = true := Nat.ble_eq_true_of_le (Nat.le_trans (lc 2 (by omega)) (by omega))
            cases h5 : (ofE x.x).1 == 3 with
            | true =>
              rw [take_lg h1 h2 h3 h4 h5]
              obtain ⟨hpre, hL⟩ := lg_take hm x.x
              rcases hL with ⟨e, e3⟩ | ⟨e, r, p, o, ne, l1, l2⟩
              . refine ⟨rvBad 4, by rw [e]; exact soft_bad 4, fun β K => ?_⟩
                rw [zr23, ex, h1, h2]
                simp only [cond_false, decI_map, decP_map, decBs_enc, Option.bind_some, d1, eh, hs, hls, Bool.and_self, cond_true, h3, h4, q2, q3, Bool.not_false, ba, bb, bc, h5, dF, hpre]
                rw [e]
                rfl
              . have X := r.m [] hm
                obtain ⟨z1, z2, z3⟩ := zero_in X.sh X.r
                have hzl := zero_len z1 z2 z3
                have hma : mayA (lgFr ⟨h, c⟩ x.x).h.w.length = true := by
                  have := X.sh
                  simp only [shapedE, Bool.and_eq_true] at this
                  exact this.1
                have hr := X.r
                have hpl := r.pl
                have c1 : Nat.ble (lgFr ⟨h, c⟩ x.x).h.p.length 200 = true := Nat.ble_eq_true_of_le (by omega)
                refine ⟨.tup [cHp.enc (putH (lgFr ⟨h, c⟩ x.x).h (lgE ⟨h, c⟩ x.x).1 (packH x)), cLs.enc (lgFr ⟨h, c⟩ x.x).c, cI.enc (lgE ⟨h, c⟩ x.x).1, .int .i64 0], by unfold takeS; rw [e]; rfl, fun β K => ?_⟩
                rw [zr23, ex, h1, h2]
                simp only [cond_false, decI_map, decP_map, decBs_enc, Option.bind_some, d1, eh, hs, hls, Bool.and_self, cond_true, h3, h4, q2, q3, Bool.not_false, ba, bb, bc, h5, dF, hpre, e, bne_self_eq_false, c1, hma, decide_eq_true z1, decide_eq_true (show 1 <= roomA (lgFr ⟨h, c⟩ x.x).h.p (lgE ⟨h, c⟩ x.x).1 by omega), decide_eq_true z3, hzl, decide_eq_true (show (lgE ⟨h, c⟩ x.x).1 - 16 < ((lgFr ⟨h, c⟩ x.x).h.w.length : Int) by omega), xw]
                rfl
            | false =>
              rw [take_sm h1 h2 h3 h4 h5]
              obtain ⟨i0, i2⟩ := of_small h4 h5
              obtain ⟨hpre, hL⟩ := sm_take hm lf lc i0 i2
              rcases hL with ⟨e, e1, e2, e3⟩ | ⟨e, r, p, ne, l, n⟩
              . refine ⟨rvBad 4, by rw [e]; exact soft_bad 4, fun β K => ?_⟩
                rw [zr23, ex, h1, h2]
                simp only [cond_false, decI_map, decP_map, decBs_enc, Option.bind_some, d1, eh, hs, hls, Bool.and_self, cond_true, h3, h4, q2, q3, Bool.not_false, ba, bb, bc, h5, dF, hpre]
                rw [e]
                rfl
              . have X := r.m [] hm
                obtain ⟨z1, z2, z3⟩ := zero_in X.sh X.r
                have hzl := zero_len z1 z2 z3
                have hma : mayA (smFr ⟨h, c⟩ (ofE x.x).1).h.w.length = true := by
                  have := X.sh
                  simp only [shapedE, Bool.and_eq_true] at this
                  exact this.1
                have hr := X.r
                have hpl := r.pl
                have c1 : Nat.ble (smFr ⟨h, c⟩ (ofE x.x).1).h.p.length 200 = true := Nat.ble_eq_true_of_le (by omega)
                refine ⟨.tup [cHp.enc (putH (smFr ⟨h, c⟩ (ofE x.x).1).h (smE ⟨h, c⟩ (ofE x.x).1).1 (packH x)), cLs.enc (smFr ⟨h, c⟩ (ofE x.x).1).c, cI.enc (smE ⟨h, c⟩ (ofE x.x).1).1, .int .i64 0], by unfold takeS; rw [e]; rfl, fun β K => ?_⟩
                rw [zr23, ex, h1, h2]
                simp only [cond_false, decI_map, decP_map, decBs_enc, Option.bind_some, d1, eh, hs, hls, Bool.and_self, cond_true, h3, h4, q2, q3, Bool.not_false, ba, bb, bc, h5, dF, hpre, e, bne_self_eq_false, c1, hma, decide_eq_true z1, decide_eq_true (show 1 <= roomA (smFr ⟨h, c⟩ (ofE x.x).1).h.p (smE ⟨h, c⟩ (ofE x.x).1).1 by omega), decide_eq_true z3, hzl, decide_eq_true (show (smE ⟨h, c⟩ (ofE x.x).1).1 - 16 < ((smFr ⟨h, c⟩ (ofE x.x).1).h.w.length : Int) by omega), xw]
                rfl
end Go.Ab

namespace Go.Ab
open Go
open Go.Proofs
end Go.Ab

namespace Go.Ab
open Go
open Go.Proofs
noncomputable abbrev z26 : Cx := cxN Pr Tryz.f26 [(23, gTake)]
set_option maxRecDepth 100000 in
theorem zr26 (h : Hp) (c : Ls) (n : Int) (β : Type) (K : CV -> List (List CV) -> Option β) : fnK z26 Tryz.f26 [cHp.enc h, cLs.enc c, cI.enc n] [] K =
 Option.bind (Option.bind (decI (encI (Hp.w h))) fun w =>
 Option.bind (decP (List.map encP (Hp.p h))) fun p =>
 Option.bind (decI (encI (Ls.a (Hp.f h)))) fun a =>
 Option.bind (decI (encI (Ls.b (Hp.f h)))) fun b =>
 Option.bind (decI (encI (Ls.c (Hp.f h)))) fun c =>
 Option.bind (decBs (encBs (Hp.c h))) fun d => some { w := w, p := p, f := { a := a, b := b, c := c }, c := d }) fun a =>
 Option.bind (Option.bind (decI (encI (Ls.a c))) fun a =>
 Option.bind (decI (encI (Ls.b c))) fun b =>
 Option.bind (decI (encI (Ls.c c))) fun c => some { a := a, b := b, c := c }) fun b =>
 bif preT a b then
 K (CV.bool (Prod.snd (Prod.snd (Prod.snd (takeE a b { a := true, b := false, c := false, x := n, y := 0, z := 0 }))) == 0)) []
 else none := by kernel_rfl
def roomT (h : Hp) (c : Ls) (n : Int) : Bool := (takeE h c (hdN n)).2.2.2 == 0
def gRoomT : Callee := g3 cHp cLs cI (fun h c _ => preT h c) fun h c n => cB.enc (roomT h c n)
theorem roomT_good : GoodC Pr 26 gRoomT :=
  good3 ((CxOK.baseN (Good.cons take_good Good.nil) GoodI.nil (eqOK_none fun _ => rfl)).sound (cx := z26) Tryz.func26 (by kernel_rfl) (by kernel_rfl) rfl (by kernel_rfl)) fun h c n hp β K => by
    have e : (⟨h.w, h.p, ⟨h.f.a, h.f.b, h.f.c⟩, h.c⟩ : Hp) = h := rfl
    have ec : (⟨c.a, c.b, c.c⟩ : Ls) = c := rfl
    rw [zr26]
    simp only [decI_map, decP_map, decBs_enc, Option.bind_some, e, ec, hp, cond_true]
    rfl
end Go.Ab

namespace Go.Ab
open Go
open Go.Proofs
noncomputable abbrev zk22a : Cx := cxG Pr Tryz.f22 [(37, gFewH), (38, gLight)]
set_option maxRecDepth 100000 in
theorem zt22x (ls : List Ls) (ok : Bool) (i : Int) (m : Nat) (β : Type) (K : Exit -> List CV -> List (List CV) -> Option β) : loopB zk22a [1, 5, 6] o8 p8 (bodyL (bodyOf Tryz.f22) p8) (m + 1) [cLss.enc ls, cB.enc ok, cI.enc i] [] K =
 bif decide (i < (↑(List.length (List.map encLs ls)) : Int)) then
 bif ok then
 Option.bind (rdE (List.map encLs ls) i) fun c =>
 Option.bind c[0]? fun x =>
 Option.bind (asL 1 x) fun l =>
 Option.bind c[1]? fun x =>
 Option.bind (asL 1 x) fun l_1 =>
 Option.bind c[2]? fun x =>
 Option.bind (asL 1 x) fun l_2 =>
 Option.bind (Option.bind (decI l) fun a =>
 Option.bind (decI l_1) fun b => Option.bind (decI l_2) fun c => some { a := a, b := b, c := c }) fun a => loopB zk22a [1, 5, 6] o8 [false, true, false, true, true] (bodyL (bodyOf Tryz.f22) p8) m [CV.sl 3 (List.map encLs ls), CV.bool (lightV a), CV.int IntKind.i64 (IntKind.wrap IntKind.i64 (i + 1))] [] fun a a_1 a_2 => K a a_1 a_2
 else loopB zk22a [1, 5, 6] o8 [false, true, false, true, true] (bodyL (bodyOf Tryz.f22) p8) m [CV.sl 3 (List.map encLs ls), CV.bool false, CV.int IntKind.i64 (IntKind.wrap IntKind.i64 (i + 1))] [] fun a a_1 a_2 => K a a_1 a_2
 else K (Exit.exit 0) [CV.sl 3 (List.map encLs ls), CV.bool ok] [] := by kernel_rfl
theorem few_loopA (ls : List Ls) (hl : ls.length <= 9223372036854775807) (β : Type) (K : Exit -> List CV -> List (List CV) -> Option β) : ∀ (m i : Nat) (ok : Bool), i + m = ls.length ->
    loopB zk22a [1, 5, 6] o8 p8 (bodyL (bodyOf Tryz.f22) p8) (m + 1) [cLss.enc ls, cB.enc ok, cI.enc (i : Int)] [] K = K (.exit 0) [cLss.enc ls, cB.enc (ok && (ls.drop i).all lightV)] [] := by
  intro m
  induction m with
  | zero =>
    intro i ok h1
    rw [zt22x, decide_eq_false (by rw [List.length_map]; omega), cond_false, List.drop_eq_nil_of_le (by omega)]
    simp only [List.all_nil, Bool.and_true]
    rfl
  | succ m ih =>
    intro i ok h1
    have hi : i < ls.length := by omega
    have e0 : (List.map encLs ls)[(i : Int).toNat]? = some (encLs ls[i]) := by simp [hi]
    have w1 : IntKind.i64.wrap ((i : Int) + 1) = ((i + 1 : Nat) : Int) := by rw [wrap_in (by omega)]; omega
    have h2 := fun ok => ih (i + 1) ok (by omega)
    rw [zt22x, decide_eq_true (by rw [List.length_map]; omega), cond_true, List.drop_eq_getElem_cons hi, List.all_cons, rdE_nat (by omega), e0]
    generalize ls[i] = l
    have g1 : (encLs l)[0]? = some (.sl 1 (encI l.a)) := rfl
    have g2 : (encLs l)[1]? = some (.sl 1 (encI l.b)) := rfl
    have g3 : (encLs l)[2]? = some (.sl 1 (encI l.c)) := rfl
    have e' : (⟨l.a, l.b, l.c⟩ : Ls) = l := rfl
    simp only [Option.bind_some, g1, g2, g3, asL_1, decI_map, e', w1]
    cases ok with
    | true =>
      rw [Bool.true_and, cond_true]
      exact h2 (lightV l)
    | false =>
      have h3 := h2 false
      rw [Bool.false_and] at h3 ⊢
      rw [cond_false]
      exact h3
noncomputable abbrev zk22 : Cx := zk22a.loop p8 L8
theorem zk22_ok : CxOK zk22 [(37, gFewH), (38, gLight)] := by
  refine CxOK.loop3 (CxOK.baseG (Good.cons fewH_good (Good.cons light_good Good.nil)) GoodI.nil (eqOK_none fun _ => rfl)) rfl fun ls ok i u hp => ?_
  simp only [Bool.and_eq_true, beq_iff_eq] at hp
  obtain ⟨hi, hl⟩ := hp
  subst hi
  exact ⟨ls.length + 1, fun β K => (few_loopA ls (Nat.le_of_ble_eq_true hl) β K ls.length 0 ok (by omega)).trans (by rw [List.drop_zero]; rfl)⟩
set_option maxRecDepth 100000 in
theorem zr22 (h : Hp) (ls : List Ls) (β : Type) (K : CV -> List (List CV) -> Option β) : fnK zk22 Tryz.f22 [cHp.enc h, cLss.enc ls] [] K =
 Option.bind (Option.bind (decI (encI (Hp.w h))) fun w =>
 Option.bind (decP (List.map encP (Hp.p h))) fun p =>
 Option.bind (decI (encI (Ls.a (Hp.f h)))) fun a =>
 Option.bind (decI (encI (Ls.b (Hp.f h)))) fun b =>
 Option.bind (decI (encI (Ls.c (Hp.f h)))) fun c =>
 Option.bind (decBs (encBs (Hp.c h))) fun d => some { w := w, p := p, f := { a := a, b := b, c := c }, c := d }) fun a =>
 Option.bind (decLs (List.map encLs ls)) fun a_1 =>
 bif Nat.ble (List.length a_1) 9223372036854775807 then
 bif fewH a && List.all a_1 lightV then K (CV.bool (decide ((↑(List.length (List.map encLs a_1)) : Int) <= 4))) []
 else K (CV.bool false) []
 else none := by kernel_rfl
theorem fewA_good : GoodC Pr 22 gFew :=
  good2 (zk22_ok.sound (cx := zk22) Tryz.func22 (by kernel_rfl) (by kernel_rfl) rfl (by kernel_rfl)) fun h ls hp β K => by
    have e : (⟨h.w, h.p, ⟨h.f.a, h.f.b, h.f.c⟩, h.c⟩ : Hp) = h := rfl
    rw [zr22]
    simp only [decI_map, decP_map, decBs_enc, decLs_map, Option.bind_some, e, hp, beq_self_eq_true, Bool.and_self, cond_true, List.length_map]
    unfold fewV
    cases (fewH h && ls.all lightV) <;> rfl
noncomputable abbrev z21 : Cx := cxN Pr Tryz.f21 [(55, gNew), (23, gTake), (50, gInts), (34, gWhole), (26, gRoomT)]
set_option maxRecDepth 100000 in
theorem zr21 (_u : Unit) (β : Type) (K : CV -> List (List CV) -> Option β) : fnK z21 Tryz.f21 [] [] K =
 bif preT { w := [0, 0, 0, 0, 0, 0, 0, 0, 0, 0, 0, 0, 0, 0, 0, 0], p := [(0, 0)], f := { a := [], b := [], c := [] }, c := [false, false] } { a := [], b := [], c := [] } then
 Option.bind (decI (encI (Ls.b (Prod.fst (Prod.snd (takeE { w := [0, 0, 0, 0, 0, 0, 0, 0, 0, 0, 0, 0, 0, 0, 0, 0], p := [(0, 0)], f := { a := [], b := [], c := [] }, c := [false, false] } { a := [], b := [], c := [] } { a := true, b := false, c := false, x := 3, y := 0, z := 0 })))))) fun ps =>
 bif Nat.ble (List.length ps) 65536 then
 Option.bind (decI (encI (Ls.b (Hp.f (Prod.fst (takeE { w := [0, 0, 0, 0, 0, 0, 0, 0, 0, 0, 0, 0, 0, 0, 0, 0], p := [(0, 0)], f := { a := [], b := [], c := [] }, c := [false, false] } { a := [], b := [], c := [] } { a := true, b := false, c := false, x := 3, y := 0, z := 0 })))))) fun ps_1 =>
 bif Nat.ble (List.length ps_1) 65536 then
 bif Prod.snd (Prod.snd (Prod.snd (takeE { w := [0, 0, 0, 0, 0, 0, 0, 0, 0, 0, 0, 0, 0, 0, 0, 0], p := [(0, 0)], f := { a := [], b := [], c := [] }, c := [false, false] } { a := [], b := [], c := [] } { a := true, b := false, c := false, x := 3, y := 0, z := 0 }))) == 0 then
 bif Prod.fst (Prod.snd (Prod.snd (takeE { w := [0, 0, 0, 0, 0, 0, 0, 0, 0, 0, 0, 0, 0, 0, 0, 0], p := [(0, 0)], f := { a := [], b := [], c := [] }, c := [false, false] } { a := [], b := [], c := [] } { a := true, b := false, c := false, x := 3, y := 0, z := 0 }))) == 20 then
 bif ps == [16] then
 bif ps_1 == [28, 24] then
 Option.bind (Option.bind (decI (encI (Hp.w (Prod.fst (takeE { w := [0, 0, 0, 0, 0, 0, 0, 0, 0, 0, 0, 0, 0, 0, 0, 0], p := [(0, 0)], f := { a := [], b := [], c := [] }, c := [false, false] } { a := [], b := [], c := [] } { a := true, b := false, c := false, x := 3, y := 0, z := 0 }))))) fun w =>
 Option.bind (decP (List.map encP (Hp.p (Prod.fst (takeE { w := [0, 0, 0, 0, 0, 0, 0, 0, 0, 0, 0, 0, 0, 0, 0, 0], p := [(0, 0)], f := { a := [], b := [], c := [] }, c := [false, false] } { a := [], b := [], c := [] } { a := true, b := false, c := false, x := 3, y := 0, z := 0 }))))) fun p =>
 Option.bind (decI (encI (Ls.a (Hp.f (Prod.fst (takeE { w := [0, 0, 0, 0, 0, 0, 0, 0, 0, 0, 0, 0, 0, 0, 0, 0], p := [(0, 0)], f := { a := [], b := [], c := [] }, c := [false, false] } { a := [], b := [], c := [] } { a := true, b := false, c := false, x := 3, y := 0, z := 0 })))))) fun a =>
 Option.bind (decI (encI (Ls.b (Hp.f (Prod.fst (takeE { w := [0, 0, 0, 0, 0, 0, 0, 0, 0, 0, 0, 0, 0, 0, 0, 0], p := [(0, 0)], f := { a := [], b := [], c := [] }, c := [false, false] } { a := [], b := [], c := [] } { a := true, b := false, c := false, x := 3, y := 0, z := 0 })))))) fun b =>
 Option.bind (decI (encI (Ls.c (Hp.f (Prod.fst (takeE { w := [0, 0, 0, 0, 0, 0, 0, 0, 0, 0, 0, 0, 0, 0, 0, 0], p := [(0, 0)], f := { a := [], b := [], c := [] }, c := [false, false] } { a := [], b := [], c := [] } { a := true, b := false, c := false, x := 3, y := 0, z := 0 })))))) fun c =>
 Option.bind (decBs (encBs (Hp.c (Prod.fst (takeE { w := [0, 0, 0, 0, 0, 0, 0, 0, 0, 0, 0, 0, 0, 0, 0, 0], p := [(0, 0)], f := { a := [], b := [], c := [] }, c := [false, false] } { a := [], b := [], c := [] } { a := true, b := false, c := false, x := 3, y := 0, z := 0 }))))) fun d => some { w := w, p := p, f := { a := a, b := b, c := c }, c := d }) fun a =>
 Option.bind (decLs [[CV.sl 1 (encI (Ls.a (Prod.fst (Prod.snd (takeE { w := [0, 0, 0, 0, 0, 0, 0, 0, 0, 0, 0, 0, 0, 0, 0, 0], p := [(0, 0)], f := { a := [], b := [], c := [] }, c := [false, false] } { a := [], b := [], c := [] } { a := true, b := false, c := false, x := 3, y := 0, z := 0 }))))), CV.sl 1 (encI (Ls.b (Prod.fst (Prod.snd (takeE { w := [0, 0, 0, 0, 0, 0, 0, 0, 0, 0, 0, 0, 0, 0, 0, 0], p := [(0, 0)], f := { a := [], b := [], c := [] }, c := [false, false] } { a := [], b := [], c := [] } { a := true, b := false, c := false, x := 3, y := 0, z := 0 }))))), CV.sl 1 (encI (Ls.c (Prod.fst (Prod.snd (takeE { w := [0, 0, 0, 0, 0, 0, 0, 0, 0, 0, 0, 0, 0, 0, 0, 0], p := [(0, 0)], f := { a := [], b := [], c := [] }, c := [false, false] } { a := [], b := [], c := [] } { a := true, b := false, c := false, x := 3, y := 0, z := 0 })))))]]) fun b =>
 bif smH a && smLs (Hp.f a :: b) then
 bif wholeHV a b then
 bif preT { w := [0, 0, 0, 0, 0, 0, 0, 0, 0, 0, 0, 0, 0, 0, 0, 0], p := [(0, 0)], f := { a := [], b := [], c := [] }, c := [false, false] } { a := [], b := [], c := [] } then
 K (CV.bool (roomT { w := [0, 0, 0, 0, 0, 0, 0, 0, 0, 0, 0, 0, 0, 0, 0, 0], p := [(0, 0)], f := { a := [], b := [], c := [] }, c := [false, false] } { a := [], b := [], c := [] } 3)) []
 else none
 else K (CV.bool false) []
 else none
 else K (CV.bool false) []
 else K (CV.bool false) []
 else K (CV.bool false) []
 else K (CV.bool false) []
 else none
 else none
 else none := by kernel_rfl
theorem hN_shaped : shapedE hN = true := by kernel_rfl
theorem hN_listed : listedV hN hN.f = true := by kernel_rfl
theorem hN_listedE : listedV hN Ls.e = true := by kernel_rfl
theorem hN_cells : cellAs hN.p = [] := by kernel_rfl
theorem hN_apart : apartV [hN.f, Ls.e] = true := by
  have h1 : catI [hN.f, Ls.e] = [] := rfl
  have h2 : sortI [] = [] := by simp [sortI]
  unfold apartV
  rw [h1, h2]
  rfl
theorem hN_may : mayHpV hN [Ls.e] = true := by
  unfold mayHpV
  rw [hN_shaped, hN_cells, hN_apart]
  simp only [List.all_cons, List.all_nil, hN_listed, hN_listedE, Bool.and_self]
theorem hN_whole : wholeHV hN [Ls.e] = true := by
  unfold wholeHV
  rw [hN_may, hN_cells]
  rfl
def hK : Hp := ⟨[0, 0, 0, 0, 25, 0, 0, 0, 0, 0, 0, 0, 0, 0, 0, 0], [(1, 1)], ⟨[], [28, 24], []⟩, [false, false]⟩
theorem takeN : takeE hN Ls.e (hdN 3) = (hK, ⟨[], [16], []⟩, 20, 0) := by
  rw [take_sm (by kernel_rfl) (by kernel_rfl) (by rw [hN_may]; rfl) (by kernel_rfl) (by kernel_rfl)]
  kernel_rfl
theorem hK_whole : wholeHV hK [⟨[], [16], []⟩] = true := by
  have l1 : lenL hN.f 90000 := smL1_len (by kernel_rfl)
  have l2 : lenL Ls.e 90000 := smL1_len (by kernel_rfl)
  have hm : MayF hN [Ls.e] := mayF_iff.1 hN_may
  have e0 := takeN
  rcases take_fin (hdN 3) l1 l2 with ⟨e, _⟩ | ⟨_, _, _, _, e⟩ | ⟨_, _, _, _, _, e, _⟩ | ⟨_, _, _, _, _, e, _⟩ | ⟨_, _, _, _, _, k, d, a, e, t, _⟩ | ⟨_, _, _, _, _, k, a, e, t, _⟩
  . rw [e] at e0; cases e0
  . rw [e] at e0; cases e0
  . rw [e] at e0; cases e0
  . rw [e] at e0; cases e0
  . rw [e] at e0
    cases e0
    exact t.whole hN_whole
  . rw [e] at e0
    cases e0
def gAwakeA : Callee := g0 true (.bool true)
theorem awakeA_good : GoodC Pr 21 gAwakeA :=
  good0 ((CxOK.baseN (Good.cons new_good (Good.cons take_good (Good.cons ⟨ints_sound, ints_nat⟩ (Good.cons whole_good (Good.cons roomT_good Good.nil))))) GoodI.nil (eqOK_none fun _ => rfl)).sound (cx := z21) Tryz.func21 (by kernel_rfl) (by kernel_rfl) rfl (by kernel_rfl)) fun _ _ β K => by
    rw [zr21 ()]
    have e0 : ({ w := [0, 0, 0, 0, 0, 0, 0, 0, 0, 0, 0, 0, 0, 0, 0, 0], p := [(0, 0)], f := Ls.e, c := [false, false] } : Hp) = hN := rfl
    have e1 : ({ a := [], b := [], c := [] } : Ls) = Ls.e := rfl
    have e2 : ({ a := true, b := false, c := false, x := 3, y := 0, z := 0 } : Hd) = hdN 3 := rfl
    have eA : ∀ h : Hp, (⟨h.w, h.p, ⟨h.f.a, h.f.b, h.f.c⟩, h.c⟩ : Hp) = h := fun _ => rfl
    have r1 : roomT hN Ls.e 3 = true := by unfold roomT; rw [takeN]; rfl
    have r2 : preT hN Ls.e = true := by kernel_rfl
    have d1 : decLs [[CV.sl 1 (encI []), CV.sl 1 (encI [16]), CV.sl 1 (encI [])]] = some [⟨[], [16], []⟩] := decLs_map [⟨[], [16], []⟩]
    have s1 : (smH hK && smLs (hK.f :: [⟨[], [16], []⟩])) = true := by kernel_rfl
    simp only [e0, e1, e2, takeN, r1, r2, cond_true, d1, decI_map, decP_map, decBs_enc, Option.bind_some, eA, s1, hK_whole]
    rfl
end Go.Ab

namespace Go.Ab
open Go
open Go.Proofs
noncomputable abbrev z6 : Cx := cxN Pr Tryz.f6 [(21, gAwakeA), (22, gFew), (23, gTake), (28, gOf3), (31, gBegins), (29, gRun3), (32, gWords3), (25, gSame6)]
set_option maxRecDepth 100000 in
theorem zr6 (h : Hp) (c : Ls) (n : Int) (β : Type) (K : CV -> List (List CV) -> Option β) : fnK z6 Tryz.f6 [cHp.enc h, cLs.enc c, cI.enc n] [] K =
 Option.bind (Option.bind (decI (encI (Hp.w h))) fun w =>
 Option.bind (decP (List.map encP (Hp.p h))) fun p =>
 Option.bind (decI (encI (Ls.a (Hp.f h)))) fun a =>
 Option.bind (decI (encI (Ls.b (Hp.f h)))) fun b =>
 Option.bind (decI (encI (Ls.c (Hp.f h)))) fun c =>
 Option.bind (decBs (encBs (Hp.c h))) fun d => some { w := w, p := p, f := { a := a, b := b, c := c }, c := d }) fun a =>
 Option.bind (decLs [[CV.sl 1 (encI (Ls.a c)), CV.sl 1 (encI (Ls.b c)), CV.sl 1 (encI (Ls.c c))]]) fun b =>
 bif Nat.ble (List.length b) 9223372036854775807 then
 bif !fewV a b then K (CV.bool true) []
 else
 Option.bind (Option.bind (decI (encI (Hp.w h))) fun w =>
 Option.bind (decP (List.map encP (Hp.p h))) fun p =>
 Option.bind (decI (encI (Ls.a (Hp.f h)))) fun a =>
 Option.bind (decI (encI (Ls.b (Hp.f h)))) fun b =>
 Option.bind (decI (encI (Ls.c (Hp.f h)))) fun c =>
 Option.bind (decBs (encBs (Hp.c h))) fun d => some { w := w, p := p, f := { a := a, b := b, c := c }, c := d }) fun a =>
 Option.bind (Option.bind (decI (encI (Ls.a c))) fun a =>
 Option.bind (decI (encI (Ls.b c))) fun b =>
 Option.bind (decI (encI (Ls.c c))) fun c => some { a := a, b := b, c := c }) fun b =>
 bif preT a b then
 bif Prod.snd (Prod.snd (Prod.snd (takeE a b { a := true, b := false, c := false, x := n, y := 0, z := 0 }))) != 0 then
 K (CV.bool true) []
 else
 bif Prod.snd (ofE n) != 0 then
 Option.bind (decP (List.map encP (Hp.p (Prod.fst (takeE a b { a := true, b := false, c := false, x := n, y := 0, z := 0 }))))) fun a_1 =>
 bif Nat.ble (List.length a_1) 200 then
 bif roomA a_1 (Prod.fst (Prod.snd (Prod.snd (takeE a b { a := true, b := false, c := false, x := n, y := 0, z := 0 })))) != words3 0 then
 K (CV.bool false) []
 else
 bif (↑(List.length (encI (Ls.a c))) : Int) == 0 then
 bif decide ((↑(List.length (encI (Ls.a (Prod.fst (Prod.snd (takeE a b { a := true, b := false, c := false, x := n, y := 0, z := 0 })))))) : Int) <= 1) then
 K (CV.bool true) []
 else
 bif decide ((↑(List.length (encI (Ls.a c))) : Int) > 0) then
 bif (↑(List.length (encI (Ls.a (Prod.fst (Prod.snd (takeE a b { a := true, b := false, c := false, x := n, y := 0, z := 0 })))))) : Int) == IntKind.wrap IntKind.i64 ((↑(List.length (encI (Ls.a c))) : Int) - 1) then
 Option.bind (rdE (encI (Ls.a c)) (IntKind.wrap IntKind.i64 ((↑(List.length (encI (Ls.a c))) : Int) - 1))) fun c =>
 Option.bind c[0]? fun x =>
 Option.bind (asI IntKind.i64 x) fun n_1 =>
 bif Prod.fst (Prod.snd (Prod.snd (takeE a b { a := true, b := false, c := false, x := n, y := 0, z := 0 }))) == n_1 then
 Option.bind (Option.bind (decI (encI (Ls.a (Hp.f (Prod.fst (takeE a b { a := true, b := false, c := false, x := n, y := 0, z := 0 })))))) fun a_2 =>
 Option.bind (decI (encI (Ls.b (Hp.f (Prod.fst (takeE a b { a := true, b := false, c := false, x := n, y := 0, z := 0 })))))) fun b_1 =>
 Option.bind (decI (encI (Ls.c (Hp.f (Prod.fst (takeE a b { a := true, b := false, c := false, x := n, y := 0, z := 0 })))))) fun c => some { a := a_2, b := b_1, c := c }) fun a =>
 Option.bind (Option.bind (decI (encI (Ls.a (Hp.f h)))) fun a =>
 Option.bind (decI (encI (Ls.b (Hp.f h)))) fun b =>
 Option.bind (decI (encI (Ls.c (Hp.f h)))) fun c => some { a := a, b := b, c := c }) fun b =>
 bif Nat.ble (List.length (Ls.a a)) 65536 && (Nat.ble (List.length (Ls.b a)) 65536 && Nat.ble (List.length (Ls.c a)) 65536) then
 K (CV.bool (same6 a b)) []
 else none
 else K (CV.bool false) []
 else K (CV.bool false) []
 else K (CV.bool false) []
 else
 bif decide ((↑(List.length (encI (Ls.a c))) : Int) > 0) then
 bif (↑(List.length (encI (Ls.a (Prod.fst (Prod.snd (takeE a b { a := true, b := false, c := false, x := n, y := 0, z := 0 })))))) : Int) == IntKind.wrap IntKind.i64 ((↑(List.length (encI (Ls.a c))) : Int) - 1) then
 Option.bind (rdE (encI (Ls.a c)) (IntKind.wrap IntKind.i64 ((↑(List.length (encI (Ls.a c))) : Int) - 1))) fun c =>
 Option.bind c[0]? fun x =>
 Option.bind (asI IntKind.i64 x) fun n_1 =>
 bif Prod.fst (Prod.snd (Prod.snd (takeE a b { a := true, b := false, c := false, x := n, y := 0, z := 0 }))) == n_1 then
 Option.bind (Option.bind (decI (encI (Ls.a (Hp.f (Prod.fst (takeE a b { a := true, b := false, c := false, x := n, y := 0, z := 0 })))))) fun a_2 =>
 Option.bind (decI (encI (Ls.b (Hp.f (Prod.fst (takeE a b { a := true, b := false, c := false, x := n, y := 0, z := 0 })))))) fun b_1 =>
 Option.bind (decI (encI (Ls.c (Hp.f (Prod.fst (takeE a b { a := true, b := false, c := false, x := n, y := 0, z := 0 })))))) fun c => some { a := a_2, b := b_1, c := c }) fun a =>
 Option.bind (Option.bind (decI (encI (Ls.a (Hp.f h)))) fun a =>
 Option.bind (decI (encI (Ls.b (Hp.f h)))) fun b =>
 Option.bind (decI (encI (Ls.c (Hp.f h)))) fun c => some { a := a, b := b, c := c }) fun b =>
 bif Nat.ble (List.length (Ls.a a)) 65536 && (Nat.ble (List.length (Ls.b a)) 65536 && Nat.ble (List.length (Ls.c a)) 65536) then
 K (CV.bool (same6 a b)) []
 else none
 else K (CV.bool false) []
 else K (CV.bool false) []
 else K (CV.bool false) []
 else none
 else
 bif Prod.fst (ofE n) == 0 then
 Option.bind (decP (List.map encP (Hp.p (Prod.fst (takeE a b { a := true, b := false, c := false, x := n, y := 0, z := 0 }))))) fun a_1 =>
 bif Nat.ble (List.length a_1) 200 then
 bif roomA a_1 (Prod.fst (Prod.snd (Prod.snd (takeE a b { a := true, b := false, c := false, x := n, y := 0, z := 0 })))) != words3 0 then
 K (CV.bool false) []
 else
 bif (↑(List.length (encI (Ls.a c))) : Int) == 0 then
 bif decide ((↑(List.length (encI (Ls.a (Prod.fst (Prod.snd (takeE a b { a := true, b := false, c := false, x := n, y := 0, z := 0 })))))) : Int) <= 1) then
 K (CV.bool true) []
 else
 bif decide ((↑(List.length (encI (Ls.a c))) : Int) > 0) then
 bif (↑(List.length (encI (Ls.a (Prod.fst (Prod.snd (takeE a b { a := true, b := false, c := false, x := n, y := 0, z := 0 })))))) : Int) == IntKind.wrap IntKind.i64 ((↑(List.length (encI (Ls.a c))) : Int) - 1) then
 Option.bind (rdE (encI (Ls.a c)) (IntKind.wrap IntKind.i64 ((↑(List.length (encI (Ls.a c))) : Int) - 1))) fun c =>
 Option.bind c[0]? fun x =>
 Option.bind (asI IntKind.i64 x) fun n_1 =>
 bif Prod.fst (Prod.snd (Prod.snd (takeE a b { a := true, b := false, c := false, x := n, y := 0, z := 0 }))) == n_1 then
 Option.bind (Option.bind (decI (encI (Ls.a (Hp.f (Prod.fst (takeE a b { a := true, b := false, c := false, x := n, y := 0, z := 0 })))))) fun a_2 =>
 Option.bind (decI (encI (Ls.b (Hp.f (Prod.fst (takeE a b { a := true, b := false, c := false, x := n, y := 0, z := 0 })))))) fun b_1 =>
 Option.bind (decI (encI (Ls.c (Hp.f (Prod.fst (takeE a b { a := true, b := false, c := false, x := n, y := 0, z := 0 })))))) fun c => some { a := a_2, b := b_1, c := c }) fun a =>
 Option.bind (Option.bind (decI (encI (Ls.a (Hp.f h)))) fun a =>
 Option.bind (decI (encI (Ls.b (Hp.f h)))) fun b =>
 Option.bind (decI (encI (Ls.c (Hp.f h)))) fun c => some { a := a, b := b, c := c }) fun b =>
 bif Nat.ble (List.length (Ls.a a)) 65536 && (Nat.ble (List.length (Ls.b a)) 65536 && Nat.ble (List.length (Ls.c a)) 65536) then
 K (CV.bool (same6 a b)) []
 else none
 else K (CV.bool false) []
 else K (CV.bool false) []
 else K (CV.bool false) []
 else
 bif decide ((↑(List.length (encI (Ls.a c))) : Int) > 0) then
 bif (↑(List.length (encI (Ls.a (Prod.fst (Prod.snd (takeE a b { a := true, b := false, c := false, x := n, y := 0, z := 0 })))))) : Int) == IntKind.wrap IntKind.i64 ((↑(List.length (encI (Ls.a c))) : Int) - 1) then
 Option.bind (rdE (encI (Ls.a c)) (IntKind.wrap IntKind.i64 ((↑(List.length (encI (Ls.a c))) : Int) - 1))) fun c =>
 Option.bind c[0]? fun x =>
 Option.bind (asI IntKind.i64 x) fun n_1 =>
 bif Prod.fst (Prod.snd (Prod.snd (takeE a b { a := true, b := false, c := false, x := n, y := 0, z := 0 }))) == n_1 then
 Option.bind (Option.bind (decI (encI (Ls.a (Hp.f (Prod.fst (takeE a b { a := true, b := false, c := false, x := n, y := 0, z := 0 })))))) fun a_2 =>
 Option.bind (decI (encI (Ls.b (Hp.f (Prod.fst (takeE a b { a := true, b := false, c := false, x := n, y := 0, z := 0 })))))) fun b_1 =>
 Option.bind (decI (encI (Ls.c (Hp.f (Prod.fst (takeE a b { a := true, b := false, c := false, x := n, y := 0, z := 0 })))))) fun c => some { a := a_2, b := b_1, c := c }) fun a =>
 Option.bind (Option.bind (decI (encI (Ls.a (Hp.f h)))) fun a =>
 Option.bind (decI (encI (Ls.b (Hp.f h)))) fun b =>
 Option.bind (decI (encI (Ls.c (Hp.f h)))) fun c => some { a := a, b := b, c := c }) fun b =>
 bif Nat.ble (List.length (Ls.a a)) 65536 && (Nat.ble (List.length (Ls.b a)) 65536 && Nat.ble (List.length (Ls.c a)) 65536) then
 K (CV.bool (same6 a b)) []
 else none
 else K (CV.bool false) []
 else K (CV.bool false) []
 else K (CV.bool false) []
 else none
 else
 bif Prod.fst (ofE n) == 1 then
 Option.bind (decP (List.map encP (Hp.p (Prod.fst (takeE a b { a := true, b := false, c := false, x := n, y := 0, z := 0 }))))) fun a_1 =>
 bif Nat.ble (List.length a_1) 200 then
 bif roomA a_1 (Prod.fst (Prod.snd (Prod.snd (takeE a b { a := true, b := false, c := false, x := n, y := 0, z := 0 })))) != words3 1 then
 K (CV.bool false) []
 else
 bif (↑(List.length (encI (Ls.b c))) : Int) == 0 then
 bif decide ((↑(List.length (encI (Ls.b (Prod.fst (Prod.snd (takeE a b { a := true, b := false, c := false, x := n, y := 0, z := 0 })))))) : Int) <= 1) then
 K (CV.bool true) []
 else
 bif decide ((↑(List.length (encI (Ls.b c))) : Int) > 0) then
 bif (↑(List.length (encI (Ls.b (Prod.fst (Prod.snd (takeE a b { a := true, b := false, c := false, x := n, y := 0, z := 0 })))))) : Int) == IntKind.wrap IntKind.i64 ((↑(List.length (encI (Ls.b c))) : Int) - 1) then
 Option.bind (rdE (encI (Ls.b c)) (IntKind.wrap IntKind.i64 ((↑(List.length (encI (Ls.b c))) : Int) - 1))) fun c =>
 Option.bind c[0]? fun x =>
 Option.bind (asI IntKind.i64 x) fun n_1 =>
 bif Prod.fst (Prod.snd (Prod.snd (takeE a b { a := true, b := false, c := false, x := n, y := 0, z := 0 }))) == n_1 then
 Option.bind (Option.bind (decI (encI (Ls.a (Hp.f (Prod.fst (takeE a b { a := true, b := false, c := false, x := n, y := 0, z := 0 })))))) fun a_2 =>
 Option.bind (decI (encI (Ls.b (Hp.f (Prod.fst (takeE a b { a := true, b := false, c := false, x := n, y := 0, z := 0 })))))) fun b_1 =>
 Option.bind (decI (encI (Ls.c (Hp.f (Prod.fst (takeE a b { a := true, b := false, c := false, x := n, y := 0, z := 0 })))))) fun c => some { a := a_2, b := b_1, c := c }) fun a =>
 Option.bind (Option.bind (decI (encI (Ls.a (Hp.f h)))) fun a =>
 Option.bind (decI (encI (Ls.b (Hp.f h)))) fun b =>
 Option.bind (decI (encI (Ls.c (Hp.f h)))) fun c => some { a := a, b := b, c := c }) fun b =>
 bif Nat.ble (List.length (Ls.a a)) 65536 && (Nat.ble (List.length (Ls.b a)) 65536 && Nat.ble (List.length (Ls.c a)) 65536) then
 K (CV.bool (same6 a b)) []
 else none
 else K (CV.bool false) []
 else K (CV.bool false) []
 else K (CV.bool false) []
 else
 bif decide ((↑(List.length (encI (Ls.b c))) : Int) > 0) then
 bif (↑(List.length (encI (Ls.b (Prod.fst (Prod.snd (takeE a b { a := true, b := false, c := false, x := n, y := 0, z := 0 })))))) : Int) == IntKind.wrap IntKind.i64 ((↑(List.length (encI (Ls.b c))) : Int) - 1) then
 Option.bind (rdE (encI (Ls.b c)) (IntKind.wrap IntKind.i64 ((↑(List.length (encI (Ls.b c))) : Int) - 1))) fun c =>
 Option.bind c[0]? fun x =>
 Option.bind (asI IntKind.i64 x) fun n_1 =>
 bif Prod.fst (Prod.snd (Prod.snd (takeE a b { a := true, b := false, c := false, x := n, y := 0, z := 0 }))) == n_1 then
 Option.bind (Option.bind (decI (encI (Ls.a (Hp.f (Prod.fst (takeE a b { a := true, b := false, c := false, x := n, y := 0, z := 0 })))))) fun a_2 =>
 Option.bind (decI (encI (Ls.b (Hp.f (Prod.fst (takeE a b { a := true, b := false, c := false, x := n, y := 0, z := 0 })))))) fun b_1 =>
 Option.bind (decI (encI (Ls.c (Hp.f (Prod.fst (takeE a b { a := true, b := false, c := false, x := n, y := 0, z := 0 })))))) fun c => some { a := a_2, b := b_1, c := c }) fun a =>
 Option.bind (Option.bind (decI (encI (Ls.a (Hp.f h)))) fun a =>
 Option.bind (decI (encI (Ls.b (Hp.f h)))) fun b =>
 Option.bind (decI (encI (Ls.c (Hp.f h)))) fun c => some { a := a, b := b, c := c }) fun b =>
 bif Nat.ble (List.length (Ls.a a)) 65536 && (Nat.ble (List.length (Ls.b a)) 65536 && Nat.ble (List.length (Ls.c a)) 65536) then
 K (CV.bool (same6 a b)) []
 else none
 else K (CV.bool false) []
 else K (CV.bool false) []
 else K (CV.bool false) []
 else none
 else
 bif Prod.fst (ofE n) == 2 then
 Option.bind (decP (List.map encP (Hp.p (Prod.fst (takeE a b { a := true, b := false, c := false, x := n, y := 0, z := 0 }))))) fun a_1 =>
 bif Nat.ble (List.length a_1) 200 then
 bif roomA a_1 (Prod.fst (Prod.snd (Prod.snd (takeE a b { a := true, b := false, c := false, x := n, y := 0, z := 0 })))) != words3 2 then
 K (CV.bool false) []
 else
 bif (↑(List.length (encI (Ls.c c))) : Int) == 0 then
 bif decide ((↑(List.length (encI (Ls.c (Prod.fst (Prod.snd (takeE a b { a := true, b := false, c := false, x := n, y := 0, z := 0 })))))) : Int) <= 1) then
 K (CV.bool true) []
 else
 bif decide ((↑(List.length (encI (Ls.c c))) : Int) > 0) then
 bif (↑(List.length (encI (Ls.c (Prod.fst (Prod.snd (takeE a b { a := true, b := false, c := false, x := n, y := 0, z := 0 })))))) : Int) == IntKind.wrap IntKind.i64 ((↑(List.length (encI (Ls.c c))) : Int) - 1) then
 Option.bind (rdE (encI (Ls.c c)) (IntKind.wrap IntKind.i64 ((↑(List.length (encI (Ls.c c))) : Int) - 1))) fun c =>
 Option.bind c[0]? fun x =>
 Option.bind (asI IntKind.i64 x) fun n_1 =>
 bif Prod.fst (Prod.snd (Prod.snd (takeE a b { a := true, b := false, c := false, x := n, y := 0, z := 0 }))) == n_1 then
 Option.bind (Option.bind (decI (encI (Ls.a (Hp.f (Prod.fst (takeE a b { a := true, b := false, c := false, x := n, y := 0, z := 0 })))))) fun a_2 =>
 Option.bind (decI (encI (Ls.b (Hp.f (Prod.fst (takeE a b { a := true, b := false, c := false, x := n, y := 0, z := 0 })))))) fun b_1 =>
 Option.bind (decI (encI (Ls.c (Hp.f (Prod.fst (takeE a b { a := true, b := false, c := false, x := n, y := 0, z := 0 })))))) fun c => some { a := a_2, b := b_1, c := c }) fun a =>
 Option.bind (Option.bind (decI (encI (Ls.a (Hp.f h)))) fun a =>
 Option.bind (decI (encI (Ls.b (Hp.f h)))) fun b =>
 Option.bind (decI (encI (Ls.c (Hp.f h)))) fun c => some { a := a, b := b, c := c }) fun b =>
 bif Nat.ble (List.length (Ls.a a)) 65536 && (Nat.ble (List.length (Ls.b a)) 65536 && Nat.ble (List.length (Ls.c a)) 65536) then
 K (CV.bool (same6 a b)) []
 else none
 else K (CV.bool false) []
 else K (CV.bool false) []
 else K (CV.bool false) []
 else
 bif decide ((↑(List.length (encI (Ls.c c))) : Int) > 0) then
 bif (↑(List.length (encI (Ls.c (Prod.fst (Prod.snd (takeE a b { a := true, b := false, c := false, x := n, y := 0, z := 0 })))))) : Int) == IntKind.wrap IntKind.i64 ((↑(List.length (encI (Ls.c c))) : Int) - 1) then
 Option.bind (rdE (encI (Ls.c c)) (IntKind.wrap IntKind.i64 ((↑(List.length (encI (Ls.c c))) : Int) - 1))) fun c =>
 Option.bind c[0]? fun x =>
 Option.bind (asI IntKind.i64 x) fun n_1 =>
 bif Prod.fst (Prod.snd (Prod.snd (takeE a b { a := true, b := false, c := false, x := n, y := 0, z := 0 }))) == n_1 then
 Option.bind (Option.bind (decI (encI (Ls.a (Hp.f (Prod.fst (takeE a b { a := true, b := false, c := false, x := n, y := 0, z := 0 })))))) fun a_2 =>
 Option.bind (decI (encI (Ls.b (Hp.f (Prod.fst (takeE a b { a := true, b := false, c := false, x := n, y := 0, z := 0 })))))) fun b_1 =>
 Option.bind (decI (encI (Ls.c (Hp.f (Prod.fst (takeE a b { a := true, b := false, c := false, x := n, y := 0, z := 0 })))))) fun c => some { a := a_2, b := b_1, c := c }) fun a =>
 Option.bind (Option.bind (decI (encI (Ls.a (Hp.f h)))) fun a =>
 Option.bind (decI (encI (Ls.b (Hp.f h)))) fun b =>
 Option.bind (decI (encI (Ls.c (Hp.f h)))) fun c => some { a := a, b := b, c := c }) fun b =>
 bif Nat.ble (List.length (Ls.a a)) 65536 && (Nat.ble (List.length (Ls.b a)) 65536 && Nat.ble (List.length (Ls.c a)) 65536) then
 K (CV.bool (same6 a b)) []
 else none
 else K (CV.bool false) []
 else K (CV.bool false) []
 else K (CV.bool false) []
 else none
 else
 bif Prod.fst (ofE n) == 3 then
 Option.bind (decP (List.map encP (Hp.p (Prod.fst (takeE a b { a := true, b := false, c := false, x := n, y := 0, z := 0 }))))) fun a_1 =>
 bif Nat.ble (List.length a_1) 200 then
 bif roomA a_1 (Prod.fst (Prod.snd (Prod.snd (takeE a b { a := true, b := false, c := false, x := n, y := 0, z := 0 })))) == IntKind.wrap IntKind.i64 (16 * Prod.fst (runE n)) then
 Option.bind (Option.bind (decI (encI (Ls.a c))) fun a =>
 Option.bind (decI (encI (Ls.b c))) fun b =>
 Option.bind (decI (encI (Ls.c c))) fun c => some { a := a, b := b, c := c }) fun a_2 =>
 Option.bind (Option.bind (decI (encI (Ls.a (Prod.fst (Prod.snd (takeE a b { a := true, b := false, c := false, x := n, y := 0, z := 0 })))))) fun a_3 =>
 Option.bind (decI (encI (Ls.b (Prod.fst (Prod.snd (takeE a b { a := true, b := false, c := false, x := n, y := 0, z := 0 })))))) fun b_1 =>
 Option.bind (decI (encI (Ls.c (Prod.fst (Prod.snd (takeE a b { a := true, b := false, c := false, x := n, y := 0, z := 0 })))))) fun c => some { a := a_3, b := b_1, c := c }) fun b =>
 bif Nat.ble (List.length (Ls.a a_2)) 65536 && (Nat.ble (List.length (Ls.b a_2)) 65536 && Nat.ble (List.length (Ls.c a_2)) 65536) then
 K (CV.bool (same6 a_2 b)) []
 else none
 else K (CV.bool false) []
 else none
 else none
 else none
 else none := by kernel_rfl
end Go.Ab

namespace Go.Ab
open Go
open Go.Proofs
end Go.Ab

namespace Go.Ab
open Go
open Go.Proofs
end Go.Ab

namespace Go.Ab
open Go
open Go.Proofs
theorem lightL {l : Ls} (h : lightV l = true) : lenL l 70 := light_get h
theorem few_one {h : Hp} {c : Ls} (hf : fewV h [c] = true) : Few h 70 /\ lenL h.f 70 /\ lenL c 70 := by
  obtain ⟨h1, _, h3, _⟩ := few_of hf
  exact ⟨h1, h1.f, lightL (h3 c (by simp))⟩
theorem pre_of {h : Hp} {c : Ls} {n m : Nat} (hF : Few h n) (hc : lenL c m) (h1 : n <= 90000) (h2 : m <= 90000) : preT h c = true := by
  obtain ⟨s1, s2, _, _⟩ := hF.sm h1
  have s3 : smL1 c = true := (show lenF ⟨[], [], c, []⟩ m from hc).smL h2 |>.2.1
  unfold preT
  rw [s1, s2, s3]; rfl
end Go.Ab

namespace Go.Ab
open Go
open Go.Proofs
end Go.Ab

namespace Go.Ab
open Go
open Go.Proofs
theorem last_rd {L : List Int} (h : L ≠ []) (hl : L.length <= 70) : rdE (encI L) (IntKind.i64.wrap ((L.length : Int) - 1)) = some [CV.int .i64 (L.getD (L.length - 1) 0)] := by
  have h0 := List.length_pos_iff.2 h
  have w1 : IntKind.i64.wrap ((L.length : Int) - 1) = ((L.length - 1 : Nat) : Int) := by rw [wrap_in (by omega)]; omega
  have e1 : (encI L)[((L.length - 1 : Nat) : Int).toNat]? = some [CV.int .i64 (L.getD (L.length - 1) 0)] := by
    have : L.length - 1 < L.length := by omega
    simp [encI, this]
  rw [w1, rdE_nat (by omega), e1]
theorem pop_eq {L : List Int} (h : L ≠ []) (hl : L.length <= 70) : (((L.take (L.length - 1)).length : Int) == IntKind.i64.wrap ((L.length : Int) - 1)) = true := by
  have h0 := List.length_pos_iff.2 h
  rw [wrap_in (by omega), List.length_take, beq_iff_eq]
  omega
theorem len_zero (l : List Int) : (((l.length : Nat) : Int) == 0) = l.isEmpty := empty_len l
theorem ne_empty' {l : List Int} (h : l ≠ []) : l.isEmpty = false := by
  cases l with
  | nil => exact absurd rfl h
  | cons _ _ => rfl
theorem len_gt {L : List Int} (h : L ≠ []) : decide ((L.length : Int) > 0) = true := decide_eq_true (by have := List.length_pos_iff.2 h; omega)
theorem same6_refl (l : Ls) : same6 l l = true := by unfold same6; simp
theorem words3_eq {i : Int} (i0 : 0 <= i) (i2 : i <= 2) : words3 i = wordsOf i := by
  have : i = 0 \/ i = 1 \/ i = 2 := by omega
  rcases this with rfl | rfl | rfl <;> rfl
def gLaw6 : Callee := g3 cHp cLs cI (fun _ _ _ => true) fun _ _ _ => .bool true
theorem law6_good : GoodC Pr 6 gLaw6 :=
  good3 ((CxOK.baseN (Good.cons awakeA_good (Good.cons fewA_good (Good.cons take_good (Good.cons of3_good (Good.cons begins_good (Good.cons run3_good (Good.cons words3_good (Good.cons same6_good Good.nil)))))))) GoodI.nil (eqOK_none fun _ => rfl)).sound (cx := z6) Tryz.func6 (by kernel_rfl) (by kernel_rfl) rfl (by kernel_rfl)) fun h c n _ β K => by
    have e : ∀ h : Hp, (⟨h.w, h.p, ⟨h.f.a, h.f.b, h.f.c⟩, h.c⟩ : Hp) = h := fun _ => rfl
    have el : ∀ l : Ls, (⟨l.a, l.b, l.c⟩ : Ls) = l := fun _ => rfl
    have eN : ∀ n : Int, ({ a := true, b := false, c := false, x := n, y := 0, z := 0 } : Hd) = hdN n := fun _ => rfl
    have d1 : decLs [[CV.sl 1 (encI (Ls.a c)), CV.sl 1 (encI (Ls.b c)), CV.sl 1 (encI (Ls.c c))]] = some [c] := decLs_map [c]
    have b1 : Nat.ble ([c] : List Ls).length 9223372036854775807 = true := Nat.ble_eq_true_of_le (by simp)
    rw [zr6]
    simp only [decI_map, decP_map, decBs_enc, Option.bind_some, e, el, eN, d1, b1, cond_true]
    cases hf : fewV h [c] with
    | false => rfl
    | true =>
      obtain ⟨hF, l1, l2⟩ := few_one hf
      simp only [Bool.not_true, cond_false, pre_of hF l2 (show 70 <= 90000 by omega) (show 70 <= 90000 by omega), cond_true]
      have la : c.a.length <= 70 := l2 0 (by omega)
      have lb : c.b.length <= 70 := l2 1 (by omega)
      have lc : c.c.length <= 70 := l2 2 (by omega)
      have k65 : (Nat.ble h.f.a.length 65536 && (Nat.ble h.f.b.length 65536 && Nat.ble h.f.c.length 65536)) = true := by
        have fa : h.f.a.length <= 70 := l1 0 (by omega)
        have fb : h.f.b.length <= 70 := l1 1 (by omega)
        have fc : h.f.c.length <= 70 := l1 2 (by omega)
        rw [Nat.ble_eq_true_of_le (by omega), Nat.ble_eq_true_of_le (by omega), Nat.ble_eq_true_of_le (by omega)]; rfl
      have c65 : (Nat.ble c.a.length 65536 && (Nat.ble c.b.length 65536 && Nat.ble c.c.length 65536)) = true := by
        rw [Nat.ble_eq_true_of_le (by omega), Nat.ble_eq_true_of_le (by omega), Nat.ble_eq_true_of_le (by omega)]; rfl
      cases he : (takeE h c (hdN n)).2.2.2 != 0 with
      | true => rfl
      | false =>
        rcases take_fin (hdN n) (l1.mono (show 70 <= 90000 by omega)) (l2.mono (show 70 <= 90000 by omega)) with ⟨e1, _⟩ | ⟨_, _, _, o, e1⟩ | ⟨_, _, _, _, _, e1, _⟩ | ⟨_, _, _, _, _, e1, _⟩ | ⟨m, _, _, o, o3, k, d, a, e1, t, r, _, l, _⟩ | ⟨m, _, _, o, o3, k, a, e1, t, r, _, l⟩
        . rw [e1] at he; cases he
        . rw [e1] at he
          exact absurd (nE he) o
        . rw [e1] at he; cases he
        . rw [e1] at he; cases he
        . have o : ((ofE n).2 != 0) = false := o
          have o3 : ((ofE n).1 == 3) = false := o3
          have r : roomA k.p a = wordsOf (ofE n).1 := r
          have l : (c.get (ofE n).1.toNat = [] /\ (d.get (ofE n).1.toNat).length <= 1) \/ (c.get (ofE n).1.toNat ≠ [] /\ d = popL c (ofE n).1 /\ a = lastL c (ofE n).1 /\ k.f = h.f) := l
          obtain ⟨i0, i2⟩ := of_small o o3
          have hp : Nat.ble k.p.length 200 = true := Nat.ble_eq_true_of_le (by have := hF.p; have := t.pl; omega)
          rw [<- words3_eq i0 i2] at r
          simp only [e1, cond_false, o, hp, cond_true, encI_len, len_zero]
          cases c0 : (ofE n).1 == 0 with
          | true =>
            rw [eq_of_beq c0] at r l
            rcases l with ⟨g1, g2⟩ | ⟨g1, g2, g3, g4⟩
            . have g1 : c.a = [] := g1
              have g2 : d.a.length <= 1 := g2
              simp only [cond_true, r, bne_self_eq_false, cond_false, g1, List.isEmpty_nil, decide_eq_true (show (d.a.length : Int) <= 1 by omega)]
            . have g1 : c.a ≠ [] := g1
              have g3 : a = c.a.getD (c.a.length - 1) 0 := g3
              have g5 : (popL c 0).a = c.a.take (c.a.length - 1) := rfl
              simp only [cond_true, r, bne_self_eq_false, cond_false, ne_empty' g1, len_gt g1, g2, g5, pop_eq g1 la, last_rd g1 la, Option.bind_some, zero_get, asI_i, <- g3, beq_self_eq_true, g4, k65, same6_refl]
          | false =>
            simp only [cond_false]
            cases c1 : (ofE n).1 == 1 with
            | true =>
              rw [eq_of_beq c1] at r l
              rcases l with ⟨g1, g2⟩ | ⟨g1, g2, g3, g4⟩
              . have g1 : c.b = [] := g1
                have g2 : d.b.length <= 1 := g2
                simp only [cond_true, r, bne_self_eq_false, cond_false, g1, List.isEmpty_nil, decide_eq_true (show (d.b.length : Int) <= 1 by omega)]
              . have g1 : c.b ≠ [] := g1
                have g3 : a = c.b.getD (c.b.length - 1) 0 := g3
                have g5 : (popL c 1).b = c.b.take (c.b.length - 1) := rfl
                simp only [cond_true, r, bne_self_eq_false, cond_false, ne_empty' g1, len_gt g1, g2, g5, pop_eq g1 lb, last_rd g1 lb, Option.bind_some, zero_get, asI_i, <- g3, beq_self_eq_true, g4, k65, same6_refl]
            | false =>
              simp only [cond_false]
              cases c2 : (ofE n).1 == 2 with
              | true =>
                rw [eq_of_beq c2] at r l
                rcases l with ⟨g1, g2⟩ | ⟨g1, g2, g3, g4⟩
                . have g1 : c.c = [] := g1
                  have g2 : d.c.length <= 1 := g2
                  simp only [cond_true, r, bne_self_eq_false, cond_false, g1, List.isEmpty_nil, decide_eq_true (show (d.c.length : Int) <= 1 by omega)]
                . have g1 : c.c ≠ [] := g1
                  have g3 : a = c.c.getD (c.c.length - 1) 0 := g3
                  have g5 : (popL c 2).c = c.c.take (c.c.length - 1) := rfl
                  simp only [cond_true, r, bne_self_eq_false, cond_false, ne_empty' g1, len_gt g1, g2, g5, pop_eq g1 lc, last_rd g1 lc, Option.bind_some, zero_get, asI_i, <- g3, beq_self_eq_true, g4, k65, same6_refl]
              | false =>
                simp only [beq_eq_false_iff_ne] at c0 c1 c2
                omega
        . have o : ((ofE n).2 != 0) = false := o
          have o3 : ((ofE n).1 == 3) = true := o3
          have r : roomA k.p a = 16 * (runE n).1 := r
          have hp : Nat.ble k.p.length 200 = true := Nat.ble_eq_true_of_le (by have := hF.p; have := t.pl; omega)
          obtain ⟨a1, a2⟩ := of_in o
          have a8 : 8 <= n := ge8_of o (by rw [eq_of_beq o3]; decide)
          have wr : IntKind.i64.wrap (16 * (runE n).1) = 16 * (runE n).1 := by
            rw [run_of a8 a2]
            show IntKind.i64.wrap (16 * (n / 16 + 1)) = 16 * (n / 16 + 1)
            rw [wrap_in (by omega)]
          have c0 : ((ofE n).1 == 0) = false := by rw [eq_of_beq o3]; rfl
          have c1 : ((ofE n).1 == 1) = false := by rw [eq_of_beq o3]; rfl
          have c2 : ((ofE n).1 == 2) = false := by rw [eq_of_beq o3]; rfl
          simp only [e1, cond_false, o, hp, cond_true, c0, c1, c2, o3, r, wr, beq_self_eq_true, c65, same6_refl]
theorem law6_run (h : Hp) (c : Ls) (n : Int) (β : Type) (K : CV -> List (List CV) -> Option β) : gLaw6.run [cHp.enc h, cLs.enc c, cI.enc n] [] β K = K (.bool true) [] := by
  unfold gLaw6 g3
  dsimp only
  rw [cHp.de, cLs.de, cI.de]
  rfl
end Go.Ab
