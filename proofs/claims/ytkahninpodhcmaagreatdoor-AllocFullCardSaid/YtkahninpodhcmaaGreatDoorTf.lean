/- alloc.Take: its contract, and what it leaves.
What is taken fits; how many are used; where there is room.
The reference's Of, Run, Same.
alloc.Take's contract.
Behind an object that is given back there is room; what is taken and given back is as it was.
alloc.Room; few of chapter 08; awake of chapter 08.
few of chapter 08; awake of chapter 08.
AllocFull's residual.
ReapBack's residual.
AllocTwice's residual.
The law AllocTwice.
The law ReapBack.
The law AllocFull. -/
import Derived.Test.YtkahninpodhcmaaGreatDoorTe
import Derived.Test.YtkahninpodhcmaaGreatDoorTd
namespace Go.Ab
open Go
open Go.Proofs
def hZ : Hp := ⟨[], [], ⟨[], [], []⟩, []⟩
def badT (e : Int) : Hp × Ls × Int × Int := (hZ, Ls.e, 0, e)
def takeS (s : Fr) (r : Int × Int) (x : Hd) : Hp × Ls × Int × Int := bif r.2 != 0 then badT r.2 else (putH s.h r.1 (packH x), s.c, r.1, 0)
def takeE (h : Hp) (c : Ls) (x : Hd) : Hp × Ls × Int × Int := bif (packE x).2 != 0 then badT 1 else bif !x.a then badT 1 else bif !mayHpV h [c] then badT 1 else bif (ofE x.x).2 != 0 then badT (ofE x.x).2 else
  bif (ofE x.x).1 == 3 then takeS (lgFr ⟨h, c⟩ x.x) (lgE ⟨h, c⟩ x.x) x else takeS (smFr ⟨h, c⟩ (ofE x.x).1) (smE ⟨h, c⟩ (ofE x.x).1) x
theorem of_small {n : Int} (h0 : ((ofE n).2 != 0) = false) (h3 : ((ofE n).1 == 3) = false) : 0 ≤ (ofE n).1 ∧ (ofE n).1 ≤ 2 := by
  revert h0 h3
  unfold ofE
  cases decide (n < 1) with
  | true => intro h; cases h
  | false =>
    cases decide (n > 63) with
    | true => intro h; cases h
    | false =>
      cases decide (n > 7) with
      | true => intro _ h; cases h
      | false =>
        cases decide (n > 3) with
        | true => intro _ _; exact ⟨(by decide : (0 : Int) ≤ 2), (by decide : (2 : Int) ≤ 2)⟩
        | false =>
          cases decide (n > 1) with
          | true => intro _ _; exact ⟨(by decide : (0 : Int) ≤ 1), (by decide : (1 : Int) ≤ 2)⟩
          | false => intro _ _; exact ⟨(by decide : (0 : Int) ≤ 0), (by decide : (0 : Int) ≤ 2)⟩
theorem nE {x : Int} (h : (x != 0) = false) : x = 0 := by simpa using h
theorem run_val {n : Int} (h0 : ((ofE n).2 != 0) = false) (h3 : ((ofE n).1 == 3) = true) : (runE n).2 = 0 := by
  unfold runE
  rw [h0]
  rw [beq_iff_eq] at h3
  rw [h3]; rfl
theorem pack_ok {x : Hd} (h : ((packE x).2 != 0) = false) : mayH x = true ∧ (packE x).1 = packH x := by
  unfold packE at h ⊢
  cases hm : mayH x with
  | false => rw [hm] at h; cases h
  | true => exact ⟨rfl, rfl⟩
/-- What alloc.Take comes to. -/
inductive Take (h : Hp) (c : Ls) (x : Hd) : Prop where
  | arg (e : takeE h c x = badT 1) (no : mayH x = true → x.a = true → MayF h [c] → False)
  | of (m : MayF h [c]) (x1 : mayH x = true) (x2 : x.a = true) (o : (ofE x.x).2 ≠ 0) (e : takeE h c x = badT (ofE x.x).2)
  | fullS (m : MayF h [c]) (x1 : mayH x = true) (x2 : x.a = true) (o : ((ofE x.x).2 != 0) = false) (o3 : ((ofE x.x).1 == 3) = false) (e : takeE h c x = badT 4) (e1 : c.get (ofE x.x).1.toNat = []) (e2 : h.f.get (ofE x.x).1.toNat = []) (e3 : findE h.p 1 = none)
  | fullL (m : MayF h [c]) (x1 : mayH x = true) (x2 : x.a = true) (o : ((ofE x.x).2 != 0) = false) (o3 : ((ofE x.x).1 == 3) = true) (e : takeE h c x = badT 4) (e3 : findE h.p (runE x.x).1 = none)
  | small (m : MayF h [c]) (x1 : mayH x = true) (x2 : x.a = true) (o : ((ofE x.x).2 != 0) = false) (o3 : ((ofE x.x).1 == 3) = false) (k : Hp) (d : Ls) (a : Int) (e : takeE h c x = (k, d, a, 0)) (t : Took h c x k d a) (r : roomA k.p a = wordsOf (ofE x.x).1)
      (ne : (findE h.p 1).isSome = true ∨ h.f.get (ofE x.x).1.toNat ≠ [] ∨ c.get (ofE x.x).1.toNat ≠ [])
      (l : (c.get (ofE x.x).1.toNat = [] ∧ (d.get (ofE x.x).1.toNat).length ≤ 1) ∨ (c.get (ofE x.x).1.toNat ≠ [] ∧ d = popL c (ofE x.x).1 ∧ a = lastL c (ofE x.x).1 ∧ k.f = h.f))
      (n : ∀ n m, lenL h.f n → lenL c m → lenL k.f (n + 8192) ∧ lenL d (m + 2))
  | large (m : MayF h [c]) (x1 : mayH x = true) (x2 : x.a = true) (o : ((ofE x.x).2 != 0) = false) (o3 : ((ofE x.x).1 == 3) = true) (k : Hp) (a : Int) (e : takeE h c x = (k, c, a, 0)) (t : Took h c x k c a) (r : roomA k.p a = 16 * (runE x.x).1)
      (ne : (findE h.p (runE x.x).1).isSome = true) (l : k.f = h.f)
theorem take_arg1 {h : Hp} {c : Ls} {x : Hd} (h1 : ((packE x).2 != 0) = true) : takeE h c x = badT 1 := by unfold takeE; rw [h1]; rfl
theorem take_arg2 {h : Hp} {c : Ls} {x : Hd} (h1 : ((packE x).2 != 0) = false) (h2 : (!x.a) = true) : takeE h c x = badT 1 := by unfold takeE; rw [h1, h2]; rfl
theorem take_arg3 {h : Hp} {c : Ls} {x : Hd} (h1 : ((packE x).2 != 0) = false) (h2 : (!x.a) = false) (h3 : (!mayHpV h [c]) = true) : takeE h c x = badT 1 := by unfold takeE; rw [h1, h2, h3]; rfl
theorem take_of {h : Hp} {c : Ls} {x : Hd} (h1 : ((packE x).2 != 0) = false) (h2 : (!x.a) = false) (h3 : (!mayHpV h [c]) = false) (h4 : ((ofE x.x).2 != 0) = true) : takeE h c x = badT (ofE x.x).2 := by unfold takeE; rw [h1, h2, h3, h4]; rfl
theorem take_lg {h : Hp} {c : Ls} {x : Hd} (h1 : ((packE x).2 != 0) = false) (h2 : (!x.a) = false) (h3 : (!mayHpV h [c]) = false) (h4 : ((ofE x.x).2 != 0) = false) (h5 : ((ofE x.x).1 == 3) = true) : takeE h c x = takeS (lgFr ⟨h, c⟩ x.x) (lgE ⟨h, c⟩ x.x) x := by unfold takeE; rw [h1, h2, h3, h4, h5]; rfl
theorem take_sm {h : Hp} {c : Ls} {x : Hd} (h1 : ((packE x).2 != 0) = false) (h2 : (!x.a) = false) (h3 : (!mayHpV h [c]) = false) (h4 : ((ofE x.x).2 != 0) = false) (h5 : ((ofE x.x).1 == 3) = false) : takeE h c x = takeS (smFr ⟨h, c⟩ (ofE x.x).1) (smE ⟨h, c⟩ (ofE x.x).1) x := by unfold takeE; rw [h1, h2, h3, h4, h5]; rfl
theorem take_fin {h : Hp} {c : Ls} (x : Hd) (hf : lenL h.f 90000) (hc : lenL c 90000) : Take h c x := by
  cases h1 : (packE x).2 != 0 with
  | true => exact .arg (take_arg1 h1) fun q _ _ => by unfold packE at h1; rw [q] at h1; cases h1
  | false =>
    obtain ⟨x1, _⟩ := pack_ok h1
    cases h2 : !x.a with
    | true => exact .arg (take_arg2 h1 h2) fun _ q _ => by rw [q] at h2; cases h2
    | false =>
      have x2 : x.a = true := by simpa using h2
      cases h3 : !mayHpV h [c] with
      | true => exact .arg (take_arg3 h1 h2 h3) fun _ _ q => by rw [mayF_iff.2 q] at h3; cases h3
      | false =>
        have hm : MayF h [c] := mayF_iff.1 (by simpa using h3)
        cases h4 : (ofE x.x).2 != 0 with
        | true => exact .of hm x1 x2 (by simpa using h4) (take_of h1 h2 h3 h4)
        | false =>
          cases h5 : (ofE x.x).1 == 3 with
          | true =>
            have e0 := take_lg h1 h2 h3 h4 h5
            rcases (lg_take hm x.x).2 with ⟨e, e3⟩ | ⟨e, r, p, o, ne, lc, lf⟩
            · rw [e] at e0
              exact .fullL hm x1 x2 h4 h5 e0 e3
            · have e1 : takeE h c x = (putH (lgFr ⟨h, c⟩ x.x).h (lgE ⟨h, c⟩ x.x).1 (packH x), c, (lgE ⟨h, c⟩ x.x).1, 0) := by
                rw [e0]; unfold takeS; rw [e, lc]; rfl
              refine .large hm x1 x2 h4 h5 _ _ e1 (r.took hm x1 x2 ?_) o ne lf
              rw [p]
              show ((runE x.x).2 == 0 && (runE x.x).1 == (runE x.x).1) = true
              rw [run_val h4 h5]; simp
          | false =>
            have e0 := take_sm h1 h2 h3 h4 h5
            obtain ⟨i0, i2⟩ := of_small h4 h5
            rcases (sm_take hm hf hc i0 i2).2 with ⟨e, e1, e2, e3⟩ | ⟨e, r, p, ne, l, n⟩
            · rw [e] at e0
              exact .fullS hm x1 x2 h4 h5 e0 e1 e2 e3
            · have e1 : takeE h c x = (putH (smFr ⟨h, c⟩ (ofE x.x).1).h (smE ⟨h, c⟩ (ofE x.x).1).1 (packH x), (smFr ⟨h, c⟩ (ofE x.x).1).c, (smE ⟨h, c⟩ (ofE x.x).1).1, 0) := by
                rw [e0]; unfold takeS; rw [e]; rfl
              refine .small hm x1 x2 h4 h5 _ _ _ e1 (r.took hm x1 x2 ?_) ?_ ne l n
              · rw [p]
                show ((ofE x.x).2 == 0 && (ofE x.x).1 == (ofE x.x).1) = true
                rw [nE h4]; simp
              · have hr := (r.m [] hm).r
                obtain ⟨_, _, _, _, q, _, q5, q6⟩ := cell_facts hr
                have q5 : pageE (smFr ⟨h, c⟩ (ofE x.x).1).h (smE ⟨h, c⟩ (ofE x.x).1).1 = q := q5
                rw [p] at q5
                subst q5
                rcases q6 with ⟨g, _⟩ | ⟨_, _, _, _, g⟩
                · cases g
                · exact g
end Go.Ab

namespace Go.Ab
open Go
open Go.Proofs
/-- A head with as many fields. -/
def hdN (n : Int) : Hd := ⟨true, false, false, n, 0, 0⟩
theorem of_in {n : Int} (h : ((ofE n).2 != 0) = false) : 1 ≤ n ∧ n ≤ 63 := by
  revert h
  unfold ofE
  cases h1 : decide (n < 1) with
  | true => intro h; cases h
  | false =>
    cases h2 : decide (n > 63) with
    | true => intro h; cases h
    | false =>
      intro _
      have := of_decide_eq_false h1
      have := of_decide_eq_false h2
      omega
theorem of_val {n : Int} (h0 : 1 ≤ n) (h1 : n ≤ 63) : ofE n = (if n > 7 then 3 else if n > 3 then 2 else if n > 1 then 1 else 0, 0) := by
  unfold ofE
  rw [decide_eq_false (by omega), decide_eq_false (by omega)]
  show ((bif decide (n > 7) then 3 else bif decide (n > 3) then 2 else bif decide (n > 1) then 1 else 0 : Int), (0 : Int)) = _
  by_cases a : n > 7
  · rw [decide_eq_true a, if_pos a]; rfl
  · rw [decide_eq_false a, if_neg a]
    by_cases b : n > 3
    · rw [decide_eq_true b, if_pos b]; rfl
    · rw [decide_eq_false b, if_neg b]
      by_cases c : n > 1
      · rw [decide_eq_true c, if_pos c]; rfl
      · rw [decide_eq_false c, if_neg c]; rfl
theorem run_of {n : Int} (h0 : 8 ≤ n) (h1 : n ≤ 63) : runE n = (n / 16 + 1, 0) := by
  unfold runE
  rw [of_val (by omega) h1, if_pos (by omega)]
  show (IntKind.i64.wrap (IntKind.i64.wrap (Int.tdiv n 16) + 1), (0 : Int)) = _
  rw [tdiv_pos (by omega), wrap_in (a := n / 16) (by omega), wrap_in (by omega)]
theorem mayH_N {n : Int} (h0 : 0 ≤ n) (h1 : n ≤ 63) : mayH (hdN n) = true := by
  unfold mayH inS hdN
  simp only [Bool.not_true, cond_false, Bool.and_eq_true, decide_eq_true_eq]
  omega
section
variable {h k : Hp} {c d : Ls} {x : Hd} {a : Int}
theorem Few.took {n : Nat} (hf : Few h n) (t : Took h c x k d a) {m : Nat} (hl : lenL k.f m) : Few k m :=
  ⟨by rw [t.wl]; exact hf.w, by rw [t.pl]; exact hf.p, by rw [t.cl]; exact hf.c, hl⟩
theorem whole_told {ls : List Ls} : wholeHV h ls = true ↔ MayF h ls ∧ Told h ls := whole_iff
theorem Took.whole (t : Took h c x k d a) {ls : List Ls} (hw : wholeHV h (c :: ls) = true) : wholeHV k (d :: ls) = true := by
  obtain ⟨h1, h2⟩ := whole_told.1 hw
  exact whole_told.2 ⟨t.m ls h1, t.told ls h2⟩
end
end Go.Ab

namespace Go.Ab
open Go
open Go.Proofs
noncomputable abbrev zx28 : Cx := cxG Pr Tryz.f28 [(32, gWords3)] [] (fun _ => false) (fun q => Nat.beq q 122)
set_option maxRecDepth 100000 in
theorem zr28 (n : Int) (β : Type) (K : CV → List (List CV) → Option β) : fnK zx28 Tryz.f28 [cI.enc n] [] K =
 bif decide (n < 1) then K (CV.tup [CV.int IntKind.i64 0, CV.int IntKind.i64 1]) []
 else
 bif decide (n > 63) then K (CV.tup [CV.int IntKind.i64 0, CV.int IntKind.i64 2]) []
 else
 bif decide (words3 0 ≥ IntKind.wrap IntKind.i64 (n + 1)) then
 K (CV.tup [CV.int IntKind.i64 0, CV.int IntKind.i64 0]) []
 else
 bif decide (words3 1 ≥ IntKind.wrap IntKind.i64 (n + 1)) then
 K (CV.tup [CV.int IntKind.i64 1, CV.int IntKind.i64 0]) []
 else
 bif decide (words3 2 ≥ IntKind.wrap IntKind.i64 (n + 1)) then
 K (CV.tup [CV.int IntKind.i64 2, CV.int IntKind.i64 0]) []
 else K (CV.tup [CV.int IntKind.i64 3, CV.int IntKind.i64 0]) [] := by kernel_rfl

def gOfA : Callee := g1 cI (fun _ => true) fun n => .tup [cI.enc (ofE n).1, cI.enc (ofE n).2]
noncomputable abbrev zx29 : Cx := cxG Pr Tryz.f29 [(28, gOfA)]
abbrev px29 := [false, false, true, true, true, true, true]
abbrev ox29 : Exit → List Nat := fun _ => [6]
set_option maxRecDepth 100000 in
theorem zt29 (n i : Int) (m : Nat) (β : Type) (K : Exit → List CV → List (List CV) → Option β) : loopB zx29 [0, 6] ox29 px29 (bodyL (bodyOf Tryz.f29) px29) (m + 1) [cI.enc n, cI.enc i] [] K =
 bif decide (IntKind.wrap IntKind.i64 (16 * i) < IntKind.wrap IntKind.i64 (n + 1)) then loopB zx29 [0, 6] ox29 [false, false, true, true, true, true, true] (bodyL (bodyOf Tryz.f29) px29) m [CV.int IntKind.i64 n, CV.int IntKind.i64 (IntKind.wrap IntKind.i64 (i + 1))] [] fun a a_1 a_2 => K a a_1 a_2
 else K (Exit.exit 0) [CV.int IntKind.i64 i] [] := by kernel_rfl

theorem run_loop (n : Int) (h0 : 1 ≤ n) (h1 : n ≤ 63) (β : Type) (K : Exit → List CV → List (List CV) → Option β) : ∀ (m i : Nat), i + m = (n / 16 + 1).toNat →
    loopB zx29 [0, 6] ox29 px29 (bodyL (bodyOf Tryz.f29) px29) (m + 1) [cI.enc n, cI.enc (i : Int)] [] K = K (.exit 0) [cI.enc (n / 16 + 1)] [] := by
  intro m
  induction m with
  | zero =>
    intro i hi
    have e1 : IntKind.i64.wrap (16 * (i : Int)) = 16 * (i : Int) := wrap_in (by omega)
    have e2 : IntKind.i64.wrap (n + 1) = n + 1 := wrap_in (by omega)
    rw [zt29, e1, e2, decide_eq_false (by omega), cond_false, show (i : Int) = n / 16 + 1 by omega]
    rfl
  | succ m ih =>
    intro i hi
    have e1 : IntKind.i64.wrap (16 * (i : Int)) = 16 * (i : Int) := wrap_in (by omega)
    have e2 : IntKind.i64.wrap (n + 1) = n + 1 := wrap_in (by omega)
    have e3 : IntKind.i64.wrap ((i : Int) + 1) = ((i + 1 : Nat) : Int) := by rw [wrap_in (by omega)]; omega
    rw [zt29, e1, e2, e3, decide_eq_true (by omega), cond_true]
    exact ih (i + 1) (by omega)
def Lx29 : LoopSem := l2 [0, 6] ox29 cI cI c0 (fun n i _ => i == 0 && (decide (1 ≤ n) && decide (n ≤ 63))) fun n _ _ => .one (.exit 0) [cI.enc (n / 16 + 1)] []
noncomputable abbrev zy29 : Cx := zx29.loop px29 Lx29
theorem words3_0 : words3 0 = 2 := rfl
theorem words3_1 : words3 1 = 4 := rfl
theorem words3_2 : words3 2 = 8 := rfl
theorem ofA_good : GoodC Pr 28 gOfA :=
  good1 ((CxOK.baseG (Good.cons words3_good Good.nil) GoodI.nil (eqOK_none fun _ => rfl)).sound (cx := zx28) Tryz.func28 (by kernel_rfl) (by kernel_rfl) rfl (by kernel_rfl)) fun n _ β K => by
    rw [zr28, words3_0, words3_1, words3_2]
    unfold ofE
    by_cases h1 : n < 1
    · rw [decide_eq_true h1]; rfl
    · rw [decide_eq_false h1, cond_false, cond_false]
      by_cases h2 : n > 63
      · rw [decide_eq_true h2]; rfl
      · rw [decide_eq_false h2, cond_false, cond_false, wrap_in (a := n + 1) (by omega)]
        by_cases h3 : n > 7
        · rw [decide_eq_true h3, decide_eq_false (by omega), decide_eq_false (by omega), decide_eq_false (by omega)]; rfl
        · rw [decide_eq_false h3]
          by_cases h4 : n > 3
          · rw [decide_eq_true h4, decide_eq_false (by omega), decide_eq_false (by omega), decide_eq_true (by omega)]; rfl
          · rw [decide_eq_false h4]
            by_cases h5 : n > 1
            · rw [decide_eq_true h5, decide_eq_false (by omega), decide_eq_true (by omega)]; rfl
            · rw [decide_eq_false h5, decide_eq_true (by omega)]; rfl
/-- The class, told one by one. -/
def gOf3 : Callee := ⟨fun args conts _ K => match args, conts with
  | [a], [] => (cI.dec a).bind fun n => bif (ofE n).2 != 0 then K (.tup [.int .i64 0, cI.enc (ofE n).2]) [] else bif (ofE n).1 == 0 then K (.tup [.int .i64 0, .int .i64 0]) [] else bif (ofE n).1 == 1 then K (.tup [.int .i64 1, .int .i64 0]) [] else
      bif (ofE n).1 == 2 then K (.tup [.int .i64 2, .int .i64 0]) [] else bif (ofE n).1 == 3 then K (.tup [.int .i64 3, .int .i64 0]) [] else none
  | _, _ => none⟩
theorem of3_nat : NatC gOf3 := fun args conts => by
  unfold gOf3
  dsimp only
  split
  · exact .bind _ fun _ => .cond _ (.ret _ _) (.cond _ (.ret _ _) (.cond _ (.ret _ _) (.cond _ (.ret _ _) (.cond _ (.ret _ _) .none))))
  · exact .none
theorem of_err {n : Int} (h : ((ofE n).2 != 0) = true) : (ofE n).1 = 0 := by
  by_cases h1 : n < 1
  · unfold ofE; rw [decide_eq_true h1]; rfl
  · by_cases h2 : n > 63
    · unfold ofE; rw [decide_eq_false h1, decide_eq_true h2]; rfl
    · rw [of_val (by omega) (by omega)] at h
      cases h
theorem of3_good : GoodC Pr 28 gOf3 := GoodC.of ofA_good.s of3_nat fun args conts β K r hr => by
  unfold gOf3 at hr
  dsimp only at hr
  split at hr
  · rename_i a
    replace hr := bind_some' hr
    obtain ⟨n, hn, hr⟩ := hr
    have hg : gOfA.run [a] [] β K = K (.tup [cI.enc (ofE n).1, cI.enc (ofE n).2]) [] := by
      show ((cI.dec a).bind fun n => bif true then K (.tup [cI.enc (ofE n).1, cI.enc (ofE n).2]) [] else none) = _
      rw [hn]; rfl
    rw [hg]
    cases h0 : (ofE n).2 != 0 with
    | true =>
      rw [h0] at hr
      rw [of_err h0]; exact hr
    | false =>
      rw [h0, cond_false] at hr
      rw [nE h0]
      cases e0 : (ofE n).1 == 0 with
      | true => rw [e0] at hr; rw [eq_of_beq e0]; exact hr
      | false =>
        rw [e0, cond_false] at hr
        cases e1 : (ofE n).1 == 1 with
        | true => rw [e1] at hr; rw [eq_of_beq e1]; exact hr
        | false =>
          rw [e1, cond_false] at hr
          cases e2 : (ofE n).1 == 2 with
          | true => rw [e2] at hr; rw [eq_of_beq e2]; exact hr
          | false =>
            rw [e2, cond_false] at hr
            cases e3 : (ofE n).1 == 3 with
            | true => rw [e3] at hr; rw [eq_of_beq e3]; exact hr
            | false => rw [e3] at hr; cases hr
  · cases hr
set_option maxRecDepth 100000 in
theorem zr29 (n : Int) (β : Type) (K : CV → List (List CV) → Option β) : fnK zy29 Tryz.f29 [cI.enc n] [] K =
 bif Prod.snd (ofE n) != 0 then K (CV.tup [CV.int IntKind.i64 0, CV.int IntKind.i64 (Prod.snd (ofE n))]) []
 else
 bif decide (Prod.fst (ofE n) < 3) then K (CV.tup [CV.int IntKind.i64 0, CV.int IntKind.i64 3]) []
 else
 bif decide (1 ≤ n) && decide (n ≤ 63) then K (CV.tup [CV.int IntKind.i64 (n / 16 + 1), CV.int IntKind.i64 0]) []
 else none := by kernel_rfl

def gRun3 : Callee := g1 cI (fun _ => true) fun n => .tup [cI.enc (runE n).1, cI.enc (runE n).2]
theorem ge8_of {n : Int} (h0 : ((ofE n).2 != 0) = false) (h : ¬ (ofE n).1 < 3) : 8 ≤ n := by
  obtain ⟨a1, a2⟩ := of_in h0
  rw [of_val a1 a2] at h
  have h : ¬ (if n > 7 then 3 else if n > 3 then 2 else if n > 1 then 1 else 0 : Int) < 3 := h
  by_cases q : n > 7
  · omega
  · exfalso
    rw [if_neg q] at h
    apply h
    repeat' split
    all_goals decide
theorem zy29_ok : CxOK zy29 [(28, gOfA)] := by
  refine CxOK.loop2 (CxOK.baseG (Good.cons ofA_good Good.nil) GoodI.nil (eqOK_none fun _ => rfl)) rfl fun n i u hp => ?_
  simp only [Bool.and_eq_true, beq_iff_eq, decide_eq_true_eq] at hp
  obtain ⟨hi, h0, h1⟩ := hp
  subst hi
  exact ⟨(n / 16 + 1).toNat + 1, fun β K => run_loop n h0 h1 β K (n / 16 + 1).toNat 0 (by omega)⟩
theorem run3_good : GoodC Pr 29 gRun3 :=
  good1 (zy29_ok.sound (cx := zy29) Tryz.func29 (by kernel_rfl) (by kernel_rfl) rfl (by kernel_rfl)) fun n _ β K => by
    rw [zr29]
    cases h0 : (ofE n).2 != 0 with
    | true =>
      unfold runE
      rw [h0]; rfl
    | false =>
      by_cases h1 : (ofE n).1 < 3
      · unfold runE
        rw [h0, decide_eq_true h1]; rfl
      · obtain ⟨a1, a2⟩ := of_in h0
        have a8 := ge8_of h0 h1
        rw [decide_eq_false h1, run_of a8 a2, decide_eq_true a1, decide_eq_true a2]
        rfl
end Go.Ab

namespace Go.Ab
open Go
open Go.Proofs
def preT (h : Hp) (c : Ls) : Bool := smH h && (smL1 h.f && smL1 c)
def gTake : Callee := g3 cHp cLs cHd (fun h c _ => preT h c) fun h c x => .tup [cHp.enc (takeE h c x).1, cLs.enc (takeE h c x).2.1, cI.enc (takeE h c x).2.2.1, cI.enc (takeE h c x).2.2.2]
theorem smL1_len {l : Ls} (h : smL1 l = true) : lenL l 90000 := fun k hk => by
  unfold smL1 at h
  simp only [Bool.and_eq_true] at h
  have : k = 0 ∨ k = 1 ∨ k = 2 := by omega
  rcases this with rfl | rfl | rfl
  · exact Nat.le_of_ble_eq_true h.1
  · exact Nat.le_of_ble_eq_true h.2.1
  · exact Nat.le_of_ble_eq_true h.2.2
theorem soft_bad (e : Int) : soft 4 (CV.tup [CV.agg [CV.own 1 [], CV.own 2 [], CV.own 1 [], CV.own 1 [], CV.own 1 [], CV.own 1 []], CV.agg [CV.own 1 [], CV.own 1 [], CV.own 1 []], CV.int IntKind.i64 0, CV.int IntKind.i64 e]) =
    some (.tup [cHp.enc (badT e).1, cLs.enc (badT e).2.1, cI.enc (badT e).2.2.1, cI.enc (badT e).2.2.2]) := rfl
def rvBad (e : Int) : CV := CV.tup [CV.agg [CV.own 1 [], CV.own 2 [], CV.own 1 [], CV.own 1 [], CV.own 1 [], CV.own 1 []], CV.agg [CV.own 1 [], CV.own 1 [], CV.own 1 []], CV.int IntKind.i64 0, CV.int IntKind.i64 e]
theorem take_good : GoodC Pr 23 gTake :=
  good3S ((CxOK.baseN (Good.cons pack57_good (Good.cons mayHp_good (Good.cons of_good (Good.cons ownH_good (Good.cons cloneA_good (Good.cons zeroC_good (Good.cons roomH_good (Good.cons putC_good (Good.cons smallF_good (Good.cons largeF_good Good.nil)))))))))) (GoodI.cons fail_inl GoodI.nil) (eqOK_none fun _ => rfl)).sound (cx := z23) Tryz.func23 (by kernel_rfl) (by kernel_rfl) rfl (by kernel_rfl)) fun h c x hp => by
    unfold preT at hp
    simp only [Bool.and_eq_true] at hp
    obtain ⟨hs, hf, hc⟩ := hp
    have lf := smL1_len hf
    have lc := smL1_len hc
    have hls : smLs [h.f, c] = true := by
      unfold smLs
      rw [List.all_cons, List.all_cons, lf.smL (by omega), lc.smL (by omega)]; rfl
    have eh : (⟨h.w, h.p, ⟨h.f.a, h.f.b, h.f.c⟩, h.c⟩ : Hp) = h := rfl
    have ec : (⟨c.a, c.b, c.c⟩ : Ls) = c := rfl
    have ex : ({ a := Hd.a x, b := Hd.b x, c := Hd.c x, x := Hd.x x, y := Hd.y x, z := Hd.z x } : Hd) = x := rfl
    have d1 : decLs [[CV.sl 1 (encI (Ls.a c)), CV.sl 1 (encI (Ls.b c)), CV.sl 1 (encI (Ls.c c))]] = some [c] := decLs_map [c]
    cases h1 : (packE x).2 != 0 with
    | true =>
      rw [take_arg1 h1]
      exact ⟨_, soft_bad 1, fun β K => by rw [zr23, ex, h1]; rfl⟩
    | false =>
      obtain ⟨x1, xw⟩ := pack_ok h1
      cases h2 : !x.a with
      | true =>
        rw [take_arg2 h1 h2]
        exact ⟨_, soft_bad 1, fun β K => by rw [zr23, ex, h1, h2]; rfl⟩
      | false =>
        have x2 : x.a = true := by simpa using h2
        cases h3 : !mayHpV h [c] with
        | true =>
          rw [take_arg3 h1 h2 h3]
          refine ⟨_, soft_bad 1, fun β K => ?_⟩
          rw [zr23, ex, h1, h2]
          simp only [cond_false, decI_map, decP_map, decBs_enc, Option.bind_some, d1, eh, hs, hls, Bool.and_self, cond_true, h3]
        | false =>
          have hm : MayF h [c] := mayF_iff.1 (by simpa using h3)
          obtain ⟨q1, q2, q3⟩ := shaped_ne hm.sh
          obtain ⟨_, l64⟩ := may_len q1
          cases h4 : (ofE x.x).2 != 0 with
          | true =>
            rw [take_of h1 h2 h3 h4]
            refine ⟨_, soft_bad _, fun β K => ?_⟩
            rw [zr23, ex, h1, h2]
            simp only [cond_false, decI_map, decP_map, decBs_enc, Option.bind_some, d1, eh, hs, hls, Bool.and_self, cond_true, h3, h4]
          | false =>
            have dF : decFr (encI h.w) (List.map encP h.p) (encI h.f.a) (encI h.f.b) (encI h.f.c) (encBs h.c) (encI c.a) (encI c.b) (encI c.c) = some ⟨h, c⟩ := decFr_enc ⟨h, c⟩
            have ba : Nat.ble c.a.length 4000000000 = true := Nat.ble_eq_true_of_le (Nat.le_trans (lc 0 (by omega)) (by omega))
            have bb : Nat.ble c.b.length 4000000000 = true := Nat.ble_eq_true_of_le (Nat.le_trans (lc 1 (by omega)) (by omega))
            have bc : Nat.ble c.c.length 4000000000 = true := Nat.ble_eq_true_of_le (Nat.le_trans (lc 2 (by omega)) (by omega))
            cases h5 : (ofE x.x).1 == 3 with
            | true =>
              rw [take_lg h1 h2 h3 h4 h5]
              obtain ⟨hpre, hL⟩ := lg_take hm x.x
              rcases hL with ⟨e, e3⟩ | ⟨e, r, p, o, ne, l1, l2⟩
              · refine ⟨rvBad 4, by rw [e]; exact soft_bad 4, fun β K => ?_⟩
                rw [zr23, ex, h1, h2]
                simp only [cond_false, decI_map, decP_map, decBs_enc, Option.bind_some, d1, eh, hs, hls, Bool.and_self, cond_true, h3, h4, q2, q3, Bool.not_false, ba, bb, bc, h5, dF, hpre]
                rw [e]
                rfl
              · have X := r.m [] hm
                obtain ⟨z1, z2, z3⟩ := zero_in X.sh X.r
                have hzl := zero_len z1 z2 z3
                have hma : mayA (lgFr ⟨h, c⟩ x.x).h.w.length = true := by
                  have := X.sh
                  simp only [shapedE, Bool.and_eq_true] at this
                  exact this.1
                have hr := X.r
                have hpl := r.pl
                have c1 : Nat.ble (lgFr ⟨h, c⟩ x.x).h.p.length 200 = true := Nat.ble_eq_true_of_le (by omega)
                refine ⟨.tup [cHp.enc (putH (lgFr ⟨h, c⟩ x.x).h (lgE ⟨h, c⟩ x.x).1 (packH x)), cLs.enc (lgFr ⟨h, c⟩ x.x).c, cI.enc (lgE ⟨h, c⟩ x.x).1, .int .i64 0], by unfold takeS; rw [e]; rfl, fun β K => ?_⟩
                rw [zr23, ex, h1, h2]
                simp only [cond_false, decI_map, decP_map, decBs_enc, Option.bind_some, d1, eh, hs, hls, Bool.and_self, cond_true, h3, h4, q2, q3, Bool.not_false, ba, bb, bc, h5, dF, hpre, e, bne_self_eq_false, c1, hma, decide_eq_true z1, decide_eq_true (show 1 ≤ roomA (lgFr ⟨h, c⟩ x.x).h.p (lgE ⟨h, c⟩ x.x).1 by omega), decide_eq_true z3, hzl, decide_eq_true (show (lgE ⟨h, c⟩ x.x).1 - 16 < ((lgFr ⟨h, c⟩ x.x).h.w.length : Int) by omega), xw]
                rfl
            | false =>
              rw [take_sm h1 h2 h3 h4 h5]
              obtain ⟨i0, i2⟩ := of_small h4 h5
              obtain ⟨hpre, hL⟩ := sm_take hm lf lc i0 i2
              rcases hL with ⟨e, e1, e2, e3⟩ | ⟨e, r, p, ne, l, n⟩
              · refine ⟨rvBad 4, by rw [e]; exact soft_bad 4, fun β K => ?_⟩
                rw [zr23, ex, h1, h2]
                simp only [cond_false, decI_map, decP_map, decBs_enc, Option.bind_some, d1, eh, hs, hls, Bool.and_self, cond_true, h3, h4, q2, q3, Bool.not_false, ba, bb, bc, h5, dF, hpre]
                rw [e]
                rfl
              · have X := r.m [] hm
                obtain ⟨z1, z2, z3⟩ := zero_in X.sh X.r
                have hzl := zero_len z1 z2 z3
                have hma : mayA (smFr ⟨h, c⟩ (ofE x.x).1).h.w.length = true := by
                  have := X.sh
                  simp only [shapedE, Bool.and_eq_true] at this
                  exact this.1
                have hr := X.r
                have hpl := r.pl
                have c1 : Nat.ble (smFr ⟨h, c⟩ (ofE x.x).1).h.p.length 200 = true := Nat.ble_eq_true_of_le (by omega)
                refine ⟨.tup [cHp.enc (putH (smFr ⟨h, c⟩ (ofE x.x).1).h (smE ⟨h, c⟩ (ofE x.x).1).1 (packH x)), cLs.enc (smFr ⟨h, c⟩ (ofE x.x).1).c, cI.enc (smE ⟨h, c⟩ (ofE x.x).1).1, .int .i64 0], by unfold takeS; rw [e]; rfl, fun β K => ?_⟩
                rw [zr23, ex, h1, h2]
                simp only [cond_false, decI_map, decP_map, decBs_enc, Option.bind_some, d1, eh, hs, hls, Bool.and_self, cond_true, h3, h4, q2, q3, Bool.not_false, ba, bb, bc, h5, dF, hpre, e, bne_self_eq_false, c1, hma, decide_eq_true z1, decide_eq_true (show 1 ≤ roomA (smFr ⟨h, c⟩ (ofE x.x).1).h.p (smE ⟨h, c⟩ (ofE x.x).1).1 by omega), decide_eq_true z3, hzl, decide_eq_true (show (smE ⟨h, c⟩ (ofE x.x).1).1 - 16 < ((smFr ⟨h, c⟩ (ofE x.x).1).h.w.length : Int) by omega), xw]
                rfl
end Go.Ab

namespace Go.Ab
open Go
open Go.Proofs
end Go.Ab

namespace Go.Ab
open Go
open Go.Proofs
noncomputable abbrev z26 : Cx := cxN Pr Tryz.f26 [(23, gTake)]
set_option maxRecDepth 100000 in
theorem zr26 (h : Hp) (c : Ls) (n : Int) (β : Type) (K : CV → List (List CV) → Option β) : fnK z26 Tryz.f26 [cHp.enc h, cLs.enc c, cI.enc n] [] K =
 Option.bind (Option.bind (decI (encI (Hp.w h))) fun w =>
 Option.bind (decP (List.map encP (Hp.p h))) fun p =>
 Option.bind (decI (encI (Ls.a (Hp.f h)))) fun a =>
 Option.bind (decI (encI (Ls.b (Hp.f h)))) fun b =>
 Option.bind (decI (encI (Ls.c (Hp.f h)))) fun c =>
 Option.bind (decBs (encBs (Hp.c h))) fun d => some { w := w, p := p, f := { a := a, b := b, c := c }, c := d }) fun a =>
 Option.bind (Option.bind (decI (encI (Ls.a c))) fun a =>
 Option.bind (decI (encI (Ls.b c))) fun b =>
 Option.bind (decI (encI (Ls.c c))) fun c => some { a := a, b := b, c := c }) fun b =>
 bif preT a b then
 K (CV.bool (Prod.snd (Prod.snd (Prod.snd (takeE a b { a := true, b := false, c := false, x := n, y := 0, z := 0 }))) == 0)) []
 else none := by kernel_rfl

def roomT (h : Hp) (c : Ls) (n : Int) : Bool := (takeE h c (hdN n)).2.2.2 == 0
def gRoomT : Callee := g3 cHp cLs cI (fun h c _ => preT h c) fun h c n => cB.enc (roomT h c n)
theorem roomT_good : GoodC Pr 26 gRoomT :=
  good3 ((CxOK.baseN (Good.cons take_good Good.nil) GoodI.nil (eqOK_none fun _ => rfl)).sound (cx := z26) Tryz.func26 (by kernel_rfl) (by kernel_rfl) rfl (by kernel_rfl)) fun h c n hp β K => by
    have e : (⟨h.w, h.p, ⟨h.f.a, h.f.b, h.f.c⟩, h.c⟩ : Hp) = h := rfl
    have ec : (⟨c.a, c.b, c.c⟩ : Ls) = c := rfl
    rw [zr26]
    simp only [decI_map, decP_map, decBs_enc, Option.bind_some, e, ec, hp, cond_true]
    rfl
end Go.Ab

namespace Go.Ab
open Go
open Go.Proofs
noncomputable abbrev zk22a : Cx := cxG Pr Tryz.f22 [(37, gFewH), (38, gLight)]
set_option maxRecDepth 100000 in
theorem zt22x (ls : List Ls) (ok : Bool) (i : Int) (m : Nat) (β : Type) (K : Exit → List CV → List (List CV) → Option β) : loopB zk22a [1, 5, 6] o8 p8 (bodyL (bodyOf Tryz.f22) p8) (m + 1) [cLss.enc ls, cB.enc ok, cI.enc i] [] K =
 bif decide (i < (↑(List.length (List.map encLs ls)) : Int)) then
 bif ok then
 Option.bind (rdE (List.map encLs ls) i) fun c =>
 Option.bind c[0]? fun x =>
 Option.bind (asL 1 x) fun l =>
 Option.bind c[1]? fun x =>
 Option.bind (asL 1 x) fun l_1 =>
 Option.bind c[2]? fun x =>
 Option.bind (asL 1 x) fun l_2 =>
 Option.bind (Option.bind (decI l) fun a =>
 Option.bind (decI l_1) fun b => Option.bind (decI l_2) fun c => some { a := a, b := b, c := c }) fun a => loopB zk22a [1, 5, 6] o8 [false, true, false, true, true] (bodyL (bodyOf Tryz.f22) p8) m [CV.sl 3 (List.map encLs ls), CV.bool (lightV a), CV.int IntKind.i64 (IntKind.wrap IntKind.i64 (i + 1))] [] fun a a_1 a_2 => K a a_1 a_2
 else loopB zk22a [1, 5, 6] o8 [false, true, false, true, true] (bodyL (bodyOf Tryz.f22) p8) m [CV.sl 3 (List.map encLs ls), CV.bool false, CV.int IntKind.i64 (IntKind.wrap IntKind.i64 (i + 1))] [] fun a a_1 a_2 => K a a_1 a_2
 else K (Exit.exit 0) [CV.sl 3 (List.map encLs ls), CV.bool ok] [] := by kernel_rfl

theorem few_loopA (ls : List Ls) (hl : ls.length ≤ 9223372036854775807) (β : Type) (K : Exit → List CV → List (List CV) → Option β) : ∀ (m i : Nat) (ok : Bool), i + m = ls.length →
    loopB zk22a [1, 5, 6] o8 p8 (bodyL (bodyOf Tryz.f22) p8) (m + 1) [cLss.enc ls, cB.enc ok, cI.enc (i : Int)] [] K = K (.exit 0) [cLss.enc ls, cB.enc (ok && (ls.drop i).all lightV)] [] := by
  intro m
  induction m with
  | zero =>
    intro i ok h1
    rw [zt22x, decide_eq_false (by rw [List.length_map]; omega), cond_false, List.drop_eq_nil_of_le (by omega)]
    simp only [List.all_nil, Bool.and_true]
    rfl
  | succ m ih =>
    intro i ok h1
    have hi : i < ls.length := by omega
    have e0 : (List.map encLs ls)[(i : Int).toNat]? = some (encLs ls[i]) := by simp [hi]
    have w1 : IntKind.i64.wrap ((i : Int) + 1) = ((i + 1 : Nat) : Int) := by rw [wrap_in (by omega)]; omega
    have h2 := fun ok => ih (i + 1) ok (by omega)
    rw [zt22x, decide_eq_true (by rw [List.length_map]; omega), cond_true, List.drop_eq_getElem_cons hi, List.all_cons, rdE_nat (by omega), e0]
    generalize ls[i] = l
    have g1 : (encLs l)[0]? = some (.sl 1 (encI l.a)) := rfl
    have g2 : (encLs l)[1]? = some (.sl 1 (encI l.b)) := rfl
    have g3 : (encLs l)[2]? = some (.sl 1 (encI l.c)) := rfl
    have e' : (⟨l.a, l.b, l.c⟩ : Ls) = l := rfl
    simp only [Option.bind_some, g1, g2, g3, asL_1, decI_map, e', w1]
    cases ok with
    | true =>
      rw [Bool.true_and, cond_true]
      exact h2 (lightV l)
    | false =>
      have h3 := h2 false
      rw [Bool.false_and] at h3 ⊢
      rw [cond_false]
      exact h3
noncomputable abbrev zk22 : Cx := zk22a.loop p8 L8
theorem zk22_ok : CxOK zk22 [(37, gFewH), (38, gLight)] := by
  refine CxOK.loop3 (CxOK.baseG (Good.cons fewH_good (Good.cons light_good Good.nil)) GoodI.nil (eqOK_none fun _ => rfl)) rfl fun ls ok i u hp => ?_
  simp only [Bool.and_eq_true, beq_iff_eq] at hp
  obtain ⟨hi, hl⟩ := hp
  subst hi
  exact ⟨ls.length + 1, fun β K => (few_loopA ls (Nat.le_of_ble_eq_true hl) β K ls.length 0 ok (by omega)).trans (by rw [List.drop_zero]; rfl)⟩
set_option maxRecDepth 100000 in
theorem zr22 (h : Hp) (ls : List Ls) (β : Type) (K : CV → List (List CV) → Option β) : fnK zk22 Tryz.f22 [cHp.enc h, cLss.enc ls] [] K =
 Option.bind (Option.bind (decI (encI (Hp.w h))) fun w =>
 Option.bind (decP (List.map encP (Hp.p h))) fun p =>
 Option.bind (decI (encI (Ls.a (Hp.f h)))) fun a =>
 Option.bind (decI (encI (Ls.b (Hp.f h)))) fun b =>
 Option.bind (decI (encI (Ls.c (Hp.f h)))) fun c =>
 Option.bind (decBs (encBs (Hp.c h))) fun d => some { w := w, p := p, f := { a := a, b := b, c := c }, c := d }) fun a =>
 Option.bind (decLs (List.map encLs ls)) fun a_1 =>
 bif Nat.ble (List.length a_1) 9223372036854775807 then
 bif fewH a && List.all a_1 lightV then K (CV.bool (decide ((↑(List.length (List.map encLs a_1)) : Int) ≤ 4))) []
 else K (CV.bool false) []
 else none := by kernel_rfl

theorem fewA_good : GoodC Pr 22 gFew :=
  good2 (zk22_ok.sound (cx := zk22) Tryz.func22 (by kernel_rfl) (by kernel_rfl) rfl (by kernel_rfl)) fun h ls hp β K => by
    have e : (⟨h.w, h.p, ⟨h.f.a, h.f.b, h.f.c⟩, h.c⟩ : Hp) = h := rfl
    rw [zr22]
    simp only [decI_map, decP_map, decBs_enc, decLs_map, Option.bind_some, e, hp, beq_self_eq_true, Bool.and_self, cond_true, List.length_map]
    unfold fewV
    cases (fewH h && ls.all lightV) <;> rfl
noncomputable abbrev z21 : Cx := cxN Pr Tryz.f21 [(55, gNew), (23, gTake), (50, gInts), (34, gWhole), (26, gRoomT)]
set_option maxRecDepth 100000 in
theorem zr21 (_u : Unit) (β : Type) (K : CV → List (List CV) → Option β) : fnK z21 Tryz.f21 [] [] K =
 bif preT { w := [0, 0, 0, 0, 0, 0, 0, 0, 0, 0, 0, 0, 0, 0, 0, 0], p := [(0, 0)], f := { a := [], b := [], c := [] }, c := [false, false] } { a := [], b := [], c := [] } then
 Option.bind (decI (encI (Ls.b (Prod.fst (Prod.snd (takeE { w := [0, 0, 0, 0, 0, 0, 0, 0, 0, 0, 0, 0, 0, 0, 0, 0], p := [(0, 0)], f := { a := [], b := [], c := [] }, c := [false, false] } { a := [], b := [], c := [] } { a := true, b := false, c := false, x := 3, y := 0, z := 0 })))))) fun ps =>
 bif Nat.ble (List.length ps) 65536 then
 Option.bind (decI (encI (Ls.b (Hp.f (Prod.fst (takeE { w := [0, 0, 0, 0, 0, 0, 0, 0, 0, 0, 0, 0, 0, 0, 0, 0], p := [(0, 0)], f := { a := [], b := [], c := [] }, c := [false, false] } { a := [], b := [], c := [] } { a := true, b := false, c := false, x := 3, y := 0, z := 0 })))))) fun ps_1 =>
 bif Nat.ble (List.length ps_1) 65536 then
 bif Prod.snd (Prod.snd (Prod.snd (takeE { w := [0, 0, 0, 0, 0, 0, 0, 0, 0, 0, 0, 0, 0, 0, 0, 0], p := [(0, 0)], f := { a := [], b := [], c := [] }, c := [false, false] } { a := [], b := [], c := [] } { a := true, b := false, c := false, x := 3, y := 0, z := 0 }))) == 0 then
 bif Prod.fst (Prod.snd (Prod.snd (takeE { w := [0, 0, 0, 0, 0, 0, 0, 0, 0, 0, 0, 0, 0, 0, 0, 0], p := [(0, 0)], f := { a := [], b := [], c := [] }, c := [false, false] } { a := [], b := [], c := [] } { a := true, b := false, c := false, x := 3, y := 0, z := 0 }))) == 20 then
 bif ps == [16] then
 bif ps_1 == [28, 24] then
 Option.bind (Option.bind (decI (encI (Hp.w (Prod.fst (takeE { w := [0, 0, 0, 0, 0, 0, 0, 0, 0, 0, 0, 0, 0, 0, 0, 0], p := [(0, 0)], f := { a := [], b := [], c := [] }, c := [false, false] } { a := [], b := [], c := [] } { a := true, b := false, c := false, x := 3, y := 0, z := 0 }))))) fun w =>
 Option.bind (decP (List.map encP (Hp.p (Prod.fst (takeE { w := [0, 0, 0, 0, 0, 0, 0, 0, 0, 0, 0, 0, 0, 0, 0, 0], p := [(0, 0)], f := { a := [], b := [], c := [] }, c := [false, false] } { a := [], b := [], c := [] } { a := true, b := false, c := false, x := 3, y := 0, z := 0 }))))) fun p =>
 Option.bind (decI (encI (Ls.a (Hp.f (Prod.fst (takeE { w := [0, 0, 0, 0, 0, 0, 0, 0, 0, 0, 0, 0, 0, 0, 0, 0], p := [(0, 0)], f := { a := [], b := [], c := [] }, c := [false, false] } { a := [], b := [], c := [] } { a := true, b := false, c := false, x := 3, y := 0, z := 0 })))))) fun a =>
 Option.bind (decI (encI (Ls.b (Hp.f (Prod.fst (takeE { w := [0, 0, 0, 0, 0, 0, 0, 0, 0, 0, 0, 0, 0, 0, 0, 0], p := [(0, 0)], f := { a := [], b := [], c := [] }, c := [false, false] } { a := [], b := [], c := [] } { a := true, b := false, c := false, x := 3, y := 0, z := 0 })))))) fun b =>
 Option.bind (decI (encI (Ls.c (Hp.f (Prod.fst (takeE { w := [0, 0, 0, 0, 0, 0, 0, 0, 0, 0, 0, 0, 0, 0, 0, 0], p := [(0, 0)], f := { a := [], b := [], c := [] }, c := [false, false] } { a := [], b := [], c := [] } { a := true, b := false, c := false, x := 3, y := 0, z := 0 })))))) fun c =>
 Option.bind (decBs (encBs (Hp.c (Prod.fst (takeE { w := [0, 0, 0, 0, 0, 0, 0, 0, 0, 0, 0, 0, 0, 0, 0, 0], p := [(0, 0)], f := { a := [], b := [], c := [] }, c := [false, false] } { a := [], b := [], c := [] } { a := true, b := false, c := false, x := 3, y := 0, z := 0 }))))) fun d => some { w := w, p := p, f := { a := a, b := b, c := c }, c := d }) fun a =>
 Option.bind (decLs [[CV.sl 1 (encI (Ls.a (Prod.fst (Prod.snd (takeE { w := [0, 0, 0, 0, 0, 0, 0, 0, 0, 0, 0, 0, 0, 0, 0, 0], p := [(0, 0)], f := { a := [], b := [], c := [] }, c := [false, false] } { a := [], b := [], c := [] } { a := true, b := false, c := false, x := 3, y := 0, z := 0 }))))), CV.sl 1 (encI (Ls.b (Prod.fst (Prod.snd (takeE { w := [0, 0, 0, 0, 0, 0, 0, 0, 0, 0, 0, 0, 0, 0, 0, 0], p := [(0, 0)], f := { a := [], b := [], c := [] }, c := [false, false] } { a := [], b := [], c := [] } { a := true, b := false, c := false, x := 3, y := 0, z := 0 }))))), CV.sl 1 (encI (Ls.c (Prod.fst (Prod.snd (takeE { w := [0, 0, 0, 0, 0, 0, 0, 0, 0, 0, 0, 0, 0, 0, 0, 0], p := [(0, 0)], f := { a := [], b := [], c := [] }, c := [false, false] } { a := [], b := [], c := [] } { a := true, b := false, c := false, x := 3, y := 0, z := 0 })))))]]) fun b =>
 bif smH a && smLs (Hp.f a :: b) then
 bif wholeHV a b then
 bif preT { w := [0, 0, 0, 0, 0, 0, 0, 0, 0, 0, 0, 0, 0, 0, 0, 0], p := [(0, 0)], f := { a := [], b := [], c := [] }, c := [false, false] } { a := [], b := [], c := [] } then
 K (CV.bool (roomT { w := [0, 0, 0, 0, 0, 0, 0, 0, 0, 0, 0, 0, 0, 0, 0, 0], p := [(0, 0)], f := { a := [], b := [], c := [] }, c := [false, false] } { a := [], b := [], c := [] } 3)) []
 else none
 else K (CV.bool false) []
 else none
 else K (CV.bool false) []
 else K (CV.bool false) []
 else K (CV.bool false) []
 else K (CV.bool false) []
 else none
 else none
 else none := by kernel_rfl

theorem hN_shaped : shapedE hN = true := by kernel_rfl
theorem hN_listed : listedV hN hN.f = true := by kernel_rfl
theorem hN_listedE : listedV hN Ls.e = true := by kernel_rfl
theorem hN_cells : cellAs hN.p = [] := by kernel_rfl
theorem hN_apart : apartV [hN.f, Ls.e] = true := by
  have h1 : catI [hN.f, Ls.e] = [] := rfl
  have h2 : sortI [] = [] := by simp [sortI]
  unfold apartV
  rw [h1, h2]
  rfl
theorem hN_may : mayHpV hN [Ls.e] = true := by
  unfold mayHpV
  rw [hN_shaped, hN_cells, hN_apart]
  simp only [List.all_cons, List.all_nil, hN_listed, hN_listedE, Bool.and_self]
theorem hN_whole : wholeHV hN [Ls.e] = true := by
  unfold wholeHV
  rw [hN_may, hN_cells]
  rfl
def hK : Hp := ⟨[0, 0, 0, 0, 25, 0, 0, 0, 0, 0, 0, 0, 0, 0, 0, 0], [(1, 1)], ⟨[], [28, 24], []⟩, [false, false]⟩
theorem takeN : takeE hN Ls.e (hdN 3) = (hK, ⟨[], [16], []⟩, 20, 0) := by
  rw [take_sm (by kernel_rfl) (by kernel_rfl) (by rw [hN_may]; rfl) (by kernel_rfl) (by kernel_rfl)]
  kernel_rfl
theorem hK_whole : wholeHV hK [⟨[], [16], []⟩] = true := by
  have l1 : lenL hN.f 90000 := smL1_len (by kernel_rfl)
  have l2 : lenL Ls.e 90000 := smL1_len (by kernel_rfl)
  have hm : MayF hN [Ls.e] := mayF_iff.1 hN_may
  have e0 := takeN
  rcases take_fin (hdN 3) l1 l2 with ⟨e, _⟩ | ⟨_, _, _, _, e⟩ | ⟨_, _, _, _, _, e, _⟩ | ⟨_, _, _, _, _, e, _⟩ | ⟨_, _, _, _, _, k, d, a, e, t, _⟩ | ⟨_, _, _, _, _, k, a, e, t, _⟩
  · rw [e] at e0; cases e0
  · rw [e] at e0; cases e0
  · rw [e] at e0; cases e0
  · rw [e] at e0; cases e0
  · rw [e] at e0
    cases e0
    exact t.whole hN_whole
  · rw [e] at e0
    cases e0
def gAwakeA : Callee := g0 true (.bool true)
theorem awakeA_good : GoodC Pr 21 gAwakeA :=
  good0 ((CxOK.baseN (Good.cons new_good (Good.cons take_good (Good.cons ⟨ints_sound, ints_nat⟩ (Good.cons whole_good (Good.cons roomT_good Good.nil))))) GoodI.nil (eqOK_none fun _ => rfl)).sound (cx := z21) Tryz.func21 (by kernel_rfl) (by kernel_rfl) rfl (by kernel_rfl)) fun _ _ β K => by
    rw [zr21 ()]
    have e0 : ({ w := [0, 0, 0, 0, 0, 0, 0, 0, 0, 0, 0, 0, 0, 0, 0, 0], p := [(0, 0)], f := Ls.e, c := [false, false] } : Hp) = hN := rfl
    have e1 : ({ a := [], b := [], c := [] } : Ls) = Ls.e := rfl
    have e2 : ({ a := true, b := false, c := false, x := 3, y := 0, z := 0 } : Hd) = hdN 3 := rfl
    have eA : ∀ h : Hp, (⟨h.w, h.p, ⟨h.f.a, h.f.b, h.f.c⟩, h.c⟩ : Hp) = h := fun _ => rfl
    have r1 : roomT hN Ls.e 3 = true := by unfold roomT; rw [takeN]; rfl
    have r2 : preT hN Ls.e = true := by kernel_rfl
    have d1 : decLs [[CV.sl 1 (encI []), CV.sl 1 (encI [16]), CV.sl 1 (encI [])]] = some [⟨[], [16], []⟩] := decLs_map [⟨[], [16], []⟩]
    have s1 : (smH hK && smLs (hK.f :: [⟨[], [16], []⟩])) = true := by kernel_rfl
    simp only [e0, e1, e2, takeN, r1, r2, cond_true, d1, decI_map, decP_map, decBs_enc, Option.bind_some, eA, s1, hK_whole]
    rfl
end Go.Ab

namespace Go.Ab
open Go
open Go.Proofs
noncomputable abbrev z5 : Cx := cxN Pr Tryz.f5 [(21, gAwakeA), (22, gFew), (27, gMayHp), (28, gOf3), (23, gTake), (29, gRun3), (30, gFind), (26, gRoomT)]
set_option maxRecDepth 100000 in
theorem zr5 (h : Hp) (ls : List Ls) (n : Int) (β : Type) (K : CV → List (List CV) → Option β) : fnK z5 Tryz.f5 [cHp.enc h, cLss.enc ls, cI.enc n] [] K =
 Option.bind (Option.bind (decI (encI (Hp.w h))) fun w =>
 Option.bind (decP (List.map encP (Hp.p h))) fun p =>
 Option.bind (decI (encI (Ls.a (Hp.f h)))) fun a =>
 Option.bind (decI (encI (Ls.b (Hp.f h)))) fun b =>
 Option.bind (decI (encI (Ls.c (Hp.f h)))) fun c =>
 Option.bind (decBs (encBs (Hp.c h))) fun d => some { w := w, p := p, f := { a := a, b := b, c := c }, c := d }) fun a =>
 Option.bind (decLs (List.map encLs ls)) fun b =>
 bif Nat.ble (List.length b) 9223372036854775807 then
 bif !fewV a b then K (CV.bool true) []
 else
 bif decide ((↑(List.length (List.map encLs ls)) : Int) < 1) then K (CV.bool true) []
 else
 Option.bind (Option.bind (decI (encI (Hp.w h))) fun w =>
 Option.bind (decP (List.map encP (Hp.p h))) fun p =>
 Option.bind (decI (encI (Ls.a (Hp.f h)))) fun a =>
 Option.bind (decI (encI (Ls.b (Hp.f h)))) fun b =>
 Option.bind (decI (encI (Ls.c (Hp.f h)))) fun c =>
 Option.bind (decBs (encBs (Hp.c h))) fun d => some { w := w, p := p, f := { a := a, b := b, c := c }, c := d }) fun a =>
 Option.bind (decLs (List.map encLs ls)) fun b =>
 bif smH a && smLs (Hp.f a :: b) then
 bif !mayHpV a b then K (CV.bool true) []
 else
 bif Prod.snd (ofE n) != 0 then
 Option.bind (rdE (List.map encLs ls) 0) fun c =>
 Option.bind c[0]? fun x =>
 Option.bind (asL 1 x) fun l =>
 Option.bind c[1]? fun x =>
 Option.bind (asL 1 x) fun l_1 =>
 Option.bind c[2]? fun x =>
 Option.bind (asL 1 x) fun l_2 =>
 Option.bind (Option.bind (decI (encI (Hp.w h))) fun w =>
 Option.bind (decP (List.map encP (Hp.p h))) fun p =>
 Option.bind (decI (encI (Ls.a (Hp.f h)))) fun a =>
 Option.bind (decI (encI (Ls.b (Hp.f h)))) fun b =>
 Option.bind (decI (encI (Ls.c (Hp.f h)))) fun c =>
 Option.bind (decBs (encBs (Hp.c h))) fun d => some { w := w, p := p, f := { a := a, b := b, c := c }, c := d }) fun a =>
 Option.bind (Option.bind (decI l) fun a =>
 Option.bind (decI l_1) fun b =>
 Option.bind (decI l_2) fun c => some { a := a, b := b, c := c }) fun b =>
 bif preT a b then
 bif Prod.snd (ofE n) != 0 then
 bif Prod.snd (Prod.snd (Prod.snd (takeE a b { a := true, b := false, c := false, x := n, y := 0, z := 0 }))) == Prod.snd (ofE n) then
 K (CV.bool true) []
 else
 K (CV.bool (Prod.snd (Prod.snd (Prod.snd (takeE a b { a := true, b := false, c := false, x := n, y := 0, z := 0 }))) == 1)) []
 else
 Option.bind (decP (List.map encP (Hp.p h))) fun a_1 =>
 bif sm a_1 then
 bif Option.isSome (findE a_1 1) then
 bif true == (Prod.snd (Prod.snd (Prod.snd (takeE a b { a := true, b := false, c := false, x := n, y := 0, z := 0 }))) == 0) then
 Option.bind (rdE (List.map encLs ls) 0) fun c =>
 Option.bind c[0]? fun x =>
 Option.bind (asL 1 x) fun l =>
 Option.bind c[1]? fun x =>
 Option.bind (asL 1 x) fun l_3 =>
 Option.bind c[2]? fun x =>
 Option.bind (asL 1 x) fun l_4 =>
 Option.bind (Option.bind (decI (encI (Hp.w h))) fun w =>
 Option.bind (decP (List.map encP (Hp.p h))) fun p =>
 Option.bind (decI (encI (Ls.a (Hp.f h)))) fun a =>
 Option.bind (decI (encI (Ls.b (Hp.f h)))) fun b =>
 Option.bind (decI (encI (Ls.c (Hp.f h)))) fun c =>
 Option.bind (decBs (encBs (Hp.c h))) fun d => some { w := w, p := p, f := { a := a, b := b, c := c }, c := d }) fun a =>
 Option.bind (Option.bind (decI l) fun a =>
 Option.bind (decI l_3) fun b =>
 Option.bind (decI l_4) fun c => some { a := a, b := b, c := c }) fun b =>
 bif preT a b then
 K (CV.bool (roomT a b n == true)) []
 else none
 else K (CV.bool false) []
 else
 bif decide ((↑(List.length (encI (Ls.a (Hp.f h)))) : Int) > 0) then
 bif true == (Prod.snd (Prod.snd (Prod.snd (takeE a b { a := true, b := false, c := false, x := n, y := 0, z := 0 }))) == 0) then
 Option.bind (rdE (List.map encLs ls) 0) fun c =>
 Option.bind c[0]? fun x =>
 Option.bind (asL 1 x) fun l =>
 Option.bind c[1]? fun x =>
 Option.bind (asL 1 x) fun l_3 =>
 Option.bind c[2]? fun x =>
 Option.bind (asL 1 x) fun l_4 =>
 Option.bind (Option.bind (decI (encI (Hp.w h))) fun w =>
 Option.bind (decP (List.map encP (Hp.p h))) fun p =>
 Option.bind (decI (encI (Ls.a (Hp.f h)))) fun a =>
 Option.bind (decI (encI (Ls.b (Hp.f h)))) fun b =>
 Option.bind (decI (encI (Ls.c (Hp.f h)))) fun c =>
 Option.bind (decBs (encBs (Hp.c h))) fun d => some { w := w, p := p, f := { a := a, b := b, c := c }, c := d }) fun a =>
 Option.bind (Option.bind (decI l) fun a =>
 Option.bind (decI l_3) fun b =>
 Option.bind (decI l_4) fun c => some { a := a, b := b, c := c }) fun b =>
 bif preT a b then
 K (CV.bool (roomT a b n == true)) []
 else none
 else K (CV.bool false) []
 else
 Option.bind (rdE (List.map encLs ls) 0) fun c =>
 Option.bind c[0]? fun x =>
 Option.bind (asL 1 x) fun l =>
 bif decide ((↑(List.length l) : Int) > 0) == (Prod.snd (Prod.snd (Prod.snd (takeE a b { a := true, b := false, c := false, x := n, y := 0, z := 0 }))) == 0) then
 bif decide ((↑(List.length l) : Int) > 0) then
 Option.bind (rdE (List.map encLs ls) 0) fun c =>
 Option.bind c[0]? fun x =>
 Option.bind (asL 1 x) fun l_3 =>
 Option.bind c[1]? fun x =>
 Option.bind (asL 1 x) fun l_4 =>
 Option.bind c[2]? fun x =>
 Option.bind (asL 1 x) fun l_5 =>
 Option.bind (Option.bind (decI (encI (Hp.w h))) fun w =>
 Option.bind (decP (List.map encP (Hp.p h))) fun p =>
 Option.bind (decI (encI (Ls.a (Hp.f h)))) fun a =>
 Option.bind (decI (encI (Ls.b (Hp.f h)))) fun b =>
 Option.bind (decI (encI (Ls.c (Hp.f h)))) fun c =>
 Option.bind (decBs (encBs (Hp.c h))) fun d => some { w := w, p := p, f := { a := a, b := b, c := c }, c := d }) fun a =>
 Option.bind (Option.bind (decI l_3) fun a =>
 Option.bind (decI l_4) fun b =>
 Option.bind (decI l_5) fun c => some { a := a, b := b, c := c }) fun b =>
 bif preT a b then
 K (CV.bool (roomT a b n == decide ((↑(List.length l) : Int) > 0))) []
 else none
 else
 bif Prod.snd (Prod.snd (Prod.snd (takeE a b { a := true, b := false, c := false, x := n, y := 0, z := 0 }))) == 4 then
 Option.bind (rdE (List.map encLs ls) 0) fun c =>
 Option.bind c[0]? fun x =>
 Option.bind (asL 1 x) fun l_3 =>
 Option.bind c[1]? fun x =>
 Option.bind (asL 1 x) fun l_4 =>
 Option.bind c[2]? fun x =>
 Option.bind (asL 1 x) fun l_5 =>
 Option.bind (Option.bind (decI (encI (Hp.w h))) fun w =>
 Option.bind (decP (List.map encP (Hp.p h))) fun p =>
 Option.bind (decI (encI (Ls.a (Hp.f h)))) fun a =>
 Option.bind (decI (encI (Ls.b (Hp.f h)))) fun b =>
 Option.bind (decI (encI (Ls.c (Hp.f h)))) fun c =>
 Option.bind (decBs (encBs (Hp.c h))) fun d => some { w := w, p := p, f := { a := a, b := b, c := c }, c := d }) fun a =>
 Option.bind (Option.bind (decI l_3) fun a =>
 Option.bind (decI l_4) fun b =>
 Option.bind (decI l_5) fun c => some { a := a, b := b, c := c }) fun b =>
 bif preT a b then
 K (CV.bool (roomT a b n == decide ((↑(List.length l) : Int) > 0))) []
 else none
 else K (CV.bool false) []
 else K (CV.bool false) []
 else none
 else none
 else
 bif Prod.fst (ofE n) == 0 then
 Option.bind (rdE (List.map encLs ls) 0) fun c =>
 Option.bind c[0]? fun x =>
 Option.bind (asL 1 x) fun l =>
 Option.bind c[1]? fun x =>
 Option.bind (asL 1 x) fun l_1 =>
 Option.bind c[2]? fun x =>
 Option.bind (asL 1 x) fun l_2 =>
 Option.bind (Option.bind (decI (encI (Hp.w h))) fun w =>
 Option.bind (decP (List.map encP (Hp.p h))) fun p =>
 Option.bind (decI (encI (Ls.a (Hp.f h)))) fun a =>
 Option.bind (decI (encI (Ls.b (Hp.f h)))) fun b =>
 Option.bind (decI (encI (Ls.c (Hp.f h)))) fun c =>
 Option.bind (decBs (encBs (Hp.c h))) fun d => some { w := w, p := p, f := { a := a, b := b, c := c }, c := d }) fun a =>
 Option.bind (Option.bind (decI l) fun a =>
 Option.bind (decI l_1) fun b =>
 Option.bind (decI l_2) fun c => some { a := a, b := b, c := c }) fun b =>
 bif preT a b then
 Option.bind (decP (List.map encP (Hp.p h))) fun a_1 =>
 bif sm a_1 then
 bif Option.isSome (findE a_1 1) then
 bif true == (Prod.snd (Prod.snd (Prod.snd (takeE a b { a := true, b := false, c := false, x := n, y := 0, z := 0 }))) == 0) then
 Option.bind (rdE (List.map encLs ls) 0) fun c =>
 Option.bind c[0]? fun x =>
 Option.bind (asL 1 x) fun l =>
 Option.bind c[1]? fun x =>
 Option.bind (asL 1 x) fun l_3 =>
 Option.bind c[2]? fun x =>
 Option.bind (asL 1 x) fun l_4 =>
 Option.bind (Option.bind (decI (encI (Hp.w h))) fun w =>
 Option.bind (decP (List.map encP (Hp.p h))) fun p =>
 Option.bind (decI (encI (Ls.a (Hp.f h)))) fun a =>
 Option.bind (decI (encI (Ls.b (Hp.f h)))) fun b =>
 Option.bind (decI (encI (Ls.c (Hp.f h)))) fun c =>
 Option.bind (decBs (encBs (Hp.c h))) fun d => some { w := w, p := p, f := { a := a, b := b, c := c }, c := d }) fun a =>
 Option.bind (Option.bind (decI l) fun a =>
 Option.bind (decI l_3) fun b =>
 Option.bind (decI l_4) fun c => some { a := a, b := b, c := c }) fun b =>
 bif preT a b then
 K (CV.bool (roomT a b n == true)) []
 else none
 else K (CV.bool false) []
 else
 bif decide ((↑(List.length (encI (Ls.a (Hp.f h)))) : Int) > 0) then
 bif true == (Prod.snd (Prod.snd (Prod.snd (takeE a b { a := true, b := false, c := false, x := n, y := 0, z := 0 }))) == 0) then
 Option.bind (rdE (List.map encLs ls) 0) fun c =>
 Option.bind c[0]? fun x =>
 Option.bind (asL 1 x) fun l =>
 Option.bind c[1]? fun x =>
 Option.bind (asL 1 x) fun l_3 =>
 Option.bind c[2]? fun x =>
 Option.bind (asL 1 x) fun l_4 =>
 Option.bind (Option.bind (decI (encI (Hp.w h))) fun w =>
 Option.bind (decP (List.map encP (Hp.p h))) fun p =>
 Option.bind (decI (encI (Ls.a (Hp.f h)))) fun a =>
 Option.bind (decI (encI (Ls.b (Hp.f h)))) fun b =>
 Option.bind (decI (encI (Ls.c (Hp.f h)))) fun c =>
 Option.bind (decBs (encBs (Hp.c h))) fun d => some { w := w, p := p, f := { a := a, b := b, c := c }, c := d }) fun a =>
 Option.bind (Option.bind (decI l) fun a =>
 Option.bind (decI l_3) fun b =>
 Option.bind (decI l_4) fun c => some { a := a, b := b, c := c }) fun b =>
 bif preT a b then
 K (CV.bool (roomT a b n == true)) []
 else none
 else K (CV.bool false) []
 else
 Option.bind (rdE (List.map encLs ls) 0) fun c =>
 Option.bind c[0]? fun x =>
 Option.bind (asL 1 x) fun l =>
 bif decide ((↑(List.length l) : Int) > 0) == (Prod.snd (Prod.snd (Prod.snd (takeE a b { a := true, b := false, c := false, x := n, y := 0, z := 0 }))) == 0) then
 bif decide ((↑(List.length l) : Int) > 0) then
 Option.bind (rdE (List.map encLs ls) 0) fun c =>
 Option.bind c[0]? fun x =>
 Option.bind (asL 1 x) fun l_3 =>
 Option.bind c[1]? fun x =>
 Option.bind (asL 1 x) fun l_4 =>
 Option.bind c[2]? fun x =>
 Option.bind (asL 1 x) fun l_5 =>
 Option.bind (Option.bind (decI (encI (Hp.w h))) fun w =>
 Option.bind (decP (List.map encP (Hp.p h))) fun p =>
 Option.bind (decI (encI (Ls.a (Hp.f h)))) fun a =>
 Option.bind (decI (encI (Ls.b (Hp.f h)))) fun b =>
 Option.bind (decI (encI (Ls.c (Hp.f h)))) fun c =>
 Option.bind (decBs (encBs (Hp.c h))) fun d => some { w := w, p := p, f := { a := a, b := b, c := c }, c := d }) fun a =>
 Option.bind (Option.bind (decI l_3) fun a =>
 Option.bind (decI l_4) fun b =>
 Option.bind (decI l_5) fun c => some { a := a, b := b, c := c }) fun b =>
 bif preT a b then
 K (CV.bool (roomT a b n == decide ((↑(List.length l) : Int) > 0))) []
 else none
 else
 bif Prod.snd (Prod.snd (Prod.snd (takeE a b { a := true, b := false, c := false, x := n, y := 0, z := 0 }))) == 4 then
 Option.bind (rdE (List.map encLs ls) 0) fun c =>
 Option.bind c[0]? fun x =>
 Option.bind (asL 1 x) fun l_3 =>
 Option.bind c[1]? fun x =>
 Option.bind (asL 1 x) fun l_4 =>
 Option.bind c[2]? fun x =>
 Option.bind (asL 1 x) fun l_5 =>
 Option.bind (Option.bind (decI (encI (Hp.w h))) fun w =>
 Option.bind (decP (List.map encP (Hp.p h))) fun p =>
 Option.bind (decI (encI (Ls.a (Hp.f h)))) fun a =>
 Option.bind (decI (encI (Ls.b (Hp.f h)))) fun b =>
 Option.bind (decI (encI (Ls.c (Hp.f h)))) fun c =>
 Option.bind (decBs (encBs (Hp.c h))) fun d => some { w := w, p := p, f := { a := a, b := b, c := c }, c := d }) fun a =>
 Option.bind (Option.bind (decI l_3) fun a =>
 Option.bind (decI l_4) fun b =>
 Option.bind (decI l_5) fun c => some { a := a, b := b, c := c }) fun b =>
 bif preT a b then
 K (CV.bool (roomT a b n == decide ((↑(List.length l) : Int) > 0))) []
 else none
 else K (CV.bool false) []
 else K (CV.bool false) []
 else none
 else none
 else
 bif Prod.fst (ofE n) == 1 then
 Option.bind (rdE (List.map encLs ls) 0) fun c =>
 Option.bind c[0]? fun x =>
 Option.bind (asL 1 x) fun l =>
 Option.bind c[1]? fun x =>
 Option.bind (asL 1 x) fun l_1 =>
 Option.bind c[2]? fun x =>
 Option.bind (asL 1 x) fun l_2 =>
 Option.bind (Option.bind (decI (encI (Hp.w h))) fun w =>
 Option.bind (decP (List.map encP (Hp.p h))) fun p =>
 Option.bind (decI (encI (Ls.a (Hp.f h)))) fun a =>
 Option.bind (decI (encI (Ls.b (Hp.f h)))) fun b =>
 Option.bind (decI (encI (Ls.c (Hp.f h)))) fun c =>
 Option.bind (decBs (encBs (Hp.c h))) fun d => some { w := w, p := p, f := { a := a, b := b, c := c }, c := d }) fun a =>
 Option.bind (Option.bind (decI l) fun a =>
 Option.bind (decI l_1) fun b =>
 Option.bind (decI l_2) fun c => some { a := a, b := b, c := c }) fun b =>
 bif preT a b then
 Option.bind (decP (List.map encP (Hp.p h))) fun a_1 =>
 bif sm a_1 then
 bif Option.isSome (findE a_1 1) then
 bif true == (Prod.snd (Prod.snd (Prod.snd (takeE a b { a := true, b := false, c := false, x := n, y := 0, z := 0 }))) == 0) then
 Option.bind (rdE (List.map encLs ls) 0) fun c =>
 Option.bind c[0]? fun x =>
 Option.bind (asL 1 x) fun l =>
 Option.bind c[1]? fun x =>
 Option.bind (asL 1 x) fun l_3 =>
 Option.bind c[2]? fun x =>
 Option.bind (asL 1 x) fun l_4 =>
 Option.bind (Option.bind (decI (encI (Hp.w h))) fun w =>
 Option.bind (decP (List.map encP (Hp.p h))) fun p =>
 Option.bind (decI (encI (Ls.a (Hp.f h)))) fun a =>
 Option.bind (decI (encI (Ls.b (Hp.f h)))) fun b =>
 Option.bind (decI (encI (Ls.c (Hp.f h)))) fun c =>
 Option.bind (decBs (encBs (Hp.c h))) fun d => some { w := w, p := p, f := { a := a, b := b, c := c }, c := d }) fun a =>
 Option.bind (Option.bind (decI l) fun a =>
 Option.bind (decI l_3) fun b =>
 Option.bind (decI l_4) fun c => some { a := a, b := b, c := c }) fun b =>
 bif preT a b then
 K (CV.bool (roomT a b n == true)) []
 else none
 else K (CV.bool false) []
 else
 bif decide ((↑(List.length (encI (Ls.b (Hp.f h)))) : Int) > 0) then
 bif true == (Prod.snd (Prod.snd (Prod.snd (takeE a b { a := true, b := false, c := false, x := n, y := 0, z := 0 }))) == 0) then
 Option.bind (rdE (List.map encLs ls) 0) fun c =>
 Option.bind c[0]? fun x =>
 Option.bind (asL 1 x) fun l =>
 Option.bind c[1]? fun x =>
 Option.bind (asL 1 x) fun l_3 =>
 Option.bind c[2]? fun x =>
 Option.bind (asL 1 x) fun l_4 =>
 Option.bind (Option.bind (decI (encI (Hp.w h))) fun w =>
 Option.bind (decP (List.map encP (Hp.p h))) fun p =>
 Option.bind (decI (encI (Ls.a (Hp.f h)))) fun a =>
 Option.bind (decI (encI (Ls.b (Hp.f h)))) fun b =>
 Option.bind (decI (encI (Ls.c (Hp.f h)))) fun c =>
 Option.bind (decBs (encBs (Hp.c h))) fun d => some { w := w, p := p, f := { a := a, b := b, c := c }, c := d }) fun a =>
 Option.bind (Option.bind (decI l) fun a =>
 Option.bind (decI l_3) fun b =>
 Option.bind (decI l_4) fun c => some { a := a, b := b, c := c }) fun b =>
 bif preT a b then
 K (CV.bool (roomT a b n == true)) []
 else none
 else K (CV.bool false) []
 else
 Option.bind (rdE (List.map encLs ls) 0) fun c =>
 Option.bind c[1]? fun x =>
 Option.bind (asL 1 x) fun l =>
 bif decide ((↑(List.length l) : Int) > 0) == (Prod.snd (Prod.snd (Prod.snd (takeE a b { a := true, b := false, c := false, x := n, y := 0, z := 0 }))) == 0) then
 bif decide ((↑(List.length l) : Int) > 0) then
 Option.bind (rdE (List.map encLs ls) 0) fun c =>
 Option.bind c[0]? fun x =>
 Option.bind (asL 1 x) fun l_3 =>
 Option.bind c[1]? fun x =>
 Option.bind (asL 1 x) fun l_4 =>
 Option.bind c[2]? fun x =>
 Option.bind (asL 1 x) fun l_5 =>
 Option.bind (Option.bind (decI (encI (Hp.w h))) fun w =>
 Option.bind (decP (List.map encP (Hp.p h))) fun p =>
 Option.bind (decI (encI (Ls.a (Hp.f h)))) fun a =>
 Option.bind (decI (encI (Ls.b (Hp.f h)))) fun b =>
 Option.bind (decI (encI (Ls.c (Hp.f h)))) fun c =>
 Option.bind (decBs (encBs (Hp.c h))) fun d => some { w := w, p := p, f := { a := a, b := b, c := c }, c := d }) fun a =>
 Option.bind (Option.bind (decI l_3) fun a =>
 Option.bind (decI l_4) fun b =>
 Option.bind (decI l_5) fun c => some { a := a, b := b, c := c }) fun b =>
 bif preT a b then
 K (CV.bool (roomT a b n == decide ((↑(List.length l) : Int) > 0))) []
 else none
 else
 bif Prod.snd (Prod.snd (Prod.snd (takeE a b { a := true, b := false, c := false, x := n, y := 0, z := 0 }))) == 4 then
 Option.bind (rdE (List.map encLs ls) 0) fun c =>
 Option.bind c[0]? fun x =>
 Option.bind (asL 1 x) fun l_3 =>
 Option.bind c[1]? fun x =>
 Option.bind (asL 1 x) fun l_4 =>
 Option.bind c[2]? fun x =>
 Option.bind (asL 1 x) fun l_5 =>
 Option.bind (Option.bind (decI (encI (Hp.w h))) fun w =>
 Option.bind (decP (List.map encP (Hp.p h))) fun p =>
 Option.bind (decI (encI (Ls.a (Hp.f h)))) fun a =>
 Option.bind (decI (encI (Ls.b (Hp.f h)))) fun b =>
 Option.bind (decI (encI (Ls.c (Hp.f h)))) fun c =>
 Option.bind (decBs (encBs (Hp.c h))) fun d => some { w := w, p := p, f := { a := a, b := b, c := c }, c := d }) fun a =>
 Option.bind (Option.bind (decI l_3) fun a =>
 Option.bind (decI l_4) fun b =>
 Option.bind (decI l_5) fun c => some { a := a, b := b, c := c }) fun b =>
 bif preT a b then
 K (CV.bool (roomT a b n == decide ((↑(List.length l) : Int) > 0))) []
 else none
 else K (CV.bool false) []
 else K (CV.bool false) []
 else none
 else none
 else
 bif Prod.fst (ofE n) == 2 then
 Option.bind (rdE (List.map encLs ls) 0) fun c =>
 Option.bind c[0]? fun x =>
 Option.bind (asL 1 x) fun l =>
 Option.bind c[1]? fun x =>
 Option.bind (asL 1 x) fun l_1 =>
 Option.bind c[2]? fun x =>
 Option.bind (asL 1 x) fun l_2 =>
 Option.bind (Option.bind (decI (encI (Hp.w h))) fun w =>
 Option.bind (decP (List.map encP (Hp.p h))) fun p =>
 Option.bind (decI (encI (Ls.a (Hp.f h)))) fun a =>
 Option.bind (decI (encI (Ls.b (Hp.f h)))) fun b =>
 Option.bind (decI (encI (Ls.c (Hp.f h)))) fun c =>
 Option.bind (decBs (encBs (Hp.c h))) fun d => some { w := w, p := p, f := { a := a, b := b, c := c }, c := d }) fun a =>
 Option.bind (Option.bind (decI l) fun a =>
 Option.bind (decI l_1) fun b =>
 Option.bind (decI l_2) fun c => some { a := a, b := b, c := c }) fun b =>
 bif preT a b then
 Option.bind (decP (List.map encP (Hp.p h))) fun a_1 =>
 bif sm a_1 then
 bif Option.isSome (findE a_1 1) then
 bif true == (Prod.snd (Prod.snd (Prod.snd (takeE a b { a := true, b := false, c := false, x := n, y := 0, z := 0 }))) == 0) then
 Option.bind (rdE (List.map encLs ls) 0) fun c =>
 Option.bind c[0]? fun x =>
 Option.bind (asL 1 x) fun l =>
 Option.bind c[1]? fun x =>
 Option.bind (asL 1 x) fun l_3 =>
 Option.bind c[2]? fun x =>
 Option.bind (asL 1 x) fun l_4 =>
 Option.bind (Option.bind (decI (encI (Hp.w h))) fun w =>
 Option.bind (decP (List.map encP (Hp.p h))) fun p =>
 Option.bind (decI (encI (Ls.a (Hp.f h)))) fun a =>
 Option.bind (decI (encI (Ls.b (Hp.f h)))) fun b =>
 Option.bind (decI (encI (Ls.c (Hp.f h)))) fun c =>
 Option.bind (decBs (encBs (Hp.c h))) fun d => some { w := w, p := p, f := { a := a, b := b, c := c }, c := d }) fun a =>
 Option.bind (Option.bind (decI l) fun a =>
 Option.bind (decI l_3) fun b =>
 Option.bind (decI l_4) fun c => some { a := a, b := b, c := c }) fun b =>
 bif preT a b then
 K (CV.bool (roomT a b n == true)) []
 else none
 else K (CV.bool false) []
 else
 bif decide ((↑(List.length (encI (Ls.c (Hp.f h)))) : Int) > 0) then
 bif true == (Prod.snd (Prod.snd (Prod.snd (takeE a b { a := true, b := false, c := false, x := n, y := 0, z := 0 }))) == 0) then
 Option.bind (rdE (List.map encLs ls) 0) fun c =>
 Option.bind c[0]? fun x =>
 Option.bind (asL 1 x) fun l =>
 Option.bind c[1]? fun x =>
 Option.bind (asL 1 x) fun l_3 =>
 Option.bind c[2]? fun x =>
 Option.bind (asL 1 x) fun l_4 =>
 Option.bind (Option.bind (decI (encI (Hp.w h))) fun w =>
 Option.bind (decP (List.map encP (Hp.p h))) fun p =>
 Option.bind (decI (encI (Ls.a (Hp.f h)))) fun a =>
 Option.bind (decI (encI (Ls.b (Hp.f h)))) fun b =>
 Option.bind (decI (encI (Ls.c (Hp.f h)))) fun c =>
 Option.bind (decBs (encBs (Hp.c h))) fun d => some { w := w, p := p, f := { a := a, b := b, c := c }, c := d }) fun a =>
 Option.bind (Option.bind (decI l) fun a =>
 Option.bind (decI l_3) fun b =>
 Option.bind (decI l_4) fun c => some { a := a, b := b, c := c }) fun b =>
 bif preT a b then
 K (CV.bool (roomT a b n == true)) []
 else none
 else K (CV.bool false) []
 else
 Option.bind (rdE (List.map encLs ls) 0) fun c =>
 Option.bind c[2]? fun x =>
 Option.bind (asL 1 x) fun l =>
 bif decide ((↑(List.length l) : Int) > 0) == (Prod.snd (Prod.snd (Prod.snd (takeE a b { a := true, b := false, c := false, x := n, y := 0, z := 0 }))) == 0) then
 bif decide ((↑(List.length l) : Int) > 0) then
 Option.bind (rdE (List.map encLs ls) 0) fun c =>
 Option.bind c[0]? fun x =>
 Option.bind (asL 1 x) fun l_3 =>
 Option.bind c[1]? fun x =>
 Option.bind (asL 1 x) fun l_4 =>
 Option.bind c[2]? fun x =>
 Option.bind (asL 1 x) fun l_5 =>
 Option.bind (Option.bind (decI (encI (Hp.w h))) fun w =>
 Option.bind (decP (List.map encP (Hp.p h))) fun p =>
 Option.bind (decI (encI (Ls.a (Hp.f h)))) fun a =>
 Option.bind (decI (encI (Ls.b (Hp.f h)))) fun b =>
 Option.bind (decI (encI (Ls.c (Hp.f h)))) fun c =>
 Option.bind (decBs (encBs (Hp.c h))) fun d => some { w := w, p := p, f := { a := a, b := b, c := c }, c := d }) fun a =>
 Option.bind (Option.bind (decI l_3) fun a =>
 Option.bind (decI l_4) fun b =>
 Option.bind (decI l_5) fun c => some { a := a, b := b, c := c }) fun b =>
 bif preT a b then
 K (CV.bool (roomT a b n == decide ((↑(List.length l) : Int) > 0))) []
 else none
 else
 bif Prod.snd (Prod.snd (Prod.snd (takeE a b { a := true, b := false, c := false, x := n, y := 0, z := 0 }))) == 4 then
 Option.bind (rdE (List.map encLs ls) 0) fun c =>
 Option.bind c[0]? fun x =>
 Option.bind (asL 1 x) fun l_3 =>
 Option.bind c[1]? fun x =>
 Option.bind (asL 1 x) fun l_4 =>
 Option.bind c[2]? fun x =>
 Option.bind (asL 1 x) fun l_5 =>
 Option.bind (Option.bind (decI (encI (Hp.w h))) fun w =>
 Option.bind (decP (List.map encP (Hp.p h))) fun p =>
 Option.bind (decI (encI (Ls.a (Hp.f h)))) fun a =>
 Option.bind (decI (encI (Ls.b (Hp.f h)))) fun b =>
 Option.bind (decI (encI (Ls.c (Hp.f h)))) fun c =>
 Option.bind (decBs (encBs (Hp.c h))) fun d => some { w := w, p := p, f := { a := a, b := b, c := c }, c := d }) fun a =>
 Option.bind (Option.bind (decI l_3) fun a =>
 Option.bind (decI l_4) fun b =>
 Option.bind (decI l_5) fun c => some { a := a, b := b, c := c }) fun b =>
 bif preT a b then
 K (CV.bool (roomT a b n == decide ((↑(List.length l) : Int) > 0))) []
 else none
 else K (CV.bool false) []
 else K (CV.bool false) []
 else none
 else none
 else
 bif Prod.fst (ofE n) == 3 then
 Option.bind (rdE (List.map encLs ls) 0) fun c =>
 Option.bind c[0]? fun x =>
 Option.bind (asL 1 x) fun l =>
 Option.bind c[1]? fun x =>
 Option.bind (asL 1 x) fun l_1 =>
 Option.bind c[2]? fun x =>
 Option.bind (asL 1 x) fun l_2 =>
 Option.bind (Option.bind (decI (encI (Hp.w h))) fun w =>
 Option.bind (decP (List.map encP (Hp.p h))) fun p =>
 Option.bind (decI (encI (Ls.a (Hp.f h)))) fun a =>
 Option.bind (decI (encI (Ls.b (Hp.f h)))) fun b =>
 Option.bind (decI (encI (Ls.c (Hp.f h)))) fun c =>
 Option.bind (decBs (encBs (Hp.c h))) fun d => some { w := w, p := p, f := { a := a, b := b, c := c }, c := d }) fun a =>
 Option.bind (Option.bind (decI l) fun a =>
 Option.bind (decI l_1) fun b =>
 Option.bind (decI l_2) fun c => some { a := a, b := b, c := c }) fun b =>
 bif preT a b then
 Option.bind (decP (List.map encP (Hp.p h))) fun a_1 =>
 bif sm a_1 then
 bif Option.isSome (findE a_1 (Prod.fst (runE n))) == (Prod.snd (Prod.snd (Prod.snd (takeE a b { a := true, b := false, c := false, x := n, y := 0, z := 0 }))) == 0) then
 bif Option.isSome (findE a_1 (Prod.fst (runE n))) then
 Option.bind (rdE (List.map encLs ls) 0) fun c =>
 Option.bind c[0]? fun x =>
 Option.bind (asL 1 x) fun l =>
 Option.bind c[1]? fun x =>
 Option.bind (asL 1 x) fun l_3 =>
 Option.bind c[2]? fun x =>
 Option.bind (asL 1 x) fun l_4 =>
 Option.bind (Option.bind (decI (encI (Hp.w h))) fun w =>
 Option.bind (decP (List.map encP (Hp.p h))) fun p =>
 Option.bind (decI (encI (Ls.a (Hp.f h)))) fun a =>
 Option.bind (decI (encI (Ls.b (Hp.f h)))) fun b =>
 Option.bind (decI (encI (Ls.c (Hp.f h)))) fun c =>
 Option.bind (decBs (encBs (Hp.c h))) fun d => some { w := w, p := p, f := { a := a, b := b, c := c }, c := d }) fun a =>
 Option.bind (Option.bind (decI l) fun a =>
 Option.bind (decI l_3) fun b =>
 Option.bind (decI l_4) fun c => some { a := a, b := b, c := c }) fun b =>
 bif preT a b then
 K (CV.bool (roomT a b n == Option.isSome (findE a_1 (Prod.fst (runE n))))) []
 else none
 else
 bif Prod.snd (Prod.snd (Prod.snd (takeE a b { a := true, b := false, c := false, x := n, y := 0, z := 0 }))) == 4 then
 Option.bind (rdE (List.map encLs ls) 0) fun c =>
 Option.bind c[0]? fun x =>
 Option.bind (asL 1 x) fun l =>
 Option.bind c[1]? fun x =>
 Option.bind (asL 1 x) fun l_3 =>
 Option.bind c[2]? fun x =>
 Option.bind (asL 1 x) fun l_4 =>
 Option.bind (Option.bind (decI (encI (Hp.w h))) fun w =>
 Option.bind (decP (List.map encP (Hp.p h))) fun p =>
 Option.bind (decI (encI (Ls.a (Hp.f h)))) fun a =>
 Option.bind (decI (encI (Ls.b (Hp.f h)))) fun b =>
 Option.bind (decI (encI (Ls.c (Hp.f h)))) fun c =>
 Option.bind (decBs (encBs (Hp.c h))) fun d => some { w := w, p := p, f := { a := a, b := b, c := c }, c := d }) fun a =>
 Option.bind (Option.bind (decI l) fun a =>
 Option.bind (decI l_3) fun b =>
 Option.bind (decI l_4) fun c => some { a := a, b := b, c := c }) fun b =>
 bif preT a b then
 K (CV.bool (roomT a b n == Option.isSome (findE a_1 (Prod.fst (runE n))))) []
 else none
 else K (CV.bool false) []
 else K (CV.bool false) []
 else none
 else none
 else none
 else none
 else none := by kernel_rfl

end Go.Ab

namespace Go.Ab
open Go
open Go.Proofs
end Go.Ab

namespace Go.Ab
open Go
open Go.Proofs
end Go.Ab

namespace Go.Ab
open Go
open Go.Proofs
theorem lightL {l : Ls} (h : lightV l = true) : lenL l 70 := light_get h
theorem pre_of {h : Hp} {c : Ls} {n m : Nat} (hF : Few h n) (hc : lenL c m) (h1 : n ≤ 90000) (h2 : m ≤ 90000) : preT h c = true := by
  obtain ⟨s1, s2, _, _⟩ := hF.sm h1
  have s3 : smL1 c = true := (show lenF ⟨[], [], c, []⟩ m from hc).smL h2 |>.2.1
  unfold preT
  rw [s1, s2, s3]; rfl
end Go.Ab

namespace Go.Ab
open Go
open Go.Proofs
end Go.Ab

namespace Go.Ab
open Go
open Go.Proofs
theorem len_pos (l : List Int) : decide (((l.length : Nat) : Int) > 0) = !l.isEmpty := by
  cases l with
  | nil => rfl
  | cons _ _ => exact decide_eq_true (by simp only [List.length_cons]; omega)
theorem ne_empty {l : List Int} (h : l ≠ []) : l.isEmpty = false := by
  cases l with
  | nil => exact absurd rfl h
  | cons _ _ => rfl
section
variable {h : Hp} {c : Ls} {n : Int}
theorem full_sm (hm : MayF h [c]) (lf : lenL h.f 90000) (lc : lenL c 90000) (o : ((ofE n).2 != 0) = false) (o3 : ((ofE n).1 == 3) = false) :
    (takeE h c (hdN n)).2.2.2 = bif (findE h.p 1).isSome then 0 else bif !(h.f.get (ofE n).1.toNat).isEmpty then 0 else bif !(c.get (ofE n).1.toNat).isEmpty then 0 else 4 := by
  obtain ⟨n1, n2⟩ := of_in o
  have x1 := mayH_N (n := n) (by omega) n2
  rcases take_fin (hdN n) lf lc with ⟨e, no⟩ | ⟨_, _, _, o', _⟩ | ⟨_, _, _, _, _, e, e1, e2, e3⟩ | ⟨_, _, _, _, o3', e, e3⟩ | ⟨_, _, _, _, _, k, d, a, e, t, r, ne, _⟩ | ⟨_, _, _, _, o3', k, a, e, _⟩
  · exact (no x1 rfl hm).elim
  · exact absurd (nE o) o'
  · have e1 : c.get (ofE n).1.toNat = [] := e1
    have e2 : h.f.get (ofE n).1.toNat = [] := e2
    rw [e, e1, e2, e3]; rfl
  · have o3' : ((ofE n).1 == 3) = true := o3'
    rw [o3] at o3'; cases o3'
  · rw [e]
    have ne : (findE h.p 1).isSome = true ∨ h.f.get (ofE n).1.toNat ≠ [] ∨ c.get (ofE n).1.toNat ≠ [] := ne
    rcases ne with g | g | g
    · rw [g]; rfl
    · rw [ne_empty g]; cases (findE h.p 1).isSome <;> rfl
    · rw [ne_empty g]; cases (findE h.p 1).isSome <;> cases (h.f.get (ofE n).1.toNat).isEmpty <;> rfl
  · have o3' : ((ofE n).1 == 3) = true := o3'
    rw [o3] at o3'; cases o3'
theorem full_lg (hm : MayF h [c]) (lf : lenL h.f 90000) (lc : lenL c 90000) (o : ((ofE n).2 != 0) = false) (o3 : ((ofE n).1 == 3) = true) :
    (takeE h c (hdN n)).2.2.2 = bif (findE h.p (runE n).1).isSome then 0 else 4 := by
  obtain ⟨n1, n2⟩ := of_in o
  have x1 := mayH_N (n := n) (by omega) n2
  rcases take_fin (hdN n) lf lc with ⟨e, no⟩ | ⟨_, _, _, o', _⟩ | ⟨_, _, _, _, o3', e, _⟩ | ⟨_, _, _, _, _, e, e3⟩ | ⟨_, _, _, _, o3', k, d, a, e, _⟩ | ⟨_, _, _, _, _, k, a, e, t, r, ne, _⟩
  · exact (no x1 rfl hm).elim
  · exact absurd (nE o) o'
  · have o3' : ((ofE n).1 == 3) = false := o3'
    rw [o3] at o3'; cases o3'
  · have e3 : findE h.p (runE n).1 = none := e3
    rw [e, e3]; rfl
  · have o3' : ((ofE n).1 == 3) = false := o3'
    rw [o3] at o3'; cases o3'
  · have ne : (findE h.p (runE n).1).isSome = true := ne
    rw [e, ne]; rfl
theorem full_err (hm : MayF h [c]) (lf : lenL h.f 90000) (lc : lenL c 90000) (o : ((ofE n).2 != 0) = true) : (takeE h c (hdN n)).2.2.2 = (ofE n).2 ∨ (takeE h c (hdN n)).2.2.2 = 1 := by
  rcases take_fin (hdN n) lf lc with ⟨e, no⟩ | ⟨_, _, _, _, e⟩ | ⟨_, _, _, o', _⟩ | ⟨_, _, _, o', _⟩ | ⟨_, _, _, o', _⟩ | ⟨_, _, _, o', _⟩
  · right; rw [e]; rfl
  · left; rw [e]; rfl
  all_goals
    have o' : ((ofE n).2 != 0) = false := o'
    rw [o] at o'; cases o'
end
def gLaw5 : Callee := g3 cHp cLss cI (fun _ ls _ => Nat.ble ls.length 9223372036854775807) fun _ _ _ => .bool true
theorem law5_good : GoodC Pr 5 gLaw5 :=
  good3 ((CxOK.baseN (Good.cons awakeA_good (Good.cons fewA_good (Good.cons mayHp_good (Good.cons of3_good (Good.cons take_good (Good.cons run3_good (Good.cons find_good (Good.cons roomT_good Good.nil)))))))) GoodI.nil (eqOK_none fun _ => rfl)).sound (cx := z5) Tryz.func5 (by kernel_rfl) (by kernel_rfl) rfl (by kernel_rfl)) fun h ls n hls β K => by
    have e : ∀ h : Hp, (⟨h.w, h.p, ⟨h.f.a, h.f.b, h.f.c⟩, h.c⟩ : Hp) = h := fun _ => rfl
    have el : ∀ l : Ls, (⟨l.a, l.b, l.c⟩ : Ls) = l := fun _ => rfl
    have eN : ∀ n : Int, ({ a := true, b := false, c := false, x := n, y := 0, z := 0 } : Hd) = hdN n := fun _ => rfl
    rw [zr5]
    simp only [decI_map, decP_map, decBs_enc, decLs_map, Option.bind_some, e, el, eN, hls, cond_true]
    cases hf : fewV h ls with
    | false => rfl
    | true =>
      simp only [Bool.not_true, cond_false]
      cases ls with
      | nil => rfl
      | cons l0 rest =>
        obtain ⟨hF, hsl, hli, h4⟩ := few_of hf
        obtain ⟨s1, s2, s3, s4⟩ := hF.sm (by omega)
        have hlen : decide (((List.length (List.map encLs (l0 :: rest)) : Nat) : Int) < 1) = false := decide_eq_false (by simp; omega)
        have h0 : rdE (List.map encLs (l0 :: rest)) 0 = some (encLs l0) := rfl
        have g1 : (encLs l0)[0]? = some (.sl 1 (encI l0.a)) := rfl
        have g2 : (encLs l0)[1]? = some (.sl 1 (encI l0.b)) := rfl
        have g3 : (encLs l0)[2]? = some (.sl 1 (encI l0.c)) := rfl
        have l1 := hF.f
        have l2 : lenL l0 70 := lightL (hli l0 (by simp))
        have lf : lenL h.f 90000 := lenL.mono l1 (by omega)
        have lc : lenL l0 90000 := l2.mono (by omega)
        simp only [hlen, cond_false, s1, hsl, Bool.and_self, cond_true]
        cases hmv : mayHpV h (l0 :: rest) with
        | false => rfl
        | true =>
          have hm : MayF h [l0] := (mayF_iff.1 hmv).one
          simp only [Bool.not_true, cond_false, h0, g1, g2, g3, asL_1, Option.bind_some, decI_map, el, pre_of hF l2 (show 70 ≤ 90000 by omega) (show 70 ≤ 90000 by omega), cond_true, s4, encI_len, len_pos]
          cases o : (ofE n).2 != 0 with
          | true =>
            simp only [cond_true]
            rcases full_err hm lf lc o with g | g
            · rw [g, beq_self_eq_true, cond_true]
            · rw [g]
              cases ((1 : Int) == (ofE n).2) <;> rfl
          | false =>
            have hr : roomT h l0 n = ((takeE h l0 (hdN n)).2.2.2 == 0) := rfl
            simp only [cond_false, hr]
            cases c0 : (ofE n).1 == 0 with
            | true =>
              have q := eq_of_beq c0
              have T := full_sm hm lf lc o (by rw [q]; rfl)
              rw [q] at T
              have T : (takeE h l0 (hdN n)).2.2.2 = bif (findE h.p 1).isSome then 0 else bif !h.f.a.isEmpty then 0 else bif !l0.a.isEmpty then 0 else 4 := T
              simp only [T, cond_true]
              cases (findE h.p 1).isSome <;> cases h.f.a.isEmpty <;> cases l0.a.isEmpty <;> rfl
            | false =>
              simp only [cond_false]
              cases c1 : (ofE n).1 == 1 with
              | true =>
                have q := eq_of_beq c1
                have T := full_sm hm lf lc o (by rw [q]; rfl)
                rw [q] at T
                have T : (takeE h l0 (hdN n)).2.2.2 = bif (findE h.p 1).isSome then 0 else bif !h.f.b.isEmpty then 0 else bif !l0.b.isEmpty then 0 else 4 := T
                simp only [T, cond_true]
                cases (findE h.p 1).isSome <;> cases h.f.b.isEmpty <;> cases l0.b.isEmpty <;> rfl
              | false =>
                simp only [cond_false]
                cases c2 : (ofE n).1 == 2 with
                | true =>
                  have q := eq_of_beq c2
                  have T := full_sm hm lf lc o (by rw [q]; rfl)
                  rw [q] at T
                  have T : (takeE h l0 (hdN n)).2.2.2 = bif (findE h.p 1).isSome then 0 else bif !h.f.c.isEmpty then 0 else bif !l0.c.isEmpty then 0 else 4 := T
                  simp only [T, cond_true]
                  cases (findE h.p 1).isSome <;> cases h.f.c.isEmpty <;> cases l0.c.isEmpty <;> rfl
                | false =>
                  simp only [cond_false]
                  cases c3 : (ofE n).1 == 3 with
                  | true =>
                    have T := full_lg hm lf lc o c3
                    simp only [T, cond_true]
                    cases (findE h.p (runE n).1).isSome <;> rfl
                  | false =>
                    obtain ⟨i0, i2⟩ := of_small o c3
                    simp only [beq_eq_false_iff_ne] at c0 c1 c2
                    omega
theorem law5_run (h : Hp) (ls : List Ls) (n : Int) (hl : ls.length ≤ 9223372036854775807) (β : Type) (K : CV → List (List CV) → Option β) : gLaw5.run [cHp.enc h, cLss.enc ls, cI.enc n] [] β K = K (.bool true) [] := by
  unfold gLaw5 g3
  dsimp only
  rw [cHp.de, cLss.de, cI.de]
  simp only [Option.bind_some, Nat.ble_eq_true_of_le hl, cond_true]
end Go.Ab
