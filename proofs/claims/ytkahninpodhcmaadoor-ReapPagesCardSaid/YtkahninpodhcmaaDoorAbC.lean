/- Regions in text order.
Temporaries and boxes that go out, and come in.
Loops.
Loops over iterators: their rounds, and they themselves.
Code, and functions.
Regions that draw their order: any order ends where the text's order ends.
Regions that draw their order: the schedules.
Regions that draw their order: one operation.
Regions that draw their order: the text's order, and all others.
From a function's contract to a row: it returns true, and all that was there reads as it did.
Arguments, as they are read, as closed values.
A statement that comes to true: what a call of it does. -/
import Derived.Test.YtkahninpodhcmaaDoorAbB
import Derived.LoopN
import Derived.ProofKit
import Derived.Deep.Slices
import Derived.Deep.Fields
namespace Go.Ab
open Go

section
variable {β : Type} {cx : Cx} {r : β}

theorem put_getD {a : Act} {d : Nat} {v : Value} {t : Nat} (hd : d < a.tmps.size) : (a.put (some d) v).tmps.getD t undef = if t = d then v else a.tmps.getD t undef := by
  simp only [Act.put, Array.getD_eq_getD_getElem?, Array.getElem?_setIfInBounds]
  by_cases h : d = t
  · subst h; simp [hd]
  · rw [if_neg h, if_neg (fun e => h e.symm)]

theorem get_put {st : St} {d t : Nat} {v : SV} : get (put st (some d) v) t = if t = d then v else get st t := by
  simp only [put, get]
  by_cases h : t = d
  · subst h; simp
  · have : Nat.beq t d = false := by
      cases hb : Nat.beq t d with
      | false => rfl
      | true => exact absurd (beq_true hb) h
    simp [this, h]

theorem R.step {ρ : Env} {X : Nat → Prop} {st : St} {h h' : H} {a : Act} {w w' : World} {o : Oper} {sv : SV} {v : Value} (rr : R cx ρ X st h a w) (hd : okD cx o = true) (hp : Post ρ X h w sv h' v w') :
    ∃ ρ', R cx ρ' X (put st o.dst sv) h' (a.put o.dst v) w' ∧ Ext ρ h w ρ' h' w' := by
  obtain ⟨ρ', hr, hv, e⟩ := hp
  refine ⟨ρ', ⟨hr, fun t => ?_, ?_, ?_⟩, e⟩
  · cases hdst : o.dst with
    | none => exact e.vr (rr.st t)
    | some d =>
      simp only [okD, hdst] at hd
      have hd : d < a.tmps.size := by rw [rr.nt]; simpa [Nat.blt_eq] using hd
      rw [get_put, put_getD hd]
      split
      · exact hv
      · exact e.vr (rr.st t)
  · cases o.dst <;> simp [Act.put, rr.nt]
  · rw [show (a.put o.dst v).defers = a.defers by cases o.dst <;> rfl]
    exact rr.nd.ext rr.hr e

theorem R.know {ρ : Env} {X : Nat → Prop} {st : St} {h : H} {a : Act} {w : World} {d : Nat} {b : Bool} (rr : R cx ρ X st h a w) (hg : get st d = .c (.bool b)) : R cx ρ X ((d, .c (.bool b)) :: st) h a w := by
  refine ⟨rr.hr, fun t => ?_, rr.nt, rr.nd⟩
  have : get ((d, .c (.bool b)) :: st) t = get (put st (some d) (.c (.bool b))) t := rfl
  rw [this, get_put]
  split
  · rename_i h; subst h; rw [← hg]; exact rr.st t
  · exact rr.st t

theorem wanted_of {ops : Array Oper} {o : Oper} {g d : Nat} {want b : Bool} {tmps : Array Value} (ho : o.guard = some (g, want)) (hd : (ops[g]?).bind (·.dst) = some d) (hv : tmps.getD d undef = .bool b) :
    Region.wanted o (yielded ops tmps) = (b == want) := by
  have hb : tmps[d]? = some (.bool b) := by
    rw [Array.getD_eq_getD_getElem?] at hv
    cases hq : tmps[d]? with
    | none => rw [hq] at hv; simp [undef] at hv
    | some x => rw [hq] at hv; simpa using hv
  cases b <;> cases want <;> simp [Region.wanted, ho, yielded, hd, hb]

theorem und_vr {ρ : Env} {h : H} {w : World} {M : Nat → Prop} : VR ρ h w M UND undef := .c _ _ (.tup [] #[] rfl fun j x hx => by simp at hx)

theorem und_inv {ρ : Env} {h : H} {w : World} {M : Nat → Prop} {v : Value} (hv : VR ρ h w M UND v) : v = undef := by
  cases hv with
  | c _ _ hc =>
    cases hc with
    | tup _ a hs _ =>
      have : a = #[] := by simpa using hs
      rw [this]
      rfl

theorem wanted_und {ops : Array Oper} {o : Oper} {g d : Nat} {want : Bool} {tmps : Array Value} (ho : o.guard = some (g, want)) (hd : (ops[g]?).bind (·.dst) = some d) (hv : tmps.getD d undef = undef) :
    Region.wanted o (yielded ops tmps) = false := by
  have hy : yielded ops tmps g = none := by
    rw [Array.getD_eq_getD_getElem?] at hv
    cases hq : tmps[d]? with
    | none => simp [yielded, hd, hq]
    | some x =>
      rw [hq] at hv
      have hx : x = undef := by simpa using hv
      subst hx
      simp [yielded, hd, hq, undef]
  simp [Region.wanted, ho, hy]

theorem opsK_sound {rd : Option Nat} (hΓ : ∀ f g, cx.Γ f = some g → SoundC cx.P f g) (hE : EqY cx) {ops : Array Oper} {X : Nat → Prop} {ρ0 : Env} {h0 : H} {w0 : World} {Q : Exit → Act → World → Prop} {K : St → H → Option β}
    (hQ : ∀ st h ρ a w, K st h = some r → R cx ρ X st h a w → Ext ρ0 h0 w0 ρ h w → Q .normal a w) :
    ∀ (is : List Nat) (st : St) (h : H) (ρ : Env) (a : Act) (w : World), opsK cx ops is st h K = some r → R cx ρ X st h a w → Ext ρ0 h0 w0 ρ h w → wpOpsIn (FR rd) 0 cx.P ops Q is a w
  | [], st, h, ρ, a, w, hK, rr, e => hQ st h ρ a w hK rr e
  | i :: is, st, h, ρ, a, w, hK, rr, e => by
    simp only [opsK] at hK
    cases ho : ops[i]? with
    | none =>
      simp only [ho] at hK
      simp only [wpOpsIn, ho]
      exact opsK_sound hΓ hE hQ is st h ρ a w hK rr e
    | some o =>
      simp only [ho] at hK
      replace hK := cond_some hK
      obtain ⟨hd, hK⟩ := hK
      have run : ∀ (st : St), R cx ρ X st h a w → opK cx o st h (fun v h' => opsK cx ops is (put st o.dst v) h' K) = some r → o.wpIn (FR rd) 0 cx.P a w (wpOpsIn (FR rd) 0 cx.P ops Q is) Q := fun st rr hK => by
        obtain ⟨sv, h', hK, hop⟩ := opK_sound hΓ hE hK
        refine hop ρ X a w rr rd _ _ fun v w' hp => ?_
        obtain ⟨ρ', rr', e'⟩ := rr.step hd hp
        exact opsK_sound hΓ hE hQ is _ _ ρ' _ w' hK rr' (e.trans e')
      have skip : ∀ (st : St), R cx ρ X st h a w → opsK cx ops is (put st o.dst UND) h K = some r → wpOpsIn (FR rd) 0 cx.P ops Q is (a.put o.dst undef) w := fun st rr hK => by
        obtain ⟨ρ', rr', e'⟩ := rr.step hd (Post.same rr.hr und_vr)
        exact opsK_sound hΓ hE hQ is _ _ ρ' _ w hK rr' (e.trans e')
      simp only [wpOpsIn, ho]
      cases hg : o.guard with
      | none =>
        simp only [hg] at hK
        have hw : Region.wanted o (yielded ops a.tmps) = true := by simp [Region.wanted, hg]
        rw [if_pos hw]
        exact run st rr hK
      | some gw =>
        obtain ⟨g, want⟩ := gw
        simp only [hg] at hK
        cases hgd : (ops[g]?).bind (·.dst) with
        | none => simp [hgd] at hK
        | some d =>
          simp only [hgd] at hK
          split at hK
          · rename_i b hb
            have hv := rr.st d
            rw [hb] at hv
            have hw := wanted_of hg hgd hv.bool_inv
            rw [hw]
            cases b <;> cases want <;> simp only [cond_true, cond_false] at hK
            · rw [if_pos (by rfl)]; exact run _ (rr.know hb) hK
            · rw [if_neg (by simp)]; exact ⟨fun _ _ => trivial, skip _ (rr.know hb) hK⟩
            · rw [if_neg (by simp)]; exact ⟨fun _ _ => trivial, skip _ (rr.know hb) hK⟩
            · rw [if_pos (by rfl)]; exact run _ (rr.know hb) hK
          · rename_i hb
            have hv := rr.st d
            rw [hb] at hv
            rw [if_neg (by rw [wanted_und hg hgd (und_inv hv)]; simp)]
            exact ⟨fun _ _ => trivial, skip _ rr hK⟩
          · cases hK
end
end Go.Ab

namespace Go.Ab
open Go

def ValR (w : World) (M : Nat → Prop) (bs : List Nat) (x : CV) (v : Value) (B : List Nat) : Prop :=
  (∃ k b, x = .ref k ∧ bs[k]? = some b ∧ v = .pointer (some ⟨b, 0, none⟩) ∧ B = []) ∨ OR w M x v B

def ValsR (w : World) (M : Nat → Prop) (bs : List Nat) (us : Nat → Value) : List Nat → List CV → List Nat → Prop
  | [], [], B => B = []
  | t :: ts, x :: xs, B => ∃ B1 B2, ValR w M bs x (us t) B1 ∧ ValsR w M bs us ts xs B2 ∧ B = B1 ++ B2
  | _, _, _ => False

theorem ValR.mono {w : World} {M M' : Nat → Prop} (hM : ∀ b, M' b → M b) {bs : List Nat} {x : CV} {v : Value} {B : List Nat} (h : ValR w M bs x v B) : ValR w M' bs x v B :=
  h.imp id (·.mono hM)

theorem ValsR.mono {w : World} {M M' : Nat → Prop} (hM : ∀ b, M' b → M b) {bs : List Nat} {us : Nat → Value} : ∀ {ts : List Nat} {xs : List CV} {B : List Nat}, ValsR w M bs us ts xs B → ValsR w M' bs us ts xs B
  | [], [], _, h => h
  | _ :: _, _ :: _, _, ⟨B1, B2, h1, h2, h3⟩ => ⟨B1, B2, h1.mono hM, h2.mono hM, h3⟩
  | [], _ :: _, _, h => h.elim
  | _ :: _, [], _, h => h.elim

theorem idxOf_spec {i : Nat} : ∀ {ids : List Nat} {k0 k : Nat}, idxOf i ids k0 = some k → k0 ≤ k ∧ ids[k - k0]? = some i
  | [], _, _, h => by simp [idxOf] at h
  | j :: l, k0, k, h => by
    simp only [idxOf] at h
    cases hb : Nat.beq i j with
    | true =>
      simp only [hb, cond_true, Option.some.injEq] at h
      subst h
      have := beq_true hb
      subst this
      exact ⟨Nat.le_refl _, by simp⟩
    | false =>
      simp only [hb, cond_false] at h
      obtain ⟨h1, h2⟩ := idxOf_spec h
      refine ⟨by omega, ?_⟩
      rw [show k - k0 = (k - (k0 + 1)) + 1 from by omega]
      simpa using h2

section
variable {β : Type} {cx : Cx} {r : β}

theorem outV_sound {ρ : Env} {w : World} {ids : List Nat} {rest : List SV} {X : Nat → Prop} {h h' : H} {s : SV} {x : CV} {v : Value} (hr : HR ρ X h w) (hv : VR ρ h w (Mut ρ X h) s v) (ht : outV ids h rest s = some (x, h')) :
    ∃ B, TK ρ X h w h' B ∧ OR w (Mut ρ (XB X B) h') x v B := by
  unfold outV at ht
  cases e : shared ids h rest s with
  | true => rw [e] at ht; exact close_take hr hv ht
  | false => rw [e] at ht; exact take_sound depth X h s x h' v hr hv ht

theorem expoV_sound {ρ : Env} {w : World} {ids : List Nat} {st : St} {us : Nat → Value} : ∀ (ts : List Nat) (X : Nat → Prop) (h : H) (vs : List CV) (h' : H), HR ρ X h w → (∀ t, VR ρ h w (Mut ρ X h) (get st t) (us t)) →
    expoV ids st ts h = some (vs, h') → ∃ B, TK ρ X h w h' B ∧ ValsR w (Mut ρ (XB X B) h') (ids.map ρ.blk) us ts vs B
  | [], X, h, vs, h', hr, _, he => by
    simp only [expoV, Option.some.injEq, Prod.mk.injEq] at he
    obtain ⟨rfl, rfl⟩ := he
    exact ⟨[], TK.refl hr, rfl⟩
  | t :: ts, X, h, vs, h', hr, hv, he => by
    simp only [expoV] at he
    split at he
    · rename_i k hk
      replace he := bind_some' he
      obtain ⟨⟨vs1, h1⟩, he1, he⟩ := he
      simp only [Option.some.injEq, Prod.mk.injEq] at he
      obtain ⟨rfl, rfl⟩ := he
      obtain ⟨B, t1, v1⟩ := expoV_sound ts X h vs1 h1 hr hv he1
      refine ⟨B, t1, [], B, .inl ?_, v1, rfl⟩
      split at hk
      · rename_i i hg
        have hvt := hv t
        rw [hg] at hvt
        obtain ⟨_, hix⟩ := idxOf_spec hk
        generalize us t = u at hvt
        cases hvt with
        | ptr _ _ v hpl hi hq => exact ⟨k, ρ.blk i, rfl, by simpa using ⟨i, hix, rfl⟩, hq, rfl⟩
      · cases hk
    · replace he := bind_some' he
      obtain ⟨⟨x, h1⟩, hx, he⟩ := he
      replace he := bind_some' he
      obtain ⟨⟨vs1, h2⟩, he1, he⟩ := he
      simp only [Option.some.injEq, Prod.mk.injEq] at he
      obtain ⟨rfl, rfl⟩ := he
      obtain ⟨B1, t1, o1⟩ := outV_sound (w := w) (ρ := ρ) hr (hv t) hx
      obtain ⟨B2, t2, v2⟩ := expoV_sound ts _ h1 vs1 h2 t1.hr (fun t => t1.vr (hv t)) he1
      refine ⟨B1 ++ B2, t1.trans t2, B1, B2, .inr ?_, ?_, rfl⟩
      · exact o1.mono fun b hb => by
          rw [← XB_append] at hb
          exact t2.mut hb
      · rw [← XB_append]; exact v2

theorem expo_sound {ρ : Env} {X : Nat → Prop} {h h' : H} {w : World} {ids ts : List Nat} {st : St} {us : Nat → Value} {vs : List CV} {cs : List (List CV)} (hr : HR ρ X h w) (hv : ∀ t, VR ρ h w (Mut ρ X h) (get st t) (us t))
    (he : expo ids st ts h = some (vs, cs, h')) : ∃ Bv Bc, TK ρ X h w h' (Bv ++ Bc) ∧ ValsR w (Mut ρ (XB X (Bv ++ Bc)) h') (ids.map ρ.blk) us ts vs Bv ∧ ContR w (Mut ρ (XB X (Bv ++ Bc)) h') (ids.map ρ.blk) cs Bc ∧
      ids.Nodup ∧ ∀ i ∈ ids, i < h.length ∧ getH h i ≠ .dead ∧ getH h' i = .dead := by
  unfold expo at he
  replace he := bind_some' he
  obtain ⟨⟨vs1, h1⟩, he1, he⟩ := he
  replace he := bind_some' he
  obtain ⟨⟨cs1, h2⟩, he2, he⟩ := he
  simp only [Option.some.injEq, Prod.mk.injEq] at he
  obtain ⟨rfl, rfl, rfl⟩ := he
  obtain ⟨Bv, t1, v1⟩ := expoV_sound ts X h vs1 h1 hr hv he1
  obtain ⟨Bc, t2, c2, hn, hd⟩ := contsOut_sound ids _ h1 cs1 h2 t1.hr he2
  refine ⟨Bv, Bc, t1.trans t2, ?_, ?_, hn, fun i hi => ?_⟩
  · exact v1.mono fun b hb => by
      rw [← XB_append] at hb
      exact t2.mut hb
  · rw [← XB_append]; exact c2
  · obtain ⟨q1, q2, q3⟩ := hd i hi
    exact ⟨by rw [← t1.len]; exact q1, fun hdd => q2 (t1.dead hdd), q3⟩

theorem impV_sound {X : Nat → Prop} {w : World} {M : Nat → Prop} {ids bs : List Nat} {us : Nat → Value} : ∀ (ts : List Nat) (vs : List CV) (ρ : Env) (h : H) (st : St) (h' : H) (B : List Nat), HRM ρ X h w M → impV ids ts vs h = some (st, h') →
    (∀ i ∈ ids, i < h.length) → ids.map ρ.blk = bs → ValsR w M bs us ts vs B → MayIn ρ X h M B → ∃ ρ', IC ρ X h w M ρ' h' [] B ∧ ∀ t, VR ρ' h' w M (get st t) (us t)
  | [], [], ρ, h, st, h', B, hr, hi, _, _, hb, hm => by
    simp only [impV, Option.some.injEq, Prod.mk.injEq] at hi
    obtain ⟨rfl, rfl⟩ := hi
    simp only [ValsR] at hb
    subst hb
    exact ⟨ρ, IC.refl hr, fun t => .any _⟩
  | t :: ts, v :: vs, ρ, h, st, h', B, hr, hi, hlt, hmap, hb, hm => by
    obtain ⟨B1, B2, h1, h2, rfl⟩ := hb
    have other : ∀ (v : CV) (x : SV × H), im depth v h = x → OR w M v (us t) B1 → ((impV ids ts vs x.2).bind fun r => some ((t, x.1) :: r.1, r.2)) = some (st, h') →
        ∃ ρ', IC ρ X h w M ρ' h' [] (B1 ++ B2) ∧ ∀ t, VR ρ' h' w M (get st t) (us t) := fun v x hx ho hi => by
      subst hx
      replace hi := bind_some' hi
      obtain ⟨⟨st1, h1'⟩, hi1, hi⟩ := hi
      simp only [Option.some.injEq, Prod.mk.injEq] at hi
      obtain ⟨rfl, rfl⟩ := hi
      obtain ⟨ρ1, m1, hv1⟩ := im_sound depth ρ h v (us t) B1 hr ho hm.left
      have hmap1 : ids.map ρ1.blk = bs := by rw [← hmap]; exact List.map_congr_left fun i hi => (m1.agree i (hlt i hi)).2
      obtain ⟨ρ2, m2, hv2⟩ := impV_sound ts vs ρ1 _ st1 h1' B2 m1.hr hi1 (fun i hi => Nat.lt_of_lt_of_le (hlt i hi) m1.ext.len) hmap1 h2 (hm.rightC m1.toIC)
      refine ⟨ρ2, m1.toIC.trans m2, fun t' => ?_⟩
      have : get ((t, (im depth v h).1) :: st1) t' = get (put st1 (some t) (im depth v h).1) t' := rfl
      rw [this, get_put]
      split
      · rename_i e; subst e; exact hv1.mono m2.ext (fun _ _ h => h)
      · exact hv2 t'
    rcases h1 with ⟨k, b, rfl, hk, hu, rfl⟩ | ho
    · simp only [impV] at hi
      split at hi
      · rename_i i hix
        replace hi := bind_some' hi
        obtain ⟨⟨st1, h1'⟩, hi1, hi⟩ := hi
        simp only [Option.some.injEq, Prod.mk.injEq] at hi
        obtain ⟨rfl, rfl⟩ := hi
        obtain ⟨ρ2, m2, hv2⟩ := impV_sound ts vs ρ h st1 h1' B2 hr hi1 hlt hmap h2 (by simpa using hm)
        refine ⟨ρ2, by simpa using m2, fun t' => ?_⟩
        have : get ((t, .ptr i 0) :: st1) t' = get (put st1 (some t) (.ptr i 0)) t' := rfl
        rw [this, get_put]
        split
        · rename_i e
          subst e
          have hi := hlt i (List.mem_of_getElem? hix)
          have hbl : ρ.blk i = b := by
            rw [← hmap] at hk
            simp [hix] at hk
            exact hk
          exact .ptr _ _ _ (by rw [hu]; rfl) (Nat.lt_of_lt_of_le hi m2.ext.len) (by rw [hu, (m2.agree i hi).2, hbl])
        · exact hv2 t'
      · cases hi
    · cases v with
      | ref k =>
        exfalso
        generalize us t = u at ho
        cases ho with | c _ _ hx => cases hx
      | int k n => exact other _ _ rfl ho hi
      | bool b => exact other _ _ rfl ho hi
      | sl sz l => exact other _ _ rfl ho hi
      | own sz l => exact other _ _ rfl ho hi
      | pc cs off => exact other _ _ rfl ho hi
      | agg cs => exact other _ _ rfl ho hi
      | tup vs => exact other _ _ rfl ho hi
      | fn f a b => exact other _ _ rfl ho hi
      | box cs => exact other _ _ rfl ho hi
      | yld l => exact other _ _ rfl ho hi
      | top => exact other _ _ rfl ho hi
      | mp ks => exact other _ _ rfl ho hi
      | mpo ks => exact other _ _ rfl ho hi
      | rcd l fx ts env bs n q => exact other _ _ rfl ho hi
  | [], _ :: _, _, _, _, _, _, _, hi, _, _, _, _ => by simp [impV] at hi
  | _ :: _, [], _, _, _, _, _, _, hi, _, _, _, _ => by simp [impV] at hi

theorem preN_range : ∀ (n i m : Nat), n ≤ m → preN i n (List.range' i m) = true
  | 0, _, _, _ => by simp [preN]
  | n + 1, i, 0, h => by omega
  | n + 1, i, m + 1, h => by
    have := preN_range n (i + 1) m (by omega)
    simp [List.range'_succ, preN, this]

theorem startH_eq {w : World} {M : Nat → Prop} : ∀ (cs : List (List CV)) (i : Nat) (h : H) (bs B : List Nat), ContR w M bs cs B → contsIn (List.range' i cs.length) cs h = some (startH cs i h)
  | [], _, _, _, _, _ => rfl
  | c :: cs, i, h, [], B, hc => hc.elim
  | c :: cs, i, h, b :: bs, B, hc => by
    rw [List.length_cons, List.range'_succ]
    rcases hc with ⟨cur, ty, Bs, B2, h1, h2, h3, h4, rfl⟩ | ⟨fx, ts, env, bx, n, q, B2, rfl, h1, h2, h3, h5, h4, rfl⟩
    · have ih := fun h => startH_eq cs (i + 1) h bs B2 h4
      match c, h3 with
      | [], _ => exact ih _
      | x :: _ :: _, _ => cases x <;> exact ih _
      | [x], h3 =>
        cases x with
        | rcd l fx ts env bs n q =>
          obtain ⟨_, ho⟩ := h3 0 _ rfl
          exact absurd ho no_rcd
        | _ => exact ih _
    · have hle : n ≤ cs.length := by
        have := h4.len
        have h6 := congrArg List.length h3
        simp at h6
        omega
      simp only [contsIn, startH, preN_range n (i + 1) cs.length hle, cond_true]
      exact startH_eq cs (i + 1) _ bs B2 h4

theorem getH_replicate (n i : Nat) : getH (List.replicate n Box.dead) i = .dead := by
  induction n generalizing i with
  | zero => rfl
  | succ n ih => cases i with
    | zero => rfl
    | succ i => simpa [List.replicate_succ, getH] using ih i

/-- Boxes at a beginning. -/
theorem start_sound (n0 : Nat) {X : Nat → Prop} {w : World} {M : Nat → Prop} {cs : List (List CV)} {bs B : List Nat} (hX : ∀ b, X b → M b) (hc : ContR w M bs cs B) (hnd : B.Nodup) (hm : ∀ b ∈ B, M b) (hx : ∀ b ∈ B, ¬ X b) (hgl : GlobR w M) :
    ∃ ρ0 ρ, IC ρ0 X (List.replicate cs.length .dead) w M ρ (startH cs 0 (List.replicate cs.length .dead)) (List.range cs.length) B ∧ (List.range cs.length).map ρ.blk = bs ∧ (∀ i b, bOf ρ0 i (getH (List.replicate cs.length .dead) i) ≠ some b) ∧ ρ.base = n0 := by
  have hlen := hc.len
  let ρ0 : Env := ⟨fun _ => undef, fun i => bs.getD i 0, n0⟩
  have hno : ∀ i b, bOf ρ0 i (getH (List.replicate cs.length .dead) i) ≠ some b := fun i b => by rw [getH_replicate]; simp [bOf]
  have hmap : (List.range' 0 cs.length).map ρ0.blk = bs := by
    apply List.ext_getElem?
    intro i
    simp only [List.getElem?_map, ρ0]
    by_cases hi : i < cs.length
    · rw [List.getElem?_range' (by simpa using hi)]
      simp [show i < bs.length from by omega]
    · have h1 : (List.range' 0 cs.length)[i]? = none := by simp; omega
      rw [h1]
      simp; omega
  have hrm : HRM ρ0 X (List.replicate cs.length .dead) w M := by
    refine ⟨fun i => ?_, fun i j b hb => absurd hb (hno i b), fun i b hb => absurd hb (hno i b), fun b hb => ?_, hgl⟩
    · rw [getH_replicate]; exact trivial
    · rcases hb with hb | ⟨i, _, hb⟩
      · exact hX b hb
      · exact absurd hb (hno i b)
  obtain ⟨ρ, m⟩ := contsIn_sound (List.range' 0 cs.length) cs ρ0 _ _ bs B hrm (startH_eq cs 0 _ bs B hc) (fun i hi => by
    have := List.mem_range'.1 hi
    exact ⟨by simp; omega, getH_replicate _ i⟩) (List.nodup_range') hmap hc ⟨hnd, hm, hx, fun b _ i => hno i b⟩
  rw [← List.range_eq_range'] at m hmap
  refine ⟨ρ0, ρ, m, ?_, hno, m.ab⟩
  rw [← hmap]
  exact List.map_congr_left fun i hi => (m.agree i (by simpa using hi)).2
end
end Go.Ab

namespace Go.Ab
open Go

section
variable {β : Type} {cx : Cx} {r : β}

/-- Behind something that was handed blocks: what comes in again. -/
theorem back {ρ : Env} {X : Nat → Prop} {h h1 : H} {w w' : World} {B B' : List Nat} (hr : HR ρ X h w) (t : TK ρ X h w h1 B) (io : SameIO w w') (size : w.heap.size ≤ w'.heap.size) (keep : ∀ b, b < w.heap.size → b ∉ B → w'.heap[b]? = w.heap[b]?)
    (new : ∀ b, b ∈ B' → b ∈ B ∨ w.heap.size ≤ b) (nd : B'.Nodup) : HRM ρ X h1 w' (MM (Mut ρ (XB X B) h1) B B') ∧ MayIn ρ X h1 (MM (Mut ρ (XB X B) h1) B B') B' ∧
      ∀ ρ' h' I C, IC ρ X h1 w' (MM (Mut ρ (XB X B) h1) B B') ρ' h' I C → (∀ b, b ∈ C → b ∈ B') → HR ρ' X h' w' ∧ Ext ρ h w ρ' h' w' := by
  have hXlt : ∀ b, X b → b < w.heap.size := hr.xlt
  have hBX : ∀ b ∈ B, ¬ X b := fun b hb hx => by
    obtain ⟨i, _, h3⟩ := t.bl b hb
    exact hr.out i b h3 hx
  have hM2 : ∀ b, Mut ρ X h1 b → MM (Mut ρ (XB X B) h1) B B' b := fun b hb => by
    rcases hb with hb | hb
    · exact .inl ⟨.inl (.inl hb), fun hm => hBX b hm hb⟩
    · refine .inl ⟨.inr hb, fun hm => ?_⟩
      obtain ⟨i, _, h3⟩ := hb
      exact t.hr.out i b h3 (.inr hm)
  have hcrm : ∀ x u, CR w (Mut ρ (XB X B) h1) x u → CR w' (MM (Mut ρ (XB X B) h1) B B') x u := fun x u hx =>
    hx.mono size (fun b hb hn => keep b hb fun hm => hn (.inl (.inr hm))) (fun b hb hm => by
      rcases hm with ⟨hm, _⟩ | hm
      · exact hm
      · rcases new b hm with hm | hm
        · exact .inl (.inr hm)
        · omega)
  have hrm : HRM ρ X h1 w' (MM (Mut ρ (XB X B) h1) B B') := by
    refine ⟨fun i => ?_, t.hr.inj, fun i b hb hx => t.hr.out i b hb (.inl hx), hM2, fun g cs hg => hcrm _ _ (t.hr.glob g cs hg)⟩
    refine (t.hr.box i).mono' (HExt.refl ρ h1) hcrm (fun _ _ _ _ _ => rfl) (fun _ _ _ => rfl) fun b hb => ?_
    exact keep b (t.hr.lt hb) fun hm => t.hr.out i b hb (.inr hm)
  refine ⟨hrm, ⟨nd, fun b hb => .inr hb, fun b hb hx => ?_, fun b hb i hi => ?_⟩, fun ρ' h' I C m hC => ⟨m.hr.toHR fun b hb => Nat.lt_of_lt_of_le (hXlt b hb) size, t.ext.trans m.ext, size, fun b hb hl => ?_, fun b hb hl => ?_, io⟩⟩
  · rcases new b hb with hm | hm
    · exact hBX b hm hx
    · have := hXlt b hx; omega
  · rcases new b hb with hm | hm
    · exact t.hr.out i b hi (.inr hm)
    · have := t.hr.lt hi; omega
  · exact keep b hb fun hm => hl (t.bl b hm)
  · obtain ⟨i, h3, h4⟩ := hl
    rcases m.new i b h4 with ⟨h5, h6⟩ | h5
    · exact t.lv b ⟨i, by rw [← h5]; exact h3, h6⟩
    · rcases new b (hC b h5) with h6 | h6
      · exact t.bl b h6
      · omega

structure InL (w : World) (M : Nat → Prop) (ts : List Nat) (vals : List CV) (conts : List (List CV)) (us : Nat → Value) (bs Bv Bc : List Nat) : Prop where
  vals : ValsR w M bs us ts vals Bv
  cont : ContR w M bs conts Bc
  nd : (Bv ++ Bc).Nodup
  sub : ∀ b ∈ Bv ++ Bc, M b
  lt : ∀ b, M b → b < w.heap.size
  glob : GlobR w M

structure OutL (w : World) (M : Nat → Prop) (B bs : List Nat) (w' : World) (us : Nat → Value) (ts : List Nat) (vals : List CV) (conts : List (List CV)) (Bv Bc : List Nat) : Prop where
  io : SameIO w w'
  size : w.heap.size ≤ w'.heap.size
  keep : ∀ b, b < w.heap.size → b ∉ B → w'.heap[b]? = w.heap[b]?
  new : ∀ b, b ∈ Bv ++ Bc → b ∈ B ∨ w.heap.size ≤ b
  nd : (Bv ++ Bc).Nodup
  vals : ValsR w' (MM M B (Bv ++ Bc)) bs us ts vals Bv
  cont : ContR w' (MM M B (Bv ++ Bc)) bs conts Bc
  lt : ∀ b, b ∈ Bv ++ Bc → b < w'.heap.size

/-- What a piece of code's soundness says. -/
def CodeS (cx : Cx) (p : List Bool) (c : Code) : Prop :=
  ∀ (rd : Option Nat), (rd = none ∨ noRF c = true) → ∀ (n : Nat) (β : Type) (K : Exit → St → H → Option β) (st : St) (h : H) (r : β), codeK cx n p c K st h = some r → ∀ (X : Nat → Prop) (ρ : Env) (a : Act) (w : World) (ρ0 : Env) (h0 : H) (w0 : World) (Q : Exit → Act → World → Prop),
    R cx ρ X st h a w → Ext ρ0 h0 w0 ρ h w → (∀ e st h ρ a w, K e st h = some r → R cx ρ X st h a w → Ext ρ0 h0 w0 ρ h w → Q e a w) → c.wpIn (FR rd) 0 cx.P Q a w

def LoopsS (cx : Cx) : Prop := ∀ (p : List Bool) (L : LoopSem) (b : Code), cx.Λ (pathN p) = some L → codeAt cx.root p = some (.loop b) →
  ∀ (vs : List CV) (cs : List (List CV)) (β : Type) (K : Exit → List CV → List (List CV) → Option β) (r : β), L.run vs cs β K = some r → ∃ n, loopB cx L.ins L.outs p b n vs cs K = some r

/-- A state that begins with what was handed on. -/
theorem begin_sound (n0 : Nat) {w : World} {M : Nat → Prop} {ts : List Nat} {vs : List CV} {cs : List (List CV)} {us : Nat → Value} {bs Bv Bc : List Nat} (i : InL w M ts vs cs us bs Bv Bc) {st : St} {h : H}
    (hi : impV (List.range cs.length) ts vs (startH cs 0 (List.replicate cs.length .dead)) = some (st, h)) :
    ∃ ρ, HR ρ (fun b => M b ∧ b ∉ Bv ++ Bc) h w ∧ (∀ t, VR ρ h w (Mut ρ (fun b => M b ∧ b ∉ Bv ++ Bc) h) (get st t) (us t)) ∧ (List.range cs.length).map ρ.blk = bs ∧ (∀ i ∈ List.range cs.length, i < h.length) ∧
      (∀ j b, bOf ρ j (getH h j) = some b → b ∈ Bv ++ Bc) ∧ ρ.base = n0 := by
  have hnd := List.nodup_append.1 i.nd
  obtain ⟨ρ0, ρ1, m1, hmap, hno, hbase⟩ := start_sound n0 (X := fun b => M b ∧ b ∉ Bv ++ Bc) (fun b hb => hb.1) i.cont hnd.2.1 (fun b hb => i.sub b (List.mem_append_right _ hb)) (fun b hb hx => hx.2 (List.mem_append_right _ hb)) i.glob
  have hl1 : ∀ k ∈ List.range cs.length, k < (startH cs 0 (List.replicate cs.length .dead)).length := fun k hk => Nat.lt_of_lt_of_le (by simpa using hk) m1.ext.len
  obtain ⟨ρ, m2, hv⟩ := impV_sound ts vs ρ1 _ st h Bv m1.hr hi hl1 hmap i.vals ⟨hnd.1, fun b hb => i.sub b (List.mem_append_left _ hb), fun b hb hx => hx.2 (List.mem_append_left _ hb), fun b hb k hk => by
    rcases m1.new k b hk with ⟨_, h2⟩ | h2
    · exact hno k b h2
    · exact hnd.2.2 b hb b h2 rfl⟩
  refine ⟨ρ, m2.hr.toHR fun b hb => i.lt b hb.1, fun t => (hv t).mono (HExt.refl ρ h) fun x u hx => hx.mono (Nat.le_refl _) (fun _ _ _ => rfl) (fun b _ hb => m2.hr.sub b hb), ?_, fun k hk => Nat.lt_of_lt_of_le (hl1 k hk) m2.ext.len, fun j b hb => ?_, m2.ab.trans hbase⟩
  · rw [← hmap]
    exact List.map_congr_left fun k hk => (m2.agree k (hl1 k hk)).2
  · rcases m2.new j b hb with ⟨_, h2⟩ | h2
    · rcases m1.new j b h2 with ⟨_, h3⟩ | h3
      · exact absurd h3 (hno j b)
      · exact List.mem_append_right _ h3
    · exact List.mem_append_left _ h2

/-- A state that ends, and hands on. -/
theorem end_sound {w w' : World} {M : Nat → Prop} {B bs : List Nat} {m : Nat} {ρ ρ' : Env} {h h' h'' : H} {st : St} {us : Nat → Value} {ts : List Nat} {vs : List CV} {cs : List (List CV)}
    (_hlt : ∀ b, M b → b < w.heap.size)
    (hm : (List.range m).map ρ.blk = bs) (hl : ∀ i ∈ List.range m, i < h.length) (hB : ∀ j b, bOf ρ j (getH h j) = some b → b ∈ B) (hr : HR ρ' (fun b => M b ∧ b ∉ B) h' w') (hv : ∀ t, VR ρ' h' w' (Mut ρ' (fun b => M b ∧ b ∉ B) h') (get st t) (us t))
    (e : Ext ρ h w ρ' h' w') (hx : expo (List.range m) st ts h' = some (vs, cs, h'')) : ∃ Bv Bc, OutL w M B bs w' us ts vs cs Bv Bc := by
  obtain ⟨Bv, Bc, t, hvs, hcs, _, _⟩ := expo_sound hr hv hx
  have hmap : (List.range m).map ρ'.blk = bs := by rw [← hm]; exact List.map_congr_left fun i hi => e.blks i (hl i hi)
  rw [hmap] at hvs hcs
  have hsub : ∀ b, MM M B (Bv ++ Bc) b → Mut ρ' (XB (fun b => M b ∧ b ∉ B) (Bv ++ Bc)) h'' b := fun b hb => .inl hb
  refine ⟨Bv, Bc, e.io, e.size, fun b hb hn => e.keep b hb ?_, fun b hb => ?_, t.nd, hvs.mono hsub, hcs.mono hsub, fun b hb => t.hr.xlt b (.inr hb)⟩
  · rintro ⟨j, _, hj⟩
    exact hn (hB j b hj)
  · by_cases hbl : b < w.heap.size
    · obtain ⟨j, _, hj⟩ := e.lives b hbl (t.bl b hb)
      exact .inl (hB j b hj)
    · exact .inr (by omega)

theorem OutL.next {w w1 w2 : World} {M : Nat → Prop} {B bs : List Nat} {us1 us2 : Nat → Value} {ts1 ts2 : List Nat} {vs1 vs2 : List CV} {cs1 cs2 : List (List CV)} {Bv1 Bc1 Bv2 Bc2 : List Nat} (hlt : ∀ b, M b → b < w.heap.size)
    (o : OutL w M B bs w1 us1 ts1 vs1 cs1 Bv1 Bc1) (o2 : OutL w1 (MM M B (Bv1 ++ Bc1)) (Bv1 ++ Bc1) bs w2 us2 ts2 vs2 cs2 Bv2 Bc2) : OutL w M B bs w2 us2 ts2 vs2 cs2 Bv2 Bc2 := by
  have hsub : ∀ b, MM M B (Bv2 ++ Bc2) b → MM (MM M B (Bv1 ++ Bc1)) (Bv1 ++ Bc1) (Bv2 ++ Bc2) b := fun b hb => by
    rcases hb with ⟨h1, h2⟩ | hb
    · refine .inl ⟨.inl ⟨h1, h2⟩, fun h3 => ?_⟩
      rcases o.new b h3 with h4 | h4
      · exact h2 h4
      · have := hlt b h1; omega
    · exact .inr hb
  refine ⟨⟨o2.io.1.trans o.io.1, o2.io.2.trans o.io.2⟩, Nat.le_trans o.size o2.size, fun b hb hn => ?_, fun b hb => ?_, o2.nd, o2.vals.mono hsub, o2.cont.mono hsub, o2.lt⟩
  · rw [o2.keep b (Nat.lt_of_lt_of_le hb o.size) fun h3 => ?_, o.keep b hb hn]
    rcases o.new b h3 with h4 | h4
    · exact hn h4
    · omega
  · rcases o2.new b hb with h3 | h3
    · exact o.new b h3
    · exact .inr (Nat.le_trans o.size h3)

theorem OutL.toIn {w w1 : World} {M : Nat → Prop} {B bs : List Nat} {us : Nat → Value} {ts : List Nat} {vs : List CV} {cs : List (List CV)} {Bv Bc : List Nat} (hlt : ∀ b, M b → b < w.heap.size) (hsub : ∀ b ∈ B, M b) (hg : GlobR w M) (o : OutL w M B bs w1 us ts vs cs Bv Bc) :
    InL w1 (MM M B (Bv ++ Bc)) ts vs cs us bs Bv Bc := by
  refine ⟨o.vals, o.cont, o.nd, fun b hb => .inr hb, fun b hb => ?_, hg.mono o.size (fun b hb hn => o.keep b hb fun h => hn (hsub b h)) fun b hb hm => ?_⟩
  rotate_left
  · rcases hm with ⟨h1, _⟩ | hm
    · exact h1
    · rcases o.new b hm with h1 | h1
      · exact hsub b h1
      · omega
  rcases hb with ⟨h1, _⟩ | hb
  · exact Nat.lt_of_lt_of_le (hlt b h1) o.size
  · exact o.lt b hb

theorem loopB_sound {rd : Option Nat} {n0 : Nat} {p : List Bool} {b : Code} (hrd : rd = none ∨ noRF b = true) {ins : List Nat} {outs : Exit → List Nat} (hb : CodeS cx (false :: p) b) {K : Exit → List CV → List (List CV) → Option β} : ∀ (n : Nat) (vs : List CV) (cs : List (List CV)),
    loopB cx ins outs p b n vs cs K = some r → ∀ (w : World) (M : Nat → Prop) (a : Act) (bs Bv Bc : List Nat) (Q : Exit → Act → World → Prop), InL w M ins vs cs (fun t => a.tmps.getD t undef) bs Bv Bc → a.tmps.size = cx.nt → Marks n0 w a.defers →
      (∀ e vs' cs' a' w' Bv' Bc', K e vs' cs' = some r → OutL w M (Bv ++ Bc) bs w' (fun t => a'.tmps.getD t undef) (outs e) vs' cs' Bv' Bc' → a'.tmps.size = cx.nt → Marks n0 w' a'.defers → Q e a' w') → Code.roundsIn (FR rd) 0 cx.P b Q n a w
  | 0, vs, cs, hK, _, _, _, _, _, _, _, _, _, _, _ => by simp [loopB] at hK
  | n + 1, vs, cs, hK, w, M, a, bs, Bv, Bc, Q, hin, hnt, hnd, hQ => by
    simp only [loopB] at hK
    replace hK := bind_some' hK
    obtain ⟨⟨st, h⟩, hi, hK⟩ := hK
    dsimp only at hK
    obtain ⟨ρ, hr, hv, hmap, hlen, hB, hbase⟩ := begin_sound n0 hin hi
    rw [roundsIn_succ]
    refine hb rd hrd _ _ _ st h r hK (fun b => M b ∧ b ∉ Bv ++ Bc) ρ a w ρ h w _ ⟨hr, hv, hnt, by rw [hbase]; exact hnd⟩ (Ext.refl ρ h w) fun e st' h' ρ' a' w' hK rr e' => ?_
    have other : ((expo (List.range cs.length) st' (outs e) h').bind fun x => K e x.1 x.2.1) = some r → Q e a' w' := fun hK => by
      replace hK := bind_some' hK
      obtain ⟨⟨vs', cs', h''⟩, hx, hK⟩ := hK
      obtain ⟨Bv', Bc', ho⟩ := end_sound hin.lt hmap hlen hB rr.hr rr.st e' hx
      exact hQ e vs' cs' a' w' Bv' Bc' hK ho rr.nt (by rw [← hbase, ← e'.base]; exact rr.nd)
    cases e with
    | normal =>
      replace hK := bind_some' hK
      obtain ⟨⟨vs', cs', h''⟩, hx, hK⟩ := hK
      obtain ⟨Bv', Bc', ho⟩ := end_sound hin.lt hmap hlen hB rr.hr rr.st e' hx
      refine loopB_sound (n0 := n0) hrd hb n vs' cs' hK w' _ a' bs Bv' Bc' Q (ho.toIn hin.lt hin.sub hin.glob) rr.nt (by rw [← hbase, ← e'.base]; exact rr.nd) fun e vs2 cs2 a2 w2 Bv2 Bc2 hK2 ho2 hnt2 hnd2 => ?_
      exact hQ e vs2 cs2 a2 w2 Bv2 Bc2 hK2 (OutL.next hin.lt ho ho2) hnt2 hnd2
    | exit id => exact other hK
    | goto l => exact other hK
    | ret => exact other hK
    | panic c => exact other hK
    | outgrown => exact other hK

theorem loopK_sound {rd : Option Nat} {p : List Bool} {b : Code} (hrd : rd = none ∨ noRF b = true) {L : LoopSem} (hb : CodeS cx (false :: p) b)
    (hL : ∀ (vs : List CV) (cs : List (List CV)) (β : Type) (K : Exit → List CV → List (List CV) → Option β) (r : β), L.run vs cs β K = some r → ∃ n, loopB cx L.ins L.outs p b n vs cs K = some r)
    {K : Exit → St → H → Option β} {st : St} {h : H} (hK : loopK cx L K st h = some r) {X : Nat → Prop} {ρ ρ0 : Env} {a : Act} {w w0 : World} {h0 : H} {Q : Exit → Act → World → Prop} (rr : R cx ρ X st h a w) (e : Ext ρ0 h0 w0 ρ h w)
    (hQ : ∀ e st h ρ a w, K e st h = some r → R cx ρ X st h a w → Ext ρ0 h0 w0 ρ h w → Q e a w) : (Code.loop b).wpIn (FR rd) 0 cx.P Q a w := by
  unfold loopK at hK
  replace hK := bind_some' hK
  obtain ⟨⟨vs, cs, h1⟩, hx, hK⟩ := hK
  obtain ⟨n, hK⟩ := hL _ _ _ _ _ hK
  obtain ⟨Bv, Bc, t, hvs, hcs, hnd, hdead⟩ := expo_sound rr.hr rr.st hx
  refine wpIn_loop_rounds n (loopB_sound hrd hb n vs cs hK w (Mut ρ (XB X (Bv ++ Bc)) h1) a _ Bv Bc Q ⟨hvs, hcs, t.nd, fun b hb => .inl (.inr hb), fun b hb => ?_, t.hr.glob⟩ rr.nt rr.nd fun e' vs' cs' a' w' Bv' Bc' hK ho hnt hnd' => ?_)
  · rcases hb with hb | ⟨i, _, hi⟩
    · exact t.hr.xlt b hb
    · exact t.hr.lt hi
  · replace hK := bind_some' hK
    obtain ⟨h2, hci, hK⟩ := hK
    replace hK := bind_some' hK
    obtain ⟨⟨st', h3⟩, hiv, hK⟩ := hK
    obtain ⟨hrm, hmay, hback⟩ := back rr.hr t ho.io ho.size ho.keep ho.new ho.nd
    have hperm : (Bc' ++ Bv').Perm (Bv' ++ Bc') := List.perm_append_comm
    have hmay2 := hmay.perm hperm
    have hd1 : ∀ i ∈ idsOf h st L.ins L.ins (ambL cx), i < h1.length ∧ getH h1 i = .dead := fun i hi => by
      obtain ⟨q1, _, q3⟩ := hdead i hi
      exact ⟨by rw [t.len]; exact q1, q3⟩
    obtain ⟨ρ1, m1⟩ := contsIn_sound _ cs' ρ h1 h2 _ Bc' hrm hci hd1 hnd rfl ho.cont hmay2.left
    have hl1 : ∀ i ∈ idsOf h st L.ins L.ins (ambL cx), i < h2.length := fun i hi => Nat.lt_of_lt_of_le (hd1 i hi).1 m1.ext.len
    have hmap : (idsOf h st L.ins L.ins (ambL cx)).map ρ1.blk = (idsOf h st L.ins L.ins (ambL cx)).map ρ.blk := List.map_congr_left fun i hi => (m1.agree i (hd1 i hi).1).2
    obtain ⟨ρ2, m2, hv⟩ := impV_sound (L.outs e') vs' ρ1 h2 st' h3 Bv' m1.hr hiv hl1 hmap ho.vals (hmay2.rightC m1)
    have m := m1.trans m2
    obtain ⟨hr', e2⟩ := hback ρ2 h3 _ _ m fun b hb => hperm.mem_iff.1 hb
    refine hQ e' st' h3 ρ2 a' w' hK ⟨hr', fun t => (hv t).mono (HExt.refl ρ2 h3) fun x u hx => hx.mono (Nat.le_refl _) (fun _ _ _ => rfl) (fun b _ hb => m.hr.sub b hb), hnt, by rw [e2.base]; exact hnd'⟩ (e.trans e2)
end
end Go.Ab

namespace Go.Ab
open Go

/-! ### Marks -/

/-- All lies as it lay, but for blocks that are no cells. -/
structure SameBut (D : Nat → Prop) (w w' : World) : Prop where
  size : w'.heap.size = w.heap.size
  keep : ∀ b, ¬ D b → w'.heap[b]? = w.heap[b]?
  nc : ∀ (b : Nat) (cur : Array Value) (ty : TypeId) (fz : Nat × Nat), D b → w.heap[b]? ≠ some (Obj.cells cur ty fz)
  nm : ∀ (b : Nat) (es : Array MapEntry) (clk : Nat), D b → w.heap[b]? ≠ some (Obj.map es clk)
  io : SameIO w w'

theorem SameBut.cells {D : Nat → Prop} {w w' : World} (s : SameBut D w w') {b : Nat} {cur : Array Value} {ty : TypeId} {fz : Nat × Nat} (h : w.heap[b]? = some (Obj.cells cur ty fz)) : w'.heap[b]? = some (Obj.cells cur ty fz) := by
  rw [s.keep b fun hd => s.nc b cur ty fz hd h]
  exact h

theorem SameBut.map {D : Nat → Prop} {w w' : World} (s : SameBut D w w') {b : Nat} {es : Array MapEntry} {clk : Nat} (h : w.heap[b]? = some (Obj.map es clk)) : w'.heap[b]? = some (Obj.map es clk) := by
  rw [s.keep b fun hd => s.nm b es clk hd h]
  exact h

theorem SameBut.cell {D : Nat → Prop} {w w' : World} (s : SameBut D w w') {a : Addr} {v : Value} (h : w.cell? a = some v) : w'.cell? a = some v := by
  unfold World.cell? at h ⊢
  cases ho : w.heap[a.block]? with
  | none => rw [ho] at h; cases h
  | some o =>
    rw [ho] at h
    cases o with
    | cells cur ty fz => rw [s.cells ho]; exact h
    | _ => cases h

theorem CR.sc {D : Nat → Prop} {w w' : World} {M : Nat → Prop} (s : SameBut D w w') {x : CV} {v : Value} (h : CR w M x v) : CR w' M x v := by
  induction h with
  | int k n => exact .int k n
  | bool b => exact .bool b
  | yld l => exact .yld l
  | top v hp => exact .top v hp
  | mp ks b es clk hMb hb hh hk => exact .mp ks b es clk hMb (by rw [s.size]; exact hb) (s.map hh) hk
  | sl0 sz a cap => exact .sl0 sz a cap
  | sl sz l b o cap u h0 hl hc hMb hb hcell hp hr ih => exact .sl sz l b o cap u h0 hl hc hMb (by rw [s.size]; exact hb) (fun i j x hx => s.cell (hcell i j x hx)) hp ih
  | pc cs off b o u hMb hb hcell hp hr ih => exact .pc cs off b o u hMb (by rw [s.size]; exact hb) (fun j x hx => s.cell (hcell j x hx)) hp ih
  | agg cs a hs hp hr ih => exact .agg cs a hs hp ih
  | tup cs a hs hr ih => exact .tup cs a hs ih
  | fn f c1 c2 a1 a2 hs1 hs2 hr1 hr2 ih1 ih2 => exact .fn f c1 c2 a1 a2 hs1 hs2 ih1 ih2

theorem VR.sc {D : Nat → Prop} {ρ : Env} {h : H} {w w' : World} {M : Nat → Prop} (s : SameBut D w w') {x : SV} {v : Value} (hx : VR ρ h w M x v) : VR ρ h w' M x v := hx.mono (HExt.refl ρ h) fun _ _ => CR.sc s

theorem HR.sc {D : Nat → Prop} {ρ : Env} {X : Nat → Prop} {h : H} {w w' : World} (s : SameBut D w w') (hr : HR ρ X h w) (hd : ∀ i b, bOf ρ i (getH h i) = some b → ¬ D b) : HR ρ X h w' where
  box := fun i => by
    have hx := hr.box i
    cases hg : getH h i with
    | acc ver fr sz l =>
      rw [hg] at hx
      obtain ⟨h1, h2, h3, h4⟩ := hx
      refine ⟨h1, h2, h3, ?_⟩
      rcases h4 with h4 | ⟨b, cap, cur, ty, h4, h5, h6, h7, h8⟩
      · exact .inl h4
      · exact .inr ⟨b, cap, cur, ty, h4, s.cells h5, h6, h7, fun k j x hx => by
          obtain ⟨u, hu, hp, hc⟩ := h8 k j x hx
          exact ⟨u, hu, hp, hc.sc s⟩⟩
    | cells fr cs =>
      rw [hg] at hx
      obtain ⟨cur, ty, h1, h2, h3⟩ := hx
      exact ⟨cur, ty, s.cells h1, h2, fun j x hx => by
        obtain ⟨u, hu, hp, hc⟩ := h3 j x hx
        exact ⟨u, hu, hp, hc.sc s⟩⟩
    | rc l fx ts env bs n q =>
      rw [hg] at hx
      obtain ⟨h0, h1, h2, h3, h4, h5⟩ := hx
      exact ⟨h0, by rw [s.keep l (hd i l (by rw [hg]; rfl))]; exact h1, h2, h3, h4, h5.imp fun _ _ => CR.sc s⟩
    | dead => trivial
    | mp fr ks =>
      rw [hg] at hx
      obtain ⟨es, clk, h1, h2⟩ := hx
      exact ⟨es, clk, s.map h1, h2⟩
  inj := hr.inj
  out := hr.out
  xlt := fun b hb => by rw [s.size]; exact hr.xlt b hb
  glob := fun g cs hg => (hr.glob g cs hg).sc s

/-- The marks' blocks, shut. -/
def shut (bl : List Nat) (w : World) : World := bl.foldl (fun w d => w.putObj d (.deferred none)) w

theorem shut_spec : ∀ (bl : List Nat) (w : World), bl.Nodup → (∀ d ∈ bl, w.heap[d]? = some (.deferred (some []))) → SameBut (· ∈ bl) w (shut bl w)
  | [], w, _, _ => ⟨rfl, fun _ _ => rfl, (fun b _ _ _ hb => by cases hb), (fun b _ _ hb => by cases hb), rfl, rfl⟩
  | d :: bl, w, hn, hd => by
    obtain ⟨h1, h2⟩ := List.nodup_cons.1 hn
    have h0 := hd d (by simp)
    have s := shut_spec bl (w.putObj d (.deferred none)) h2 fun e he => by
      rw [World.putObj_heap_other (show e ≠ d from fun h => h1 (by rw [← h]; exact he))]
      exact hd e (by simp [he])
    refine ⟨s.size.trans (by simp), fun b hb => ?_, fun b cur ty fz hb hc => ?_, fun b es clk hb hc => ?_, s.io.1, s.io.2⟩
    · refine (s.keep b fun h => hb (by simp [h])).trans ?_
      exact World.putObj_heap_other fun h => hb (by simp [h])
    · rw [hd b hb] at hc
      cases hc
    · rw [hd b hb] at hc
      cases hc

theorem leaves_marks {F : Fence} {n : Nat} {P : Program} {fn : Func} {tmps : Array Value} {G : Ending → World → Prop} : ∀ (bl : List Nat) (w : World), bl.Nodup → (∀ d ∈ bl, w.heap[d]? = some (.deferred (some []))) →
    LeavesIn F n P fn tmps G [] .returning (shut bl w) → LeavesInM F n P fn tmps G (bl.map mkMark) .returning w
  | [], w, _, _, h => h
  | d :: bl, w, hn, hd, h => by
    obtain ⟨h1, h2⟩ := List.nodup_cons.1 hn
    have h0 := hd d (by simp)
    refine ⟨by simp, .inl ⟨d, w.putObj d (.deferred none), rfl, run_takeDeferred h0, leaves_marks bl _ h2 (fun e he => ?_) h⟩⟩
    rw [World.putObj_heap_other (show e ≠ d from fun h => h1 (by rw [← h]; exact he))]
    exact hd e (by simp [he])


theorem Marks.sc {D : Nat → Prop} {n0 : Nat} {w w' : World} {ds : List Deferred} (s : SameBut D w w') (hd : ∀ b, D b → ∀ q, w.heap[b]? ≠ some (.deferred q)) (m : Marks n0 w ds) : Marks n0 w' ds := by
  obtain ⟨h0, bl, h1, h2, h3⟩ := m
  refine ⟨by rw [s.size]; exact h0, bl, h1, h2, fun d hm => ?_⟩
  obtain ⟨h4, h5⟩ := h3 d hm
  exact ⟨h4, by rw [s.keep d fun h => hd d h _ h5]; exact h5⟩

theorem OR.sc {D : Nat → Prop} {w w' : World} {M : Nat → Prop} (s : SameBut D w w') {x : CV} {v : Value} {B : List Nat} (h : OR w M x v B) : OR w' M x v B := by
  induction h with
  | c x v hx => exact .c x v (hx.sc s)
  | ownN sz h0 => exact .ownN sz h0
  | own sz l b cap cur ty h0 h1 h2 h4 h5 h6 h7 => exact .own sz l b cap cur ty h0 h1 h2 (s.cells h4) h5 h6 fun k j x hx => let ⟨u, hu, hp, hc⟩ := h7 k j x hx; ⟨u, hu, hp, hc.sc s⟩
  | box cs b cur ty Bs h1 h2 hp hr ih => exact .box cs b cur ty Bs (s.cells h1) h2 hp ih
  | agg cs a Bs hs hp hr ih => exact .agg cs a Bs hs hp ih
  | tup cs a Bs hs hr ih => exact .tup cs a Bs hs ih
  | mpo ks b es clk hh hk => exact .mpo ks b es clk (s.map hh) hk

theorem ContR.sc {D : Nat → Prop} {w w' : World} {M : Nat → Prop} (s : SameBut D w w') : ∀ {bs : List Nat} {cs : List (List CV)} {B : List Nat}, ContR w M bs cs B → (∀ b ∈ B, ¬ D b) → ContR w' M bs cs B
  | [], [], _, h, _ => h
  | _ :: _, _ :: _, _, .inl ⟨cur, ty, Bs, B2, h1, h2, h3, h4, h5⟩, hd => .inl ⟨cur, ty, Bs, B2, s.cells h1, h2, fun j x hx => ⟨(h3 j x hx).1, (h3 j x hx).2.sc s⟩, h4.sc s (fun b hb => hd b (by rw [h5]; simp [hb])), h5⟩
  | b :: _, _ :: _, _, .inr ⟨fx, ts, env, bx, n, q, B2, h1, h2, h3, h3', h4, h5, h6⟩, hd => .inr ⟨fx, ts, env, bx, n, q, B2, h1, by rw [s.keep b (hd b (by rw [h6]; simp))]; exact h2, h3, h3', h4.imp fun _ _ hx => hx.sc s, h5.sc s (fun b hb => hd b (by rw [h6]; simp [hb])), h6⟩
  | [], _ :: _, _, h, _ => h.elim
  | _ :: _, [], _, h, _ => h.elim

/-- Memory that has grown. -/
theorem OR.up {w w' : World} {M M' : Nat → Prop} (hs : w.heap.size ≤ w'.heap.size) (hk : ∀ b, b < w.heap.size → w'.heap[b]? = w.heap[b]?) (hM : ∀ b, b < w.heap.size → M' b → M b) {x : CV} {v : Value} {B : List Nat} (h : OR w M x v B) : OR w' M' x v B := by
  induction h with
  | c x v hx => exact .c x v (hx.mono hs (fun b hb _ => hk b hb) hM)
  | ownN sz h0 => exact .ownN sz h0
  | own sz l b cap cur ty h0 h1 h2 h4 h5 h6 h7 => exact .own sz l b cap cur ty h0 h1 h2 ((hk b (block_lt h4)).trans h4) h5 h6 fun k j x hx => let ⟨u, hu, hp, hc⟩ := h7 k j x hx; ⟨u, hu, hp, hc.mono hs (fun b hb _ => hk b hb) hM⟩
  | box cs b cur ty Bs h1 h2 hp hr ih => exact .box cs b cur ty Bs ((hk b (block_lt h1)).trans h1) h2 hp ih
  | agg cs a Bs hs hp hr ih => exact .agg cs a Bs hs hp ih
  | tup cs a Bs hs hr ih => exact .tup cs a Bs hs ih
  | mpo ks b es clk hh hkk => exact .mpo ks b es clk ((hk b (block_lt hh)).trans hh) hkk

theorem ContR.up {w w' : World} {M M' : Nat → Prop} (hs : w.heap.size ≤ w'.heap.size) (hk : ∀ b, b < w.heap.size → w'.heap[b]? = w.heap[b]?) (hM : ∀ b, b < w.heap.size → M' b → M b) : ∀ {bs : List Nat} {cs : List (List CV)} {B : List Nat}, ContR w M bs cs B → ContR w' M' bs cs B
  | [], [], _, h => h
  | b :: _, _ :: _, _, .inl ⟨cur, ty, Bs, B2, h1, h2, h3, h4, h5⟩ => .inl ⟨cur, ty, Bs, B2, (hk b (block_lt h1)).trans h1, h2, fun j x hx => ⟨(h3 j x hx).1, (h3 j x hx).2.up hs hk hM⟩, h4.up hs hk hM, h5⟩
  | b :: _, _ :: _, _, .inr ⟨fx, ts, env, bx, n, q, B2, h1, h2, h3, h3', h4, h5, h6⟩ => .inr ⟨fx, ts, env, bx, n, q, B2, h1, (hk b (block_lt h2)).trans h2, h3, h3', h4.imp fun _ _ hx => hx.mono hs (fun b hb _ => hk b hb) hM, h5.up hs hk hM, h6⟩
  | [], _ :: _, _, h => h.elim
  | _ :: _, [], _, h => h.elim

theorem sb_put {w : World} {l : Nat} {r r' : Loop} (h : w.heap[l]? = some (.loop r)) : SameBut (· = l) w (w.putObj l (.loop r')) :=
  ⟨by simp, fun b hb => World.putObj_heap_other hb, (fun b cur ty fz hb hc => by subst hb; rw [h] at hc; cases hc), (fun b es clk hb hc => by subst hb; rw [h] at hc; cases hc), rfl, rfl⟩

/-! ### What a round begins with -/

theorem set_getD {tmps : Array Value} {p t : Nat} {a : Value} (hp : p < tmps.size) : (tmps.setIfInBounds p a).getD t undef = if t = p then a else tmps.getD t undef := by
  simp only [Array.getD_eq_getD_getElem?, Array.getElem?_setIfInBounds]
  by_cases h : p = t
  · subst h; simp [hp]
  · rw [if_neg h, if_neg (fun e => h e.symm)]

theorem argSt_get {ρ : Env} {h : H} {w : World} {M : Nat → Prop} : ∀ (ps : List Nat) (args : List CV) (vs : List Value) (st : St) (tmps : Array Value), ps.length = args.length → args.length = vs.length → (∀ p ∈ ps, p < tmps.size) → (∀ t, VR ρ h w M (get st t) (tmps.getD t undef)) →
    (∀ (j : Nat) (x : CV), args[j]? = some x → CR w M x (vs[j]?.getD undef)) → (((ps.zip vs).foldl (fun tmps (x : Nat × Value) => tmps.setIfInBounds x.1 x.2) tmps).size = tmps.size) ∧
      ∀ t, VR ρ h w M (get (argSt ps args st) t) (((ps.zip vs).foldl (fun tmps (x : Nat × Value) => tmps.setIfInBounds x.1 x.2) tmps).getD t undef)
  | [], [], _, st, tmps, _, _, _, hst, _ => ⟨rfl, hst⟩
  | p :: ps, x :: args, v :: vs, st, tmps, h1, h2, hp, hst, ha => by
    have hpt := hp p (by simp)
    obtain ⟨h3, h4⟩ := argSt_get ps args vs ((p, .c x) :: st) (tmps.setIfInBounds p v) (by simpa using h1) (by simpa using h2) (fun q hq => by simpa using hp q (by simp [hq])) (fun t => by
      rw [set_getD hpt]
      have : get ((p, .c x) :: st) t = get (put st (some p) (.c x)) t := rfl
      rw [this, get_put]
      split
      · exact VR.c (ρ := ρ) (h := h) _ _ (by simpa using ha 0 x rfl)
      · exact hst t) (fun j y hy => by simpa using ha (j + 1) y (by simpa using hy))
    exact ⟨h3.trans (by simp), h4⟩
  | [], _ :: _, _, _, _, h1, _, _, _, _ => by simp at h1
  | _ :: _, [], _, _, _, h1, _, _, _, _ => by simp at h1
  | _ :: _, _ :: _, [], _, _, _, h2, _, _, _ => by simp at h2

theorem insSt_get {ρ : Env} {h : H} {w : World} {M : Nat → Prop} {bx : List Nat} {tmps : Array Value} (hb : ∀ k b, bx[k]? = some b → ρ.blk k = b ∧ k < h.length) : ∀ (ts : List Nat) (env : List CV), (∀ (j t : Nat) (x : CV), ts[j]? = some t → env[j]? = some x → ArgR w M bx x (tmps.getD t undef)) →
    ∀ t, VR ρ h w M (get (insSt ts env) t) (tmps.getD t undef)
  | [], _, _, t => .any _
  | _ :: _, [], _, t => .any _
  | p :: ts, x :: env, he, t => by
    have ih := insSt_get hb ts env (fun j t x h1 h2 => he (j + 1) t x (by simpa using h1) (by simpa using h2)) t
    have h0 := he 0 p x rfl rfl
    have key : ∀ s, VR ρ h w M s (tmps.getD p undef) → VR ρ h w M (get ((p, s) :: insSt ts env) t) (tmps.getD t undef) := fun s hs => by
      have : get ((p, s) :: insSt ts env) t = get (put (insSt ts env) (some p) s) t := rfl
      rw [this, get_put]
      split
      · rename_i e; subst e; exact hs
      · exact ih
    rcases h0 with ⟨k, b, rfl, hk, hv⟩ | hc
    · obtain ⟨h1, h2⟩ := hb k b hk
      exact key _ (.ptr _ _ _ (by rw [hv]; rfl) h2 (by rw [hv, h1]))
    · refine key _ ?_
      cases x with
      | ref k =>
        exfalso
        generalize tmps.getD p undef = u at hc
        cases hc
      | _ => exact .c _ _ hc

section
variable {cx : Cx}

/-- The rounds of a loop. -/
theorem round_sound (hN : NatX cx) (hNL : ∀ q L, cx.Λ q = some L → NatL L) (hrs : RoundsS cx) {p : List Bool} {S : RfSem} {g : Operand} {ps : Array Tmp} {as bd : Code} (hS : cx.rf (pathN p) = some S) (hp : codeAt cx.root p = some (.rangeFunc g ps as bd))
    (ihx : CodeS cx (false :: p) as) (ihy : CodeS cx (true :: p) bd) {env : List CV} {l : Nat} {fx : Loop} {bx : List Nat} {n : Nat} (hps : fx.params = ps) (has : fx.assign = as) (hbd : fx.body = bd) (htm : fx.tmps.size = cx.nt) :
    SoundY cx.P (gY (.rcd l fx S.ins env bx n none) (S.Y env)) := by
  intro args conts β K r hrun
  unfold gY at hrun
  dsimp only at hrun
  split at hrun
  · rename_i c cs
    replace hrun := cond_some hrun
    obtain ⟨hc, hrun⟩ := hrun
    obtain rfl := okC_eq hc
    have hB := hrs p S g ps as bd hS hp env args cs _ _ _ hrun
    rcases roundB_nat hN hNL (ins := S.ins) (p := p) (ps := ps.toList) (as := as) (bd := bd) (env := env) (args := args) (conts := cs) with ⟨s0, co, hnat⟩ | hnat
    · refine ⟨_, _, (hnat _ _).symm.trans hB, ?_⟩
      have hp' := hnat _ (fun a b => some (a, b))
      unfold roundB at hp'
      replace hp' := cond_some hp'
      obtain ⟨hgu, hp'⟩ := hp'
      simp only [Bool.and_eq_true] at hgu
      obtain ⟨⟨⟨⟨hlen, _⟩, hpt⟩, hra⟩, hrb⟩ := hgu
      have hlen := beq_true hlen
      intro w M vs l' bs B hin
      rcases hin.cont with ⟨cur, ty, Bs, B2, h1, h2, h3, h4, _⟩ | ⟨fx', ts', env', bx', n', q', B2, hceq, h1, h2, h3, h5, h4, rfl⟩
      · exact absurd (h3 0 _ rfl).2 no_rcd
      · simp only [List.cons.injEq, CV.rcd.injEq, and_true] at hceq
        obtain ⟨rfl, rfl, rfl, rfl, rfl, rfl, rfl⟩ := hceq
        have hsz : vs.size = ps.size := by rw [hin.size, hlen]; simp
        refine ⟨recOf fx none, h1, by simp [recOf, hps, hsz], ?_⟩
        have hlt : l < w.heap.size := block_lt h1
        have hnd := List.nodup_cons.1 hin.nd
        obtain ⟨ρ0, ρ, m, hmap, hno, hbase⟩ := start_sound w.heap.size (X := fun b => M b ∧ b ∉ B2) (fun b hb => hb.1) h4 hnd.2 (fun b hb => hin.sub b (List.mem_cons_of_mem _ hb)) (fun b hb hx => hx.2 hb) hin.glob
        have hXl : (fun b => M b ∧ b ∉ B2) l := ⟨hin.sub l List.mem_cons_self, hnd.1⟩
        have hr : HR ρ (fun b => M b ∧ b ∉ B2) (startH cs 0 (List.replicate cs.length .dead)) w := m.hr.toHR fun b hb => hin.lt b hb.1
        have hl1 : ∀ k ∈ List.range cs.length, k < (startH cs 0 (List.replicate cs.length .dead)).length := fun k hk => Nat.lt_of_lt_of_le (by simpa using hk) m.ext.len
        have hBof : ∀ j b, bOf ρ j (getH (startH cs 0 (List.replicate cs.length .dead)) j) = some b → b ∈ B2 := fun j b hb => by
          rcases m.new j b hb with ⟨_, h2⟩ | h2
          · exact absurd h2 (hno j b)
          · exact h2
        have hlive0 : ∀ b, live ρ (startH cs 0 (List.replicate cs.length .dead)) b → b ∈ B2 := fun b ⟨j, _, hj⟩ => hBof j b hj
        have hbxb : ∀ k b, bx[k]? = some b → ρ.blk k = b ∧ k < (startH cs 0 (List.replicate cs.length .dead)).length := fun k b hk => by
          rw [← h3] at hk
          have hkn : k < n := by
            have := (List.getElem?_eq_some_iff.1 hk).1
            simp at this
            omega
          rw [List.getElem?_take_of_lt hkn, ← hmap, List.getElem?_map, Option.map_eq_some_iff] at hk
          obtain ⟨i, hi, rfl⟩ := hk
          have hik : i = k := by
            obtain ⟨_, h2⟩ := List.getElem?_eq_some_iff.1 hi
            simpa using h2.symm
          subst hik
          exact ⟨rfl, hl1 i (List.mem_of_getElem? hi)⟩
        have hsub : ∀ b, Mut ρ (fun b => M b ∧ b ∉ B2) (startH cs 0 (List.replicate cs.length .dead)) b → M b := fun b hb => m.hr.sub b hb
        have hst0 := insSt_get (ρ := ρ) (h := startH cs 0 (List.replicate cs.length .dead)) hbxb S.ins env h5.2
        obtain ⟨hts, hst⟩ := argSt_get (ρ := ρ) (h := startH cs 0 (List.replicate cs.length .dead)) (w := w) (M := M) ps.toList args vs.toList (insSt S.ins env) fx.tmps hlen.symm (by simpa using hin.size.symm) (fun q hq => by
          have := List.all_eq_true.1 hpt q hq
          rw [htm]
          simpa [Nat.blt_eq] using this) hst0 (fun j x hx => by
          have := hin.arg j x hx
          rcases this with ⟨k, b, rfl, _, _⟩ | this
          · have := List.all_eq_true.1 (by assumption : args.all noRef = true) _ (List.mem_of_getElem? hx)
            simp [noRef] at this
          · simpa using this)
        have hfold : ((recOf fx none).params.zip vs).foldl (fun tmps (x : Tmp × Value) => tmps.setIfInBounds x.1 x.2) (recOf fx none).tmps = (ps.toList.zip vs.toList).foldl (fun tmps (x : Nat × Value) => tmps.setIfInBounds x.1 x.2) fx.tmps := by
          rw [show (recOf fx none).params = ps from hps, show (recOf fx none).tmps = fx.tmps from rfl, ← Array.foldl_toList, Array.toList_zip]
        refine roundIn_of_wpIn (F := FR none) trivial ?_
        rw [show (recOf fx none).assign = as from has, show (recOf fx none).body = bd from hbd]
        show as.wpIn (FR (some l)) 0 cx.P _ _ w
        have hnl : ¬ live ρ (startH cs 0 (List.replicate cs.length .dead)) l := fun h => hnd.1 (hlive0 l h)
        refine ihx (some l) (.inr hra) FUEL _ _ _ _ _ hp' (fun b => M b ∧ b ∉ B2) ρ _ w ρ (startH cs 0 (List.replicate cs.length .dead)) w _ ⟨hr, fun t => ?_, ?_, Marks.nil (by rw [hbase]; exact Nat.le_refl _)⟩ (Ext.refl _ _ _) fun e st1 h1' ρ1 a1 w1 hK1 rr1 e1 => ?_
        · have := hst t
          rw [← hfold] at this
          exact this.mono (HExt.refl _ _) fun x u hx => hx.mono (Nat.le_refl _) (fun _ _ _ => rfl) (fun b _ hb => hsub b hb)
        · have := hts.trans htm
          rw [← hfold] at this
          exact this
        · cases e with
          | normal =>
            have hrec1 : w1.heap[l]? = some (.loop (recOf fx none)) := (e1.keep l hlt hnl).trans h1
            refine ⟨w1.putObj l (.loop { recOf fx none with state := .busy }), run_beginRound hrec1 rfl, ?_⟩
            have hno1 : ∀ {ρ h w}, HR ρ (fun b => M b ∧ b ∉ B2) h w → ∀ i b, bOf ρ i (getH h i) = some b → ¬ b = l := fun hr i b hb he => hr.out i b hb (he ▸ hXl)
            have s1 : SameBut (· = l) w1 (w1.putObj l (.loop { recOf fx none with state := .busy })) := sb_put hrec1
            show bd.wpIn (FR (some l)) 0 cx.P _ _ _
            refine ihy (some l) (.inr hrb) FUEL _ _ _ _ _ hK1 (fun b => M b ∧ b ∉ B2) ρ1 a1 _ ρ1 h1' _ _ ⟨rr1.hr.sc s1 (hno1 rr1.hr), fun t => (rr1.st t).sc s1, rr1.nt, rr1.nd.sc s1 (fun b hb q hq => by subst hb; rw [hrec1] at hq; cases hq)⟩ (Ext.refl _ _ _) fun e st3 h3' ρ3 a3 w3 hK3 rr3 e3 => ?_
            have hlt1 : l < w1.heap.size := block_lt hrec1
            have hnl1 : ¬ live ρ1 h1' l := fun ⟨i, _, hi⟩ => hno1 rr1.hr i l hi rfl
            have hrec3 : w3.heap[l]? = some (.loop { recOf fx none with state := .busy }) := by
              rw [e3.keep l (by simpa using hlt1) hnl1]
              exact World.putObj_heap_same hlt1
            have hlive1 : ∀ b, b < w.heap.size → live ρ1 h1' b → b ∈ B2 := fun b hb hl => hlive0 b (e1.lives b hb hl)
            have fin : ∀ s : Option Nat, ((contsOut (List.range cs.length) h3').bind fun c => some (s, c.1)) = some (s0, co) →
                ∃ B2', OutR w M (l :: B2) (l :: bs) (w3.putObj l (.loop (recOf fx s))) (.bool s.isNone) (.bool s0.isNone) ([setS (.rcd l fx S.ins env bx n none) s0] :: co) [] (l :: B2') := fun s hc => by
              replace hc := bind_some' hc
              obtain ⟨⟨co', h4'⟩, hco, hc⟩ := hc
              simp only [Option.some.injEq, Prod.mk.injEq] at hc
              obtain ⟨rfl, rfl⟩ := hc
              obtain ⟨B3, t, c3, _, _⟩ := contsOut_sound _ _ h3' co' h4' rr3.hr hco
              have hmap3 : (List.range cs.length).map ρ3.blk = bs := by
                rw [← hmap]
                refine List.map_congr_left fun i hi => ?_
                exact (e3.blks i (Nat.lt_of_lt_of_le (hl1 i hi) e1.len)).trans (e1.blks i (hl1 i hi))
              rw [hmap3] at c3
              have s3 : SameBut (· = l) w3 (w3.putObj l (.loop (recOf fx s))) := sb_put hrec3
              have hnB3 : ∀ b ∈ B3, ¬ b = l := fun b hb he => by
                obtain ⟨i, _, hi⟩ := t.bl b hb
                exact hno1 rr3.hr i b hi he
              have hsz1 : w.heap.size ≤ w1.heap.size := e1.size
              have hsz3 : w1.heap.size ≤ w3.heap.size := by simpa using e3.size
              have hkeep : ∀ b, b < w.heap.size → b ∉ l :: B2 → (w3.putObj l (.loop (recOf fx s))).heap[b]? = w.heap[b]? := fun b hb hn => by
                have hbl : ¬ b = l := fun h => hn (by simp [h])
                have hb2 : b ∉ B2 := fun h => hn (by simp [h])
                rw [s3.keep b hbl, e3.keep b (by simp; omega) (fun h => hb2 (hlive1 b hb h)), s1.keep b hbl]
                exact e1.keep b hb fun h => hb2 (hlive0 b h)
              have hnew : ∀ b, b ∈ l :: B3 → b ∈ l :: B2 ∨ w.heap.size ≤ b := fun b hb => by
                rcases List.mem_cons.1 hb with rfl | hb
                · exact .inl (by simp)
                · by_cases hbw : b < w.heap.size
                  · have h5 := e3.lives b (by simp; omega) (t.bl b hb)
                    exact .inl (by simp [hlive1 b hbw h5])
                  · exact .inr (by omega)
              have hMM : ∀ b, b < w.heap.size → MM M (l :: B2) (l :: B3) b → M b := fun b hb hm => by
                rcases hm with ⟨hm, _⟩ | hm
                · exact hm
                · rcases hnew b hm with h | h
                  · exact hin.sub b h
                  · omega
              refine ⟨B3, ⟨⟨e3.io.1.trans e1.io.1, e3.io.2.trans e1.io.2⟩, by simp; omega, hkeep, hnew, ?_, .c _ _ (.bool _), .inr ⟨fx, S.ins, env, bx, n, s, B3, rfl, ?_, h2, h3, h5.imp fun x v hx => hx.mono (by simp; omega) (fun b hb hn => hkeep b hb fun hm => hn (hin.sub b hm)) hMM, ?_, rfl⟩⟩⟩
              · rw [List.nil_append]
                exact List.nodup_cons.2 ⟨fun hm => hnB3 l hm rfl, t.nd⟩
              · exact World.putObj_heap_same (block_lt hrec3)
              · refine (c3.sc s3 hnB3).mono fun b hb => ?_
                rcases hb with ⟨hb, hn⟩ | hb
                · exact .inl (.inl ⟨hb, fun h => hn (by simp [h])⟩)
                · rcases List.mem_cons.1 hb with rfl | hb
                  · exact .inl (.inl hXl)
                  · exact .inl (.inr hb)
            have post : ∀ (s : Option Nat) (j : Option Code), (s = none ∧ j = none ∨ ∃ k, s = some k ∧ j = some (jmp k)) → ((contsOut (List.range cs.length) h3').bind fun c => some (s, c.1)) = some (s0, co) →
                ∃ v w', (Instr.endRound l j).run cx.P w3 = .ok v w' ∧ ∃ v' Br B2', Ending.returned v = .returned v' ∧ OutR w M (l :: B2) (l :: bs) w' v' (.bool s0.isNone) ([setS (.rcd l fx S.ins env bx n none) s0] :: co) Br B2' := fun s j hsj hc => by
              obtain ⟨B3, o⟩ := fin s hc
              rcases hsj with ⟨rfl, rfl⟩ | ⟨k, rfl, rfl⟩
              · exact ⟨_, _, run_endRound none hrec3, _, _, _, rfl, o⟩
              · exact ⟨_, _, run_endRound (some (jmp k)) hrec3, _, _, _, rfl, o⟩
            cases e3' : e with
            | normal => exact post none none (.inl ⟨rfl, rfl⟩) (by subst e3'; exact hK3)
            | ret => exact post (some 0) (some .ret) (.inr ⟨0, rfl, rfl⟩) (by subst e3'; exact hK3)
            | exit i => exact post (some (i + 1)) (some (.exit i)) (.inr ⟨i + 1, rfl, rfl⟩) (by subst e3'; exact hK3)
            | _ => subst e3'; cases hK3
          | _ => cases hK1
    · have := (hnat _ _).symm.trans hB
      cases this
  · cases hrun
end

section
variable {cx : Cx} {β : Type} {r : β}

/-- A loop over an iterator. -/
theorem rangeK_sound (hE : EqY cx) (hN : NatX cx) (hNL : ∀ q L, cx.Λ q = some L → NatL L) {p : List Bool} {g : Operand} {ps : Array Tmp} {as bd : Code} (hp : codeAt cx.root p = some (.rangeFunc g ps as bd))
    (ihx : CodeS cx (false :: p) as) (ihy : CodeS cx (true :: p) bd) {K : Exit → St → H → Option β} {st : St} {h : H} (hK : rangeK cx (pathN p) (ev cx.P st 0 g) K st h = some r) {X : Nat → Prop} {ρ ρ0 : Env} {a : Act} {w w0 : World} {h0 : H} {Q : Exit → Act → World → Prop}
    (rr : R cx ρ X st h a w) (e : Ext ρ0 h0 w0 ρ h w) (hQ : ∀ e st h ρ a w, K e st h = some r → R cx ρ X st h a w → Ext ρ0 h0 w0 ρ h w → Q e a w) : (Code.rangeFunc g ps as bd).wpIn (FR none) 0 cx.P Q a w := by
  unfold rangeK at hK
  split at hK
  · rename_i S f caps hS hev
    split at hK
    · rename_i G hG
      replace hK := bind_some' hK
      obtain ⟨⟨env, is, h1⟩, ha, hK⟩ := hK
      replace hK := bind_some' hK
      obtain ⟨⟨conts, h2⟩, hco, hK⟩ := hK
      dsimp only at hK hco
      refine wpIn_rangeFunc fun fnid _ => ?_
      -- what the loop lays
      let fx : Loop := { state := .ready, pending := none, fn := fnid, tmps := a.tmps, params := ps, assign := as, body := bd, defers := w.heap.size }
      have hfx : recOf fx none = fx := rfl
      let wb : World := w.alloc (.deferred (some []))
      let w1 : World := wb.alloc (.loop fx)
      have hwb : wb.heap.size = w.heap.size + 1 := by simp [wb]
      have hw1 : w1.heap.size = w.heap.size + 2 := by simp [w1, hwb]
      have hold : ∀ b, b < w.heap.size → wb.heap[b]? = w.heap[b]? := fun b hb => heap_alloc_old w _ b hb
      have hold1 : ∀ b, b < wb.heap.size → w1.heap[b]? = wb.heap[b]? := fun b hb => heap_alloc_old wb _ b hb
      have hd : wb.heap[w.heap.size]? = some (.deferred (some [])) := World.alloc_heap_new w _
      have hl : w1.heap[w.heap.size + 1]? = some (.loop fx) := by rw [← hwb]; exact World.alloc_heap_new wb _
      have eb : Ext ρ h w ρ h wb := ⟨HExt.refl ρ h, by omega, fun b hb _ => hold b hb, fun _ _ hl => hl, rfl, rfl⟩
      have hrb : HR ρ X h wb := ⟨fun i => (rr.hr.box i).mono eb rfl rfl fun b hb => hold b (rr.hr.lt hb), rr.hr.inj, rr.hr.out, fun b hb => by have := rr.hr.xlt b hb; omega, eb.glob rr.hr.glob⟩
      -- what goes out
      obtain ⟨hal, t1, hav⟩ := argsIn_sound (w := wb) (S.ins.map (get st)) (ambL cx).length h env is h1 (fun j => a.tmps.getD (S.ins.getD j 0) undef) hrb (fun j s hs => by
        simp only [List.getElem?_map, Option.map_eq_some_iff] at hs
        obtain ⟨t, ht, rfl⟩ := hs
        have : S.ins.getD j 0 = t := by simp [ht]
        rw [this]
        exact eb.vr (rr.st t)) ha
      obtain ⟨B0, hInR, hmono, _, hliv, hback⟩ := pass_sound hrb t1 hco
      have hin0 := hInR [] #[] rfl (fun j x hx => by simp at hx)
      have hlen : ((ambL cx ++ is).map ρ.blk).length = conts.length := hin0.cont.len
      have hSY := round_sound hN hNL hE.rs hS hp ihx ihy (env := env) (l := w.heap.size + 1) (fx := fx) (bx := (ambL cx ++ is).map ρ.blk) (n := conts.length) rfl rfl rfl rr.nt
      have hSI := hE.it f G hG (w.heap.size + 1) fx S.ins env ((ambL cx ++ is).map ρ.blk) conts.length (S.Y env) (hN.rf _ _ hS env) hSY
      obtain ⟨fnF, hE1, hE2, hE3⟩ := hSI.enter
      rcases hN.it f G hG (S.Y env) (hN.rf _ _ hS env) caps conts with ⟨s, co, hnat⟩ | hnat
      case inr =>
        have := (hnat _ _).symm.trans hK
        cases this
      have hK1 := (hnat _ _).symm.trans hK
      replace hK1 := bind_some' hK1
      obtain ⟨h', hci, hK1⟩ := hK1
      obtain ⟨rv, co', hrv, hcalls⟩ := hSI.calls (.yld (w.heap.size + 1) :: caps) ([.rcd (w.heap.size + 1) fx S.ins env ((ambL cx ++ is).map ρ.blk) conts.length none] :: conts) (CV × List (List CV)) (fun a b => some (a, b))
        (.tup [], [.rcd (w.heap.size + 1) fx S.ins env ((ambL cx ++ is).map ρ.blk) conts.length s] :: co) (by
          unfold hI
          simp only [okC_self, decide_true, numR, Bool.and_self, Bool.true_and]
          rw [show Nat.beq conts.length conts.length = true by simp]
          exact hnat _ _)
      obtain ⟨rfl, rfl⟩ := Prod.mk.inj (Option.some.inj hrv)
      -- the iterator
      have hg := ev_sound rr 0 g
      rw [hev] at hg
      obtain ⟨a2, hgv, hca, hcr⟩ : ∃ a2 : Array Value, a.eval g = .func (.func f) #[] a2 ∧ a2.size = caps.length ∧ ∀ (j : Nat) (x : CV), caps[j]? = some x → CR w (Mut ρ X h) x (a2.getD j undef) := by
        generalize a.eval g = v at hg
        cases hg with
        | c _ _ hc =>
          cases hc with
          | fn f c1 c2 a1 a2 hs1 hs2 hr1 hr2 =>
            have : a1 = #[] := by simpa using hs1
            subst this
            exact ⟨a2, rfl, hs2, hr2⟩
      have hmut : ∀ b, Mut ρ (XB X B0) h2 b → Mut ρ X h b := fun b hb => by
        rcases hmono b hb with hb | hb
        · exact .inl hb
        · exact .inr (t1.lv b hb)
      have hBlt : ∀ b ∈ B0, b < w.heap.size := fun b hb => by
        obtain ⟨i, _, hi⟩ := hliv b hb
        exact rr.hr.lt hi
      have hMlt : ∀ b, Mut ρ (XB X B0) h2 b → b < w.heap.size := fun b hb => by
        rcases hmut b hb with hb | ⟨i, _, hi⟩
        · exact rr.hr.xlt b hb
        · exact rr.hr.lt hi
      have hcrw : ∀ x v, CR wb (Mut ρ X h1) x v → CR w1 (fun b => Mut ρ (XB X B0) h2 b ∨ b = w.heap.size + 1) x v := fun x v hx => hx.mono (by omega) (fun b hb _ => hold1 b hb) fun b hb hm => by
        rcases hm with hm | rfl
        · exact hmono b hm
        · omega
      have hin1 : InR w1 (fun b => Mut ρ (XB X B0) h2 b ∨ b = w.heap.size + 1) (.yld (w.heap.size + 1) :: caps) ([.rcd (w.heap.size + 1) fx S.ins env ((ambL cx ++ is).map ρ.blk) conts.length none] :: conts) (#[.func (.yield (w.heap.size + 1)) #[] #[]] ++ a2)
          ((w.heap.size + 1) :: (ambL cx ++ is).map ρ.blk) ((w.heap.size + 1) :: B0) := by
        refine ⟨by simp [hca]; omega, fun j x hx => ?_, .inr ⟨fx, S.ins, env, _, _, none, B0, rfl, hl, hlen, by rw [List.take_of_length_le (by omega)], ⟨by rw [hal]; simp, fun j t x h1 h2 => ?_⟩, hin0.cont.up (by omega) hold1 fun b hb hm => ?_, rfl⟩, ?_, fun b hb => ?_, fun b hb => ?_, hin0.glob.mono (by omega) (fun b hb _ => hold1 b hb) fun b hb hm => by
          rcases hm with hm | rfl
          · exact hm
          · omega⟩
        · cases j with
          | zero =>
            simp at hx
            subst hx
            have e0 : (#[Value.func (.yield (w.heap.size + 1)) #[] #[]] ++ a2).getD 0 undef = .func (.yield (w.heap.size + 1)) #[] #[] := by
              rw [Array.getD_eq_getD_getElem?, Array.getElem?_append_left (by simp)]
              simp
            rw [e0]
            exact .inr (.yld _)
          | succ j =>
            have hj := hcr j x (by simpa using hx)
            have e1 : (#[Value.func (.yield (w.heap.size + 1)) #[] #[]] ++ a2).getD (j + 1) undef = a2.getD j undef := by
              rw [Array.getD_eq_getD_getElem?, Array.getD_eq_getD_getElem?, Array.getElem?_append_right (by simp)]
              simp
            rw [e1]
            refine .inr (hj.mono (by omega) (fun b hb _ => (hold1 b (by omega)).trans (hold b hb)) fun b hb hm => ?_)
            rcases hm with hm | rfl
            · exact hmut b hm
            · omega
        · have hx := hav j x h2
          have e1 : S.ins.getD j 0 = t := by simp [h1]
          rw [e1] at hx
          rcases hx with ⟨m, i, h3, h4, h5⟩ | h3
          · refine .inl ⟨(ambL cx).length + m, ρ.blk i, h3, ?_, h5⟩
            rw [List.getElem?_map, List.getElem?_append_right (by omega), show (ambL cx).length + m - (ambL cx).length = m by omega, h4]
            rfl
          · exact .inr (hcrw _ _ h3)
        · rcases hm with hm | rfl
          · exact hm
          · omega
        · exact List.nodup_cons.2 ⟨fun hm => by have := hBlt _ hm; omega, hin0.nd⟩
        · rcases List.mem_cons.1 hb with rfl | hb
          · exact .inr rfl
          · exact .inl (hin0.sub b hb)
        · rcases hb with hb | rfl
          · have := hMlt b hb; omega
          · omega
      refine ⟨w.heap.size + 1, [mkMark w.heap.size], w1, { target := .fn (.func f) a2, args := #[.func (.yield (w.heap.size + 1)) #[] #[]] }, w1, f, #[.func (.yield (w.heap.size + 1)) #[] #[]] ++ a2, w1, run_enterLoop_outer fnid a.tmps ps as bd, ?_, fun _ _ => trivial, ?_, fun h => by simp [FR, Fence.wide] at h, ?_⟩
      · show (Deferred.ofValue (a.eval g) (#[Operand.const (.func (.yield (w.heap.size + 1)) #[] #[])].map a.eval)).run cx.P w1 = _
        rw [hgv]
        simp [Deferred.ofValue, Act.eval]
      · simp only [invoke]
        exact run_callFunc ⟨fnF, hE1, hE2, hE3⟩ _ w1
      refine FR.calls ((hcalls w1 _ _ _ _ hin1).mono fun e' w' he => ?_)
      obtain ⟨v, Br, B2, rfl, out⟩ := he
      rcases out.cont with ⟨cur, ty, Bs, B2', g1, g2, g3, g4, _⟩ | ⟨fx', ts', env', bx', n', q', B2', hceq, g1, g2, g3, g5, g4, rfl⟩
      · exact absurd (g3 0 _ rfl).2 no_rcd
      simp only [List.cons.injEq, CV.rcd.injEq, and_true] at hceq
      obtain ⟨_, rfl, rfl, rfl, rfl, rfl, rfl⟩ := hceq
      have hnb : (recOf fx s).state ≠ .busy := by cases s <;> simp [recOf]
      refine ⟨(recOf fx s).pending, _, run_endLoop g1 hnb, ?_⟩
      have s4 : SameBut (· = w.heap.size + 1) w' (w'.putObj (w.heap.size + 1) (.loop { recOf fx s with state := .exhausted })) := sb_put g1
      have hosz := out.size
      have out4 : OutR wb (Mut ρ (XB X B0) h2) B0 ((ambL cx ++ is).map ρ.blk) (w'.putObj (w.heap.size + 1) (.loop { recOf fx s with state := .exhausted })) v (.tup []) co Br B2' := by
        have hnl : ∀ b ∈ Br ++ B2', ¬ b = w.heap.size + 1 := fun b hb he => by
          subst he
          have := out.nd
          rw [List.nodup_append] at this
          rcases List.mem_append.1 hb with hb | hb
          · exact this.2.2 _ hb _ List.mem_cons_self rfl
          · exact (List.nodup_cons.1 this.2.1).1 hb
        have hMM : ∀ b, MM (Mut ρ (XB X B0) h2) B0 (Br ++ B2') b → MM (fun b => Mut ρ (XB X B0) h2 b ∨ b = w.heap.size + 1) ((w.heap.size + 1) :: B0) (Br ++ (w.heap.size + 1) :: B2') b := fun b hb => by
          rcases hb with ⟨hb, hn⟩ | hb
          · refine .inl ⟨.inl hb, fun hm => ?_⟩
            rcases List.mem_cons.1 hm with rfl | hm
            · have := hMlt _ hb; omega
            · exact hn hm
          · refine .inr ?_
            rcases List.mem_append.1 hb with hb | hb
            · exact List.mem_append_left _ hb
            · exact List.mem_append_right _ (List.mem_cons_of_mem _ hb)
        refine ⟨⟨out.io.1, out.io.2⟩, by simp; omega, fun b hb hn => ?_, fun b hb => ?_, ?_, (out.ret.mono hMM).sc s4, (g4.mono hMM).sc s4 fun b hb => hnl b (List.mem_append_right _ hb)⟩
        · rw [s4.keep b (by omega), out.keep b (by omega) (fun hm => by
            rcases List.mem_cons.1 hm with rfl | hm
            · omega
            · exact hn hm)]
          exact hold1 b hb
        · have := out.new b (by
            rcases List.mem_append.1 hb with hb | hb
            · exact List.mem_append_left _ hb
            · exact List.mem_append_right _ (List.mem_cons_of_mem _ hb))
          rcases this with hm | hm
          · rcases List.mem_cons.1 hm with rfl | hm
            · exact .inr (by omega)
            · exact .inl hm
          · exact .inr (by omega)
        · have := List.nodup_append.1 out.nd
          exact List.nodup_append.2 ⟨this.1, (List.nodup_cons.1 this.2.1).2, fun x hx y hy => this.2.2 x hx y (List.mem_cons_of_mem _ hy)⟩
      obtain ⟨ρ', hr', _, e'⟩ := hback out4 hci
      have e2 := eb.trans e'
      have rr' : R cx ρ' X st h' { a with defers := [mkMark w.heap.size] ++ a.defers } (w'.putObj (w.heap.size + 1) (.loop { recOf fx s with state := .exhausted })) := by
        refine ⟨hr', fun t => e2.vr (rr.st t), rr.nt, ?_⟩
        obtain ⟨hb0, bl, hbl, hbn, hbd⟩ := rr.nd.ext rr.hr e2
        obtain ⟨_, bl', hbl', _, hbd'⟩ := rr.nd
        refine ⟨hb0, w.heap.size :: bl, by simp [hbl], List.nodup_cons.2 ⟨fun hm => ?_, hbn⟩, fun d hdm => ?_⟩
        · have hmm : mkMark w.heap.size ∈ bl'.map mkMark := by rw [← hbl', hbl]; exact List.mem_map_of_mem hm
          obtain ⟨d', hd', hde⟩ := List.mem_map.1 hmm
          have : d' = w.heap.size := by simpa [mkMark] using hde
          have := block_lt (hbd' d' hd').2
          omega
        · rcases List.mem_cons.1 hdm with rfl | hdm
          · refine ⟨by rw [e2.base]; exact rr.nd.1, ?_⟩
            rw [e'.keep _ (by omega) (fun ⟨i, _, hi⟩ => by have := rr.hr.lt hi; omega)]
            exact hd
          · exact hbd d hdm
      have hq := hQ (exitOf s) st h' ρ' _ _ hK1 rr' (e.trans e2)
      cases s with
      | none => exact hq
      | some k =>
        cases k with
        | zero => exact wpIn_ret hq
        | succ k => exact wpIn_exit hq
    · cases hK
  · cases hK
end
end Go.Ab

namespace Go.Ab
open Go

section
variable {cx : Cx}

theorem R.forget {cx : Cx} {ρ : Env} {X : Nat → Prop} {st : St} {h : H} {a : Act} {w : World} (rr : R cx ρ X st h a w) : ∀ (l : List Oper), R cx ρ X (Ab.forget l st) h a w := by
  intro l
  induction l generalizing st with
  | nil => exact rr
  | cons o l ih =>
    have key : R cx ρ X (put st o.dst .any) h a w := by
      refine ⟨rr.hr, fun x => ?_, rr.nt, rr.nd⟩
      cases hd : o.dst with
      | none => exact rr.st x
      | some d =>
        rw [get_put]
        split
        · exact .any _
        · exact rr.st x
    simp only [Ab.forget]
    split
    · exact ih key
    · exact ih key
    · exact ih rr

/-- Regions that draw their order. -/
def DrawS (cx : Cx) : Prop :=
  ∀ (rd : Option Nat) (id : Nat) (ops : Array Oper) (β : Type) (K : St → H → Option β) (st : St) (h : H) (r : β), cx.P.follows .mixedOrders = true → drawK cx ops (List.range ops.size) [] st h K = some r →
    ∀ (X : Nat → Prop) (ρ : Env) (a : Act) (w : World) (ρ0 : Env) (h0 : H) (w0 : World) (Q : Exit → Act → World → Prop), R cx ρ X st h a w → Ext ρ0 h0 w0 ρ h w →
      (∀ st h ρ a w, K st h = some r → R cx ρ X st h a w → Ext ρ0 h0 w0 ρ h w → Q .normal a w) → (Code.region id ops true).wpIn (FR rd) 0 cx.P Q a w

theorem stepR_scope {P : Program} {b : Frame} {a : Act} {k : List Item} {cs : List Frame} {w : World} {c : Code} : step P (lone (b.atR a (.code (.scope c) :: k)) cs w) = .next (lone (b.atR a (.code c :: .inScope c :: k)) cs w) :=
  step_lone_go (by simp [stepG, stepG.exec, Frame.atR])
theorem stepR_inScope {P : Program} {b : Frame} {a : Act} {k : List Item} {cs : List Frame} {w : World} {c : Code} : step P (lone (b.atR a (.inScope c :: k)) cs w) = .next (lone (b.atR a k) cs w) :=
  step_lone_go (by simp [stepG, stepG.exec, Frame.atR])

theorem wpIn_scope_straight {F : Fence} {n : Nat} {P : Program} {Q : Exit → Act → World → Prop} {a : Act} {w : World} {c : Code} (h : c.wpIn F n P (Exit.noGoto Q) a w) : (Code.scope c).wpIn F n P Q a w := by
  intro b k cs hro hb hr
  obtain ⟨e, a₁, w₁, hq, harr⟩ := h b (.inScope c :: k) cs hro hb hr
  have s1 : StepsIn (Machine.fenced P F) P (lone (b.atR a (.code (.scope c) :: k)) cs w) (lone (b.atR a (.code c :: .inScope c :: k)) cs w) := .one (fenced_calm hb hr rfl) stepR_scope
  cases e with
  | normal => exact ⟨.normal, a₁, w₁, hq, s1.trans (StepsIn.trans harr (.one (fenced_calm hb hr rfl) stepR_inScope))⟩
  | exit id =>
    have hx : exitTo id (.inScope c :: k) = exitTo id k := by simp [exitTo]
    exact ⟨.exit id, a₁, w₁, hq, fun k' hk => s1.trans (harr.1 k' (by rw [hx]; exact hk)), fun hr' hk => let ⟨k₁, h1, h2⟩ := harr.2 hr' (by rw [hx]; exact hk); ⟨k₁, h1, s1.trans h2⟩⟩
  | goto l => exact hq.elim
  | ret => exact ⟨_, a₁, w₁, hq, .of_steps s1 harr⟩
  | panic ch => exact ⟨_, a₁, w₁, hq, .of_steps s1 harr⟩
  | outgrown => exact ⟨_, a₁, w₁, hq, .of_steps s1 harr⟩

theorem codeS (hΓ : ∀ f g, cx.Γ f = some g → SoundC cx.P f g) (hN : NatX cx) (hNL : ∀ q L, cx.Λ q = some L → NatL L) (hE : EqY cx) (hD : DrawS cx) (hL : LoopsS cx) : ∀ (c : Code) (p : List Bool), codeAt cx.root p = some c → CodeS cx p c := by
  intro c
  induction c with
  | skip =>
    intro p hp rd hrd n β K st h r hK X ρ a w ρ0 h0 w0 Q rr e hQ
    cases n with
    | zero => simp [codeK] at hK
    | succ n => simp only [codeK] at hK; exact wpIn_skip (hQ _ _ _ _ _ _ hK rr e)
  | label l =>
    intro p hp rd hrd n β K st h r hK X ρ a w ρ0 h0 w0 Q rr e hQ
    cases n with
    | zero => simp [codeK] at hK
    | succ n => simp only [codeK] at hK; exact wpIn_label (hQ _ _ _ _ _ _ hK rr e)
  | exit id =>
    intro p hp rd hrd n β K st h r hK X ρ a w ρ0 h0 w0 Q rr e hQ
    cases n with
    | zero => simp [codeK] at hK
    | succ n => simp only [codeK] at hK; exact wpIn_exit (hQ _ _ _ _ _ _ hK rr e)
  | ret =>
    intro p hp rd hrd n β K st h r hK X ρ a w ρ0 h0 w0 Q rr e hQ
    cases n with
    | zero => simp [codeK] at hK
    | succ n => simp only [codeK] at hK; exact wpIn_ret (hQ _ _ _ _ _ _ hK rr e)
  | region id ops draw =>
    intro p hp rd hrd n β K st h r hK X ρ a w ρ0 h0 w0 Q rr e hQ
    cases n with
    | zero => simp [codeK] at hK
    | succ n =>
      simp only [codeK] at hK
      cases draw with
      | true =>
        simp only [cond_true] at hK
        replace hK := cond_some hK
        obtain ⟨hm, hK⟩ := hK
        exact hD rd id ops β _ _ h r hm hK X ρ a w ρ0 h0 w0 Q (by cases cx.nw with | false => exact rr | true => exact rr.forget _) e fun st h ρ a w hK rr e => hQ _ _ _ _ _ _ hK rr e
      | false =>
        simp only [cond_false] at hK
        exact wpIn_region (opsK_sound hΓ hE (fun st h ρ a w hK rr e => hQ _ _ _ _ _ _ hK rr e) _ st h ρ a w hK rr e)
  | seq x y ihx ihy =>
    intro p hp rd hrd n β K st h r hK X ρ a w ρ0 h0 w0 Q rr e hQ
    cases n with
    | zero => simp [codeK] at hK
    | succ n =>
      simp only [codeK] at hK
      refine wpIn_seq (ihx (false :: p) (by simp [codeAt, hp, childOf]) rd (hrd.imp (fun h => h) fun h => by simp [noRF] at h; exact h.1) n β _ st h r hK X ρ a w ρ0 h0 w0 _ rr e fun e' st' h' ρ' a' w' hK' rr' ee' => ?_)
      cases e' with
      | normal => exact ihy (true :: p) (by simp [codeAt, hp, childOf]) rd (hrd.imp (fun h => h) fun h => by simp [noRF] at h; exact h.2) n β _ st' h' r hK' X ρ' a' w' ρ0 h0 w0 _ rr' ee' hQ
      | _ => exact hQ _ _ _ _ _ _ hK' rr' ee'
  | cond o x y ihx ihy =>
    intro p hp rd hrd n β K st h r hK X ρ a w ρ0 h0 w0 Q rr e hQ
    cases n with
    | zero => simp [codeK] at hK
    | succ n =>
      simp only [codeK] at hK
      split at hK
      · rename_i t hev
        have hv := ev_sound rr 0 o
        rw [hev] at hv
        refine wpIn_cond hv.bool_inv ?_
        cases t with
        | true => exact ihx (false :: p) (by simp [codeAt, hp, childOf]) rd (hrd.imp (fun h => h) fun h => by simp [noRF] at h; exact h.1) n β K st h r hK X ρ a w ρ0 h0 w0 Q rr e hQ
        | false => exact ihy (true :: p) (by simp [codeAt, hp, childOf]) rd (hrd.imp (fun h => h) fun h => by simp [noRF] at h; exact h.2) n β K st h r hK X ρ a w ρ0 h0 w0 Q rr e hQ
      · cases hK
  | block id x ihx =>
    intro p hp rd hrd n β K st h r hK X ρ a w ρ0 h0 w0 Q rr e hQ
    cases n with
    | zero => simp [codeK] at hK
    | succ n =>
      simp only [codeK] at hK
      refine wpIn_block (ihx (false :: p) (by simp [codeAt, hp, childOf]) rd (hrd.imp (fun h => h) fun h => h) n β _ st h r hK X ρ a w ρ0 h0 w0 _ rr e fun e' st' h' ρ' a' w' hK' rr' ee' => ?_)
      cases e' with
      | exit i =>
        simp only [Exit.inBlock]
        cases hb : Nat.beq i id with
        | true =>
          simp only [hb, cond_true] at hK'
          rw [if_pos (beq_true hb)]
          exact hQ _ _ _ _ _ _ hK' rr' ee'
        | false =>
          simp only [hb, cond_false] at hK'
          rw [if_neg (fun h => by rw [h] at hb; simp at hb)]
          exact hQ _ _ _ _ _ _ hK' rr' ee'
      | _ => exact hQ _ _ _ _ _ _ hK' rr' ee'
  | scope x ihx =>
    intro p hp rd hrd n β K st h r hK X ρ a w ρ0 h0 w0 Q rr e hQ
    cases n with
    | zero => simp [codeK] at hK
    | succ n =>
      simp only [codeK] at hK
      refine wpIn_scope_straight (ihx (false :: p) (by simp [codeAt, hp, childOf]) rd (hrd.imp (fun h => h) fun h => h) n β _ st h r hK X ρ a w ρ0 h0 w0 _ rr e fun e' st' h' ρ' a' w' hK' rr' ee' => ?_)
      cases e' with
      | goto l => cases hK'
      | _ => exact hQ _ _ _ _ _ _ hK' rr' ee'
  | loop x ihx =>
    intro p hp rd hrd n β K st h r hK X ρ a w ρ0 h0 w0 Q rr e hQ
    have hx := ihx (false :: p) (by simp [codeAt, hp, childOf])
    by_cases hu : cx.un (pathN p) = true
    · have key : ∀ (n : Nat) (st : St) (h : H) (ρ : Env) (a : Act) (w : World), codeK cx n p (.loop x) K st h = some r → R cx ρ X st h a w → Ext ρ0 h0 w0 ρ h w → Code.roundsIn (FR rd) 0 cx.P x Q n a w := by
        intro n
        induction n with
        | zero => intro st h ρ a w hK; simp [codeK] at hK
        | succ n ih =>
          intro st h ρ a w hK rr e
          simp only [codeK, hu, cond_true] at hK
          rw [roundsIn_succ]
          refine hx rd (hrd.imp (fun h => h) fun h => h) n β _ st h r hK X ρ a w ρ0 h0 w0 _ rr e fun e' st' h' ρ' a' w' hK' rr' ee' => ?_
          cases e' with
          | normal => exact ih st' h' ρ' a' w' hK' rr' ee'
          | _ => exact hQ _ _ _ _ _ _ hK' rr' ee'
      exact wpIn_loop_rounds n (key n st h ρ a w hK rr e)
    · cases n with
      | zero => simp [codeK] at hK
      | succ n =>
        have hu' : cx.un (pathN p) = false := by simpa using hu
        simp only [codeK, hu', cond_false] at hK
        split at hK
        · rename_i L hl
          exact loopK_sound (b := x) (p := p) (hrd.imp (fun h => h) fun h => h) hx (hL p L x hl hp) hK rr e hQ
        · cases hK
  | rangeFunc g ps x y ihx ihy =>
    intro p hp rd hrd n β K st h r hK X ρ a w ρ0 h0 w0 Q rr e hQ
    cases n with
    | zero => simp [codeK] at hK
    | succ n =>
      simp only [codeK] at hK
      rcases hrd with rfl | hrd
      · exact rangeK_sound hE hN hNL hp (ihx (false :: p) (by simp [codeAt, hp, childOf])) (ihy (true :: p) (by simp [codeAt, hp, childOf])) hK rr e hQ
      · cases hrd
  | _ =>
    intro p hp rd hrd n β K st h r hK
    cases n with
    | zero => simp [codeK] at hK
    | succ n => simp [codeK] at hK

/-! ### Functions -/

theorem startSt_get {w : World} {M : Nat → Prop} {bs : List Nat} : ∀ (args : List CV) (j0 : Nat) (us : Nat → Value) (ρ : Env) (h : H), (∀ (j : Nat) (x : CV), args[j]? = some x → ArgR w M bs x (us (j0 + j))) → (∀ k b, bs[k]? = some b → ρ.blk k = b ∧ k < h.length) →
    ∀ t, VR ρ h w M (get (startSt args j0) t) (us t)
  | [], j0, us, ρ, h, _, _, t => .any _
  | x :: args, j0, us, ρ, h, ha, hb, t => by
    have ih := startSt_get args (j0 + 1) us ρ h (fun j y hy => by have := ha (j + 1) y (by simpa using hy); rwa [show j0 + 1 + j = j0 + (j + 1) from by omega]) hb
    have h0 := ha 0 x (by simp)
    simp only [Nat.add_zero] at h0
    have key : ∀ s, VR ρ h w M s (us j0) → VR ρ h w M (get ((j0, s) :: startSt args (j0 + 1)) t) (us t) := fun s hs => by
      have : get ((j0, s) :: startSt args (j0 + 1)) t = get (put (startSt args (j0 + 1)) (some j0) s) t := rfl
      rw [this, get_put]
      split
      · rename_i e; subst e; exact hs
      · exact ih t
    rcases h0 with ⟨k, b, rfl, hk, hv⟩ | hc
    · obtain ⟨h1, h2⟩ := hb k b hk
      exact key _ (.ptr _ _ _ (by rw [hv]; rfl) h2 (by rw [hv, h1]))
    · cases x with
      | ref k => cases hc
      | _ => exact key _ (.c _ _ hc)

def resRun (tmps : Array Value) : ResultVar → Sem Value
  | .tmp t => pure (tmps.getD t undef)
  | .cell a t => do loadVar t (← asAddr (tmps.getD a undef))

theorem resVals_sound {ρ : Env} {X : Nat → Prop} {st : St} {h : H} {a : Act} {w : World} (rr : R cx ρ X st h a w) : ∀ (rs : List ResultVar) (vs : List SV), resVals cx st h rs = some vs →
    ∃ us : List Value, (rs.mapM (resRun a.tmps)).run cx.P w = .ok us w ∧ us.length = vs.length ∧ ∀ (j : Nat) (s : SV), vs[j]? = some s → ∃ u, us[j]? = some u ∧ VR ρ h w (Mut ρ X h) s u
  | [], vs, hv => by
    simp only [resVals, Option.some.injEq] at hv
    subst hv
    exact ⟨[], by simp, rfl, fun j s hs => by simp at hs⟩
  | .tmp t :: rs, vs, hv => by
    simp only [resVals] at hv
    replace hv := bind_some' hv
    obtain ⟨vs1, hv1, hv⟩ := hv
    obtain rfl := Option.some.inj hv
    obtain ⟨us, hrun, hl, hu⟩ := resVals_sound rr rs vs1 hv1
    refine ⟨a.tmps.getD t undef :: us, by simp [List.mapM_cons, resRun, hrun], by simp [hl], fun j s hs => ?_⟩
    cases j with
    | zero => simp at hs; subst hs; exact ⟨_, by simp, rr.st t⟩
    | succ j => simp at hs; simpa using hu j s hs
  | .cell x t :: rs, vs, hv => by
    simp only [resVals] at hv
    split at hv
    · rename_i i off hg
      split at hv
      · rename_i fr cs hb
        replace hv := bind_some' hv
        obtain ⟨⟨g, sz⟩, ht, hv⟩ := hv
        replace hv := bind_some' hv
        obtain ⟨v, hp, hv⟩ := hv
        replace hv := bind_some' hv
        obtain ⟨vs1, hv1, hv⟩ := hv
        obtain rfl := Option.some.inj hv
        obtain ⟨us, hrun, hl, hu⟩ := resVals_sound rr rs vs1 hv1
        have hx := rr.st x
        rw [hg] at hx
        generalize hval : a.tmps.getD x undef = xv at hx
        cases hx with
        | ptr _ _ _ hpl hi hq =>
          subst hq
          obtain ⟨u, hld, hvr⟩ := pickC_sound (o := 0) ht (by simpa using cellsBox rr.hr hb) hp
          rw [Nat.zero_add] at hld
          refine ⟨u :: us, by simp [List.mapM_cons, resRun, hval, asAddr, hld, hrun], by simp [hl], fun j s hs => ?_⟩
          cases j with
          | zero => simp at hs; subst hs; exact ⟨u, by simp, hvr⟩
          | succ j => simp at hs; simpa using hu j s hs
      · cases hv
    · cases hv

theorem results_sound {ρ : Env} {X : Nat → Prop} {st : St} {h : H} {a : Act} {w : World} (rr : R cx ρ X st h a w) {fn : Func} {vs : List SV} (hv : resVals cx st h fn.results.toList = some vs) :
    ∃ u, (results fn a.tmps).run cx.P w = .ok u w ∧ VR ρ h w (Mut ρ X h) (one vs) u := by
  obtain ⟨us, hrun, hl, hu⟩ := resVals_sound rr _ vs hv
  have e : (fn.results.mapM (resRun a.tmps)).run cx.P w = .ok us.toArray w := by
    rw [Array.mapM_eq_mapM_toList, Sem.run_map, hrun]
    rfl
  have e2 : (results fn a.tmps).run cx.P w = .ok (if h : us.toArray.size = 1 then us.toArray[0] else .tuple us.toArray) w := by
    have hfun : results fn a.tmps = (do let vs ← fn.results.mapM (resRun a.tmps); pure (if h : vs.size = 1 then vs[0] else .tuple vs)) := by
      unfold results
      have : ∀ (F G : ResultVar → Sem Value), F = G → (do let vs ← fn.results.mapM F; pure (if h : vs.size = 1 then vs[0] else Value.tuple vs) : Sem Value) = (do let vs ← fn.results.mapM G; pure (if h : vs.size = 1 then vs[0] else Value.tuple vs)) := fun F G h => by rw [h]
      refine this _ _ ?_
      funext x
      cases x <;> rfl
    rw [hfun]
    simp [e]
  rw [e2]
  match vs, us, hl, hu with
  | [v], [u], _, hu =>
    obtain ⟨u', hu', hv⟩ := hu 0 v (by simp)
    simp at hu'
    subst hu'
    exact ⟨u, by simp, hv⟩
  | [], [], _, _ => exact ⟨_, rfl, .tup [] #[] rfl (fun j x hx => by simp at hx)⟩
  | v1 :: v2 :: vs, us, hl, hu =>
    have h1 : ¬ us.toArray.size = 1 := by simp [hl]
    rw [dif_neg h1]
    refine ⟨_, rfl, .tup _ us.toArray (by simp [hl]) fun j x hx => ?_⟩
    obtain ⟨u, hu', hv⟩ := hu j x hx
    simpa [hu'] using hv

/-- A function's contract. -/
def fnC (cx : Cx) (fn : Func) : Callee := ⟨fun args conts _ K => fnK cx fn args conts K⟩

def svSt : List SV → Nat → St
  | [], _ => []
  | v :: r, j => (j, v) :: svSt r (j + 1)

theorem svSt_get : ∀ (ss : List SV) (j t : Nat), get (svSt ss j) t = (if j ≤ t then (ss[t - j]?).getD .any else .any)
  | [], j, t => by simp [svSt, get]
  | v :: r, j, t => by
    simp only [svSt, get]
    by_cases h : t = j
    · subst h
      have : Nat.beq t t = true := by simp
      simp
    · have hb : Nat.beq t j = false := by
        cases hb : Nat.beq t j with
        | false => rfl
        | true => exact absurd (beq_true hb) h
      rw [hb, cond_false, svSt_get r (j + 1) t]
      by_cases h1 : j ≤ t
      · rw [if_pos h1, if_pos (by omega), show t - j = (t - (j + 1)) + 1 by omega, List.getElem?_cons_succ]
      · rw [if_neg h1, if_neg (by omega)]

/-- A function that is gone into. -/
def inlC (cx : Cx) (fn : Func) : Inl := ⟨fun ss h _ K => match fn.body with
  | none => none
  | some c => bif Nat.beq ss.length (fn.params.size + fn.nfree) then
      codeK cx FUEL [] c (fun e st h => match e with
        | .normal => (resVals cx st h fn.results.toList).bind fun vs => K (one vs) h
        | .ret => (resVals cx st h fn.results.toList).bind fun vs => K (one vs) h
        | _ => none) (svSt ss 0) h
      else none⟩

theorem inlC_nat (hN : NatX cx) (hNL : ∀ q L, cx.Λ q = some L → NatL L) {fn : Func} : NatN (inlC cx fn) := fun ss h => by
  unfold inlC
  dsimp only
  split
  · exact .none
  · refine .cond _ (.seq3 (codeK_nat hN hNL _ _ _ _ _) fun e st h => ?_) .none
    cases e with
    | normal => exact .bind _ fun vs => .ret _ _
    | ret => exact .bind _ fun vs => .ret _ _
    | _ => exact .none

theorem inlC_sound (hΓ : ∀ f g, cx.Γ f = some g → SoundC cx.P f g) (hN : NatX cx) (hE : EqY cx) (hD : DrawS cx) (hL : LoopsS cx) (hNL : ∀ q L, cx.Λ q = some L → NatL L) {f : FuncId} {fn : Func} (hf : cx.P.funcs[f]? = some fn)
    (hn : (fn.name == "runtime.NumGoroutine") = false) (hb : fn.body = some cx.root) (hnt : cx.nt = fn.ntmps) (hpn : fn.params.size + fn.nfree ≤ fn.ntmps) : SoundN cx.P f (inlC cx fn) := by
  refine ⟨⟨fn, hf, hn, by rw [hb]; rfl⟩, fun ss h β K r hK => ?_⟩
  rcases inlC_nat (cx := cx) hN hNL (fn := fn) ss h with ⟨sv, h', hnat⟩ | hnat
  · refine ⟨sv, h', (hnat β K).symm.trans hK, fun ρ X w vs hr hsz hv => ?_⟩
    have hp := hnat _ fun a b => some (a, b)
    unfold inlC at hp
    dsimp only at hp
    rw [hb] at hp
    replace hp := cond_some hp
    obtain ⟨hlen, hp⟩ := hp
    have hlen := beq_true hlen
    have hvs : vs.size ≤ fn.ntmps := by rw [hsz, hlen]; exact hpn
    have hr1 := hr.rb w.heap.size
    refine callsIn_wide (n := 0).1 (callsIn_of_wp_marks (F := FR none) (n := 0) hf hb trivial ?_)
    refine codeS hΓ hN hNL hE hD hL cx.root [] rfl none (.inl rfl) FUEL _ _ _ _ _ hp X (ρ.rb w.heap.size) _ w (ρ.rb w.heap.size) _ w _ ⟨hr1, fun t => ?_, by simp [hnt]; omega, Marks.nil (Nat.le_refl _)⟩ (Ext.refl _ _ _)
      fun e st h2 ρ' a w' hK rr ee => ?_
    · rw [svSt_get, if_pos (Nat.zero_le t), Nat.sub_zero]
      cases hs : ss[t]? with
      | none => exact .any _
      | some s =>
        have ht : t < vs.size := by rw [hsz]; exact (List.getElem?_eq_some_iff.1 hs).1
        have e : (vs ++ Array.replicate (fn.ntmps - vs.size) undef).getD t undef = vs.getD t undef := by
          rw [Array.getD_eq_getD_getElem?, Array.getD_eq_getD_getElem?, Array.getElem?_append_left ht]
        show VR _ _ _ _ s ((vs ++ Array.replicate (fn.ntmps - vs.size) undef).getD t undef)
        rw [e]
        exact (hv t s hs).rb _
    have fin : ((resVals cx st h2 fn.results.toList).bind fun vs => some (one vs, h2)) = some (sv, h') → LeavesInM (FR none) 0 cx.P fn a.tmps (fun e w' => ∃ v, e = .returned v ∧ Post ρ X h w sv h' v w') a.defers .returning w' := fun hK => by
      obtain ⟨hb0, bl, hbl, hbn, hbd⟩ := rr.nd
      rw [hbl]
      refine leaves_marks bl w' hbn (fun d hd => (hbd d hd).2) ?_
      have sc := shut_spec bl w' hbn fun d hd => (hbd d hd).2
      have hother := sc.keep
      have hbase' : ρ'.base = w.heap.size := ee.base
      replace rr : R cx ρ' X st h2 { a with defers := [] } (shut bl w') := ⟨rr.hr.sc sc (fun i b hb hm => by
        obtain ⟨o, ho, hno⟩ := rr.hr.objAt hb
        rw [(hbd b hm).2] at ho
        exact hno _ (Option.some.inj ho).symm), fun t => (rr.st t).sc sc, rr.nt, Marks.nil (by rw [sc.size]; exact hb0)⟩
      replace hK := bind_some' hK
      obtain ⟨svs, hsv, hK⟩ := hK
      simp only [Option.some.injEq, Prod.mk.injEq] at hK
      obtain ⟨rfl, rfl⟩ := hK
      obtain ⟨u, hrun, hv'⟩ := results_sound rr hsv
      refine ⟨u, hrun, u, rfl, ρ'.rb ρ.base, rr.hr.rb _, hv'.rb _, ⟨⟨ee.len, ee.accs, ee.blks, rfl⟩, ?_, fun b hb hl => ?_, ee.lives, ⟨sc.io.1.trans ee.io.1, sc.io.2.trans ee.io.2⟩⟩⟩
      · rw [sc.size]; exact ee.size
      · rw [hother b fun hm => by have := (hbd b hm).1; omega]
        exact ee.keep b hb hl
    cases e with
    | normal => exact fin hK
    | ret => exact fin hK
    | _ => cases hK
  · have := (hnat β K).symm.trans hK
    cases this

theorem fnS (hΓ : ∀ f g, cx.Γ f = some g → SoundC cx.P f g) (hN : NatX cx) (hE : EqY cx) (hD : DrawS cx) (hL : LoopsS cx) (hNL : ∀ q L, cx.Λ q = some L → NatL L) {f : FuncId} {fn : Func} (hf : cx.P.funcs[f]? = some fn)
    (hn : (fn.name == "runtime.NumGoroutine") = false) (hb : fn.body = some cx.root) (hnt : cx.nt = fn.ntmps) (hpn : fn.params.size + fn.nfree ≤ fn.ntmps) : SoundC cx.P f (fnC cx fn) := by
  refine ⟨⟨fn, hf, hn, by rw [hb]; rfl⟩, fun args conts β K r hK => ?_⟩
  rcases fnK_nat (cx := cx) hN hNL (fn := fn) (args := args) (conts := conts) with ⟨rv, co, hnat⟩ | hnat
  · refine ⟨rv, co, (hnat β K).symm.trans hK, fun w M vs bs B hin => ?_⟩
    have hp := hnat _ fun a b => some (a, b)
    unfold fnK at hp
    rw [hb] at hp
    replace hp := cond_some hp
    obtain ⟨hlen, hp⟩ := hp
    have hlen := beq_true hlen
    have hvs : vs.size ≤ fn.ntmps := by rw [hin.size, hlen]; exact hpn
    obtain ⟨ρ0, ρ, m, hmap, hno, hbase⟩ := start_sound w.heap.size (X := fun b => M b ∧ b ∉ B) (fun b hb => hb.1) hin.cont hin.nd hin.sub (fun b hb hx => hx.2 hb) hin.glob
    have hr : HR ρ (fun b => M b ∧ b ∉ B) (startH conts 0 (List.replicate conts.length .dead)) w := m.hr.toHR fun b hb => hin.lt b hb.1
    have hl1 : ∀ k ∈ List.range conts.length, k < (startH conts 0 (List.replicate conts.length .dead)).length := fun k hk => Nat.lt_of_lt_of_le (by simpa using hk) m.ext.len
    have hB : ∀ j b, bOf ρ j (getH (startH conts 0 (List.replicate conts.length .dead)) j) = some b → b ∈ B := fun j b hb => by
      rcases m.new j b hb with ⟨_, h2⟩ | h2
      · exact absurd h2 (hno j b)
      · exact h2
    have hst := startSt_get (w := w) (M := M) args 0 (fun t => (vs ++ Array.replicate (fn.ntmps - vs.size) undef).getD t undef) ρ (startH conts 0 (List.replicate conts.length .dead)) (fun j x hx => by
      have hj : j < vs.size := by rw [hin.size]; exact (List.getElem?_eq_some_iff.1 hx).1
      have e : (vs ++ Array.replicate (fn.ntmps - vs.size) undef).getD (0 + j) undef = vs.getD j undef := by
        rw [Nat.zero_add, Array.getD_eq_getD_getElem?, Array.getD_eq_getD_getElem?, Array.getElem?_append_left hj]
      rw [e]
      exact hin.arg j x hx) (fun k b hk => by
      rw [← hmap] at hk
      simp only [List.getElem?_map, Option.map_eq_some_iff] at hk
      obtain ⟨i, hi, rfl⟩ := hk
      have hik : i = k := by
        have := List.getElem?_eq_some_iff.1 hi
        obtain ⟨h1, h2⟩ := this
        simpa using h2.symm
      subst hik
      exact ⟨rfl, hl1 i (List.mem_of_getElem? hi)⟩)
    refine callsIn_wide (n := 0).1 (callsIn_of_wp_marks (F := FR none) (n := 0) hf hb trivial ?_)
    refine codeS hΓ hN hNL hE hD hL cx.root [] rfl none (.inl rfl) FUEL _ _ _ _ _ hp (fun b => M b ∧ b ∉ B) ρ _ w ρ _ w _ ⟨hr, fun t => (hst t).mono (HExt.refl _ _) fun x u hx => hx.mono (Nat.le_refl _) (fun _ _ _ => rfl) (fun b _ hb => m.hr.sub b hb), by simp [hnt]; omega, Marks.nil (by rw [hbase]; exact Nat.le_refl _)⟩ (Ext.refl _ _ _)
      fun e st h ρ' a w' hK rr ee => ?_
    have fin : fnFin cx fn conts (fun a b => some (a, b)) st h = some (rv, co) → LeavesInM (FR none) 0 cx.P fn a.tmps (fun e w' => ∃ v Br B2, e = .returned v ∧ OutR w M B bs w' v rv co Br B2) a.defers .returning w' := fun hK => by
      obtain ⟨hb0, bl, hbl, hbn, hbd⟩ := rr.nd
      rw [hbl]
      refine leaves_marks bl w' hbn (fun d hd => (hbd d hd).2) ?_
      have sc := shut_spec bl w' hbn fun d hd => (hbd d hd).2
      have hother := sc.keep
      have hbase' : ρ'.base = w.heap.size := ee.base.trans hbase
      replace rr : R cx ρ' (fun b => M b ∧ b ∉ B) st h { a with defers := [] } (shut bl w') := ⟨rr.hr.sc sc (fun i b hb hm => by
        obtain ⟨o, ho, hno⟩ := rr.hr.objAt hb
        rw [(hbd b hm).2] at ho
        exact hno _ (Option.some.inj ho).symm), fun t => (rr.st t).sc sc, rr.nt, Marks.nil (by rw [sc.size]; exact hb0)⟩
      have eekeep : ∀ b, b < w.heap.size → ¬ live ρ (startH conts 0 (List.replicate conts.length .dead)) b → (shut bl w').heap[b]? = w.heap[b]? := fun b hb hn => by
        rw [hother b fun hm => by have := (hbd b hm).1; omega]
        exact ee.keep b hb hn
      have eesize : w.heap.size ≤ (shut bl w').heap.size := by rw [sc.size]; exact ee.size
      have eeio : SameIO w (shut bl w') := ⟨sc.io.1.trans ee.io.1, sc.io.2.trans ee.io.2⟩
      unfold fnFin at hK
      replace hK := bind_some' hK
      obtain ⟨svs, hsv, hK⟩ := hK
      replace hK := bind_some' hK
      obtain ⟨⟨x, h1⟩, ht, hK⟩ := hK
      replace hK := bind_some' hK
      obtain ⟨⟨co', h2⟩, hc, hK⟩ := hK
      simp only [Option.some.injEq, Prod.mk.injEq] at hK
      obtain ⟨rfl, rfl⟩ := hK
      obtain ⟨u, hrun, hv⟩ := results_sound rr hsv
      obtain ⟨Br, t1, o1⟩ := take_sound (w := shut bl w') (ρ := ρ') depth _ h _ x h1 u rr.hr hv ht
      obtain ⟨B2, t2, c2, _, _⟩ := contsOut_sound _ _ h1 co' h2 t1.hr hc
      have t := t1.trans t2
      have hmap' : (List.range conts.length).map ρ'.blk = bs := by rw [← hmap]; exact List.map_congr_left fun i hi => ee.blks i (hl1 i hi)
      rw [hmap'] at c2
      have hsub : ∀ b, MM M B (Br ++ B2) b → Mut ρ' (XB (fun b => M b ∧ b ∉ B) (Br ++ B2)) h2 b := fun b hb => .inl hb
      refine ⟨u, hrun, u, Br, B2, rfl, eeio, eesize, fun b hb hn => eekeep b hb ?_, fun b hb => ?_, t.nd, ?_, ?_⟩
      · rintro ⟨j, _, hj⟩
        exact hn (hB j b hj)
      · by_cases hbl : b < w.heap.size
        · obtain ⟨j, _, hj⟩ := ee.lives b hbl (t.bl b hb)
          exact .inl (hB j b hj)
        · exact .inr (by omega)
      · exact o1.mono fun b hb => by
          have := hsub b hb
          rw [← XB_append] at this
          exact t2.mut this
      · rw [XB_append] at c2
        exact c2.mono hsub
    cases e with
    | normal => exact fin hK
    | ret => exact fin hK
    | _ => cases hK
  · have := (hnat β K).symm.trans hK
    cases this
end
end Go.Ab

namespace Go.Ab
open Go

inductive Eff where
  | none
  | set (i : Nat) (b : Box)
  | glob (h : H)

def Eff.app : Eff → H → H
  | .none, h => h
  | .set i b, h => setX h i b
  | .glob g, _ => g

structure Rc where
  t : Tr
  eff : Eff
  sv : SV

def fpEff : FP → Eff → Prop
  | .pure, .none => True
  | .ro, .none => True
  | .rd _, .none => True
  | .wr i, .set j _ => i = j
  | .nw i, .set j _ => i = j
  | .all, .glob _ => True
  | _, _ => False

def heapL (L : Nat → Bool) (h0 : H) : List Rc → H
  | [] => h0
  | r :: rs => bif L r.t.j then r.eff.app (heapL L h0 rs) else heapL L h0 rs

def getL (L : Nat → Bool) (st0 : St) : List Rc → Nat → SV
  | [], x => get st0 x
  | r :: rs, x => if L r.t.j = true ∧ r.t.dst = some x then r.sv else getL L st0 rs x

abbrev allL : Nat → Bool := fun _ => true

/-- What of the heap must be as it was in text order. -/
def Cond : FP → H → H → Prop
  | .pure, _, _ => True
  | .ro, h, h' => h = h'
  | .all, h, h' => h = h'
  | .rd i, h, h' => getH h i = getH h' i
  | .wr i, h, h' => getH h i = getH h' i
  | .nw _, h, h' => h.length = h'.length

theorem getH_setX_same (b : Box) : ∀ (h : H) (i : Nat), getH (setX h i b) i = b
  | [], 0 => rfl
  | [], i + 1 => getH_setX_same b [] i
  | _ :: _, 0 => rfl
  | _ :: r, i + 1 => getH_setX_same b r i

theorem getH_setX_ne (b : Box) : ∀ (h : H) (i j : Nat), i ≠ j → getH (setX h i b) j = getH h j
  | [], 0, 0, hij => absurd rfl hij
  | [], 0, j + 1, _ => rfl
  | [], i + 1, 0, _ => rfl
  | [], i + 1, j + 1, hij => getH_setX_ne b [] i j (by omega)
  | _ :: _, 0, 0, hij => absurd rfl hij
  | _ :: _, 0, j + 1, _ => rfl
  | _ :: _, i + 1, 0, _ => rfl
  | _ :: r, i + 1, j + 1, hij => getH_setX_ne b r i j (by omega)

theorem length_setX (b : Box) : ∀ (h : H) (i : Nat), (setX h i b).length = max h.length (i + 1)
  | [], 0 => rfl
  | [], i + 1 => by
    have := length_setX b [] i
    simp only [setX, List.length_cons, List.length_nil] at this ⊢
    omega
  | _ :: r, 0 => by simp [setX]
  | _ :: r, i + 1 => by
    have := length_setX b r i
    simp only [setX, List.length_cons] at this ⊢
    omega

theorem setX_setH (b : Box) : ∀ (h : H) (i : Nat), i < h.length → setX h i b = setH h i b
  | [], _, hi => by simp at hi
  | _ :: _, 0, _ => rfl
  | a :: r, i + 1, hi => by simp only [setX, setH]; rw [setX_setH b r i (by simpa using hi)]

theorem setX_app (b : Box) : ∀ (h : H), setX h h.length b = h ++ [b]
  | [] => rfl
  | a :: r => by simp only [List.length_cons, setX, List.cons_append]; rw [setX_app b r]

theorem H.ext_get : ∀ {h h' : H}, h.length = h'.length → (∀ i, getH h i = getH h' i) → h = h'
  | [], [], _, _ => rfl
  | [], _ :: _, hl, _ => by simp at hl
  | _ :: _, [], hl, _ => by simp at hl
  | a :: r, a' :: r', hl, hg => by
    have h0 : a = a' := hg 0
    rw [h0, H.ext_get (h := r) (h' := r') (by simpa using hl) fun i => hg (i + 1)]

theorem setX_comm {i j : Nat} (hij : i ≠ j) (a b : Box) (h : H) : setX (setX h i a) j b = setX (setX h j b) i a := by
  refine H.ext_get (by simp only [length_setX]; omega) fun k => ?_
  by_cases hk : k = j
  · subst hk
    rw [getH_setX_same, getH_setX_ne _ _ _ _ hij, getH_setX_same]
  · rw [getH_setX_ne _ _ _ _ (Ne.symm hk)]
    by_cases hk2 : k = i
    · subst hk2
      rw [getH_setX_same, getH_setX_same]
    · rw [getH_setX_ne _ _ _ _ (Ne.symm hk2), getH_setX_ne _ _ _ _ (Ne.symm hk2), getH_setX_ne _ _ _ _ (Ne.symm hk)]

theorem beq_false {a b : Nat} (h : (!(Nat.beq a b)) = true) : a ≠ b := by
  rintro rfl
  simp at h

theorem eff_comm {f g : FP} {e d : Eff} (hf : fpEff f e) (hg : fpEff g d) (hc : f.comm g = true) (h : H) : e.app (d.app h) = d.app (e.app h) := by
  cases f <;> cases e <;> simp only [fpEff] at hf <;> cases g <;> cases d <;> simp only [fpEff] at hg <;> try rfl
  all_goals try (simp [FP.comm] at hc; done)
  all_goals
    subst hf hg
    exact setX_comm (Ne.symm (beq_false hc)) _ _ h

theorem comm_symm (f g : FP) : f.comm g = g.comm f := by
  have : ∀ a b : Nat, Nat.beq a b = Nat.beq b a := fun a b => by
    cases h : Nat.beq a b with
    | true => have := beq_true h; subst this; simp
    | false =>
      cases h2 : Nat.beq b a with
      | false => rfl
      | true => have := beq_true h2; subst this; simp at h
  cases f <;> cases g <;> simp [FP.comm, this]

/-- What does not matter for an operation: effects that commute with it. -/
theorem eff_quiet {f g : FP} {d : Eff} (hg : fpEff g d) (hc : f.comm g = true) {h h' : H} (hC : Cond f h h') : Cond f (d.app h) h' := by
  cases f with
  | pure => trivial
  | ro => cases g <;> cases d <;> simp only [fpEff] at hg <;> simp [FP.comm] at hc <;> exact hC
  | all => cases g <;> cases d <;> simp only [fpEff] at hg <;> simp [FP.comm] at hc <;> exact hC
  | nw i => cases g <;> cases d <;> simp only [fpEff] at hg <;> simp [FP.comm] at hc <;> exact hC
  | rd i =>
    cases g <;> cases d <;> simp only [fpEff] at hg <;> simp only [FP.comm] at hc <;> try exact hC
    all_goals try (cases hc; done)
    all_goals
      subst hg
      have hne := beq_false hc
      show getH (setX _ _ _) i = _
      rw [getH_setX_ne _ _ _ _ (Ne.symm hne)]
      exact hC
  | wr i =>
    cases g <;> cases d <;> simp only [fpEff] at hg <;> simp only [FP.comm] at hc <;> try exact hC
    all_goals try (cases hc; done)
    all_goals
      subst hg
      have hne := beq_false hc
      show getH (setX _ _ _) i = _
      rw [getH_setX_ne _ _ _ _ (Ne.symm hne)]
      exact hC

theorem Cond.symm {f : FP} {h h' : H} (c : Cond f h h') : Cond f h' h := by
  cases f with
  | pure => trivial
  | _ => exact Eq.symm c

/-- Both apply the same effect. -/
theorem Cond.app {f : FP} {h h' : H} (c : Cond f h h') (d : Eff) : Cond f (d.app h) (d.app h') := by
  have key : ∀ i, getH h i = getH h' i → getH (d.app h) i = getH (d.app h') i := fun i hc => by
    cases d with
    | none => exact hc
    | glob g => exact rfl
    | set j b =>
      show getH (setX h j b) i = getH (setX h' j b) i
      by_cases hij : j = i
      · subst hij
        rw [getH_setX_same, getH_setX_same]
      · rw [getH_setX_ne _ _ _ _ hij, getH_setX_ne _ _ _ _ hij]; exact hc
  cases f with
  | pure => trivial
  | ro => exact congrArg d.app c
  | all => exact congrArg d.app c
  | rd i => exact key i c
  | wr i => exact key i c
  | nw i =>
    have c : h.length = h'.length := c
    cases d with
    | none => exact c
    | glob g => exact rfl
    | set j b => show (setX h j b).length = (setX h' j b).length; rw [length_setX, length_setX, c]

theorem Cond.refl (f : FP) (h : H) : Cond f h h := by
  cases f <;> first | trivial | rfl

section
variable {cx : Cx} {ops : Array Oper} {h0 : H} {st0 : St}

/-- An operation that is as in the text. -/
def SemNo (cx : Cx) (ops : Array Oper) (h0 : H) (st0 : St) (rs : List Rc) (r : Rc) (o : Oper) : Prop :=
  r.t.dst = o.dst ∧ ∀ X hL, Cond r.t.fp hL (heapL allL h0 rs) → ∀ (rd : Option Nat) ρ a w (Q : Exit → Act → World → Prop) (K : Act → World → Prop), HR ρ X hL w → a.tmps.size = cx.nt → Marks ρ.base w a.defers → (∀ x ∈ r.t.reads, VR ρ hL w (Mut ρ X hL) (getL allL st0 rs x) (a.tmps.getD x undef)) →
      (∀ v w', Post ρ X hL w r.sv (r.eff.app hL) v w' → K (a.put o.dst v) w') → wpOpIn (FR rd) 0 cx.P ops Q r.t.j K a w

/-- What is made, as yet no box. -/
def PB (P : Program) (w : World) (b : Nat) (v : Value) : PK → Prop
  | .var e cs => v = .pointer (some ⟨b, 0, none⟩) ∧ cellsOf (zeroOf P e) = some cs ∧ ∃ i z, P.info? e = some i ∧ i.zero = some z ∧ w.heap[b]? = some (.cells z.cells e (0, 0))
  | .row sz l => ∃ cap cur ty, v = .slice (some ⟨b, 0, none⟩) l.length cap ∧ w.heap[b]? = some (.cells cur ty (0, 0)) ∧ 0 < sz ∧ (∀ e ∈ l, e.length = sz) ∧ l.length ≤ LIM ∧ l.length ≤ cap ∧ cap * sz ≤ cur.size ∧
      ∀ k j x, at2 l k j = some x → ∃ u, cur[k * sz + j]? = some u ∧ plain u ∧ ∀ w M, CR w M x u

/-- What makes it. -/
def SemMk (cx : Cx) (ops : Array Oper) (st0 : St) (rs : List Rc) (r : Rc) (o : Oper) (js d : Nat) : Prop :=
  r.t.dst = none ∧ r.t.fp = .pure ∧ r.eff = .none ∧ o.dst = some d ∧ getL allL st0 rs d = .any ∧ nkAt cx ops js = .rd r.t.j d ∧ r.t.j < js ∧ (∀ j o', ops[j]? = some o' → j ≠ r.t.j → o'.dst ≠ some d) ∧
    ∃ q, pkOf cx o = some q ∧ ∀ (rd : Option Nat) ρ a w (Q : Exit → Act → World → Prop) (K : Act → World → Prop), HR ρ (fun _ => False) [] w → a.tmps.size = cx.nt → Marks ρ.base w a.defers →
      (∀ b v w', PB cx.P w' b v q → w.heap.size ≤ b → b < w'.heap.size → (∀ c, c < w.heap.size → w'.heap[c]? = w.heap[c]?) → w.heap.size ≤ w'.heap.size → SameIO w w' → K (a.put o.dst v) w') → wpOpIn (FR rd) 0 cx.P ops Q r.t.j K a w

/-- Its first use. -/
def SemRd (cx : Cx) (ops : Array Oper) (h0 : H) (st0 : St) (rs : List Rc) (r : Rc) (o : Oper) (ja d : Nat) : Prop :=
  r.t.fp = .all ∧ ja ∈ r.t.preds ∧ nkAt cx ops ja = .mk r.t.j d ∧ ∃ q, (ops[ja]?).bind (pkOf cx) = some q ∧ r.t.dst = q.dst d o.dst ∧ (∀ e cs, q = .var e cs → o.dst = none) ∧ ∃ sv, r.sv = q.val (heapL allL h0 rs).length sv ∧
    ∀ X (rd : Option Nat) ρ a w (Q : Exit → Act → World → Prop) (K : Act → World → Prop), HR ρ X (heapL allL h0 rs ++ [q.box]) w → a.tmps.size = cx.nt → Marks ρ.base w a.defers →
      (∀ x ∈ r.t.reads, x ≠ d → VR ρ (heapL allL h0 rs ++ [q.box]) w (Mut ρ X (heapL allL h0 rs ++ [q.box])) (getL allL st0 rs x) (a.tmps.getD x undef)) →
      VR ρ (heapL allL h0 rs ++ [q.box]) w (Mut ρ X (heapL allL h0 rs ++ [q.box])) (q.sv (heapL allL h0 rs).length) (a.tmps.getD d undef) →
      (∀ v w', Post ρ X (heapL allL h0 rs ++ [q.box]) w sv (r.eff.app (heapL allL h0 rs)) v w' → K (a.put o.dst v) w') → wpOpIn (FR rd) 0 cx.P ops Q r.t.j K a w

def SemOf (cx : Cx) (ops : Array Oper) (h0 : H) (st0 : St) (rs : List Rc) (r : Rc) (o : Oper) : NK → Prop
  | .no => SemNo cx ops h0 st0 rs r o
  | .mk js d => SemMk cx ops st0 rs r o js d
  | .rd ja d => SemRd cx ops h0 st0 rs r o ja d

def SemOK (cx : Cx) (ops : Array Oper) (h0 : H) (st0 : St) (rs : List Rc) (r : Rc) : Prop :=
  ∃ o, ops[r.t.j]? = some o ∧ okD cx o = true ∧ r.t.preds = predsOf (rs.map (·.t)) o ∧ (∀ e ∈ bindsOf o, e < rs.length) ∧ SemOf cx ops h0 st0 rs r o (nkOf cx ops r.t.j o)

def Valid (cx : Cx) (ops : Array Oper) (h0 : H) (st0 : St) : List Rc → Prop
  | [] => True
  | r :: rs => Valid cx ops h0 st0 rs ∧ r.t.j = rs.length ∧ okTr r.t (rs.map (·.t)) = true ∧ fpEff r.t.fp r.eff ∧ SemOK cx ops h0 st0 rs r

theorem nkAt_some {o : Oper} {j : Nat} (h : ops[j]? = some o) : nkAt cx ops j = nkOf cx ops j o := by
  unfold nkAt; rw [h]

theorem Valid.lt : ∀ (rs : List Rc), Valid cx ops h0 st0 rs → ∀ k ∈ rs, k.t.j < rs.length := by
  intro rs
  induction rs with
  | nil => intro _ k hk; simp at hk
  | cons r rs ih =>
    intro hv k hk
    rcases List.mem_cons.1 hk with rfl | hk
    · rw [hv.2.1]; simp
    · have := ih hv.1 k hk; simp; omega

theorem Valid.tail {rs : List Rc} : ∀ (F : List Rc), Valid cx ops h0 st0 (F ++ rs) → Valid cx ops h0 st0 rs := by
  intro F
  induction F with
  | nil => exact fun h => h
  | cons f F ih => exact fun h => ih h.1

/-- A pair of operations, the one behind the other in the text. -/
theorem Valid.pair {T : List Rc} {r k : Rc} : ∀ (F : List Rc), Valid cx ops h0 st0 (F ++ r :: T) → k ∈ F → unlike r.t.dst k.t.dst = true ∧ (r.t.j ∈ k.t.preds ∨ (r.t.fp.comm k.t.fp = true ∧ notIn r.t.dst k.t.reads = true ∧ notIn k.t.dst r.t.reads = true)) ∧ fpEff k.t.fp k.eff := by
  intro F
  induction F with
  | nil => intro _ hk; simp at hk
  | cons f F ih =>
    intro hv hk
    rcases List.mem_cons.1 hk with rfl | hk
    · obtain ⟨_, _, hok, hfe, _⟩ := hv
      have := List.all_eq_true.1 hok r.t (by simp)
      simp only [Bool.and_eq_true, Bool.or_eq_true] at this
      refine ⟨this.1, ?_, hfe⟩
      rcases this.2 with h | ⟨⟨h1, h2⟩, h3⟩
      · exact .inl (memN_iff.1 h)
      · exact .inr ⟨h1, h2, h3⟩
    · exact ih hv.1 hk

theorem Valid.mem : ∀ (rs : List Rc), Valid cx ops h0 st0 rs → ∀ k ∈ rs, ∃ rs', SemOK cx ops h0 st0 rs' k := by
  intro rs
  induction rs with
  | nil => intro _ k hk; simp at hk
  | cons r rs ih =>
    intro hv k hk
    rcases List.mem_cons.1 hk with rfl | hk
    · exact ⟨rs, hv.2.2.2.2⟩
    · exact ih hv.1 k hk

theorem Valid.fe : ∀ (rs : List Rc), Valid cx ops h0 st0 rs → ∀ k ∈ rs, fpEff k.t.fp k.eff := by
  intro rs
  induction rs with
  | nil => intro _ k hk; simp at hk
  | cons r rs ih =>
    intro hv k hk
    rcases List.mem_cons.1 hk with rfl | hk
    · exact hv.2.2.2.1
    · exact ih hv.1 k hk

theorem notIn_spec {d : Option Nat} {l : List Nat} (h : notIn d l = true) {x : Nat} (hx : x ∈ l) : d ≠ some x := by
  rintro rfl
  simp only [notIn, Bool.not_eq_true'] at h
  rw [memN_iff.2 hx] at h
  cases h

theorem unlike_spec {a b : Option Nat} (h : unlike a b = true) {x : Nat} (ha : a = some x) : b ≠ some x := by
  rintro rfl
  subst ha
  simp [unlike] at h

/-- No two write to one temporary. -/
theorem Valid.unl : ∀ (rs : List Rc), Valid cx ops h0 st0 rs → ∀ k ∈ rs, ∀ k' ∈ rs, k.t.j ≠ k'.t.j → ∀ x, k.t.dst = some x → k'.t.dst ≠ some x := by
  intro rs
  induction rs with
  | nil => intro _ k hk; simp at hk
  | cons r rs ih =>
    intro hv k hk k' hk' hne x hx hx'
    have key : ∀ t ∈ rs, unlike t.t.dst r.t.dst = true := fun t ht => by
      have := List.all_eq_true.1 hv.2.2.1 t.t (List.mem_map_of_mem ht)
      simp only [Bool.and_eq_true] at this
      exact this.1
    rcases List.mem_cons.1 hk with e1 | q1 <;> rcases List.mem_cons.1 hk' with e2 | q2
    · exact hne (by rw [e1, e2])
    · exact unlike_spec (key k' q2) hx' (by rw [← e1]; exact hx)
    · exact unlike_spec (key k q1) hx (by rw [← e2]; exact hx')
    · exact ih hv.1 k q1 k' q2 hne x hx hx'

theorem heapL_congr {L L' : Nat → Bool} : ∀ {rs : List Rc}, (∀ k ∈ rs, L k.t.j = L' k.t.j) → heapL L h0 rs = heapL L' h0 rs
  | [], _ => rfl
  | r :: rs, h => by simp only [heapL, h r (by simp), heapL_congr (rs := rs) fun k hk => h k (by simp [hk])]

theorem getL_congr {L L' : Nat → Bool} {x : Nat} : ∀ {rs : List Rc}, (∀ k ∈ rs, k.t.dst = some x → L k.t.j = L' k.t.j) → getL L st0 rs x = getL L' st0 rs x
  | [], _ => rfl
  | r :: rs, h => by
    simp only [getL, getL_congr (rs := rs) fun k hk => h k (by simp [hk])]
    by_cases hd : r.t.dst = some x
    · simp [hd, h r (by simp) hd]
    · simp [hd]

variable {L : Nat → Bool} {F T : List Rc} {r : Rc}

/-- The heap, as the operation sees it. -/
theorem cond_tail {f : FP} (hT : ∀ k ∈ T, L k.t.j = false → f.comm k.t.fp = true) (hfe : ∀ k ∈ T, fpEff k.t.fp k.eff) : Cond f (heapL L h0 T) (heapL allL h0 T) := by
  induction T with
  | nil => exact Cond.refl _ _
  | cons k T ih =>
    have ih := ih (fun k hk => hT k (by simp [hk])) (fun k hk => hfe k (by simp [hk]))
    simp only [heapL, cond_true]
    cases hl : L k.t.j with
    | true => exact ih.app k.eff
    | false => exact (eff_quiet (hfe k (by simp)) (hT k (by simp) hl) ih.symm).symm

theorem cond_front {f : FP} {h' : H} (hF : ∀ k ∈ F, L k.t.j = true → f.comm k.t.fp = true) (hfe : ∀ k ∈ F, fpEff k.t.fp k.eff) (hC : Cond f (heapL L h0 T) h') : Cond f (heapL L h0 (F ++ T)) h' := by
  induction F with
  | nil => exact hC
  | cons k F ih =>
    have ih := ih (fun k hk => hF k (by simp [hk])) (fun k hk => hfe k (by simp [hk]))
    simp only [List.cons_append, heapL]
    cases hl : L k.t.j with
    | true => exact eff_quiet (hfe k (by simp)) (hF k (by simp) hl) ih
    | false => exact ih

def addL (L : Nat → Bool) (j : Nat) : Nat → Bool := fun i => if i = j then true else L i

theorem heap_step (hr : fpEff r.t.fp r.eff) (hjT : ∀ k ∈ T, k.t.j ≠ r.t.j) (hjF : ∀ k ∈ F, k.t.j ≠ r.t.j) (hL : L r.t.j = false) (hF : ∀ k ∈ F, L k.t.j = true → r.t.fp.comm k.t.fp = true) (hfe : ∀ k ∈ F, fpEff k.t.fp k.eff) :
    heapL (addL L r.t.j) h0 (F ++ r :: T) = r.eff.app (heapL L h0 (F ++ r :: T)) := by
  induction F with
  | nil =>
    simp only [List.nil_append, heapL, hL, cond_false]
    have : addL L r.t.j r.t.j = true := by simp [addL]
    rw [this, heapL_congr (L' := L) fun k hk => by simp [addL, hjT k hk]]
    rfl
  | cons k F ih =>
    have ih := ih (fun k hk => hjF k (by simp [hk])) (fun k hk => hF k (by simp [hk])) (fun k hk => hfe k (by simp [hk]))
    have hk : addL L r.t.j k.t.j = L k.t.j := by simp [addL, hjF k (by simp)]
    simp only [List.cons_append, heapL, hk, ih]
    cases hl : L k.t.j with
    | true => exact (eff_comm hr (hfe k (by simp)) (hF k (by simp) hl) _).symm
    | false => rfl

theorem get_step {x : Nat} (hjT : ∀ k ∈ T, k.t.j ≠ r.t.j) (hjF : ∀ k ∈ F, k.t.j ≠ r.t.j) (hd : ∀ k ∈ F, r.t.dst = some x → k.t.dst ≠ some x) :
    getL (addL L r.t.j) st0 (F ++ r :: T) x = if r.t.dst = some x then r.sv else getL L st0 (F ++ r :: T) x := by
  induction F with
  | nil =>
    have : addL L r.t.j r.t.j = true := by simp [addL]
    simp only [List.nil_append, getL, this, true_and]
    by_cases h : r.t.dst = some x
    · simp [h]
    · rw [if_neg h, if_neg h, if_neg (fun hh => h hh.2)]
      exact getL_congr fun k hk _ => by simp [addL, hjT k hk]
  | cons k F ih =>
    have ih := ih (fun k hk => hjF k (by simp [hk])) (fun k hk => hd k (by simp [hk]))
    have hk : addL L r.t.j k.t.j = L k.t.j := by simp [addL, hjF k (by simp)]
    simp only [List.cons_append, getL, hk, ih]
    by_cases h : r.t.dst = some x
    · have := hd k (by simp) h
      simp [h, this]
    · simp [h]

theorem get_reads {x : Nat} (hF : ∀ k ∈ F, L k.t.j = true → k.t.dst ≠ some x) (hr : L r.t.j = false) (hT : ∀ k ∈ T, k.t.dst = some x → L k.t.j = true) : getL L st0 (F ++ r :: T) x = getL allL st0 T x := by
  induction F with
  | nil =>
    simp only [List.nil_append, getL, hr]
    rw [if_neg (by simp)]
    exact getL_congr fun k hk hd => by simp [hT k hk hd]
  | cons k F ih =>
    have ih := ih (fun k hk => hF k (by simp [hk]))
    simp only [List.cons_append, getL, ih]
    by_cases hl : L k.t.j = true
    · simp [hF k (by simp) hl]
    · simp [hl]
theorem getL_any {L : Nat → Bool} {x : Nat} (h0 : get st0 x = .any) : ∀ {rs : List Rc}, (∀ k ∈ rs, L k.t.j = true → k.t.dst ≠ some x) → getL L st0 rs x = .any
  | [], _ => h0
  | r :: rs, h => by
    simp only [getL]
    rw [if_neg fun hh => h r (by simp) hh.1 hh.2]
    exact getL_any h0 fun k hk => h k (by simp [hk])

theorem getL_none {x : Nat} : ∀ {rs : List Rc}, (∀ k ∈ rs, k.t.dst ≠ some x) → getL allL st0 rs x = get st0 x
  | [], _ => rfl
  | r :: rs, h => by
    simp only [getL]
    rw [if_neg fun hh => h r (by simp) hh.2]
    exact getL_none fun k hk => h k (by simp [hk])

/-- It becomes a box. -/
theorem HR.reveal {ρ : Env} {X X' : Nat → Prop} {h : H} {w : World} {b : Nat} {v : Value} {P : Program} {q : PK} (hr : HR ρ X h w) (hb : X b) (hX : ∀ c, X c ↔ X' c ∨ c = b) (hn : ¬ X' b)
    (hz : PB P w b v q) : ∃ ρ', ρ'.base = ρ.base ∧ HR ρ' X' (h ++ [q.box]) w ∧ HExt ρ h ρ' (h ++ [q.box]) ∧
      (∀ c, Mut ρ' X' (h ++ [q.box]) c ↔ Mut ρ X h c) ∧ (∀ c, live ρ' (h ++ [q.box]) c → live ρ h c ∨ c = b) ∧ ∀ M, VR ρ' (h ++ [q.box]) w M (q.sv h.length) v := by
  refine ⟨ρ.push h.length v b, rfl, ?_⟩
  have hag := ρ.push_lt h.length v b
  have hkb : (ρ.push h.length v b).blk h.length = b := by simp
  have hkc : (ρ.push h.length v b).cur h.length = v := by simp
  have hex : HExt ρ h (ρ.push h.length v b) (h ++ [q.box]) := HExt.app _ rfl hag
  generalize ρ.push h.length v b = ρ' at *
  have hbo : bOf ρ' h.length q.box = some b ∧ isLive q.box = true := by
    cases q with
    | var e cs => exact ⟨by simp only [PK.box, bOf, hkb], rfl⟩
    | row sz l =>
      obtain ⟨cap, cur, ty, rfl, _⟩ := hz
      exact ⟨by simp only [PK.box, bOf, hkc], rfl⟩
  have hcase : ∀ i, i < h.length ∧ getH (h ++ [q.box]) i = getH h i ∨ i = h.length ∧ getH (h ++ [q.box]) i = q.box ∨ getH (h ++ [q.box]) i = .dead := fun i => by
    by_cases h1 : i < h.length
    · exact .inl ⟨h1, getH_append_lt _ h1⟩
    · by_cases h2 : i = h.length
      · subst h2; exact .inr (.inl ⟨rfl, getH_append_len h _⟩)
      · exact .inr (.inr (getH_ge (by simp; omega)))
  have hof : ∀ i c, bOf ρ' i (getH (h ++ [q.box]) i) = some c → i < h.length ∧ bOf ρ i (getH h i) = some c ∨ i = h.length ∧ c = b := fun i c hi => by
    rcases hcase i with ⟨h1, h2⟩ | ⟨rfl, h2⟩ | h2
    · rw [h2, bOf_congr (hag i h1).1 (hag i h1).2] at hi; exact .inl ⟨h1, hi⟩
    · rw [h2, hbo.1] at hi; cases hi; exact .inr ⟨rfl, rfl⟩
    · rw [h2] at hi; cases hi
  have hlv : ∀ c, live ρ' (h ++ [q.box]) c ↔ live ρ h c ∨ c = b := fun c => by
    constructor
    · rintro ⟨i, h1, h2⟩
      rcases hof i c h2 with ⟨h3, h4⟩ | ⟨_, h4⟩
      · exact .inl ⟨i, by rw [getH_append_lt _ h3] at h1; exact h1, h4⟩
      · exact .inr h4
    · rintro (⟨i, h1, h2⟩ | rfl)
      · have hi : i < h.length := by
          rcases Nat.lt_or_ge i h.length with hi | hi
          · exact hi
          · rw [getH_ge hi] at h2; cases h2
        exact ⟨i, by rw [getH_append_lt _ hi]; exact h1, by rw [getH_append_lt _ hi, bOf_congr (hag i hi).1 (hag i hi).2]; exact h2⟩
      · exact ⟨h.length, by rw [getH_append_len]; exact hbo.2, by rw [getH_append_len]; exact hbo.1⟩
  have hM : ∀ c, Mut ρ' X' (h ++ [q.box]) c ↔ Mut ρ X h c := fun c => by
    unfold Mut
    rw [hlv, hX]
    constructor
    · rintro (h1 | h1 | h1)
      · exact .inl (.inl h1)
      · exact .inr h1
      · exact .inl (.inr h1)
    · rintro ((h1 | h1) | h1)
      · exact .inl h1
      · exact .inr (.inr h1)
      · exact .inr (.inl h1)
  have hMe : Mut ρ' X' (h ++ [q.box]) = Mut ρ X h := funext fun c => propext (hM c)
  refine ⟨⟨fun i => ?_, fun i j c hi hj => ?_, fun i c hi hx => ?_, fun c hx => hr.xlt c ((hX c).2 (.inl hx)), by rw [hMe]; exact hr.glob⟩, hex, hM, fun c hh => (hlv c).1 hh, fun M => ?_⟩
  · rcases hcase i with ⟨h1, h2⟩ | ⟨rfl, h2⟩ | h2
    · rw [h2, hMe]
      exact (hr.box i).mono' hex (fun _ _ q => q) (fun _ _ _ _ _ => (hag i h1).1) (fun _ _ _ => (hag i h1).2) fun _ _ => rfl
    · rw [h2]
      cases q with
      | var e cs =>
        obtain ⟨_, hc, ti, z, g1, g2, g3⟩ := hz
        obtain ⟨ti', z', q1, q2, q3⟩ := zero_cells (ρ := ρ') (h := h ++ [.cells false cs]) (w := w) (M := Mut ρ' X' (h ++ [.cells false cs])) hc
        rw [g1] at q1; cases q1
        rw [g2] at q2; cases q2
        refine ⟨z.cells, e, by rw [hkb]; exact g3, by rw [q3.1]; exact Nat.le_refl _, fun j s hs => ?_⟩
        obtain ⟨hp, hv⟩ := q3.2 j s hs
        have hj : j < z.cells.size := by rw [q3.1]; exact (List.getElem?_eq_some_iff.1 hs).1
        exact ⟨z.cells[j], by simp [hj], by simpa [hj] using hp, by
          show VR ρ' (h ++ [.cells false cs]) w (Mut ρ' X' (h ++ [.cells false cs])) s _
          simpa [hj] using hv⟩
      | row sz l =>
        obtain ⟨cap, cur, ty, rfl, g1, g2, g3, g4, g5, g6, g7⟩ := hz
        refine ⟨g2, g3, g4, .inr ⟨b, cap, cur, ty, hkc, g1, g5, g6, fun k j x hx => ?_⟩⟩
        obtain ⟨u, hu, hp, hc⟩ := g7 k j x hx
        exact ⟨u, hu, hp, hc _ _⟩
    · rw [h2]; exact trivial
  · rcases hof i c hi with ⟨h1, h2⟩ | ⟨rfl, rfl⟩
    · rcases hof j c hj with ⟨h3, h4⟩ | ⟨_, rfl⟩
      · exact hr.inj i j c h2 h4
      · exact absurd hb (hr.out i _ h2)
    · rcases hof j _ hj with ⟨h3, h4⟩ | ⟨rfl, _⟩
      · exact absurd hb (hr.out j _ h4)
      · rfl
  · rcases hof i c hi with ⟨h1, h2⟩ | ⟨_, rfl⟩
    · exact hr.out i c h2 ((hX c).2 (.inl hx))
    · exact hn hx
  · cases q with
    | var e cs =>
      obtain ⟨rfl, _⟩ := hz
      exact .ptr _ _ _ rfl (by simp) (by rw [hkb])
    | row sz l =>
      obtain ⟨cap, cur, ty, rfl, _⟩ := hz
      refine .acc _ _ _ rfl (by simp) fun ver' fr sz' l' hh => ?_
      rw [show (PK.row sz l).box = .acc 0 false sz l from rfl, getH_append_len] at hh
      cases hh
      exact ⟨Nat.le_refl _, fun _ => hkc.symm⟩
end
end Go.Ab

namespace Go.Ab
open Go

section
variable {cx : Cx} {ops : Array Oper} {h0 : H} {st0 : St}

theorem split_at {α : Type} : ∀ (l : List α) (j : Nat), j < l.length → ∃ F r T, l = F ++ r :: T ∧ T.length = j := by
  intro l j hj
  refine ⟨l.take (l.length - 1 - j), l[l.length - 1 - j]'(by omega), l.drop (l.length - 1 - j + 1), ?_, by simp; omega⟩
  rw [List.getElem_cons_drop, List.take_append_drop]

theorem mem_addN : ∀ {xs acc : List Nat} {p : Nat}, p ∈ addN xs acc → p ∈ xs ∨ p ∈ acc
  | [], acc, p, h => .inr h
  | x :: xs, acc, p, h => by
    simp only [addN] at h
    cases hm : memN x acc with
    | true =>
      rw [hm] at h
      exact (mem_addN h).imp (List.mem_cons_of_mem _) id
    | false =>
      rw [hm] at h
      rcases mem_addN h with h | h
      · exact .inl (List.mem_cons_of_mem _ h)
      · rcases List.mem_cons.1 h with h | h
        · exact .inl (h ▸ List.mem_cons_self)
        · exact .inr h

theorem predsAt_spec {tr : List Tr} {e p : Nat} (h : p ∈ predsAt tr e) : ∃ t ∈ tr, t.j = e ∧ p ∈ t.preds := by
  induction tr with
  | nil => simp [predsAt] at h
  | cons t tr ih =>
    simp only [predsAt] at h
    cases hb : Nat.beq t.j e with
    | true => rw [hb] at h; exact ⟨t, by simp, beq_true hb, h⟩
    | false =>
      rw [hb] at h
      obtain ⟨t', h1, h2, h3⟩ := ih h
      exact ⟨t', by simp [h1], h2, h3⟩

theorem mem_bindsOf {o : Oper} {e : Nat} : e ∈ bindsOf o ↔ ∃ x ∈ o.after, Region.binds .any x = true ∧ x.on = e := by
  simp [bindsOf, and_assoc]

theorem count_set_true (l : Array Bool) (i : Nat) (h : l.getD i true = false) : (l.setIfInBounds i true).toList.count false + 1 = l.toList.count false := by
  have hi : i < l.size := by
    rcases Nat.lt_or_ge i l.size with h' | h'
    · exact h'
    · simp [Array.getElem?_eq_none h'] at h
  have hv : l.toList[i]'(by simpa using hi) = false := by simpa [hi] using h
  rw [Array.toList_setIfInBounds]
  have key : ∀ (m : List Bool) (i : Nat) (hi : i < m.length), m[i] = false → (m.set i true).count false + 1 = m.count false := by
    intro m
    induction m with
    | nil => intro i hi; simp at hi
    | cons b m ih =>
      intro i hi hb
      cases i with
      | zero => simp at hb; subst hb; simp
      | succ i =>
        have := ih i (by simpa using hi) (by simpa using hb)
        simp only [List.set_cons_succ, List.count_cons]
        omega
  exact key _ _ _ hv

/-- Beside X: new variables' blocks that are no boxes as yet, by their stores. -/
def XP (X : Nat → Prop) (B : Nat → Option Nat) (b : Nat) : Prop := X b ∨ ∃ s, B s = some b

structure PI (cx : Cx) (ops : Array Oper) (X : Nat → Prop) (listed : Array Bool) (B : Nat → Option Nat) (n0 : Nat) (a : Act) (w : World) : Prop where
  lo : ∀ s b, B s = some b → n0 ≤ b ∧ b < w.heap.size ∧ listed.getD s false = false ∧ ∃ ja d, nkAt cx ops s = .rd ja d
  inj : ∀ s s' b, B s = some b → B s' = some b → s = s'
  nX : ∀ s b, B s = some b → ¬ X b
  pend : ∀ s ja d q, nkAt cx ops s = .rd ja d → (ops[ja]?).bind (pkOf cx) = some q → listed.getD ja false = true → listed.getD s false = false → ∃ b, B s = some b ∧ PB cx.P w b (a.tmps.getD d undef) q

theorem nkAt_lt {s : Nat} (h : nkAt cx ops s ≠ .no) : s < ops.size := by
  unfold nkAt at h
  cases hs : ops[s]? with
  | none => rw [hs] at h; exact absurd rfl h
  | some o => exact (Array.getElem?_eq_some_iff.1 hs).1

/-- Each operation has its record. -/
theorem Valid.recAt {RS : List Rc} (hv : Valid cx ops h0 st0 RS) (hn : RS.length = ops.size) {s : Nat} (h : nkAt cx ops s ≠ .no) :
    ∃ k ∈ RS, ∃ rs' o, k.t.j = s ∧ ops[s]? = some o ∧ SemOf cx ops h0 st0 rs' k o (nkAt cx ops s) := by
  have hs : s < ops.size := nkAt_lt h
  obtain ⟨F, r, T, hRS, hT⟩ := split_at RS s (by rw [hn]; exact hs)
  have hvr : Valid cx ops h0 st0 (r :: T) := Valid.tail F (by rw [← hRS]; exact hv)
  obtain ⟨_, hrj, _, _, o, ho, _, _, _, hsem⟩ := hvr
  have hj : r.t.j = s := by omega
  rw [hj] at ho hsem
  rw [nkAt_some ho]
  exact ⟨r, by rw [hRS]; simp, T, o, hj, ho, hsem⟩

theorem Valid.rdr {RS : List Rc} (hv : Valid cx ops h0 st0 RS) (hn : RS.length = ops.size) {s ja d : Nat} (h : nkAt cx ops s = .rd ja d) :
    ∃ k ∈ RS, ∃ rs' o, k.t.j = s ∧ ops[s]? = some o ∧ SemRd cx ops h0 st0 rs' k o ja d := by
  obtain ⟨k, hk, rs', o, h1, h2, h3⟩ := Valid.recAt hv hn (s := s) (by rw [h]; simp)
  rw [h] at h3
  exact ⟨k, hk, rs', o, h1, h2, h3⟩

theorem Valid.mkr {RS : List Rc} (hv : Valid cx ops h0 st0 RS) (hn : RS.length = ops.size) {s ja d : Nat} (h : nkAt cx ops ja = .mk s d) :
    ∃ k ∈ RS, ∃ rs' o, k.t.j = ja ∧ ops[ja]? = some o ∧ SemMk cx ops st0 rs' k o s d := by
  obtain ⟨k, hk, rs', o, h1, h2, h3⟩ := Valid.recAt hv hn (s := ja) (by rw [h]; simp)
  rw [h] at h3
  exact ⟨k, hk, rs', o, h1, h2, h3⟩

/-- What waits for its first use is written by its maker alone. -/
theorem Valid.only {RS : List Rc} (hv : Valid cx ops h0 st0 RS) (hn : RS.length = ops.size) {s ja d : Nat} (h : nkAt cx ops s = .rd ja d) {j : Nat} {o : Oper} (ho : ops[j]? = some o) (hj : j ≠ ja) : o.dst ≠ some d := by
  obtain ⟨k, _, _, _, h1, _, _, _, hm, _⟩ := Valid.rdr hv hn h
  rw [h1] at hm
  obtain ⟨k2, _, _, _, h2, _, _, _, _, _, _, _, _, h3, _⟩ := Valid.mkr hv hn hm
  rw [h2] at h3
  exact h3 j o ho hj

theorem PB.keep {P : Program} {q : PK} {w w' : World} {b : Nat} {v : Value} (h : PB P w b v q) (hk : w'.heap[b]? = w.heap[b]?) : PB P w' b v q := by
  cases q with
  | var e cs =>
    obtain ⟨h1, h2, i, z, h3, h4, h5⟩ := h
    exact ⟨h1, h2, i, z, h3, h4, hk.trans h5⟩
  | row sz l =>
    obtain ⟨cap, cur, ty, h1, h2, h3⟩ := h
    exact ⟨cap, cur, ty, h1, hk.trans h2, h3⟩

theorem put_none {a : Act} {v : Value} : a.put none v = a := rfl

theorem wanted_none {o : Oper} (hg : o.guard = none) (y : Nat → Option Bool) : Region.wanted o y = true := by simp [Region.wanted, hg]

theorem any_order {rd : Option Nat} {RS : List Rc} (hv : Valid cx ops h0 st0 RS) (hn : RS.length = ops.size) {X : Nat → Prop} {ρ0 : Env} {h00 : H} {w0 : World} {Q : Exit → Act → World → Prop}
    (hQ : ∀ ρ a w, HR ρ X (heapL allL h0 RS) w → (∀ x, VR ρ (heapL allL h0 RS) w (Mut ρ X (heapL allL h0 RS)) (getL allL st0 RS x) (a.tmps.getD x undef)) → a.tmps.size = cx.nt → Marks ρ.base w a.defers → Ext ρ0 h00 w0 ρ (heapL allL h0 RS) w → Q .normal a w) :
    ∀ (fuel : Nat) (listed : Array Bool) (ρ : Env) (a : Act) (w : World) (B : Nat → Option Nat), listed.size = ops.size → listed.toList.count false ≤ fuel → (∀ k ∈ RS, listed.getD k.t.j false = true → ∀ p ∈ k.t.preds, listed.getD p false = true) →
      HR ρ (XP X B) (heapL (fun j => listed.getD j false) h0 RS) w → (∀ x, VR ρ (heapL (fun j => listed.getD j false) h0 RS) w (Mut ρ (XP X B) (heapL (fun j => listed.getD j false) h0 RS)) (getL (fun j => listed.getD j false) st0 RS x) (a.tmps.getD x undef)) →
      a.tmps.size = cx.nt → Marks ρ.base w a.defers → Ext ρ0 h00 w0 ρ (heapL (fun j => listed.getD j false) h0 RS) w → PI cx ops X listed B w0.heap.size a w → wpAnyIn (FR rd) 0 cx.P .any ops Q fuel listed a w := by
  -- where nothing is ready all are listed
  have hall : ∀ (listed : Array Bool), listed.size = ops.size → Region.ready .any ops listed = [] → ∀ j, j < ops.size → listed.getD j false = true := by
    intro listed hs hr j
    induction j using Nat.strongRecOn with
    | ind j ih =>
      intro hj
      cases hl : listed.getD j false with
      | true => rfl
      | false =>
        exfalso
        obtain ⟨F, r, T, hRS, hT⟩ := split_at RS j (by rw [hn]; exact hj)
        have hvr : Valid cx ops h0 st0 (r :: T) := Valid.tail F (by rw [← hRS]; exact hv)
        obtain ⟨_, hrj, _, _, o, ho, _, _, hb, _⟩ := hvr
        have : j ∈ Region.ready .any ops listed := by
          rw [mem_ready]
          refine ⟨?_, o, by rw [← hT, ← hrj]; exact ho, fun e he hbe => ?_⟩
          · have : j < listed.size := by omega
            simpa [this] using hl
          · have := hb e.on (mem_bindsOf.2 ⟨e, he, hbe, rfl⟩)
            exact ih e.on (by omega) (by omega)
        rw [hr] at this
        cases this
  have hfin : ∀ (listed : Array Bool) (ρ : Env) (a : Act) (w : World) (B : Nat → Option Nat), (∀ j, j < ops.size → listed.getD j false = true) → HR ρ (XP X B) (heapL (fun j => listed.getD j false) h0 RS) w →
      (∀ x, VR ρ (heapL (fun j => listed.getD j false) h0 RS) w (Mut ρ (XP X B) (heapL (fun j => listed.getD j false) h0 RS)) (getL (fun j => listed.getD j false) st0 RS x) (a.tmps.getD x undef)) →
      a.tmps.size = cx.nt → Marks ρ.base w a.defers → Ext ρ0 h00 w0 ρ (heapL (fun j => listed.getD j false) h0 RS) w → PI cx ops X listed B w0.heap.size a w → Q .normal a w := by
    intro listed ρ a w B hl hr hst hs hd e pi
    have hh : heapL (fun j => listed.getD j false) h0 RS = heapL allL h0 RS := heapL_congr fun k hk => hl _ (by have := Valid.lt RS hv k hk; omega)
    have hg : ∀ x, getL (fun j => listed.getD j false) st0 RS x = getL allL st0 RS x := fun x => getL_congr fun k hk _ => hl _ (by have := Valid.lt RS hv k hk; omega)
    have hX : XP X B = X := funext fun b => propext ⟨fun h => (by
      rcases h with h | ⟨s, h⟩
      · exact h
      · obtain ⟨_, _, h1, ja, d, h2⟩ := pi.lo s b h
        rw [hl s (nkAt_lt (by rw [h2]; simp))] at h1; cases h1), .inl⟩
    rw [hh, hX] at hr hst
    rw [hh] at e
    exact hQ ρ a w hr (fun x => by rw [← hg x]; exact hst x) hs hd e
  intro fuel
  induction fuel with
  | zero =>
    intro listed ρ a w B hs hc hcl hr hst hsz hd e pi
    have hl : ∀ j, j < ops.size → listed.getD j false = true := fun j hj => by
      have h1 : listed.toList.count false = 0 := by omega
      rw [List.count_eq_zero] at h1
      have hj' : j < listed.size := by omega
      cases hv : listed[j] with
      | true => simp [hj', hv]
      | false => exact absurd (by rw [← hv]; simp) h1
    refine ⟨?_, hfin listed ρ a w B hl hr hst hsz hd e pi⟩
    cases hq : Region.ready .any ops listed with
    | nil => rfl
    | cons i is =>
      have : i ∈ Region.ready .any ops listed := by rw [hq]; simp
      obtain ⟨h1, o, h2, _⟩ := mem_ready.1 this
      have hi := (Array.getElem?_eq_some_iff.1 h2).1
      have := hl i hi
      have hi' : i < listed.size := by omega
      simp [hi'] at h1 this
      rw [h1] at this
      cases this
  | succ fuel ih =>
    intro listed ρ a w B hs hc hcl hr hst hsz hd e pi
    refine ⟨fun hq => hfin listed ρ a w B (hall listed hs hq) hr hst hsz hd e pi, fun i hi => ?_⟩
    obtain ⟨h1, o, ho, hbs⟩ := mem_ready.1 hi
    have hio := (Array.getElem?_eq_some_iff.1 ho).1
    have hil : i < listed.size := by omega
    have hLi : listed.getD i false = false := by simp [hil] at h1 ⊢; exact h1
    obtain ⟨F, r, T, hRS, hT⟩ := split_at RS i (by omega)
    have hvr : Valid cx ops h0 st0 (F ++ r :: T) := by rw [← hRS]; exact hv
    obtain ⟨hvT, hrj, hokr, hfe, o', ho', hokd, hpr, hbl, hsem⟩ := Valid.tail F hvr
    have hri : r.t.j = i := by omega
    rw [hri, ho] at ho'
    cases ho'
    have hfeAll := Valid.fe RS hv
    have hbL : ∀ e ∈ bindsOf o, listed.getD e false = true := fun e he => by
      obtain ⟨x, hx, hb, rfl⟩ := mem_bindsOf.1 he
      exact hbs x hx hb
    have hpL : ∀ p ∈ r.t.preds, listed.getD p false = true := fun p hp => by
      rw [hpr] at hp
      have hp := mem_addN hp
      simp only [List.mem_flatMap, List.mem_cons, List.not_mem_nil, or_false] at hp
      obtain ⟨e, he, hp⟩ := hp
      rcases hp with rfl | hp
      · exact hbL p he
      · obtain ⟨t, ht, hte, hpt⟩ := predsAt_spec hp
        simp only [List.mem_map] at ht
        obtain ⟨k, hk, rfl⟩ := ht
        refine hcl k (by rw [hRS]; simp [hk]) ?_ p hpt
        rw [hte]; exact hbL e he
    have hF : ∀ k ∈ F, listed.getD k.t.j false = true → r.t.fp.comm k.t.fp = true ∧ notIn k.t.dst r.t.reads = true := fun k hk hl => by
      obtain ⟨_, h2, _⟩ := Valid.pair F hvr hk
      rcases h2 with h2 | ⟨h2, _, h3⟩
      · have := hcl k (by rw [hRS]; simp [hk]) hl r.t.j h2
        rw [hri, hLi] at this
        cases this
      · exact ⟨h2, h3⟩
    have hTT : ∀ k ∈ T, listed.getD k.t.j false = false → r.t.fp.comm k.t.fp = true ∧ notIn k.t.dst r.t.reads = true := fun k hk hl => by
      obtain ⟨F', T', hT'⟩ := List.append_of_mem hk
      have hv2 : Valid cx ops h0 st0 ((F ++ r :: F') ++ k :: T') := by
        have := hvr
        rw [hT'] at this
        simpa using this
      obtain ⟨_, h2, _⟩ := Valid.pair (F ++ r :: F') hv2 (k := r) (by simp)
      rcases h2 with h2 | ⟨h2, h3, _⟩
      · rw [hpL _ h2] at hl; cases hl
      · exact ⟨by rw [comm_symm]; exact h2, h3⟩
    have hjT : ∀ k ∈ T, k.t.j ≠ r.t.j := fun k hk => by
      have := Valid.lt T hvT k hk
      omega
    have hjF : ∀ k ∈ F, k.t.j ≠ r.t.j := fun k hk => by
      obtain ⟨F1, F2, hF12⟩ := List.append_of_mem hk
      have hv2 : Valid cx ops h0 st0 (k :: (F2 ++ r :: T)) := Valid.tail F1 (by
        have := hvr
        rw [hF12] at this
        simpa using this)
      have := hv2.2.1
      simp at this
      omega
    have hcond : Cond r.t.fp (heapL (fun j => listed.getD j false) h0 RS) (heapL allL h0 T) := by
      rw [hRS]
      refine cond_front (fun k hk hl => (hF k hk hl).1) (fun k hk => hfeAll k (by rw [hRS]; simp [hk])) ?_
      have : heapL (fun j => listed.getD j false) h0 (r :: T) = heapL (fun j => listed.getD j false) h0 T := by
        simp only [heapL, hri, hLi, cond_false]
      rw [this]
      exact cond_tail (fun k hk hl => (hTT k hk hl).1) (fun k hk => hfeAll k (by rw [hRS]; simp [hk]))
    have hreads : ∀ x ∈ r.t.reads, getL (fun j => listed.getD j false) st0 RS x = getL allL st0 T x := fun x hx => by
      rw [hRS]
      refine get_reads (fun k hk hl => notIn_spec (hF k hk hl).2 hx) (by rw [hri]; exact hLi) fun k hk hd => ?_
      cases hl : listed.getD k.t.j false with
      | true => rfl
      | false => exact absurd hd (notIn_spec (hTT k hk hl).2 hx)
    have hL' : (fun j => (listed.setIfInBounds i true).getD j false) = addL (fun j => listed.getD j false) r.t.j := by
      funext j
      rw [hri]
      by_cases hij : j = i
      · subst hij; simp [addL, hil]
      · simp [addL, hij, Array.getElem?_setIfInBounds_ne (Ne.symm hij)]
    have hstep : heapL (fun j => (listed.setIfInBounds i true).getD j false) h0 RS = r.eff.app (heapL (fun j => listed.getD j false) h0 RS) := by
      rw [hL', hRS]
      exact heap_step hfe hjT hjF (by rw [hri]; exact hLi) (fun k hk hl => (hF k hk hl).1) (fun k hk => hfeAll k (by rw [hRS]; simp [hk]))
    have hgstep : ∀ x, getL (fun j => (listed.setIfInBounds i true).getD j false) st0 RS x = if r.t.dst = some x then r.sv else getL (fun j => listed.getD j false) st0 RS x := fun x => by
      rw [hL', hRS]
      exact get_step hjT hjF fun k hk hd => unlike_spec (Valid.pair F hvr hk).1 hd
    have conv : ∀ q, (listed.setIfInBounds i true).getD q false = true ↔ q = i ∨ listed.getD q false = true := fun q => by
      have := congrFun hL' q
      rw [this, hri]
      by_cases hq : q = i <;> simp [addL, hq]
    have convF : ∀ q, (listed.setIfInBounds i true).getD q false = false ↔ q ≠ i ∧ listed.getD q false = false := fun q => by
      have := conv q
      cases h1 : (listed.setIfInBounds i true).getD q false <;> cases h2 : listed.getD q false <;> simp only [h1, h2] at this <;> simp at this ⊢ <;> exact this
    have hcl' : ∀ k ∈ RS, (listed.setIfInBounds i true).getD k.t.j false = true → ∀ p ∈ k.t.preds, (listed.setIfInBounds i true).getD p false = true := fun k hk hkl p hp => by
      rw [conv] at hkl ⊢
      rcases hkl with hkl | hkl
      · have hkr : k = r := by
          rw [hRS] at hk
          rcases List.mem_append.1 hk with hk | hk
          · exact absurd (by omega) (hjF k hk)
          · rcases List.mem_cons.1 hk with hk | hk
            · exact hk
            · exact absurd (by omega) (hjT k hk)
        subst hkr
        exact .inr (hpL p hp)
      · exact .inr (hcl k hk hkl p hp)
    have hcnt : (listed.setIfInBounds i true).toList.count false ≤ fuel := by have := count_set_true listed i h1; omega
    have hrm : r ∈ RS := by rw [hRS]; simp
    have hni : nkAt cx ops i = nkOf cx ops i o := nkAt_some ho
    -- pending blocks are no boxes
    have hnl : ∀ s b, B s = some b → ¬ live ρ (heapL (fun j => listed.getD j false) h0 RS) b := fun s b hb ⟨q, _, h2⟩ => hr.out q b h2 (.inr ⟨s, hb⟩)
    have hdl : ∀ {d}, o.dst = some d → d < a.tmps.size := fun hod => by simp only [okD, hod] at hokd; rw [hsz]; simpa [Nat.blt_eq] using hokd
    cases hnk : nkOf cx ops i o with
    | no =>
      rw [hri, hnk] at hsem
      obtain ⟨hdst, hsem⟩ := hsem
      rw [← hri]
      refine hsem _ _ hcond rd ρ a w Q _ hr hsz hd (fun x hx => by rw [← hreads x hx]; exact hst x) fun v w' hp => ?_
      obtain ⟨ρ', hr', hv', e'⟩ := hp
      rw [hri]
      refine ih (listed.setIfInBounds i true) ρ' (a.put o.dst v) w' B (by simpa using hs) hcnt hcl' (by rw [hstep]; exact hr') (fun x => ?_) (by cases o.dst <;> simp [Act.put, hsz]) (by rw [show (a.put o.dst v).defers = a.defers by cases o.dst <;> rfl]; exact hd.ext hr e') (by rw [hstep]; exact e.trans e') ?_
      · rw [hstep, hgstep x]
        cases hdd : o.dst with
        | none =>
          rw [hdst, hdd]
          simp only [reduceCtorEq, if_false]
          exact e'.vr (hst x)
        | some d =>
          rw [hdst, hdd]
          rw [put_getD (hdl hdd)]
          by_cases hx : x = d
          · subst hx; simp only [if_true]; exact hv'
          · rw [if_neg hx, if_neg (fun hh => hx (by injection hh with hh; exact hh.symm))]
            exact e'.vr (hst x)
      · refine ⟨fun s b hb => ?_, pi.inj, pi.nX, fun s ja d q hs1 hq hs2 hs3 => ?_⟩
        · obtain ⟨q1, q2, q3, ja, d, q4⟩ := pi.lo s b hb
          exact ⟨q1, Nat.lt_of_lt_of_le q2 e'.size, (convF s).2 ⟨fun hh => (by rw [hh, hni, hnk] at q4; cases q4), q3⟩, ja, d, q4⟩
        · have hja : ja ≠ i := fun hh => by
            obtain ⟨_, _, _, _, _, _, _, _, hm, _⟩ := Valid.rdr hv hn hs1
            rw [hh, hni, hnk] at hm; cases hm
          obtain ⟨b, hb, hbz⟩ := pi.pend s ja d q hs1 hq (((conv ja).1 hs2).resolve_left hja) ((convF s).1 hs3).2
          have hne := Valid.only hv hn hs1 ho (Ne.symm hja)
          have htm : (a.put o.dst v).tmps.getD d undef = a.tmps.getD d undef := by
            cases hdd : o.dst with
            | none => rfl
            | some d' => rw [put_getD (hdl hdd), if_neg fun hh => hne (by rw [hdd, hh])]
          exact ⟨b, hb, by rw [htm]; exact hbz.keep (e'.keep b (pi.lo s b hb).2.1 (hnl s b hb))⟩
    | mk js d =>
      rw [hri, hnk] at hsem
      obtain ⟨hdst, hfp, heff, hod, hany, hjs, hlt, hnod, q, hq, hmake⟩ := hsem
      rw [hri] at hjs hlt hnod
      obtain ⟨k, hk, rs', o2, hkj, ho2, hks⟩ := Valid.rdr hv hn hjs
      obtain ⟨_, hkp, _⟩ := hks
      have hjsL : listed.getD js false = false := by
        cases hq : listed.getD js false with
        | false => rfl
        | true =>
          have := hcl k hk (by rw [hkj]; exact hq) i hkp
          rw [hLi] at this; cases this
      -- who writes its temporary
      have hwho : ∀ q ∈ RS, q.t.dst = some d → q.t.j = js := fun q hq hqd => by
        obtain ⟨F2, T2, hF2⟩ := List.append_of_mem hq
        have hvq : Valid cx ops h0 st0 (q :: T2) := Valid.tail F2 (by rw [← hF2]; exact hv)
        obtain ⟨_, hqj, _, _, oq, hoq, _, _, _, hsq⟩ := hvq
        rw [← nkAt_some hoq] at hsq
        cases hnq : nkAt cx ops q.t.j with
        | no =>
          rw [hnq] at hsq
          have hqi : q.t.j ≠ i := fun hh => by rw [hh, hni, hnk] at hnq; cases hnq
          exact absurd (hsq.1 ▸ hqd) (hnod _ oq hoq hqi)
        | mk a b => rw [hnq] at hsq; rw [hsq.1] at hqd; cases hqd
        | rd ja2 d2 =>
          have hnq' := hnq
          rw [hnq] at hsq
          obtain ⟨_, _, hm2, q2, hq2, hd2, _⟩ := hsq
          rw [hd2] at hqd
          obtain ⟨k3, hk3, rs3, o3, h31, h32, h33⟩ := Valid.mkr hv hn hm2
          have hod3 := h33.2.2.2.1
          cases q2 with
          | row sz l =>
            have hqi : q.t.j ≠ i := fun hh => by rw [hh, hni, hnk] at hnq; cases hnq
            exact absurd hqd (hnod _ oq hoq hqi)
          | var e cs =>
            have hdd : d2 = d := by injection hqd
            by_cases hji : ja2 = i
            · rw [hji, hni, hnk] at hm2
              injection hm2 with g1 g2
              exact g1.symm
            · exact absurd (by rw [hod3, hdd]) (hnod _ o3 h32 hji)
      have hsd : get st0 d = .any := by
        rw [← hany]
        refine (getL_none fun q hq hqd => ?_).symm
        have hqj := Valid.lt T hvT q hq
        have := hwho q (by rw [hRS]; simp [hq]) hqd
        omega
      have hhl : heapL (fun j => (listed.setIfInBounds i true).getD j false) h0 RS = heapL (fun j => listed.getD j false) h0 RS := by rw [hstep, heff]; rfl
      have hr0 : HR ρ (fun _ => False) [] w := ⟨fun i => trivial, fun i j b hb => by simp [getH, bOf] at hb, fun i b hb => by simp [getH, bOf] at hb, fun b hb => hb.elim, hr.glob.mono (Nat.le_refl _) (fun _ _ _ => rfl) fun b _ hb => by
        rcases hb with hb | ⟨i, hb, _⟩
        · exact hb.elim
        · simp [getH, isLive] at hb⟩
      rw [← hri]
      refine hmake rd ρ a w Q _ hr0 hsz hd fun b v w' hpb hb1 hb2 hold hws hio => ?_
      rw [hri]
      let B' : Nat → Option Nat := fun s => if s = js then some b else B s
      have e1 : Ext ρ (heapL (fun j => listed.getD j false) h0 RS) w ρ (heapL (fun j => listed.getD j false) h0 RS) w' := ⟨HExt.refl _ _, hws, fun c hc _ => hold c hc, fun _ _ hl => hl, hio⟩
      have hXP : ∀ c, c < w.heap.size → XP X B' c → XP X B c := fun c hc h => by
        rcases h with h | ⟨s, h⟩
        · exact .inl h
        · simp only [B'] at h
          split at h
          · cases h; omega
          · exact .inr ⟨s, h⟩
      have hcr : ∀ x v, CR w (Mut ρ (XP X B) (heapL (fun j => listed.getD j false) h0 RS)) x v → CR w' (Mut ρ (XP X B') (heapL (fun j => listed.getD j false) h0 RS)) x v := fun x v hx =>
        hx.mono hws (fun c hc _ => hold c hc) fun c hc hm => hm.imp (hXP c hc) id
      refine ih (listed.setIfInBounds i true) ρ _ w' B' (by simpa using hs) hcnt hcl' (by
        rw [hhl]
        refine ⟨fun q => (hr.box q).mono' (HExt.refl _ _) hcr (fun _ _ _ _ _ => rfl) (fun _ _ _ => rfl) fun c hc => hold c (hr.lt hc), hr.inj, fun q c hq hx => ?_, fun c hx => ?_, hr.glob.mono hws (fun c hc _ => hold c hc) fun c hc hm => hm.imp (hXP c hc) id⟩
        · exact hr.out q c hq (hXP c (hr.lt hq) hx)
        · rcases hx with hx | ⟨s, hx⟩
          · exact Nat.lt_of_lt_of_le (hr.xlt c (.inl hx)) hws
          · simp only [B'] at hx
            split at hx
            · cases hx; exact hb2
            · exact Nat.lt_of_lt_of_le (hr.xlt c (.inr ⟨s, hx⟩)) hws) (fun x => ?_) (by rw [hod]; simp [Act.put, hsz]) (by rw [hod]; exact hd.ext hr e1) (by rw [hhl]; exact e.trans e1) ?_
      · rw [hhl, hod, put_getD (hdl hod), hgstep x, hdst]
        simp only [reduceCtorEq, if_false]
        by_cases hx : x = d
        · subst hx
          rw [getL_any hsd fun q hq hql hqd => ?_]
          · exact .any _
          · rw [hwho q hq hqd] at hql
            simp only [hjsL] at hql; cases hql
        · rw [if_neg hx]
          exact (hst x).mono (HExt.refl _ _) hcr
      · refine ⟨fun s c hc => ?_, fun s s' c hc hc' => ?_, fun s c hc hx => ?_, fun s ja2 d2 q2 hs1 hq2 hs2 hs3 => ?_⟩
        · simp only [B'] at hc
          split at hc
          · rename_i hsj
            cases hc
            exact ⟨Nat.le_trans e.size hb1, hb2, (convF s).2 ⟨by omega, by rw [hsj]; exact hjsL⟩, i, d, by rw [hsj]; exact hjs⟩
          · obtain ⟨q1, q2, q3, ja, d, q4⟩ := pi.lo s c hc
            exact ⟨q1, Nat.lt_of_lt_of_le q2 hws, (convF s).2 ⟨fun hh => (by rw [hh, hni, hnk] at q4; cases q4), q3⟩, ja, d, q4⟩
        · simp only [B'] at hc hc'
          split at hc <;> split at hc'
          · omega
          · cases hc; have := (pi.lo s' _ hc').2.1; omega
          · cases hc'; have := (pi.lo s _ hc).2.1; omega
          · exact pi.inj s s' c hc hc'
        · simp only [B'] at hc
          split at hc
          · cases hc; have := hr.xlt _ (.inl hx); omega
          · exact pi.nX s c hc hx
        · by_cases hsj : s = js
          · rw [hsj, hjs] at hs1
            injection hs1 with g1 g2
            subst g1 g2
            rw [ho, Option.bind_some, hq] at hq2
            cases hq2
            exact ⟨b, by simp [B', hsj], by rw [hod, put_getD (hdl hod), if_pos rfl]; exact hpb⟩
          · have hja : ja2 ≠ i := fun hh => by
              obtain ⟨_, _, _, _, h21, _, _, _, hm, _⟩ := Valid.rdr hv hn hs1
              rw [hh, hni, hnk] at hm
              injection hm with g1 g2
              exact hsj (by rw [← h21, g1])
            obtain ⟨c, hc, hcz⟩ := pi.pend s ja2 d2 q2 hs1 hq2 (((conv ja2).1 hs2).resolve_left hja) ((convF s).1 hs3).2
            have hne := Valid.only hv hn hs1 ho (Ne.symm hja)
            refine ⟨c, by simp [B', hsj, hc], ?_⟩
            rw [hod, put_getD (hdl hod), if_neg fun hh => hne (by rw [hod, hh])]
            exact hcz.keep (hold c (pi.lo s c hc).2.1)
    | rd ja d =>
      rw [hri, hnk] at hsem
      obtain ⟨hfp, hjp, hjm, q, hq, hdst, hvar, sv, hsv, hsem⟩ := hsem
      obtain ⟨b, hb, hbz⟩ := pi.pend i ja d q (by rw [hni, hnk]) hq (hpL ja hjp) hLi
      rw [hfp] at hcond
      have hcond : heapL (fun j => listed.getD j false) h0 RS = heapL allL h0 T := hcond
      let B' : Nat → Option Nat := fun s => if s = i then none else B s
      have hXP : ∀ c, XP X B c ↔ XP X B' c ∨ c = b := fun c => by
        constructor
        · rintro (h | ⟨s, h⟩)
          · exact .inl (.inl h)
          · by_cases hsi : s = i
            · subst hsi; rw [hb] at h; cases h; exact .inr rfl
            · exact .inl (.inr ⟨s, by simp [B', hsi, h]⟩)
        · rintro ((h | ⟨s, h⟩) | rfl)
          · exact .inl h
          · simp only [B'] at h
            split at h
            · cases h
            · exact .inr ⟨s, h⟩
          · exact .inr ⟨i, hb⟩
      have hnb : ¬ XP X B' b := by
        rintro (h | ⟨s, h⟩)
        · exact pi.nX i b hb h
        · simp only [B'] at h
          split at h
          · cases h
          · rename_i hsi; exact hsi (pi.inj s i b h hb)
      obtain ⟨ρ1, hbase, hr1, hex, hM, hlv, hvd⟩ := HR.reveal hr (.inr ⟨i, hb⟩) hXP hnb hbz
      have hMe : Mut ρ1 (XP X B') (heapL (fun j => listed.getD j false) h0 RS ++ [q.box]) = Mut ρ (XP X B) (heapL (fun j => listed.getD j false) h0 RS) := funext fun c => propext (hM c)
      have hst1 : ∀ x, VR ρ1 (heapL (fun j => listed.getD j false) h0 RS ++ [q.box]) w (Mut ρ1 (XP X B') (heapL (fun j => listed.getD j false) h0 RS ++ [q.box])) (getL (fun j => listed.getD j false) st0 RS x) (a.tmps.getD x undef) := fun x => by
        rw [hMe]; exact (hst x).mono hex fun _ _ q => q
      have e1 : Ext ρ0 h00 w0 ρ1 (heapL (fun j => listed.getD j false) h0 RS ++ [q.box]) w := ⟨e.toHExt.trans hex, e.size, e.keep, fun c hc hl => by
        rcases hlv c hl with hl | rfl
        · exact e.lives c hc hl
        · have := (pi.lo i _ hb).1; omega, e.io⟩
      rw [← hri]
      rw [← hcond] at hsem hsv
      refine hsem (XP X B') rd ρ1 a w Q _ hr1 hsz (by rw [hbase]; exact hd) (fun x hx _ => by rw [← hreads x hx]; exact hst1 x) (hvd _) fun v w' hp => ?_
      obtain ⟨ρ', hr', hv', e'⟩ := hp
      rw [hri]
      refine ih (listed.setIfInBounds i true) ρ' (a.put o.dst v) w' B' (by simpa using hs) hcnt hcl' (by rw [hstep]; exact hr') (fun x => ?_) (by cases o.dst <;> simp [Act.put, hsz]) (by rw [show (a.put o.dst v).defers = a.defers by cases o.dst <;> rfl]; exact Marks.ext hr1 e' (by rw [hbase]; exact hd)) (by rw [hstep]; exact e1.trans e') ?_
      · rw [hstep, hgstep x]
        cases q with
        | var te cs =>
          have hd2 : r.t.dst = some d := hdst
          have hs2 : r.sv = .ptr (heapL (fun j => listed.getD j false) h0 RS).length 0 := hsv
          rw [hvar te cs rfl, hd2, hs2, put_none]
          by_cases hx : x = d
          · subst hx
            rw [if_pos rfl]
            exact e'.vr (hvd _)
          · rw [if_neg fun hh => hx (by injection hh with hh; exact hh.symm)]
            exact e'.vr (hst1 x)
        | row sz l =>
          have hd2 : r.t.dst = o.dst := hdst
          have hs2 : r.sv = sv := hsv
          rw [hd2, hs2]
          cases hdd : o.dst with
          | none =>
            simp only [reduceCtorEq, if_false]
            exact e'.vr (hst1 x)
          | some d' =>
            rw [put_getD (hdl hdd)]
            by_cases hx : x = d'
            · subst hx; simp only [if_true]; exact hv'
            · rw [if_neg hx, if_neg (fun hh => hx (by injection hh with hh; exact hh.symm))]
              exact e'.vr (hst1 x)
      · refine ⟨fun s c hc => ?_, fun s s' c hc hc' => ?_, fun s c hc => ?_, fun s ja2 d2 q2 hs1 hq2 hs2 hs3 => ?_⟩
        · simp only [B'] at hc
          split at hc
          · cases hc
          · rename_i hsi
            obtain ⟨q1, q2, q3, q4⟩ := pi.lo s c hc
            exact ⟨q1, Nat.lt_of_lt_of_le q2 e'.size, (convF s).2 ⟨hsi, q3⟩, q4⟩
        · simp only [B'] at hc hc'
          split at hc <;> split at hc' <;> first | (cases hc; done) | (cases hc'; done) | exact pi.inj s s' c hc hc'
        · simp only [B'] at hc
          split at hc
          · cases hc
          · exact pi.nX s c hc
        · have hja : ja2 ≠ i := fun hh => by
            obtain ⟨_, _, _, _, _, _, _, _, hm, _⟩ := Valid.rdr hv hn hs1
            rw [hh, hni, hnk] at hm
            cases hm
          obtain ⟨hsi, hs3⟩ := (convF s).1 hs3
          obtain ⟨c, hc, hcz⟩ := pi.pend s ja2 d2 q2 hs1 hq2 (((conv ja2).1 hs2).resolve_left hja) hs3
          have hne := Valid.only hv hn hs1 ho (Ne.symm hja)
          have htm : (a.put o.dst v).tmps.getD d2 undef = a.tmps.getD d2 undef := by
            cases hdd : o.dst with
            | none => rfl
            | some d' => rw [put_getD (hdl hdd), if_neg fun hh => hne (by rw [hdd, hh])]
          refine ⟨c, by simp [B', hsi, hc], ?_⟩
          rw [htm]
          refine hcz.keep (e'.keep c (pi.lo s c hc).2.1 fun hl => ?_)
          rcases hlv c hl with hl | rfl
          · exact hnl s c hc hl
          · exact hsi (pi.inj s i _ hc hb)
end
end Go.Ab

namespace Go.Ab
open Go

section
variable {β : Type} {cx : Cx} {o : Oper} {r : β}

theorem pure_vr {ρ ρ' : Env} {h h' : H} {w : World} {M : Nat → Prop} {s : SV} {v : Value} (hv : VR ρ h w M s v) : ∀ n, pureSV n s = true → VR ρ' h' w M s v := by
  induction hv with
  | any v => intro n hp; cases n <;> simp [pureSV] at hp
  | c x v hx => intro n hp; exact .c x v hx
  | nil sz h0 => intro n hp; exact .nil sz h0
  | acc i ver v hp' hi hv => intro n hp; cases n <;> simp [pureSV] at hp
  | sub i ver lo k v hp' hi hv => intro n hp; cases n <;> simp [pureSV] at hp
  | ept i ver ix off v hp' hi hv => intro n hp; cases n <;> simp [pureSV] at hp
  | ptr i off v hp' hi hv => intro n hp; cases n <;> simp [pureSV] at hp
  | apt i off k sz len v hp' hi hn hv => intro n hp; cases n <;> simp [pureSV] at hp
  | mp i v hi hv => intro n hp; cases n <;> simp [pureSV] at hp
  | agg cs a hs hpl hr ih =>
    intro n hp
    cases n with
    | zero => simp [pureSV] at hp
    | succ n =>
      simp only [pureSV, List.all_eq_true] at hp
      exact .agg cs a hs hpl fun j x hx => ih j x hx n (hp x (List.mem_of_getElem? hx))
  | tup cs a hs hr ih =>
    intro n hp
    cases n with
    | zero => simp [pureSV] at hp
    | succ n =>
      simp only [pureSV, List.all_eq_true] at hp
      exact .tup cs a hs fun j x hx => ih j x hx n (hp x (List.mem_of_getElem? hx))
  | fn f c1 c2 a1 a2 hs1 hs2 hr1 hr2 ih1 ih2 =>
    intro n hp
    cases n with
    | zero => simp [pureSV] at hp
    | succ n =>
      simp only [pureSV, Bool.and_eq_true, List.all_eq_true] at hp
      exact .fn f c1 c2 a1 a2 hs1 hs2 (fun j x hx => ih1 j x hx n (hp.1 x (List.mem_of_getElem? hx))) (fun j x hx => ih2 j x hx n (hp.2 x (List.mem_of_getElem? hx)))

theorem get_map {f : Nat → SV} {t : Nat} : ∀ (l : List Nat), get (l.map fun t => (t, f t)) t = if t ∈ l then f t else .any
  | [] => rfl
  | a :: l => by
    have : get ((a :: l).map fun t => (t, f t)) t = get (put (l.map fun t => (t, f t)) (some a) (f a)) t := rfl
    rw [this, get_put, get_map l]
    by_cases h : t = a
    · subst h; simp
    · simp [h]

theorem get_restr {st : St} {t : Nat} : get (restr o st) t = if t ∈ tmpsOf o then get st t else .any := get_map _

theorem R.restr {ρ : Env} {X : Nat → Prop} {h : H} {a : Act} {w : World} {st : St} (hr : HR ρ X h w) (hn : a.tmps.size = cx.nt) (hd : Marks ρ.base w a.defers) (hv : ∀ x ∈ tmpsOf o, VR ρ h w (Mut ρ X h) (get st x) (a.tmps.getD x undef)) :
    R cx ρ X (Ab.restr o st) h a w := by
  refine ⟨hr, fun t => ?_, hn, hd⟩
  rw [get_restr]
  split
  · exact hv t (by assumption)
  · exact .any _

/-- What an operation of a region that draws does, wherever it is carried out. -/
def OneOK (cx : Cx) (o : Oper) (st : St) (h : H) (fp : FP) (eff : Eff) (sv : SV) : Prop :=
  ∀ hL, Cond fp hL h → ∀ (rd : Option Nat) ρ X a w (Q : Exit → Act → World → Prop) (K : Act → World → Prop), HR ρ X hL w → a.tmps.size = cx.nt → Marks ρ.base w a.defers → (∀ x ∈ tmpsOf o, VR ρ hL w (Mut ρ X hL) (get st x) (a.tmps.getD x undef)) →
    (∀ v w', Post ρ X hL w sv (eff.app hL) v w' → K (a.put o.dst v) w') → o.wpIn (FR rd) 0 cx.P a w K Q

theorem pairOf (hN : NatX cx) {st : St} {h : H} {K : SV → H → Option β} (hK : opK cx o st h K = some r) : ∃ v h1, K v h1 = some r ∧ ∀ (γ : Type) (K' : SV → H → Option γ), opK cx o st h K' = K' v h1 := by
  rcases opK_nat hN (o := o) (st := st) (h := h) with ⟨v, h1, hh⟩ | hh
  · exact ⟨v, h1, (hh β K).symm.trans hK, fun γ K' => hh γ K'⟩
  · have := (hh β K).symm.trans hK
    cases this

/-- From what it comes to at a state. -/
theorem OneOK.at {rd : Option Nat} (hΓ : ∀ f g, cx.Γ f = some g → SoundC cx.P f g) (hE : EqY cx) {st : St} {hL h' : H} {v : SV} (hp : opK cx o (restr o st) hL (fun v h => some (v, h)) = some (v, h')) {ρ : Env} {X : Nat → Prop} {a : Act} {w : World} {Q : Exit → Act → World → Prop} {K : Act → World → Prop}
    (hr : HR ρ X hL w) (hn : a.tmps.size = cx.nt) (hd : Marks ρ.base w a.defers) (hv : ∀ x ∈ tmpsOf o, VR ρ hL w (Mut ρ X hL) (get st x) (a.tmps.getD x undef)) (hK : ∀ u w', Post ρ X hL w v h' u w' → K (a.put o.dst u) w') : o.wpIn (FR rd) 0 cx.P a w K Q := by
  obtain ⟨sv, h1, he, hop⟩ := opK_sound hΓ hE hp
  simp only [Option.some.injEq, Prod.mk.injEq] at he
  obtain ⟨rfl, rfl⟩ := he
  exact hop ρ X a w (R.restr hr hn hd hv) rd K Q hK

theorem mv_indep {st : St} (hc : clsOf cx o st = .mv) (h : H) (K : SV → H → Option β) : opK cx o st h K = opK cx o st [] fun v _ => K v h := by
  unfold clsOf at hc
  cases hp : (tmpsOf o).all fun t => pureSV 8 (get st t) with
  | true =>
    simp only [hp, cond_true] at hc
    split at hc <;> first | (cases hc; done) | (cases hbw : (cx.nw && wrD cx o.dst) <;> rw [hbw] at hc <;> cases hc)
  | false =>
    simp only [hp, cond_false] at hc
    split at hc
    · rename_i x ho; simp only [opK, ho]
    · rename_i x ho; simp only [opK, ho]
    · rename_i c x y ho; simp only [opK, ho]
    · rename_i f x y ho
      unfold opK
      rw [ho]
      cases f <;> rfl
    · rename_i x i ho
      unfold opK
      rw [ho]
    · rename_i t x f ho
      unfold opK
      rw [ho]
    · rename_i x ho
      unfold opK
      rw [ho]
      dsimp only
      split at hc
      · cases hc
      · rename_i hne
        unfold nilCheckK
        split <;> try rfl
        rename_i i ver ix off hev
        exact absurd hev (hne i ver ix off)
    · rename_i s x f ho
      unfold opK
      rw [ho]
      dsimp only
      split at hc
      · cases hc
      · rename_i hne
        congr 1
        funext p
        congr 1
        split <;> try rfl
        rename_i i ver ix off hev
        exact absurd hev (hne i ver ix off)
    · rename_i t x ix ho
      unfold opK
      rw [ho]
      dsimp only
      split at hc
      · rename_i i off hev
        unfold indexK
        rw [hev]
      · cases hc
    · split at hc <;> cases hc
    · split at hc <;> cases hc
    · split at hc <;> cases hc
    · split at hc <;> cases hc
    · cases hc

def Same (F : (SV → H → Option (SV × H)) → Option (SV × H)) (h : H) : Prop := ∀ v h1, F (fun v h => some (v, h)) = some (v, h1) → h1 = h

theorem same_ret {s : SV} {h : H} : Same (fun K => K s h) h := fun v h1 hh => by
  simp only [Option.some.injEq, Prod.mk.injEq] at hh
  exact hh.2.symm
theorem same_none {h : H} : Same (fun _ => none) h := fun v h1 hh => by cases hh
theorem same_bind {γ : Type} {x : Option γ} {F : γ → (SV → H → Option (SV × H)) → Option (SV × H)} {h : H} (hs : ∀ a, Same (F a) h) : Same (fun K => x.bind fun a => F a K) h := fun v h1 hh => by
  obtain ⟨a, _, ha⟩ := bind_some' hh
  exact hs a v h1 ha
theorem same_cond {b : Bool} {F G : (SV → H → Option (SV × H)) → Option (SV × H)} {h : H} (hF : Same F h) (hG : Same G h) : Same (fun K => bif b then F K else G K) h := by cases b <;> assumption
theorem same_ite {p : Prop} [Decidable p] {F G : (SV → H → Option (SV × H)) → Option (SV × H)} {h : H} (hF : Same F h) (hG : Same G h) : Same (fun K => if p then F K else G K) h := by
  by_cases hp : p <;> simpa [hp]
theorem same_refine {P : Program} {t : TypeId} {s : SV} {h : H} : Same (fun K => refine P t s fun v => K v h) h := fun v h1 hh => by
  obtain ⟨v', hv, _⟩ := refine_sound hh
  exact same_ret (s := v') v h1 hv
theorem same_pickVK {P : Program} {t : TypeId} {g : Bool} {s off : Nat} {cs : List CV} {h : H} : Same (fun K => pickVK P t g s off cs fun v => K v h) h := fun v h1 hh => by
  obtain ⟨_, v', _, hv, _⟩ := pickVK_some hh
  exact same_ret (s := v') v h1 hv

theorem ro_same {st : St} {h : H} (hc : clsOf cx o st = .ro) : Same (fun K => opK cx o st h K) h := by
  unfold clsOf at hc
  cases hp : (tmpsOf o).all fun t => pureSV 8 (get st t) with
  | true =>
    simp only [hp, cond_true] at hc
    split at hc <;> first | (cases hc; done) | (cases hbw : (cx.nw && wrD cx o.dst) <;> rw [hbw] at hc <;> cases hc)
  | false =>
    simp only [hp, cond_false] at hc
    split at hc
    · cases hc
    · cases hc
    · cases hc
    · cases hc
    · cases hc
    · cases hc
    · rename_i x ho
      unfold opK
      rw [ho]
      unfold nilCheckK
      dsimp only
      split
      · exact same_ret
      · split
        · exact same_cond same_ret same_none
        · exact same_none
      · exact same_ret
      · exact same_ret
      · exact same_ret
      · exact same_ret
      · exact same_none
    · rename_i s x f ho
      unfold opK
      rw [ho]
      dsimp only
      refine same_bind fun p => same_cond same_none ?_
      split
      · exact same_ret
      · exact same_ret
      · split
        · exact same_cond same_ret same_none
        · exact same_none
      · exact same_none
    · rename_i t x ix ho
      unfold opK
      rw [ho]
      unfold indexK
      dsimp only
      split
      · refine same_cond ?_ same_none
        split
        · exact same_cond (same_bind fun _ => same_ret) same_none
        · split
          · exact same_cond (same_ite same_ret same_none) same_none
          · exact same_none
        · split
          · exact same_cond (same_ite same_ret same_none) same_none
          · exact same_none
        · exact same_none
      · refine same_cond ?_ same_none
        split
        · exact same_ite (same_cond same_ret same_ret) same_none
        · exact same_ite same_ret same_none
        · exact same_none
      · exact same_none
    · rename_i t a ho
      split at hc
      · cases hc
      · rename_i i ver ix off hev
        unfold opK
        rw [ho]
        unfold loadK
        dsimp only
        refine same_bind fun gs => ?_
        rw [hev]
        dsimp only
        split
        · exact same_cond (same_bind fun _ => same_pickVK) same_none
        · exact same_none
      · cases hc
    · split at hc <;> cases hc
    · rename_i t x lo hi mx ho
      split at hc
      · rename_i i ver hev
        unfold opK
        rw [ho]
        dsimp only
        refine same_bind fun lo => same_bind fun hi => same_bind fun mx => ?_
        unfold sliceK
        rw [hev]
        split
        · refine same_cond ?_ same_none
          dsimp only
          split
          · exact same_cond (same_cond same_ret same_none) same_none
          · exact same_none
        · exact same_cond (by dsimp only; exact same_none) same_none
        · exact same_none
      · cases hc
    · rename_i c ho
      split at hc
      · rename_i hcal
        unfold opK
        rw [ho]
        dsimp only
        rw [hcal]
        generalize evs cx.P st c.argTypes.toList c.args.toList = as
        cases hts : c.argTypes.toList with
        | nil => simp only [builtinK, hts]; exact same_none
        | cons t tl =>
          cases as with
          | nil => simp only [builtinK, hts]; exact same_none
          | cons x as =>
            cases as with
            | cons y as => simp only [builtinK, hts]; exact same_none
            | nil =>
              simp only [builtinK, hts]
              split
              · exact same_ret
              · exact same_bind fun _ => same_ret
              · exact same_none
      · cases hc
    · cases hc

theorem rd_indep {st : St} {i : Nat} (hc : clsOf cx o st = .rd i) {h hL : H} (hg : getH hL i = getH h i) (K : SV → H → Option β) : opK cx o st hL K = opK cx o st h fun v _ => K v hL := by
  unfold clsOf at hc
  cases hp : (tmpsOf o).all fun t => pureSV 8 (get st t) with
  | true =>
    simp only [hp, cond_true] at hc
    split at hc <;> first | (cases hc; done) | (cases hbw : (cx.nw && wrD cx o.dst) <;> rw [hbw] at hc <;> cases hc)
  | false =>
    simp only [hp, cond_false] at hc
    split at hc <;> try (cases hc; done)
    all_goals try (split at hc <;> cases hc; done)
    rename_i t a ho
    split at hc
    · rename_i i' off hev
      cases hc
      unfold opK
      rw [ho]
      unfold loadK
      dsimp only
      congr 1
      funext gs
      rw [hev]
      dsimp only
      rw [hg]
    · cases hc
    · cases hc

theorem rd_same {st : St} {i : Nat} {h : H} (hc : clsOf cx o st = .rd i) : Same (fun K => opK cx o st h K) h := fun v h1 hh => by
  have hh : opK cx o st h (fun v h => some (v, h)) = some (v, h1) := hh
  obtain ⟨v', h', hv, _⟩ : ∃ v' h', (some (v', h) : Option (SV × H)) = some (v, h1) ∧ h' = h := by
    unfold opK at hh
    unfold clsOf at hc
    cases hp : (tmpsOf o).all fun t => pureSV 8 (get st t) with
    | true =>
      simp only [hp, cond_true] at hc
      split at hc <;> first | (cases hc; done) | (cases hbw : (cx.nw && wrD cx o.dst) <;> rw [hbw] at hc <;> cases hc)
    | false =>
      simp only [hp, cond_false] at hc
      split at hc <;> try (cases hc; done)
      all_goals try (split at hc <;> cases hc; done)
      rename_i t a ho
      rw [ho] at hh
      dsimp only at hh
      unfold loadK at hh
      obtain ⟨gs, _, hh⟩ := bind_some' hh
      split at hc
      · rename_i i' off hev
        rw [hev] at hh
        dsimp only at hh
        split at hh
        · obtain ⟨_, _, hh⟩ := bind_some' hh
          obtain ⟨v', hv, _⟩ := refine_sound hh
          exact ⟨v', h, hv, rfl⟩
        · cases hh
      · cases hc
      · cases hc
  simp only [Option.some.injEq, Prod.mk.injEq] at hv
  exact hv.2.symm

theorem wr_indep {st : St} {i : Nat} (hc : clsOf cx o st = .wr i) {h h1 : H} {v : SV} (hp : opK cx o st h (fun v h => some (v, h)) = some (v, h1)) : ∃ b, i < h.length ∧ h1 = setH h i b ∧
    ∀ hL, getH hL i = getH h i → opK cx o st hL (fun v h => some (v, h)) = some (v, setH hL i b) := by
  unfold clsOf at hc
  cases hq : (tmpsOf o).all fun t => pureSV 8 (get st t) with
  | true =>
    simp only [hq, cond_true] at hc
    split at hc <;> first | (cases hc; done) | (cases hbw : (cx.nw && wrD cx o.dst) <;> rw [hbw] at hc <;> cases hc)
  | false =>
    simp only [hq, cond_false] at hc
    split at hc <;> try (cases hc; done)
    all_goals try (split at hc <;> cases hc; done)
    rename_i t a x ho
    split at hc
    · rename_i i' off hev
      cases hc
      have key : ∀ hL : H, opK cx o st hL (fun v h => some (v, h)) = storeK cx t (ev cx.P st 0 a) (ev cx.P st t x) hL (fun v h => some (v, h)) := fun hL => by
        unfold opK
        rw [ho]
      rw [key] at hp
      unfold storeK at hp
      obtain ⟨gs, hgs, hp⟩ := bind_some' hp
      obtain ⟨xs, hxs, hp⟩ := bind_some' hp
      obtain ⟨hb, hp⟩ := cond_some hp
      rw [hev] at hp
      dsimp only at hp
      split at hp
      · rename_i cs hg
        obtain ⟨hle, hp⟩ := cond_some hp
        simp only [Option.some.injEq, Prod.mk.injEq] at hp
        obtain ⟨rfl, rfl⟩ := hp
        refine ⟨_, getH_lt (by rw [hg]; simp), rfl, fun hL hgL => ?_⟩
        rw [key]
        unfold storeK
        rw [hgs, hxs]
        simp only [Option.bind_some, hb, cond_true, hev]
        rw [hgL, hg]
        simp only [hle, cond_true]
      · cases hp
    · cases hc

theorem drawOne_sem (hΓ : ∀ f g, cx.Γ f = some g → SoundC cx.P f g) (hN : NatX cx) (hE : EqY cx) {st : St} {h : H} {K : FP → SV → H → Option β} (hK : drawOne cx o st h K = some r) :
    ∃ fp eff sv, fpEff fp eff ∧ K fp sv (eff.app h) = some r ∧ OneOK cx o st h fp eff sv := by
  unfold drawOne at hK
  split at hK
  · -- pure
    rename_i hc
    have hpure : ∀ t ∈ tmpsOf o, pureSV 8 (get st t) = true := fun t ht => by
      unfold clsOf at hc
      cases hp : (tmpsOf o).all fun t => pureSV 8 (get (restr o st) t) with
      | true =>
        have := List.all_eq_true.1 hp t ht
        rwa [get_restr, if_pos ht] at this
      | false =>
        simp only [hp, cond_false] at hc
        split at hc <;> first | (cases hc; done) | (split at hc <;> cases hc; done)
    obtain ⟨v, h1, hK, hpair⟩ := pairOf hN hK
    replace hK := bind_some' hK
    obtain ⟨⟨x, h2⟩, hcl, hK⟩ := hK
    refine ⟨.pure, .none, .c x, trivial, hK, fun hL _ rd ρ X a w Q K' hr hn hd hv hk => ?_⟩
    have hr0 : HR ρ (Mut ρ X hL) [] w := ⟨fun i => trivial, fun i j b hb => by simp [getH, bOf] at hb, fun i b hb => by simp [getH, bOf] at hb, fun b hb => by
      rcases hb with hb | ⟨i, _, hb⟩
      · exact hr.xlt b hb
      · exact hr.lt hb, hr.glob.mono (Nat.le_refl _) (fun _ _ _ => rfl) fun b _ hb => by
      rcases hb with hb | ⟨i, hb, _⟩
      · exact hb
      · simp [getH, isLive] at hb⟩
    have hm0 : ∀ b, Mut ρ (Mut ρ X hL) [] b → Mut ρ X hL b := fun b hb => by
      rcases hb with hb | ⟨i, hb, _⟩
      · exact hb
      · simp [getH, isLive] at hb
    refine OneOK.at hΓ hE (hpair _ fun v h => some (v, h)) hr0 hn hd (fun t ht => ?_) fun u w' hp => ?_
    · exact (pure_vr (hv t ht) 8 (hpure t ht)).mono (HExt.refl ρ []) fun x u hx => hx.mono (Nat.le_refl _) (fun _ _ _ => rfl) (fun b _ hb => hm0 b hb)
    · obtain ⟨ρ', hr', hvr, e⟩ := hp
      obtain ⟨_, _, hcr⟩ := close_sound hr' hcl hvr
      have hkeep : ∀ b, b < w.heap.size → w'.heap[b]? = w.heap[b]? := fun b hb => e.keep b hb fun ⟨i, hi, _⟩ => by simp [getH, isLive] at hi
      have e2 : Ext ρ hL w ρ hL w' := ⟨HExt.refl ρ hL, e.size, fun b hb _ => hkeep b hb, fun _ _ hl => hl, e.io⟩
      refine hk u w' ⟨ρ, ⟨fun i => (hr.box i).mono e2 rfl rfl fun b hb => hkeep b (hr.lt hb), hr.inj, hr.out, fun b hb => Nat.lt_of_lt_of_le (hr.xlt b hb) e.size, e2.glob hr.glob⟩, .c _ _ (hcr.mono (Nat.le_refl _) (fun _ _ _ => rfl) fun b _ hb => .inl hb), e2⟩
  · -- a new box
    rename_i hc
    have hpure : ∀ t ∈ tmpsOf o, pureSV 8 (get st t) = true := fun t ht => by
      unfold clsOf at hc
      cases hp : (tmpsOf o).all fun t => pureSV 8 (get (restr o st) t) with
      | true =>
        have := List.all_eq_true.1 hp t ht
        rwa [get_restr, if_pos ht] at this
      | false =>
        simp only [hp, cond_false] at hc
        split at hc <;> first | (cases hc; done) | (split at hc <;> cases hc; done)
    obtain ⟨v, h1, hK, hpair⟩ := pairOf hN hK
    split at hK
    · rename_i sz l
      refine ⟨.nw h.length, .set h.length (.acc 0 false sz l), .acc h.length 0, rfl, by show K _ _ (setX h h.length _) = _; rw [setX_app]; exact hK, fun hL hcond rd ρ X a w Q K' hr hn hd hv hk => ?_⟩
      have hcond : hL.length = h.length := hcond
      have hr0 : HR ρ (Mut ρ X hL) [] w := ⟨fun i => trivial, fun i j b hb => by simp [getH, bOf] at hb, fun i b hb => by simp [getH, bOf] at hb, fun b hb => by
        rcases hb with hb | ⟨i, _, hb⟩
        · exact hr.xlt b hb
        · exact hr.lt hb, hr.glob.mono (Nat.le_refl _) (fun _ _ _ => rfl) fun b _ hb => by
        rcases hb with hb | ⟨i, hb, _⟩
        · exact hb
        · simp [getH, isLive] at hb⟩
      have hm0 : ∀ b, Mut ρ (Mut ρ X hL) [] b → Mut ρ X hL b := fun b hb => by
        rcases hb with hb | ⟨i, hb, _⟩
        · exact hb
        · simp [getH, isLive] at hb
      refine OneOK.at hΓ hE (hpair _ fun v h => some (v, h)) hr0 hn hd (fun t ht => ?_) fun u w' hp => ?_
      · exact (pure_vr (hv t ht) 8 (hpure t ht)).mono (HExt.refl ρ []) fun x u hx => hx.mono (Nat.le_refl _) (fun _ _ _ => rfl) (fun b _ hb => hm0 b hb)
      · obtain ⟨ρ', hr', hvr, e⟩ := hp
        have hkeep : ∀ b, b < w.heap.size → w'.heap[b]? = w.heap[b]? := fun b hb => e.keep b hb fun ⟨i, hi, _⟩ => by simp [getH, isLive] at hi
        cases hvr with
        | acc _ _ _ hpl hi hvv =>
          have hcur := (hvv 0 false sz l rfl).2 rfl
          have hbx := hr'.box 0
          obtain ⟨g0, g1, g2, g3⟩ := hbx
          have hbnew : ∀ b, bOf ρ' 0 (.acc 0 false sz l) = some b → w.heap.size ≤ b := fun b hb => by
            rcases Nat.lt_or_ge b w.heap.size with hlt | hge
            · obtain ⟨i, hi, _⟩ := e.lives b hlt ⟨0, rfl, hb⟩
              simp [getH, isLive] at hi
            · exact hge
          obtain ⟨q1, q2⟩ := HR.new hr (w' := w') e.size hkeep (.acc 0 false sz l) u 0 (fun b hb => hbnew b (by
            simp only [bOf, Env.push_cur] at hb ⊢
            rw [← hcur]; exact hb)) (fun e2 => by
            have hM : ∀ c, Mut (ρ.push hL.length u 0) X (hL ++ [.acc 0 false sz l]) c → Mut ρ' (Mut ρ X hL) [.acc 0 false sz l] c := fun c hc => by
              rcases hc with hc | ⟨i, h1, h2⟩
              · exact .inl (.inl hc)
              · by_cases hi : i < hL.length
                · rw [getH_append_lt _ hi] at h1 h2
                  have hag := ρ.push_lt hL.length u 0 i hi
                  rw [bOf_congr hag.1 hag.2] at h2
                  exact .inl (.inr ⟨i, h1, h2⟩)
                · by_cases hi2 : i = hL.length
                  · subst hi2
                    rw [getH_append_len] at h2
                    refine .inr ⟨0, rfl, ?_⟩
                    show bOf ρ' 0 (.acc 0 false sz l) = some c
                    simp only [bOf, Env.push_cur] at h2 ⊢
                    rw [← hcur]; exact h2
                  · rw [getH_ge (by simp; omega)] at h1
                    cases h1
            refine ⟨g0, g1, g2, ?_⟩
            rw [Env.push_cur]
            rcases g3 with ⟨k1, k2⟩ | ⟨b, cap, cur, ty, k1, k2, k3, k4, k5⟩
            · exact .inl ⟨hcur.trans k1, k2⟩
            · refine .inr ⟨b, cap, cur, ty, hcur.trans k1, k2, k3, k4, fun k j x hx => ?_⟩
              obtain ⟨y, hy, hpy, hcy⟩ := k5 k j x hx
              exact ⟨y, hy, hpy, hcy.mono (Nat.le_refl _) (fun _ _ _ => rfl) fun c _ hc => hM c hc⟩) e.io
          refine hk u w' ⟨ρ.push hL.length u 0, ?_, ?_, ?_⟩
          · show HR _ X (setX hL h.length _) w'
            rw [← hcond, setX_app]; exact q1
          · show VR _ (setX hL h.length _) w' _ (.acc h.length 0) u
            rw [← hcond, setX_app]
            refine .acc _ _ _ hpl (by simp) fun ver' fr sz' l' hh => ?_
            rw [getH_append_len] at hh
            cases hh
            exact ⟨Nat.le_refl _, fun _ => by simp⟩
          · show Ext _ _ _ _ (setX hL h.length _) w'
            rw [← hcond, setX_app]; exact q2
    · cases hK
  · rename_i hc
    obtain ⟨v, h1, hK, hpair⟩ := pairOf hN hK
    refine ⟨.pure, .none, v, trivial, hK, fun hL _ rd ρ X a w Q K' hr hn hd hv hk => ?_⟩
    refine OneOK.at hΓ hE (h' := hL) ?_ hr hn hd hv hk
    rw [mv_indep hc]
    exact hpair _ _
  · rename_i hc
    obtain ⟨v, h1, hK, hpair⟩ := pairOf hN hK
    obtain rfl := ro_same hc v h1 (hpair _ _)
    refine ⟨.ro, .none, v, trivial, hK, fun hL hcond rd ρ X a w Q K' hr hn hd hv hk => ?_⟩
    have hcond : hL = h1 := hcond
    subst hcond
    exact OneOK.at hΓ hE (hpair _ fun v h => some (v, h)) hr hn hd hv hk
  · rename_i i hc
    obtain ⟨v, h1, hK, hpair⟩ := pairOf hN hK
    refine ⟨.rd i, .none, v, trivial, hK, fun hL hcond rd ρ X a w Q K' hr hn hd hv hk => ?_⟩
    refine OneOK.at hΓ hE (h' := hL) ?_ hr hn hd hv hk
    rw [rd_indep hc hcond]
    exact hpair _ _
  · rename_i i hc
    obtain ⟨v, h1, hK, hpair⟩ := pairOf hN hK
    obtain ⟨b, hi, rfl, hwr⟩ := wr_indep hc (hpair _ fun v h => some (v, h))
    refine ⟨.wr i, .set i b, v, rfl, by show K _ _ (setX h i b) = _; rw [setX_setH b h i hi]; exact hK, fun hL hcond rd ρ X a w Q K' hr hn hd hv hk => ?_⟩
    have hcond : getH hL i = getH h i := hcond
    have hiL : i < hL.length := by
      rcases Nat.lt_or_ge i hL.length with hlt | hge
      · exact hlt
      · have h1 := hwr hL hcond
        rw [getH_ge hge] at hcond
        obtain ⟨b', hb', _⟩ := wr_indep hc h1
        omega
    refine OneOK.at hΓ hE (h' := setH hL i b) (hwr hL hcond) hr hn hd hv fun u w' hp => hk u w' ?_
    show Post ρ X hL w v (setX hL i b) u w'
    rw [setX_setH b hL i hiL]
    exact hp
  · obtain ⟨v, h1, hK, hpair⟩ := pairOf hN hK
    refine ⟨.all, .glob h1, v, trivial, hK, fun hL hcond rd ρ X a w Q K' hr hn hd hv hk => ?_⟩
    have hcond : hL = h := hcond
    subst hcond
    exact OneOK.at hΓ hE (hpair _ fun v h => some (v, h)) hr hn hd hv hk
end
end Go.Ab

namespace Go.Ab
open Go

section
variable {β : Type} {cx : Cx} {ops : Array Oper} {h0 : H} {st0 : St} {r : β}

theorem hasTr_spec {tr : List Tr} {e : Nat} (h : hasTr tr e = true) : ∃ t ∈ tr, t.j = e := by
  induction tr with
  | nil => simp [hasTr] at h
  | cons t tr ih =>
    simp only [hasTr] at h
    cases hb : Nat.beq t.j e with
    | true => exact ⟨t, by simp, beq_true hb⟩
    | false =>
      rw [hb] at h
      obtain ⟨t', h1, h2⟩ := ih h
      exact ⟨t', by simp [h1], h2⟩

theorem NK.beq_eq {a b : NK} (h : a.beq b = true) : a = b := by
  cases a <;> cases b <;> simp only [NK.beq, Bool.and_eq_true, Bool.false_eq_true] at h
  · rw [beq_true h.1, beq_true h.2]
  · rw [beq_true h.1, beq_true h.2]

theorem nkOf_guard {j : Nat} {o : Oper} (h : o.guard ≠ none) : nkOf cx ops j o = .no := by
  unfold nkOf
  cases cx.nw with
  | false => rfl
  | true =>
    simp only [cond_true]
    cases hg : o.guard with
    | none => exact absurd hg h
    | some g => rfl

theorem firstRow_not {wr : Nat → Bool} {os : List Oper} {j js d : Nat} : ∀ {ts : List Nat}, firstRow wr os j ts ≠ .mk js d
  | [], h => by cases h
  | t :: ts, h => by
    simp only [firstRow] at h
    split at h
    · rename_i ja _
      cases hb : isAt j (rdAt t os 0) with
      | true => rw [hb] at h; cases h
      | false => rw [hb] at h; exact firstRow_not h
    · exact firstRow_not h

theorem nkOf_tmps {j js d : Nat} {o : Oper} (h : nkOf cx ops j o = .mk js d) : tmpsOf o = [] := by
  unfold nkOf at h
  cases hw : cx.nw with
  | false => rw [hw] at h; cases h
  | true =>
    rw [hw, cond_true] at h
    split at h
    · cases h
    · split at h
      · rename_i ho _
        unfold tmpsOf
        rw [ho]
        rfl
      · rename_i dd ho _
        cases hb : cx.wr dd && (tmpsOf o).isEmpty with
        | true =>
          simp only [Bool.and_eq_true] at hb
          exact List.isEmpty_iff.1 hb.2
        | false => rw [hb] at h; exact absurd h firstRow_not
      · split at h
        · rename_i jb _
          cases hb : isAt j (stoAt _ ops.toList 0) with
          | true => rw [hb] at h; cases h
          | false => rw [hb] at h; exact absurd h firstRow_not
        · exact absurd h firstRow_not
      · exact absurd h firstRow_not

theorem isAt_iff {d : Nat} {o : Option Nat} (h : isAt d o = true) : o = some d := by
  cases o with
  | none => cases h
  | some i => rw [beq_true h]

theorem noDst_spec {d ja : Nat} : ∀ {l : List Oper} {k : Nat}, noDst d ja l k = true → ∀ (j : Nat) (o : Oper), l[j]? = some o → k + j ≠ ja → o.dst ≠ some d
  | [], _, _, j, o, ho, _ => by simp at ho
  | x :: l, k, h, j, o, ho, hj => by
    simp only [noDst, Bool.and_eq_true, Bool.or_eq_true, Bool.not_eq_true'] at h
    cases j with
    | zero =>
      simp at ho
      subst ho
      rcases h.1 with h1 | h1
      · exact absurd (beq_true h1) (by simpa using hj)
      · intro hd; rw [hd] at h1; simp [isAt] at h1
    | succ j => exact noDst_spec h.2 j o (by simpa using ho) (by omega)

/-- What makes a variable, or a row. -/
theorem make_ok (hΓ : ∀ f g, cx.Γ f = some g → SoundC cx.P f g) (hE : EqY cx) {o : Oper} {d : Nat} (hod : o.dst = some d) (htm : (tmpsOf o) = []) {q : PK} (hq : pkOf cx o = some q) (rd : Option Nat) (ρ : Env) (a : Act) (w : World) (Q : Exit → Act → World → Prop) (K : Act → World → Prop)
    (hr : HR ρ (fun _ => False) [] w) (hn : a.tmps.size = cx.nt) (hd : Marks ρ.base w a.defers)
    (hK : ∀ b v w', PB cx.P w' b v q → w.heap.size ≤ b → b < w'.heap.size → (∀ c, c < w.heap.size → w'.heap[c]? = w.heap[c]?) → w.heap.size ≤ w'.heap.size → SameIO w w' → K (a.put o.dst v) w') : o.wpIn (FR rd) 0 cx.P a w K Q := by
  unfold pkOf at hq
  split at hq
  · rename_i e ho
    replace hq := bind_some' hq
    obtain ⟨cs, hcs, hq⟩ := hq
    cases hq
    obtain ⟨ti, z, hti, htz, _⟩ := zero_cells (ρ := ρ) (h := ([] : H)) (w := w) (M := fun _ => False) hcs
    have hrun : (execOp a.eval o).run cx.P w = .ok (.value (.pointer (some ⟨w.heap.size, 0, none⟩))) (w.alloc (.cells z.cells e)) := by simp [execOp, ho, Instr.alloc, zeroValue, typeInfo, hti, htz, newVar, newRow]
    refine OpOK.value hrun (G := fun v w'' => v = .pointer (some ⟨w.heap.size, 0, none⟩) ∧ w'' = w.alloc (.cells z.cells e)) ⟨rfl, rfl⟩ rd _ Q fun v w'' hv' => ?_
    obtain ⟨rfl, rfl⟩ := hv'
    exact hK w.heap.size _ _ ⟨rfl, hcs, ti, z, hti, htz, heap_alloc_new w _⟩ (Nat.le_refl _) (by simp) (fun c hc => heap_alloc_old w _ c hc) (by simp) ⟨rfl, rfl⟩
  · obtain ⟨sv, h1, he, hop⟩ := opK_sound (st := []) hΓ hE hq
    refine hop ρ (fun _ => False) a w ⟨hr, fun t => .any _, hn, hd⟩ rd K Q fun v w' hp => ?_
    obtain ⟨ρ', hr', hv, e'⟩ := hp
    dsimp only at he
    split at he
    · rename_i sz l
      replace he := cond_some he
      obtain ⟨hl, he⟩ := he
      cases he
      simp only [Bool.and_eq_true, Bool.not_eq_true', List.isEmpty_eq_false_iff] at hl
      obtain ⟨hnum, hne⟩ := hl
      cases hv with
      | acc _ _ _ hpl hi hv =>
        have hcur := (hv 0 false sz l rfl).2 rfl
        have hbx := hr'.box 0
        obtain ⟨g0, g1, g2, g3⟩ := hbx
        rcases g3 with ⟨_, hnil⟩ | ⟨b, cap, cur, ty, k1, k2, k3, k4, k5⟩
        · exact absurd hnil hne
        · have hbl : live ρ' [.acc 0 false sz l] b := ⟨0, rfl, by show (match ρ'.cur 0 with | .slice (some a) _ _ => some a.block | _ => none) = some b; rw [k1]⟩
          have hold : ∀ c, c < w.heap.size → w'.heap[c]? = w.heap[c]? := fun c hc => e'.keep c hc fun ⟨i, hi, _⟩ => by simp [getH, isLive] at hi
          refine hK b v w' ⟨cap, cur, ty, by rw [hcur, k1], k2, g0, g1, g2, k3, k4, fun k j x hx => ?_⟩ ?_ (block_lt k2) hold e'.size e'.io
          · obtain ⟨u, hu, hpu, hcu⟩ := k5 k j x hx
            refine ⟨u, hu, hpu, fun w M => ?_⟩
            have hxn : isNum x = true := by
              simp only [at2] at hx
              obtain ⟨e, he1, he2⟩ := bind_some' hx
              exact List.all_eq_true.1 (List.all_eq_true.1 hnum e (List.mem_of_getElem? he1)) x (List.mem_of_getElem? he2)
            cases hcu <;> first | exact .int _ _ | exact .bool _ | (simp [isNum] at hxn; done)
          · rcases Nat.lt_or_ge b w.heap.size with hlt | hge
            · obtain ⟨i, hi, _⟩ := e'.lives b hlt hbl
              simp [getH, isLive] at hi
            · exact hge
    · cases he

/-- One operation more in the text's order. -/
theorem Valid.push {rs : List Rc} (hv : Valid cx ops h0 st0 rs) {j : Nat} {o : Oper} (hj : j = rs.length) (ho : ops[j]? = some o) (hd : okD cx o = true) (he : okEdges (rs.map (·.t)) o = true) {fp : FP} {eff : Eff} {sv : SV} {dst : Option Nat} (hfe : fpEff fp eff)
    (hok : okTr (mkTrN ops j o fp dst (rs.map (·.t))) (rs.map (·.t)) = true)
    (hsem : SemOf cx ops h0 st0 rs ⟨mkTrN ops j o fp dst (rs.map (·.t)), eff, sv⟩ o (nkOf cx ops j o)) :
    Valid cx ops h0 st0 (⟨mkTrN ops j o fp dst (rs.map (·.t)), eff, sv⟩ :: rs) := by
  refine ⟨hv, hj, hok, hfe, o, ho, hd, rfl, fun e hee => ?_, hsem⟩
  obtain ⟨t, ht, hte⟩ := hasTr_spec (List.all_eq_true.1 he e hee)
  simp only [List.mem_map] at ht
  obtain ⟨k, hk, rfl⟩ := ht
  have := Valid.lt rs hv k hk
  omega

theorem getL_push {rs : List Rc} {j : Nat} {o : Oper} {fp : FP} {eff : Eff} {sv : SV} {st : St} (hg : ∀ x, get st x = getL allL st0 rs x) (x : Nat) :
    get (put st o.dst sv) x = getL allL st0 (⟨mkTr ops j o fp (rs.map (·.t)), eff, sv⟩ :: rs) x := by
  simp only [getL, mkTr, true_and]
  cases hd : o.dst with
  | none => simp [put, hg x]
  | some d =>
    rw [get_put]
    by_cases h : x = d
    · subst h; simp
    · rw [if_neg h, if_neg (fun hh => h (by injection hh with hh; exact hh.symm)), hg x]

theorem drawK_trace (hΓ : ∀ f g, cx.Γ f = some g → SoundC cx.P f g) (hN : NatX cx) (hE : EqY cx) {K : St → H → Option β} : ∀ (js : List Nat) (rs : List Rc) (st : St), drawK cx ops js (rs.map (·.t)) st (heapL allL h0 rs) K = some r →
    Valid cx ops h0 st0 rs → (∀ x, get st x = getL allL st0 rs x) → js = List.range' rs.length (ops.size - rs.length) → rs.length ≤ ops.size →
    ∃ RS st', Valid cx ops h0 st0 RS ∧ RS.length = ops.size ∧ K st' (heapL allL h0 RS) = some r ∧ ∀ x, get st' x = getL allL st0 RS x
  | [], rs, st, hK, hv, hg, hjs, hl => by
    have : ops.size - rs.length = 0 := by
      have := congrArg List.length hjs
      simpa using this.symm
    exact ⟨rs, st, hv, by omega, hK, hg⟩
  | j :: js, rs, st, hK, hv, hg, hjs, hl => by
    obtain ⟨m, hm⟩ : ∃ m, ops.size - rs.length = m + 1 := by
      have := congrArg List.length hjs
      simp at this
      exact ⟨js.length, by omega⟩
    rw [hm, List.range'_succ] at hjs
    injection hjs with hj hjs
    have hjs' : js = List.range' (rs.length + 1) (ops.size - (rs.length + 1)) := by rw [hjs]; congr 1; omega
    simp only [drawK] at hK
    split at hK
    · cases hK
    · rename_i o ho
      replace hK := cond_some hK
      obtain ⟨hb, hK⟩ := hK
      simp only [Bool.and_eq_true] at hb
      obtain ⟨hd, hed⟩ := hb
      -- carried out
      have run : nkOf cx ops j o = .no → ∀ (st : St), (∀ x, get st x = getL allL st0 rs x) → (∀ (X : Nat → Prop) (ρ : Env) (hL : H) (a : Act) (w : World), (∀ x ∈ readsOf ops o, VR ρ hL w (Mut ρ X hL) (getL allL st0 rs x) (a.tmps.getD x undef)) → Region.wanted o (yielded ops a.tmps) = true) →
          (drawOne cx o st (heapL allL h0 rs) fun fp v h' => bif okTr (mkTr ops j o fp (rs.map (·.t))) (rs.map (·.t)) then drawK cx ops js (mkTr ops j o fp (rs.map (·.t)) :: rs.map (·.t)) (put st o.dst v) h' K else none) = some r →
          ∃ RS st', Valid cx ops h0 st0 RS ∧ RS.length = ops.size ∧ K st' (heapL allL h0 RS) = some r ∧ ∀ x, get st' x = getL allL st0 RS x := fun hnk st hg hwant hK => by
        obtain ⟨fp, eff, sv, hfe, hK, hone⟩ := drawOne_sem hΓ hN hE hK
        replace hK := cond_some hK
        obtain ⟨hok, hK⟩ := hK
        have hv' : Valid cx ops h0 st0 (⟨mkTr ops j o fp (rs.map (·.t)), eff, sv⟩ :: rs) := Valid.push hv hj ho hd hed hfe (dst := o.dst) hok (sv := sv) <| by
          show SemOf _ _ _ _ _ _ _ (nkOf cx ops j o)
          rw [hnk]
          refine ⟨rfl, fun X hL hcond rd ρ a w Q K' hr hn hdf hvr hk => ?_⟩
          show wpOpIn _ _ _ _ _ j _ _ _
          unfold wpOpIn
          rw [ho]
          dsimp only
          rw [if_pos (hwant X ρ hL a w hvr)]
          exact hone hL hcond rd ρ X a w Q K' hr hn hdf (fun x hx => by rw [hg x]; exact hvr x (List.mem_append_left _ hx)) hk
        exact drawK_trace hΓ hN hE js (⟨mkTr ops j o fp (rs.map (·.t)), eff, sv⟩ :: rs) (put st o.dst sv) (by simp only [List.map_cons, heapL, cond_true]; exact hK) hv' (getL_push (ops := ops) (j := j) (fp := fp) (eff := eff) hg) (by simpa using hjs') (by simp; omega)
      -- left out
      have skip : nkOf cx ops j o = .no → ∀ (st : St), (∀ x, get st x = getL allL st0 rs x) → (∀ (X : Nat → Prop) (ρ : Env) (hL : H) (a : Act) (w : World), (∀ x ∈ readsOf ops o, VR ρ hL w (Mut ρ X hL) (getL allL st0 rs x) (a.tmps.getD x undef)) → Region.wanted o (yielded ops a.tmps) = false) →
          (bif okTr (mkTr ops j o .pure (rs.map (·.t))) (rs.map (·.t)) then drawK cx ops js (mkTr ops j o .pure (rs.map (·.t)) :: rs.map (·.t)) (put st o.dst UND) (heapL allL h0 rs) K else none) = some r →
          ∃ RS st', Valid cx ops h0 st0 RS ∧ RS.length = ops.size ∧ K st' (heapL allL h0 RS) = some r ∧ ∀ x, get st' x = getL allL st0 RS x := fun hnk st hg hwant hK => by
        replace hK := cond_some hK
        obtain ⟨hok, hK⟩ := hK
        have hv' : Valid cx ops h0 st0 (⟨mkTr ops j o .pure (rs.map (·.t)), .none, UND⟩ :: rs) := Valid.push hv hj ho hd hed (fp := .pure) (eff := .none) trivial (dst := o.dst) hok (sv := UND) <| by
          show SemOf _ _ _ _ _ _ _ (nkOf cx ops j o)
          rw [hnk]
          refine ⟨rfl, fun X hL hcond rd ρ a w Q K' hr hn hdf hvr hk => ?_⟩
          show wpOpIn _ _ _ _ _ j _ _ _
          unfold wpOpIn
          rw [ho]
          dsimp only
          rw [if_neg (by rw [hwant X ρ hL a w hvr]; simp)]
          exact ⟨fun _ _ => trivial, hk undef w (Post.same hr und_vr)⟩
        exact drawK_trace hΓ hN hE js (⟨mkTr ops j o .pure (rs.map (·.t)), .none, UND⟩ :: rs) (put st o.dst UND) (by simp only [List.map_cons, heapL, cond_true, Eff.app]; exact hK) hv' (getL_push (ops := ops) (j := j) (fp := .pure) (eff := .none) hg) (by simpa using hjs') (by simp; omega)
      cases hgd : o.guard with
      | none =>
        simp only [hgd] at hK
        cases hnk : nkOf cx ops j o with
        | no =>
          simp only [hnk] at hK
          exact run hnk st hg (fun _ _ _ a _ _ => wanted_none hgd _) hK
        | mk jst d =>
          simp only [hnk] at hK
          replace hK := cond_some hK
          obtain ⟨hc, hK⟩ := hK
          simp only [Bool.and_eq_true] at hc
          obtain ⟨⟨⟨⟨⟨⟨hbq, hlt⟩, hany⟩, hnod⟩, hod⟩, hpk⟩, hok⟩ := hc
          have hod := isAt_iff hod
          obtain ⟨q, hq⟩ := Option.isSome_iff_exists.1 hpk
          have hany : getL allL st0 rs d = .any := by
            rw [← hg d]
            unfold anyAt at hany
            split at hany
            · assumption
            · cases hany
          have hv' := Valid.push hv hj ho hd hed (fp := .pure) (eff := .none) trivial hok (dst := none) (sv := .any) <| by
            show SemOf _ _ _ _ _ _ _ (nkOf cx ops j o)
            rw [hnk]
            refine ⟨rfl, rfl, rfl, hod, hany, NK.beq_eq hbq, by simpa [mkTrN, Nat.blt_eq] using hlt, fun j' o' ho' hne => ?_, q, hq, fun rd ρ a w Q K' hr hn hdf hk => ?_⟩
            · exact noDst_spec hnod j' o' (by simpa using ho') (by simpa [mkTrN] using hne)
            · show wpOpIn _ _ _ _ _ j _ _ _
              unfold wpOpIn
              rw [ho]
              dsimp only
              rw [if_pos (wanted_none hgd _)]
              exact make_ok hΓ hE hod (nkOf_tmps hnk) hq rd ρ a w Q K' hr hn hdf hk
          exact drawK_trace hΓ hN hE js (⟨mkTrN ops j o .pure none (rs.map (·.t)), .none, .any⟩ :: rs) st (by simp only [List.map_cons, heapL, cond_true, Eff.app]; exact hK) hv' (fun x => by
            simp only [getL, mkTrN, reduceCtorEq, and_false, if_false]; exact hg x) (by simpa using hjs') (by simp; omega)
        | rd ja d =>
          simp only [hnk] at hK
          replace hK := cond_some hK
          obtain ⟨hc, hK⟩ := hK
          simp only [Bool.and_eq_true] at hc
          obtain ⟨hbq, hmem⟩ := hc
          replace hK := bind_some' hK
          obtain ⟨q, hq, hK⟩ := hK
          obtain ⟨v, h1, hK, hpair⟩ := pairOf hN hK
          replace hK := cond_some hK
          obtain ⟨hok, hK⟩ := hK
          simp only [Bool.and_eq_true] at hok
          obtain ⟨hok, hvr⟩ := hok
          have hv' := Valid.push hv hj ho hd hed (fp := .all) (eff := .glob h1) trivial hok (dst := q.dst d o.dst) (sv := q.val (heapL allL h0 rs).length v) <| by
            show SemOf _ _ _ _ _ _ _ (nkOf cx ops j o)
            rw [hnk]
            refine ⟨rfl, memN_iff.1 hmem, NK.beq_eq hbq, q, hq, rfl, fun e cs hqe => ?_, v, rfl, fun X rd ρ a w Q K' hr hn hdf hvr hvd hk => ?_⟩
            · rw [hqe] at hvr
              cases hdd : o.dst with
              | none => rfl
              | some d' => rw [hdd] at hvr; cases hvr
            · show wpOpIn _ _ _ _ _ j _ _ _
              unfold wpOpIn
              rw [ho]
              dsimp only
              rw [if_pos (wanted_none hgd _)]
              refine OneOK.at hΓ hE (st := put st (some d) (q.sv (heapL allL h0 rs).length)) (hpair _ fun v h => some (v, h)) hr hn hdf (fun x hx => ?_) fun u w' hp => hk u w' hp
              rw [get_put]
              by_cases hxd : x = d
              · subst hxd; rw [if_pos rfl]; exact hvd
              · rw [if_neg hxd, hg x]
                exact hvr x (List.mem_append_left _ hx) hxd
          exact drawK_trace hΓ hN hE js (⟨mkTrN ops j o .all (q.dst d o.dst) (rs.map (·.t)), .glob h1, q.val (heapL allL h0 rs).length v⟩ :: rs) (put st (q.dst d o.dst) (q.val (heapL allL h0 rs).length v)) (by simp only [List.map_cons, heapL, cond_true, Eff.app]; exact hK) hv' (fun x => by
            simp only [getL, mkTrN, true_and]
            cases hdd : q.dst d o.dst with
            | none => simp [put, hg x]
            | some d' =>
              rw [get_put]
              by_cases hxd : x = d'
              · subst hxd; simp
              · rw [if_neg hxd, if_neg (fun hh => hxd (by injection hh with hh; exact hh.symm)), hg x]) (by simpa using hjs') (by simp; omega)
      | some gw =>
        obtain ⟨g, want⟩ := gw
        simp only [hgd] at hK
        have hnk : nkOf cx ops j o = .no := nkOf_guard (by rw [hgd]; simp)
        cases hdd : (ops[g]?).bind (·.dst) with
        | none => simp [hdd] at hK
        | some d =>
          simp only [hdd] at hK
          split at hK
          · rename_i b hb
            have hmem : d ∈ readsOf ops o := by simp [readsOf, hgd, hdd]
            have hgk : ∀ x, get ((d, .c (.bool b)) :: st) x = getL allL st0 rs x := fun x => by
              have : get ((d, .c (.bool b)) :: st) x = get (put st (some d) (.c (.bool b))) x := rfl
              rw [this, get_put, ← hg x]
              split
              · rename_i h; subst h; exact hb.symm
              · rfl
            have hw : ∀ (X : Nat → Prop) (ρ : Env) (hL : H) (a : Act) (w : World), (∀ x ∈ readsOf ops o, VR ρ hL w (Mut ρ X hL) (getL allL st0 rs x) (a.tmps.getD x undef)) → Region.wanted o (yielded ops a.tmps) = (b == want) := fun X ρ hL a w hvr => by
              have := hvr d hmem
              rw [← hg d, hb] at this
              exact wanted_of hgd hdd this.bool_inv
            cases b <;> cases want <;> simp only [cond_true, cond_false] at hK
            · exact run hnk _ hgk (fun X ρ hL a w hvr => by rw [hw X ρ hL a w hvr]; rfl) hK
            · exact skip hnk _ hgk (fun X ρ hL a w hvr => by rw [hw X ρ hL a w hvr]; rfl) hK
            · exact skip hnk _ hgk (fun X ρ hL a w hvr => by rw [hw X ρ hL a w hvr]; rfl) hK
            · exact run hnk _ hgk (fun X ρ hL a w hvr => by rw [hw X ρ hL a w hvr]; rfl) hK
          · rename_i hb
            have hmem : d ∈ readsOf ops o := by simp [readsOf, hgd, hdd]
            exact skip hnk _ hg (fun X ρ hL a w hvr => by
              have := hvr d hmem
              rw [← hg d, hb] at this
              exact wanted_und hgd hdd (und_inv this)) hK
          · cases hK

/-- Regions that draw. -/
theorem drawS (hΓ : ∀ f g, cx.Γ f = some g → SoundC cx.P f g) (hN : NatX cx) (hE : EqY cx) : DrawS cx := by
  intro rd id ops β K st h r hm hK X ρ a w ρ0 h0 w0 Q rr e hQ
  obtain ⟨RS, st', hv, hn, hK, hg⟩ := drawK_trace (h0 := h) (st0 := st) hΓ hN hE (List.range ops.size) [] st hK trivial (fun _ => rfl) (by simp [List.range_eq_range']) (Nat.zero_le _)
  have hw : Ext ρ h w ρ h { w with drawn := w.drawn + 1 } := ⟨HExt.refl ρ h, Nat.le_refl _, fun _ _ _ => rfl, fun _ _ hl => hl, rfl, rfl⟩
  have hr : HR ρ X h { w with drawn := w.drawn + 1 } := ⟨fun i => (rr.hr.box i).mono hw rfl rfl fun _ _ => rfl, rr.hr.inj, rr.hr.out, rr.hr.xlt, hw.glob rr.hr.glob⟩
  have hnoL : ∀ j, (Array.replicate ops.size false).getD j false = false := fun j => by
    by_cases hj : j < ops.size <;> simp [hj]
  have hh : heapL (fun j => (Array.replicate ops.size false).getD j false) h RS = h := by
    clear hv hn hK hg
    induction RS with
    | nil => rfl
    | cons k RS ih => simp only [heapL, hnoL, cond_false] at ih ⊢; exact ih
  have hgg : ∀ x, getL (fun j => (Array.replicate ops.size false).getD j false) st RS x = get st x := fun x => by
    clear hv hn hK hg hh
    induction RS with
    | nil => rfl
    | cons k RS ih =>
      simp only [getL, hnoL] at ih ⊢
      rw [if_neg (by simp)]
      exact ih
  have hX : XP X (fun _ => none) = X := funext fun b => propext ⟨fun h => h.resolve_right fun ⟨_, q⟩ => (by cases q), .inl⟩
  refine wpIn_region_any hm (any_order (Q := Q) (ρ0 := ρ0) (h00 := h0) (w0 := w0) hv hn (fun ρ' a' w' hr' hst' hsz hd e' => ?_) ops.size (Array.replicate ops.size false) ρ a _ (fun _ => none) (by simp) ?_ (fun k _ hl => by rw [hnoL] at hl; cases hl) (by rw [hh, hX]; exact hr) (fun x => ?_) rr.nt rr.nd (by rw [hh]; exact e.trans hw)
    ⟨fun _ _ h => (by cases h), fun _ _ _ h => (by cases h), fun _ _ h => (by cases h), fun s ja d q _ _ hl => (by rw [hnoL] at hl; cases hl)⟩)
  · exact hQ st' _ ρ' a' w' hK ⟨hr', fun x => by rw [hg x]; exact hst' x, hsz, hd⟩ e'
  · exact Nat.le_trans List.count_le_length (by simp)
  · rw [hgg x, hh, hX]
    exact hw.vr (rr.st x)

/-- A function, all told; it may ask for rounds, and have loops over iterators. -/
theorem fnSoundY (hΓ : ∀ f g, cx.Γ f = some g → SoundC cx.P f g) (hN : NatX cx) (hE : EqY cx) (hL : LoopsS cx) (hNL : ∀ q L, cx.Λ q = some L → NatL L) {f : FuncId} {fn : Func} (hf : cx.P.funcs[f]? = some fn)
    (hn : (fn.name == "runtime.NumGoroutine") = false) (hb : fn.body = some cx.root) (hnt : cx.nt = fn.ntmps) (hpn : fn.params.size + fn.nfree ≤ fn.ntmps) : SoundC cx.P f (fnC cx fn) :=
  fnS hΓ hN hE (drawS hΓ hN hE) hL hNL hf hn hb hnt hpn

/-- A function that is gone into, all told. -/
theorem inlSound (hΓ : ∀ f g, cx.Γ f = some g → SoundC cx.P f g) (hN : NatX cx) (hE : EqY cx) (hL : LoopsS cx) (hNL : ∀ q L, cx.Λ q = some L → NatL L) {f : FuncId} {fn : Func} (hf : cx.P.funcs[f]? = some fn)
    (hn : (fn.name == "runtime.NumGoroutine") = false) (hb : fn.body = some cx.root) (hnt : cx.nt = fn.ntmps) (hpn : fn.params.size + fn.nfree ≤ fn.ntmps) : SoundN cx.P f (inlC cx fn) :=
  inlC_sound hΓ hN hE (drawS hΓ hN hE) hL hNL hf hn hb hnt hpn

/-- A function, all told. -/
theorem fnSound (hΓ : ∀ f g, cx.Γ f = some g → SoundC cx.P f g) (hN : ∀ f g, cx.Γ f = some g → NatC g) (hE : EqOK cx) (hL : LoopsS cx) (hNL : ∀ q L, cx.Λ q = some L → NatL L) {f : FuncId} {fn : Func} (hf : cx.P.funcs[f]? = some fn)
    (hn : (fn.name == "runtime.NumGoroutine") = false) (hb : fn.body = some cx.root) (hnt : cx.nt = fn.ntmps) (hpn : fn.params.size + fn.nfree ≤ fn.ntmps) (hY : cx.Y = none := by rfl) (hI : cx.It = (fun _ => none) := by rfl) (hR : cx.rf = (fun _ => none) := by rfl) (hJ : cx.I = (fun _ => none) := by rfl) : SoundC cx.P f (fnC cx fn) :=
  fnSoundY hΓ ⟨hN, fun y h => (by rw [hY] at h; cases h), fun f G h => (by rw [hI] at h; cases h), fun q S h => (by rw [hR] at h; cases h), fun f n h => (by rw [hJ] at h; cases h)⟩
    ⟨hE, fun y h => (by rw [hY] at h; cases h), fun f G h => (by rw [hI] at h; cases h), fun p S g ps as bd h => (by rw [hR] at h; cases h), fun f n h => (by rw [hJ] at h; cases h)⟩ hL hNL hf hn hb hnt hpn
end
end Go.Ab

namespace Go.Ab
open Go Go.ChangeShapes Go.WideShapes Go.RowKit Go.Deep

section
variable {P : Program} {H : Type} {enc : TypeId × Value → H}

theorem OutR.below {w w' : World} {M : Nat → Prop} {bs : List Nat} {v : Value} {rv : CV} {conts : List (List CV)} {Br B2 : List Nat} (o : OutR w M [] bs w' v rv conts Br B2) : Below w.heap.size w w' := by
  have h1 := congrArg Prod.fst o.io.2
  have h2 := congrArg Prod.snd o.io.2
  exact ⟨o.io.1, h2, h1, o.size, fun k hk => o.keep k hk (by simp)⟩

theorem keptBut_of_below {w w' : World} (h : Below w.heap.size w w') (may : MemPlace → Prop) : w.keptBut w' may := by
  refine ⟨h.os, h.output, fun i hi => ?_⟩
  rw [h.block i hi]
  cases hw : w.heap[i]? with
  | none => exact rfl
  | some ob =>
    cases ob with
    | cells c t fr => exact ⟨rfl, rfl, rfl, fun _ _ => rfl⟩
    | map es clock => exact .inr ⟨rfl, rfl⟩
    | _ => exact rfl

theorem trodAll_below {W W' : World} (hl : laidOutB P = true) (hb : Below W.heap.size W W') : ∀ (ts : List TypeId) (vs : List Value) (ds : List (DataW H)) (ps : List MemPlace), (∀ t ∈ ts, P.readableRec t = true ∧ t < P.types.size) →
    DataW.TrodAll enc P W 0 (fun _ => true) true ts vs ds ps → (∀ x ∈ ps, x.block < W.heap.size) → DataW.TrodAll enc P W' 0 (fun b => decide (b < W.heap.size)) true ts vs ds ps
  | [], [], [], ps, _, h, _ => h
  | t :: ts, v :: vs, d :: ds, ps, hr, ⟨p, q, h1, h2, h3⟩, hlt => by
    subst h3
    exact ⟨p, q, Below.trod hl (hr t (by simp)).1 (hr t (by simp)).2 h1 hb (fun x hx => hlt x (by simp [hx])), trodAll_below hl hb ts vs ds q (fun t ht => hr t (by simp [ht])) h2 (fun x hx => hlt x (by simp [hx])), rfl⟩
  | [], [], _ :: _, _, _, h, _ => h.elim
  | [], _ :: _, _, _, _, h, _ => h.elim
  | _ :: _, [], _, _, _, h, _ => h.elim
  | _ :: _, _ :: _, [], _, _, h, _ => h.elim

/-- The row's own words, for a law that is true. -/
theorem post_true {s : ChangeSpec} {fn : Func} {apart : Bool} {W W' : World} {args : Array Value} {ds gs : List (DataW H)} {before : List MemPlace} {tb : TypeId} (hl : laidOutB P = true) (hread : ∀ t ∈ fn.params.toList, P.readableRec t = true ∧ t < P.types.size)
    (hW : DataW.Whole enc P fn.params.toList s.vars apart W args.toList ds gs before) (hvars : s.vars = []) (hfn : (s.fn H (ds ++ gs)).results = [.lit (.bool true)] ∧ (s.fn H (ds ++ gs)).args = ds ∧ (s.fn H (ds ++ gs)).vars = [])
    (hres : fn.resultTypes = #[tb]) (hbool : P.underlying tb = some .bool) (hb : Below W.heap.size W W') : s.post enc P fn apart true false false W args (.bool true) W' := by
  obtain ⟨p, q, hA, hV, hps, hfz, hnd⟩ := hW
  have hq : q = [] := by
    rw [hvars] at hV
    cases gs with
    | nil => exact hV
    | cons => exact hV.elim
  subst hq
  rw [List.append_nil] at hps
  subst hps
  have hW' : DataW.Whole enc P fn.params.toList s.vars apart W args.toList ds gs before := ⟨before, [], hA, hV, by simp, hfz, hnd⟩
  have hlt : ∀ x ∈ before, x.block < W.heap.size := fun x hx => by simpa using hW'.lt x hx
  refine ⟨ds, gs, before, [], before, [], hW', ?_, ?_, ?_, keptBut_of_below hb _, fun h => by cases h⟩
  · rw [hfn.1, hres]
    exact ⟨[], [], ⟨1, by simp [DataW.trod, Value.cells, hbool]⟩, rfl, rfl⟩
  · rw [hfn.2.1]
    exact trodAll_below hl hb _ _ _ _ hread hA hlt
  · rw [hfn.2.2, hvars]
    rfl
end
end Go.Ab

namespace Go.Ab
open Go Go.ChangeShapes Go.WideShapes Go.RowKit Go.Deep

section
variable {P : Program} {H : Type} {enc : TypeId × Value → H} {w : World} {base : Nat} {spare : Nat → Bool} {held : Bool}

theorem list_of {α : Type} {p : Nat → α → Prop} : ∀ (n : Nat), (∀ i, i < n → ∃ a, p i a) → ∃ L : List α, L.length = n ∧ ∀ (i : Nat) (a : α), L[i]? = some a → p i a := by
  intro n
  induction n with
  | zero => exact fun _ => ⟨[], rfl, fun i a h => by simp at h⟩
  | succ n ih =>
    intro h
    obtain ⟨L, hl, hL⟩ := ih fun i hi => h i (by omega)
    obtain ⟨a, ha⟩ := h n (by omega)
    refine ⟨L ++ [a], by simp [hl], fun i b hb => ?_⟩
    by_cases hi : i < L.length
    · rw [List.getElem?_append_left hi] at hb; exact hL i b hb
    · rw [List.getElem?_append_right (by omega)] at hb
      have hi2 : i - L.length = 0 := by
        have := (List.getElem?_eq_some_iff.1 hb).1
        simp at this
        omega
      rw [hi2] at hb
      simp at hb
      subst hb
      rw [show i = n from by omega]
      exact ha

/-- What an element's cells say. -/
def EltR (P : Program) (enc : TypeId × Value → H) (w : World) (M : Nat → Prop) (base : Nat) (spare : Nat → Bool) (held : Bool) (e : TypeId) (sz : Nat) (El : List CV → Prop) : Prop :=
  ∀ n cs x, DataW.trod enc P w base spare held n e cs = some x → ∃ l : List CV, l.length = sz ∧ El l ∧ ∀ (j : Nat) (y : CV), l[j]? = some y → ∃ u, cs[j]? = some u ∧ plain u ∧ CR w M y u

theorem open_sl {M : Nat → Prop} {t e : TypeId} {sz : Nat} {El : List CV → Prop} (ht : P.underlying t = some (.slice e)) (hsz : P.cellsOf e = sz) (h0 : 0 < sz) (hel : EltR P enc w M base spare held e sz El) (hM : ∀ b, ¬ M b) {fuel : Nat} {cs : List Value} {x : DataW H × List MemPlace}
    (h : DataW.trod enc P w base spare held fuel t cs = some x) : ∃ v L, cs = [v] ∧ CR w M (.sl sz L) v ∧ (∀ l ∈ L, El l) ∧ L.length ≤ maxLen := by
  rcases open_slice ht h with ⟨rfl, _⟩ | ⟨a, len, cap, m, n, D, Pl, rfl, hb, hl, hm, hmm, _, hx⟩
  · exact ⟨_, [], rfl, .sl0 _ _ _, by simp, by simp⟩
  · rw [hsz] at hx
    have hlm : len ≤ m := by rw [hmm]; split <;> omega
    have hi : ∀ i, i < len → ∃ l : List CV, l.length = sz ∧ El l ∧ ∀ (j : Nat) (y : CV), l[j]? = some y → ∃ u, w.cell? ((a.add (i * sz)).add j) = some u ∧ plain u ∧ CR w M y u := fun i hi => by
      obtain ⟨cs', hc, htr⟩ := hx i (by omega)
      obtain ⟨_, hcl, hat⟩ := World.cells?_some hc
      obtain ⟨l, hll, he, hr⟩ := hel n cs' _ htr
      refine ⟨l, hll, he, fun j y hy => ?_⟩
      obtain ⟨u, hu, hp, hcr⟩ := hr j y hy
      have hj := (List.getElem?_eq_some_iff.1 hy).1
      exact ⟨u, by rw [hat j (by omega)]; exact hu, hp, hcr⟩
    obtain ⟨L, hL, hLp⟩ := list_of len hi
    by_cases hz : len = 0
    · subst hz
      have : L = [] := List.length_eq_zero_iff.1 hL
      subst this
      exact ⟨_, [], rfl, .sl0 _ _ _, by simp, by simp⟩
    · obtain ⟨b, o, spot⟩ := a
      have hspot : spot = none := by
        obtain ⟨l, hll, _, hr⟩ := hi 0 (by omega)
        obtain ⟨u, hu, _⟩ := hr 0 (l[0]'(by omega)) (by simp [show 0 < l.length from by omega])
        simpa [Addr.add] using World.cell?_spot hu
      subst hspot
      have hcell : ∀ i j y, at2 L i j = some y → ∃ u, w.cell? ⟨b, o + (i * sz + j), none⟩ = some u ∧ plain u ∧ CR w M y u := fun i j y hy => by
        unfold at2 at hy
        obtain ⟨l, hl', hy⟩ := bind_some' hy
        obtain ⟨_, _, hr⟩ := hLp i l hl'
        obtain ⟨u, hu, hp, hcr⟩ := hr j y hy
        rw [add_lit, add_lit, Nat.add_assoc] at hu
        exact ⟨u, hu, hp, hcr⟩
      have hlen : ∀ e ∈ L, e.length = sz := fun e he => by
        obtain ⟨i, hi⟩ := List.mem_iff_getElem?.1 he
        exact (hLp i e hi).1
      have hbl : b < w.heap.size := by
        obtain ⟨l, hll, _, hr⟩ := hi 0 (by omega)
        obtain ⟨u, hu, _⟩ := hr 0 (l[0]'(by omega)) (by simp [show 0 < l.length from by omega])
        rw [add_lit, add_lit] at hu
        exact World.block_lt_of_cell? w _ hu
      refine ⟨_, L, rfl, ?_, fun l hl' => ?_, by omega⟩
      · have := CR.sl (w := w) (M := M) sz L b o cap (fun i j => (w.cell? ⟨b, o + (i * sz + j), none⟩).getD undef) h0 hlen (by omega) (hM b) hbl
          (fun i j y hy => by obtain ⟨u, hu, _, _⟩ := hcell i j y hy; rw [hu]; rfl)
          (fun i j y hy => by obtain ⟨u, hu, hp, _⟩ := hcell i j y hy; rw [hu]; exact hp)
          (fun i j y hy => by obtain ⟨u, hu, _, hcr⟩ := hcell i j y hy; rw [hu]; exact hcr)
        rw [hL] at this
        exact this
      · obtain ⟨i, hi⟩ := List.mem_iff_getElem?.1 hl'
        exact (hLp i l hi).2.1

/-- An element that is one number. -/
theorem elt_int {M : Nat → Prop} {e : TypeId} {k : IntKind} (he : P.underlying e = some (.int k)) : EltR P enc w M base spare held e 1 (fun l => ∃ n, l = [.int k n] ∧ (Lit.int k n).wf = true) := fun n cs x h => by
  obtain ⟨m, rfl, _, hw⟩ := DataW.trod_int he h
  refine ⟨[.int k m], rfl, ⟨m, rfl, hw⟩, fun j y hy => ?_⟩
  cases j with
  | zero => simp at hy; subst hy; exact ⟨_, rfl, rfl, .int k m⟩
  | succ j => simp at hy

theorem elt_bool {M : Nat → Prop} {e : TypeId} (he : P.underlying e = some .bool) : EltR P enc w M base spare held e 1 (fun l => ∃ b, l = [.bool b]) := fun n cs x h => by
  obtain ⟨m, rfl, _⟩ := DataW.trod_bool he h
  refine ⟨[.bool m], rfl, ⟨m, rfl⟩, fun j y hy => ?_⟩
  cases j with
  | zero => simp at hy; subst hy; exact ⟨_, rfl, rfl, .bool m⟩
  | succ j => simp at hy

/-- An element of two numbers. -/
theorem elt_two {M : Nat → Prop} {e : TypeId} {f0 f1 : Field} {k0 k1 : IntKind} (he : P.underlying e = some (.struct #[f0, f1])) (o0 : f0.offset = 0) (o1 : f1.offset = 1) (c : P.cellsOf e = 2) (c0 : P.cellsOf f0.type = 1) (c1 : P.cellsOf f1.type = 1)
    (h0 : P.underlying f0.type = some (.int k0)) (h1 : P.underlying f1.type = some (.int k1)) :
    EltR P enc w M base spare held e 2 (fun l => ∃ n m, l = [.int k0 n, .int k1 m] ∧ (Lit.int k0 n).wf = true ∧ (Lit.int k1 m).wf = true) := fun n cs x h => by
  obtain ⟨xs, n', _, _, hcl, hxl, hf⟩ := DataW.trod_struct he h
  rw [c] at hcl
  match cs, hcl with
  | [u0, u1], _ =>
    have g0 := hf 0 f0 rfl
    have g1 := hf 1 f1 rfl
    rw [o0, c0] at g0
    rw [o1, c1] at g1
    obtain ⟨y0, hy0⟩ : ∃ y0, xs[0]? = some y0 := ⟨xs[0]'(by rw [hxl]; simp), by simp⟩
    obtain ⟨y1, hy1⟩ : ∃ y1, xs[1]? = some y1 := ⟨xs[1]'(by rw [hxl]; simp), by simp⟩
    rw [hy0] at g0
    rw [hy1] at g1
    obtain ⟨a0, e0, _, w0⟩ := DataW.trod_int h0 g0
    obtain ⟨a1, e1, _, w1⟩ := DataW.trod_int h1 g1
    simp at e0 e1
    subst e0 e1
    refine ⟨[.int k0 a0, .int k1 a1], rfl, ⟨a0, a1, rfl, w0, w1⟩, fun j y hy => ?_⟩
    match j, hy with
    | 0, hy => simp at hy; subst hy; exact ⟨_, rfl, rfl, .int _ _⟩
    | 1, hy => simp at hy; subst hy; exact ⟨_, rfl, rfl, .int _ _⟩
end
end Go.Ab

namespace Go.Ab
open Go Go.ChangeShapes Go.WideShapes Go.RowKit

theorem law_calls {P : Program} {f : FuncId} {g : Callee} (hs : SoundC P f g) {args : List CV} (hg : ∀ (β : Type) (K : CV → List (List CV) → Option β), g.run args [] β K = K (.bool true) []) {w : World} {vs : Array Value} (hgl : GlobR w fun _ => False) (hsz : vs.size = args.length)
    (ha : ∀ (j : Nat) (x : CV), args[j]? = some x → CR w (fun _ => False) x (vs.getD j undef)) : Calls P f vs w fun e w' => e = .returned (.bool true) ∧ Below w.heap.size w w' := by
  obtain ⟨rv, co, hK, hc⟩ := hs.calls args [] (CV × List (List CV)) (fun rv co => some (rv, co)) _ (hg _ _)
  obtain ⟨rfl, rfl⟩ := Prod.mk.inj (Option.some.inj hK)
  refine (hc w (fun _ => False) vs [] [] ⟨hsz, fun j x hx => .inr (ha j x hx), rfl, .nil, fun b hb => (by cases hb), fun b hb => hb.elim, hgl⟩).mono fun e w' h => ?_
  obtain ⟨v, Br, B2, rfl, o⟩ := h
  have hr := o.ret
  cases hr with
  | c _ _ hx =>
    rw [hx.bool_inv]
    exact ⟨rfl, o.below⟩

theorem args_one {w : World} {M : Nat → Prop} {x : CV} {v : Value} (h : CR w M x v) : ∀ (j : Nat) (y : CV), [x][j]? = some y → CR w M y (#[v].getD j undef)
  | 0, y, hy => by simp at hy; subst hy; exact h
  | j + 1, y, hy => by simp at hy

theorem args_two {w : World} {M : Nat → Prop} {x x' : CV} {v v' : Value} (h : CR w M x v) (h' : CR w M x' v') : ∀ (j : Nat) (y : CV), [x, x'][j]? = some y → CR w M y (#[v, v'].getD j undef)
  | 0, y, hy => by simp at hy; subst hy; exact h
  | 1, y, hy => by simp at hy; subst hy; exact h'
  | j + 2, y, hy => by simp at hy

theorem args_three {w : World} {M : Nat → Prop} {x x' x'' : CV} {v v' v'' : Value} (h : CR w M x v) (h' : CR w M x' v') (h'' : CR w M x'' v'') : ∀ (j : Nat) (y : CV), [x, x', x''][j]? = some y → CR w M y (#[v, v', v''].getD j undef)
  | 0, y, hy => by simp at hy; subst hy; exact h
  | 1, y, hy => by simp at hy; subst hy; exact h'
  | 2, y, hy => by simp at hy; subst hy; exact h''
  | j + 3, y, hy => by simp at hy

theorem map_of {α : Type} {enc : α → List CV} : ∀ {L : List (List CV)}, (∀ l ∈ L, ∃ a, l = enc a) → ∃ ps : List α, L = ps.map enc
  | [], _ => ⟨[], rfl⟩
  | l :: L, h => by
    obtain ⟨a, ha⟩ := h l (by simp)
    obtain ⟨ps, hp⟩ := map_of (L := L) fun l hl => h l (by simp [hl])
    exact ⟨a :: ps, by rw [ha, hp]; rfl⟩
end Go.Ab
