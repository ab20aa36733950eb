/- Pages: what the program's functions come to.
pages.May.
pages.Count.
pages.Count: its contract.
pages.May.
pages.May: the loop's answer.
Struct types whose cells are numbers: '=='.
ragpickerref04.May: the inner loop.
ragpickerref04.May: the inner loop's answer.
ragpickerref04.May: the inner loop's answer.
ragpickerref04.May.
ragpickerref04.May: the outer loop.
ragpickerref04.May: the outer loop's answer.
ragpickerref04.May: it is as pages.May.
ragpickerref04.May: its contract.
ragpickerref04.Count.
ragpickerref04.Free.
slices.Clone, pages.put, pages.free.
math/bits.Mul, of one and a small number; slices.Repeat of one element.
pages.Small, pages.Large: what they come to.
pages.Drop: what it comes to.
ragpickerref04.Small and Large: they come to what pages.Small and Large come to.
ragpickerref04.Drop: it comes to what pages.Drop comes to.
ragpickerref04.Same.
pages.Find, ragpickerref04.Find.
awake; what the laws' callees come to.
PagesTells, PagesTakes: they come to true. -/
import Derived.Test.YtnfgbfmhnllnnaaAbB
import Derived.Test.YtnfgbfmhnllnnaaProg
import Derived.KernelRfl
import Derived.IntWalk
namespace Go.Ab
open Go

theorem SoundC.of {P : Program} {f : FuncId} {g g' : Callee} (h : SoundC P f g) (ht : ∀ args conts (β : Type) (K : CV → List (List CV) → Option β) r, g'.run args conts β K = some r → g.run args conts β K = some r) : SoundC P f g' :=
  ⟨h.enter, fun args conts β K r hK => h.calls args conts β K r (ht args conts β K r hK)⟩

theorem fnC_run {cx : Cx} {fn : Func} {args : List CV} {conts : List (List CV)} {β : Type} {K : CV → List (List CV) → Option β} : (fnC cx fn).run args conts β K = fnK cx fn args conts K := rfl

theorem cond_some1 {b : Bool} {g g' : Callee} (h : (bif b then some g else none) = some g') : b = true ∧ g = g' := by
  cases b with
  | true => exact ⟨rfl, Option.some.inj h⟩
  | false => cases h

theorem eqOK_none {cx : Cx} (h : ∀ t, cx.eqT t = false) : EqOK cx := fun t ht => by rw [h t] at ht; cases ht

def bodyOf (f : Func) : Code := f.body.getD .skip

/-- A context without loops of its own. -/
noncomputable def cxP (n : Nat) (root : Code) (Γ : FuncId → Option Callee) (Λ : Nat → Option LoopSem) (wr : Nat → Bool) : Cx :=
  { P := Go.Proofs.Try.prog, nt := n, Γ := Γ, Λ := Λ, un := fun _ => false, root := root, wr := wr, eqT := fun _ => false }

theorem pathN_pos : ∀ p, 1 ≤ pathN p
  | [] => Nat.le_refl 1
  | b :: p => by
    have := pathN_pos p
    simp only [pathN]
    omega

theorem pathN_inj : ∀ (p q : List Bool), pathN p = pathN q → p = q
  | [], [], _ => rfl
  | [], b :: q, h => by
    have := pathN_pos q
    simp only [pathN] at h
    omega
  | b :: p, [], h => by
    have := pathN_pos p
    simp only [pathN] at h
    omega
  | b :: p, c :: q, h => by
    simp only [pathN] at h
    have h1 : pathN p = pathN q := by cases b <;> cases c <;> simp at h <;> omega
    have h2 : b = c := by cases b <;> cases c <;> simp at h <;> first | rfl | omega
    rw [h2, pathN_inj p q h1]

/-- The loops of a function. -/
theorem LoopsS.of {cx : Cx} (h : ∀ k L, cx.Λ k = some L → ∃ p0, k = pathN p0 ∧ ∀ (vs : List CV) (cs : List (List CV)) (β : Type) (K : Exit → List CV → List (List CV) → Option β) (r : β), L.run vs cs β K = some r →
    ∃ n, loopB cx L.ins L.outs p0 ((codeAt cx.root (false :: p0)).getD .skip) n vs cs K = some r) : LoopsS cx := fun p L b hl hp vs cs β K r hr => by
  obtain ⟨p0, hk, hs⟩ := h _ L hl
  have := pathN_inj p p0 hk
  subst this
  obtain ⟨n, hn⟩ := hs vs cs β K r hr
  refine ⟨n, ?_⟩
  have e : codeAt cx.root (false :: p) = some b := by simp [codeAt, hp, childOf]
  rw [e] at hn
  exact hn

theorem cond_some2 {b : Bool} {g g' : LoopSem} (h : (bif b then some g else none) = some g') : b = true ∧ g = g' := by
  cases b with
  | true => exact ⟨rfl, Option.some.inj h⟩
  | false => cases h

/-- By what there is, or not. -/
def optE {α γ : Type} (o : Option α) (n : γ) (s : α → γ) : γ := match o with
  | some a => s a
  | none => n

theorem Nat3.optE {α A B C : Type} {o : Option α} {F : (β : Type) → (A → B → C → Option β) → Option β} {G : α → (β : Type) → (A → B → C → Option β) → Option β} (hF : Nat3 F) (hG : ∀ a, Nat3 (G a)) : Nat3 (fun β K => Ab.optE o (F β K) fun a => G a β K) := by
  cases o with
  | none => exact hF
  | some a => exact hG a

theorem Nat2.optE {α A B : Type} {o : Option α} {F : (β : Type) → (A → B → Option β) → Option β} {G : α → (β : Type) → (A → B → Option β) → Option β} (hF : Nat2 F) (hG : ∀ a, Nat2 (G a)) : Nat2 (fun β K => Ab.optE o (F β K) fun a => G a β K) := by
  cases o with
  | none => exact hF
  | some a => exact hG a

def gIn : Callee := ⟨fun args conts _ K => match args, conts with
  | [.int .i64 a, .int .i64 b, .int .i64 c], [] => K (.bool (cond (decide (a ≥ b)) (decide (a ≤ c)) false)) []
  | _, _ => none⟩

def Γ1 : FuncId → Option Callee := fun f => bif Nat.beq f 24 then some gIn else none
end Go.Ab

namespace Go.Ab
open Go

theorem in_nat : NatC gIn := fun args conts => by
  unfold gIn
  dsimp only
  split
  · exact .ret _ _
  · exact .none

theorem Γ1_nat : ∀ f g, Γ1 f = some g → NatC g := fun f g h => by
  unfold Γ1 at h
  obtain ⟨_, rfl⟩ := cond_some1 h
  exact in_nat

noncomputable def cx24 : Cx := cxP 15 (bodyOf Go.Proofs.Try.f24) (fun _ => none) (fun _ => none) (fun _ => false)

set_option maxRecDepth 100000 in
theorem in_step (a b c : Int) (β : Type) (K : CV → List (List CV) → Option β) : fnK cx24 Go.Proofs.Try.f24 [.int .i64 a, .int .i64 b, .int .i64 c] [] K =
    cond (decide (a ≥ b)) (K (.bool (decide (a ≤ c))) []) (K (.bool false) []) := by kernel_rfl

theorem in_sound : SoundC Go.Proofs.Try.prog 24 gIn :=
  SoundC.of (fnSound (cx := cx24) (fn := Go.Proofs.Try.f24) (fun f g h => by cases h) (fun f g h => by cases h) (eqOK_none fun _ => rfl) (fun p L b h => by cases h) (fun q L h => by cases h) Go.Proofs.Try.func24 (by kernel_rfl) (by kernel_rfl) (by kernel_rfl) (Nat.le_of_ble_eq_true (by kernel_rfl)))
    fun args conts β K r h => by
      unfold gIn at h
      dsimp only at h
      split at h
      · rename_i a b c
        rw [fnC_run, in_step]
        cases hq : decide (a ≥ b) <;> simp only [hq, cond_true, cond_false] at h ⊢ <;> exact h
      · cases h

theorem Γ1_sound : ∀ f g, Γ1 f = some g → SoundC Go.Proofs.Try.prog f g := fun f g h => by
  unfold Γ1 at h
  obtain ⟨hb, rfl⟩ := cond_some1 h
  have := beq_true hb
  subst this
  exact in_sound
end Go.Ab

namespace Go.Ab
open Go

abbrev Pg := Int × Int

def encP (p : Pg) : List CV := [.int .i64 p.1, .int .i64 p.2]

def dec2 : List CV → Option Pg
  | [.int .i64 a, .int .i64 b] => some (a, b)
  | _ => none

theorem dec2_enc {l : List CV} {p : Pg} (h : dec2 l = some p) : l = encP p := by
  unfold dec2 at h
  split at h
  · cases h; rfl
  · cases h

def decP (L : List (List CV)) : Option (List Pg) := mapO dec2 L

theorem decP_enc : ∀ {L : List (List CV)} {ps : List Pg}, decP L = some ps → L = ps.map encP
  | [], ps, h => by
    simp only [decP, mapO, Option.some.injEq] at h
    subst h
    rfl
  | l :: L, ps, h => by
    simp only [decP, mapO] at h
    obtain ⟨p, hp, h⟩ := bind_some' h
    obtain ⟨qs, hq, h⟩ := bind_some' h
    cases h
    rw [dec2_enc hp, decP_enc (ps := qs) hq]
    rfl

@[simp] theorem decP_map (ps : List Pg) : decP (ps.map encP) = some ps := by
  induction ps with
  | nil => rfl
  | cons p ps ih =>
    simp only [decP] at ih
    simp [decP, mapO, encP, dec2, ih]

/-- An element that there is. -/
theorem rdE_map {ps : List Pg} {i : Nat} (h : i < ps.length) {γ : Type} (f : List CV → Option γ) : (rdE (ps.map encP) (i : Int)).bind f = f (encP ps[i]) := by
  simp [rdE, h]

def SMALL : Nat := 1152921504606846976

def cnt (ps : List Pg) (k : Int) : Nat := (ps.filter fun p => p.1 == k).length

noncomputable abbrev body15 : Code := (codeAt (bodyOf Go.Proofs.Try.f15) [false, false, true, false, true, true]).getD .skip
def outs15 : Exit → List Nat := fun _ => [5]

def loop15 : LoopSem := ⟨[5, 10, 8, 9, 1], outs15, fun vs cs _ K => match vs, cs with
  | [.int .i64 m, .int .i64 i, .sl 2 L, .int .i64 len, .int .i64 k], [] => (decP L).bind fun ps => bif decide (m = 0) && decide (i = 0) && decide (len = (ps.length : Int)) && Nat.ble ps.length SMALL then K (.exit 0) [.int .i64 (cnt ps k)] [] else none
  | _, _ => none⟩

noncomputable def cx15 : Cx := cxP 22 (bodyOf Go.Proofs.Try.f15) (fun _ => none) (fun q => bif Nat.beq q 58 then some loop15 else none) (fun _ => false)

set_option maxRecDepth 100000 in
theorem step15 (n : Nat) (L : List (List CV)) (m i len k : Int) (β : Type) (K : Exit → List CV → List (List CV) → Option β) :
    loopB cx15 [5, 10, 8, 9, 1] outs15 [false, true, false, true, true] body15 (n + 1) [.int .i64 m, .int .i64 i, .sl 2 L, .int .i64 len, .int .i64 k] [] K =
    cond (decide (i < len)) ((rdE L i).bind fun c => (c[0]?).bind fun x => (asI .i64 x).bind fun a => (c[1]?).bind fun x => (asI .i64 x).bind fun _ =>
      cond (a == k)
        (loopB cx15 [5, 10, 8, 9, 1] outs15 [false, true, false, true, true] body15 n [.int .i64 (IntKind.i64.wrap (m + 1)), .int .i64 (IntKind.i64.wrap (i + 1)), .sl 2 L, .int .i64 len, .int .i64 k] [] K)
        (loopB cx15 [5, 10, 8, 9, 1] outs15 [false, true, false, true, true] body15 n [.int .i64 m, .int .i64 (IntKind.i64.wrap (i + 1)), .sl 2 L, .int .i64 len, .int .i64 k] [] K))
      (K (.exit 0) [.int .i64 m] []) := by kernel_rfl

theorem loop15_spec (ps : List Pg) (k : Int) (hs : ps.length ≤ SMALL) (β : Type) (K : Exit → List CV → List (List CV) → Option β) : ∀ (n i : Nat) (m : Nat), ps.length - i ≤ n → i ≤ ps.length → m ≤ i →
    loopB cx15 [5, 10, 8, 9, 1] outs15 [false, true, false, true, true] body15 (n + 1) [.int .i64 m, .int .i64 i, .sl 2 (ps.map encP), .int .i64 (ps.length : Int), .int .i64 k] [] K = K (.exit 0) [.int .i64 (m + cnt (ps.drop i) k : Nat)] [] := by
  intro n
  have hS : SMALL = 1152921504606846976 := rfl
  induction n with
  | zero =>
    intro i m hn hi hm
    have hil : i = ps.length := by omega
    subst hil
    rw [step15]
    simp [cnt]
  | succ n ih =>
    intro i m hn hi hm
    rw [step15]
    by_cases hl : i < ps.length
    · have e1 : decide ((i : Int) < (ps.length : Int)) = true := by simp; omega
      rw [e1, cond_true, rdE_map hl]
      have w1 : IntKind.i64.wrap ((i : Int) + 1) = ((i + 1 : Nat) : Int) := by rw [IntWalk.i64_in]; simp; omega
      have w2 : IntKind.i64.wrap ((m : Int) + 1) = ((m + 1 : Nat) : Int) := by rw [IntWalk.i64_in]; simp; omega
      have hd : ps.drop i = ps[i] :: ps.drop (i + 1) := List.drop_eq_getElem_cons hl
      have hc : cnt (ps.drop i) k = (if ps[i].1 == k then 1 else 0) + cnt (ps.drop (i + 1)) k := by
        rw [hd]
        simp only [cnt, List.filter_cons]
        split <;> simp <;> omega
      simp only [encP, List.getElem?_cons_zero, List.getElem?_cons_succ, Option.bind_some, asI, if_true, w1, w2]
      cases hk : ps[i].1 == k with
      | true =>
        rw [cond_true, ih (i + 1) (m + 1) (by omega) (by omega) (by omega), hc, hk]
        simp only [if_true]
        congr 4
        omega
      | false =>
        rw [cond_false, ih (i + 1) m (by omega) (by omega) (by omega), hc, hk]
        simp
    · have hil : i = ps.length := by omega
      subst hil
      simp [cnt]
end Go.Ab

namespace Go.Ab
open Go

theorem loop15_nat : NatL loop15 := fun vs cs => by
  unfold loop15
  dsimp only
  split
  · exact .bind _ fun _ => .cond _ (.ret _ _ _) .none
  · exact .none

theorem loops15 : LoopsS cx15 := .of fun k L h => by
  obtain ⟨hk, rfl⟩ := cond_some2 h
  refine ⟨[false, true, false, true, true], beq_true hk, fun vs cs β K r hr => ?_⟩
  unfold loop15 at hr
  dsimp only at hr
  split at hr
  · rename_i m i L len k
    replace hr := bind_some' hr
    obtain ⟨ps, hps, hr⟩ := hr
    replace hr := cond_some hr
    obtain ⟨hb, hr⟩ := hr
    simp only [Bool.and_eq_true, decide_eq_true_eq] at hb
    obtain ⟨⟨⟨rfl, rfl⟩, rfl⟩, hs⟩ := hb
    have hs := Nat.le_of_ble_eq_true hs
    rw [decP_enc hps]
    refine ⟨ps.length + 1, ?_⟩
    have := loop15_spec ps k hs β K ps.length 0 0 (by omega) (by omega) (by omega)
    simp only [List.drop_zero, Nat.zero_add] at this
    exact this.trans hr
  · cases hr

def gCount : Callee := ⟨fun args conts _ K => match args, conts with
  | [.sl 2 L, .int .i64 k], [] => (decP L).bind fun ps => bif Nat.ble ps.length SMALL then K (.int .i64 (cnt ps k)) [] else none
  | _, _ => none⟩

set_option maxRecDepth 100000 in
theorem step15f (L : List (List CV)) (k : Int) (β : Type) (K : CV → List (List CV) → Option β) : fnK cx15 Go.Proofs.Try.f15 [.sl 2 L, .int .i64 k] [] K =
    (decP L).bind fun ps => bif true && true && decide ((L.length : Int) = (ps.length : Int)) && Nat.ble ps.length SMALL then K (.int .i64 (cnt ps k)) [] else none := by kernel_rfl

theorem count_nat : NatC gCount := fun args conts => by
  unfold gCount
  dsimp only
  split
  · exact .bind _ fun _ => .cond _ (.ret _ _) .none
  · exact .none

theorem decP_len {L : List (List CV)} {ps : List Pg} (h : decP L = some ps) : L.length = ps.length := by rw [decP_enc h]; simp

theorem count_sound : SoundC Go.Proofs.Try.prog 15 gCount :=
  SoundC.of (fnSound (cx := cx15) (fn := Go.Proofs.Try.f15) (fun f g h => by cases h) (fun f g h => by cases h) (eqOK_none fun _ => rfl) loops15 (fun q L h => by obtain ⟨_, rfl⟩ := cond_some2 h; exact loop15_nat)
    Go.Proofs.Try.func15 (by kernel_rfl) (by kernel_rfl) (by kernel_rfl) (Nat.le_of_ble_eq_true (by kernel_rfl)))
    fun args conts β K r h => by
      unfold gCount at h
      dsimp only at h
      split at h
      · rename_i L k
        replace h := bind_some' h
        obtain ⟨ps, hps, h⟩ := h
        replace h := cond_some h
        obtain ⟨hs, h⟩ := h
        rw [fnC_run, step15f, hps]
        simp only [Option.bind_some, decP_len hps, hs, decide_true, Bool.and_self, cond_true]
        exact h
      · cases h
end Go.Ab

namespace Go.Ab
open Go

def mayGo : Int → List Pg → Option Int
  | rest, [] => some rest
  | rest, p :: ps => cond (p.1 == 3) (cond (rest == 0) none (cond (p.2 != 0) none (mayGo (rest - 1) ps)))
      (cond (p.1 == 0) (cond (p.2 != 0) none (cond (decide (rest > 0)) none (mayGo rest ps)))
        (cond (p.1 == 1) (cond (!(cond (decide (p.2 ≥ 0)) (decide (p.2 ≤ 2)) false)) none (cond (decide (rest > 0)) none (mayGo rest ps)))
          (cond (p.1 == 2) (cond (!(cond (decide (p.2 ≥ 1)) (decide (p.2 ≤ 4)) false)) none (cond (decide (rest > 0)) none (mayGo (p.2 - 1) ps))) none)))

def may (ps : List Pg) : Bool := match mayGo 0 ps with
  | some r => cond (r == 0) (cond (decide ((ps.length : Int) ≥ 1)) (decide ((ps.length : Int) ≤ 64)) false) false
  | none => false

noncomputable abbrev body13 : Code := (codeAt (bodyOf Go.Proofs.Try.f13) [false, false, true, false, true, true]).getD .skip
def outs13 : Exit → List Nat := fun e => match e with | .ret => [2] | _ => [3, 0]

def loop13 : LoopSem := ⟨[3, 8, 6, 7, 0], outs13, fun vs cs _ K => match vs, cs with
  | [.int .i64 r, .int .i64 i, .sl 2 L, .int .i64 len, .sl 2 L'], [] => (decP L).bind fun ps => (decP L').bind fun ps' => bif decide (r = 0) && decide (i = 0) && decide (len = (ps.length : Int)) && Nat.ble ps.length SMALL then (match mayGo 0 ps with
      | some r' => K (.exit 0) [.int .i64 r', .sl 2 (ps'.map encP)] []
      | none => K .ret [.bool false] []) else none
  | _, _ => none⟩

noncomputable def cx13 : Cx := cxP 58 (bodyOf Go.Proofs.Try.f13) Γ1 (fun q => bif Nat.beq q 58 then some loop13 else none) (fun _ => false)

noncomputable def LB13 (L : List (List CV)) (len : Int) (L' : List (List CV)) (β : Type) (K : Exit → List CV → List (List CV) → Option β) (n : Nat) (rest i : Int) : Option β :=
  loopB cx13 [3, 8, 6, 7, 0] outs13 [false, true, false, true, true] body13 n [.int .i64 rest, .int .i64 i, .sl 2 L, .int .i64 len, .sl 2 L'] [] K

set_option maxRecDepth 100000 in
theorem step13 (L L' : List (List CV)) (len : Int) (β : Type) (K : Exit → List CV → List (List CV) → Option β) (n : Nat) (rest i : Int) : LB13 L len L' β K (n + 1) rest i =
    cond (decide (i < len)) ((rdE L i).bind fun c => (c[0]?).bind fun x => (asI .i64 x).bind fun a => (c[1]?).bind fun x => (asI .i64 x).bind fun b =>
      cond (a == 3) (cond (rest == 0) (K .ret [.bool false] []) (cond (b != 0) (K .ret [.bool false] []) (LB13 L len L' β K n (IntKind.i64.wrap (rest - 1)) (IntKind.i64.wrap (i + 1)))))
      (cond (a == 0) (cond (b != 0) (K .ret [.bool false] []) (cond (decide (rest > 0)) (K .ret [.bool false] [])
          (cond (a == 2) (LB13 L len L' β K n (IntKind.i64.wrap (b - 1)) (IntKind.i64.wrap (i + 1))) (LB13 L len L' β K n rest (IntKind.i64.wrap (i + 1))))))
        (cond (a == 1) (cond (!(cond (decide (b ≥ 0)) (decide (b ≤ 2)) false)) (K .ret [.bool false] []) (cond (decide (rest > 0)) (K .ret [.bool false] [])
            (cond (a == 2) (LB13 L len L' β K n (IntKind.i64.wrap (b - 1)) (IntKind.i64.wrap (i + 1))) (LB13 L len L' β K n rest (IntKind.i64.wrap (i + 1))))))
          (cond (a == 2) (cond (!(cond (decide (b ≥ 1)) (decide (b ≤ 4)) false)) (K .ret [.bool false] []) (cond (decide (rest > 0)) (K .ret [.bool false] [])
              (cond (a == 2) (LB13 L len L' β K n (IntKind.i64.wrap (b - 1)) (IntKind.i64.wrap (i + 1))) (LB13 L len L' β K n rest (IntKind.i64.wrap (i + 1))))))
            (K .ret [.bool false] [])))))
      (K (.exit 0) [.int .i64 rest, .sl 2 L'] []) := by kernel_rfl
end Go.Ab

namespace Go.Ab
open Go

theorem loop13_spec (ps : List Pg) (L' : List (List CV)) (hs : ps.length ≤ SMALL) (β : Type) (K : Exit → List CV → List (List CV) → Option β) : ∀ (n i : Nat) (rest : Int), ps.length - i ≤ n → i ≤ ps.length → 0 ≤ rest → rest ≤ 3 →
    LB13 (ps.map encP) (ps.length : Int) L' β K (n + 1) rest i = match mayGo rest (ps.drop i) with
      | some r' => K (.exit 0) [.int .i64 r', .sl 2 L'] []
      | none => K .ret [.bool false] [] := by
  intro n
  have hS : SMALL = 1152921504606846976 := rfl
  have fin : ∀ (n i : Nat) (rest : Int), i = ps.length → LB13 (ps.map encP) (ps.length : Int) L' β K (n + 1) rest i = match mayGo rest (ps.drop i) with
      | some r' => K (.exit 0) [.int .i64 r', .sl 2 L'] []
      | none => K .ret [.bool false] [] := fun n i rest hi => by
    subst hi
    rw [step13]
    simp [mayGo]
  induction n with
  | zero => exact fun i rest hn hi _ _ => fin 0 i rest (by omega)
  | succ n ih =>
    intro i rest hn hi h0 h3
    by_cases hl : i < ps.length
    · rw [step13]
      have e1 : decide ((i : Int) < (ps.length : Int)) = true := by simp; omega
      rw [e1, cond_true, rdE_map hl]
      have w1 : IntKind.i64.wrap ((i : Int) + 1) = ((i + 1 : Nat) : Int) := by rw [IntWalk.i64_in]; simp; omega
      have hd : ps.drop i = ps[i] :: ps.drop (i + 1) := List.drop_eq_getElem_cons hl
      rw [hd]
      generalize ps[i] = p
      obtain ⟨a, b⟩ := p
      simp only [encP, List.getElem?_cons_zero, List.getElem?_cons_succ, Option.bind_some, asI, if_true, w1, mayGo]
      have IH := fun rest h0 h3 => ih (i + 1) rest (by omega) (by omega) h0 h3
      cases ha3 : a == 3 with
      | true =>
        simp only [cond_true]
        cases hr : rest == 0 with
        | true => rfl
        | false =>
          simp only [cond_false]
          cases hb : b != 0 with
          | true => rfl
          | false =>
            simp only [cond_false]
            have hr' : rest ≠ 0 := by simpa using hr
            rw [IntWalk.i64_in (rest - 1) (by omega)]
            exact IH (rest - 1) (by omega) (by omega)
      | false =>
        simp only [cond_false]
        cases ha0 : a == 0 with
        | true =>
          have ha : a = 0 := by simpa using ha0
          subst ha
          simp only [cond_true]
          cases hb : b != 0 with
          | true => rfl
          | false =>
            cases hr : decide (rest > 0) with
            | true => rfl
            | false => exact IH rest h0 h3
        | false =>
          simp only [cond_false]
          cases ha1 : a == 1 with
          | true =>
            have ha : a = 1 := by simpa using ha1
            subst ha
            simp only [cond_true]
            cases hb : !(bif decide (b ≥ 0) then decide (b ≤ 2) else false) with
            | true => rfl
            | false =>
              cases hr : decide (rest > 0) with
              | true => rfl
              | false => exact IH rest h0 h3
          | false =>
            simp only [cond_false]
            cases ha2 : a == 2 with
            | true =>
              simp only [cond_true]
              cases hb : !(bif decide (b ≥ 1) then decide (b ≤ 4) else false) with
              | true => rfl
              | false =>
                have hb' : 1 ≤ b ∧ b ≤ 4 := by
                  by_cases h1 : b ≥ 1
                  · simp [h1] at hb; exact ⟨h1, hb⟩
                  · simp [h1] at hb
                cases hr : decide (rest > 0) with
                | true => rfl
                | false =>
                  simp only [cond_false]
                  rw [IntWalk.i64_in (b - 1) (by omega)]
                  exact IH (b - 1) (by omega) (by omega)
            | false => rfl
    · exact fin (n + 1) i rest (by omega)

theorem loop13_nat : NatL loop13 := fun vs cs => by
  unfold loop13
  dsimp only
  split
  · refine .bind _ fun _ => .bind _ fun _ => .cond _ ?_ .none
    split
    · exact .ret _ _ _
    · exact .ret _ _ _
  · exact .none

theorem loops13 : LoopsS cx13 := .of fun k L h => by
  obtain ⟨hk, rfl⟩ := cond_some2 h
  refine ⟨[false, true, false, true, true], beq_true hk, fun vs cs β K r hr => ?_⟩
  unfold loop13 at hr
  dsimp only at hr
  split at hr
  · rename_i m i L len L'
    replace hr := bind_some' hr
    obtain ⟨ps, hps, hr⟩ := hr
    replace hr := bind_some' hr
    obtain ⟨ps', hps', hr⟩ := hr
    replace hr := cond_some hr
    obtain ⟨hb, hr⟩ := hr
    simp only [Bool.and_eq_true, decide_eq_true_eq] at hb
    obtain ⟨⟨⟨rfl, rfl⟩, rfl⟩, hs⟩ := hb
    have hs := Nat.le_of_ble_eq_true hs
    rw [decP_enc hps, decP_enc hps']
    refine ⟨ps.length + 1, ?_⟩
    have := loop13_spec ps (ps'.map encP) hs β K ps.length 0 0 (by omega) (by omega) (by omega) (by omega)
    rw [List.drop_zero] at this
    exact this.trans hr
  · cases hr

set_option maxRecDepth 100000 in
theorem step13f (L : List (List CV)) (β : Type) (K : CV → List (List CV) → Option β) : fnK cx13 Go.Proofs.Try.f13 [.sl 2 L] [] K =
    (decP L).bind fun ps => (decP L).bind fun ps' => bif true && true && decide ((L.length : Int) = (ps.length : Int)) && Nat.ble ps.length SMALL then (match mayGo 0 ps with
      | some r' => cond (r' == 0) (K (.bool (cond (decide (((ps'.map encP).length : Int) ≥ 1)) (decide (((ps'.map encP).length : Int) ≤ 64)) false)) []) (K (.bool false) [])
      | none => K (.bool false) []) else none := by kernel_rfl

def gMay : Callee := ⟨fun args conts _ K => match args, conts with
  | [.sl 2 L], [] => (decP L).bind fun ps => bif Nat.ble ps.length SMALL then K (.bool (may ps)) [] else none
  | _, _ => none⟩

theorem may_nat : NatC gMay := fun args conts => by
  unfold gMay
  dsimp only
  split
  · exact .bind _ fun _ => .cond _ (.ret _ _) .none
  · exact .none

theorem may_sound : SoundC Go.Proofs.Try.prog 13 gMay :=
  SoundC.of (fnSound (cx := cx13) (fn := Go.Proofs.Try.f13) Γ1_sound Γ1_nat (eqOK_none fun _ => rfl) loops13 (fun q L h => by obtain ⟨_, rfl⟩ := cond_some2 h; exact loop13_nat)
    Go.Proofs.Try.func13 (by kernel_rfl) (by kernel_rfl) (by kernel_rfl) (Nat.le_of_ble_eq_true (by kernel_rfl)))
    fun args conts β K r h => by
      unfold gMay at h
      dsimp only at h
      split at h
      · rename_i L
        replace h := bind_some' h
        obtain ⟨ps, hps, h⟩ := h
        replace h := cond_some h
        obtain ⟨hs, h⟩ := h
        rw [fnC_run, step13f, hps]
        simp only [Option.bind_some, decP_len hps, hs, decide_true, Bool.and_self, cond_true, List.length_map]
        rw [← h]
        unfold may
        cases mayGo 0 ps with
        | none => rfl
        | some r' => cases hr : r' == 0 <;> simp [hr]
      · cases h
end Go.Ab

namespace Go.Ab
open Go

theorem kindV_ints {P : Program} : ∀ {ts : List TypeId} {vs : List Value}, (∀ t ∈ ts, ∃ k, P.underlying t = some (.int k)) → kindV P ts vs = true → ∃ l : List (IntKind × Int), vs = l.map (fun p => .int p.1 p.2) ∧ l.length = ts.length
  | [], [], _, _ => ⟨[], rfl, rfl⟩
  | [], _ :: _, _, h => by simp [kindV] at h
  | _ :: _, [], _, h => by simp [kindV] at h
  | t :: ts, v :: vs, hk, h => by
    obtain ⟨k, ht⟩ := hk t (by simp)
    simp only [kindV, Bool.and_eq_true, ht] at h
    obtain ⟨l, rfl, hl⟩ := kindV_ints (fun t h => hk t (by simp [h])) h.2
    have h1 := h.1
    split at h1
    · rename_i _ b n _
      exact ⟨(b, n) :: l, by simp, by simp [hl]⟩
    · rename_i hq; cases hq
    · cases h1

theorem run_equalIn_int {P : Program} {t : TypeId} {k : IntKind} (hu : P.underlying t = some (.int k)) (d : Nat) (c : IntKind) (a b : Int) (w : World) : (Op.equalIn (d + 1) t (.int c a) (.int c b)).run P w = .ok (a == b) w := by
  simp [Op.equalIn, run_underlying hu]

theorem run_part0 {P : Program} {t : TypeId} {k : IntKind} (h : P.underlying t = some (.int k)) (a : Array Value) (i : Nat) (v : Value) (hv : a[i]? = some v) (w : World) : (part t a i).run P w = .ok v w := by
  simp [part, run_isAgg h, aggD, hv]

theorem eqIn_two {P : Program} {t : TypeId} {f0 f1 : Field} {k0 k1 : IntKind} (hs : P.underlying t = some (.struct #[f0, f1])) (hst : P.stoodInHeld t = false) (n0 : f0.name ≠ "_") (n1 : f1.name ≠ "_") (o0 : f0.offset = 0) (o1 : f1.offset = 1)
    (h0 : P.underlying f0.type = some (.int k0)) (h1 : P.underlying f1.type = some (.int k1)) (d : Nat) (a b : IntKind) (x x' y y' : Int) (w : World) :
    (Op.equalIn (d + 2) t (.agg #[.int a x, .int b y]) (.agg #[.int a x', .int b y'])).run P w = .ok (x == x' && y == y') w := by
  have p0 := fun v u => run_part0 h0 #[.int a v, .int b u] 0 (.int a v) rfl w
  have p1 := fun v u => run_part0 h1 #[.int a v, .int b u] 1 (.int b u) rfl w
  have q0 := run_equalIn_int h0 d a x x' w
  have q1 := run_equalIn_int h1 d b y y' w
  rw [show d + 2 = (d + 1) + 1 from rfl]
  unfold Op.equalIn
  cases hx : x == x' <;> cases hy : y == y' <;> rw [hx] at q0 <;> rw [hy] at q1 <;> simp [run_underlying hs, hst, n0, n1, o0, o1, p0, p1, q0, q1]

theorem eq_two {P : Program} {t : TypeId} {f0 f1 : Field} {k0 k1 : IntKind} (hs : P.underlying t = some (.struct #[f0, f1])) (hst : P.stoodInHeld t = false) (n0 : f0.name ≠ "_") (n1 : f1.name ≠ "_") (o0 : f0.offset = 0) (o1 : f1.offset = 1)
    (h0 : P.underlying f0.type = some (.int k0)) (h1 : P.underlying f1.type = some (.int k1)) (hf : flatT P 8 t = [f0.type, f1.type]) (vs us : Array Value) (r : Bool) (w : World)
    (hv : kindV P (flatT P 8 t) vs.toList = true) (hu : kindV P (flatT P 8 t) us.toList = true) (he : eqVals vs.toList us.toList = some r) : (Op.equal t (.agg vs) (.agg us)).run P w = .ok r w := by
  rw [hf] at hv hu
  have hk : ∀ t ∈ [f0.type, f1.type], ∃ k, P.underlying t = some (.int k) := fun t ht => by
    simp at ht
    rcases ht with rfl | rfl
    · exact ⟨_, h0⟩
    · exact ⟨_, h1⟩
  obtain ⟨vl⟩ := vs
  obtain ⟨ul⟩ := us
  obtain ⟨l, hvl, hl⟩ := kindV_ints hk hv
  obtain ⟨m, hul, hm⟩ := kindV_ints hk hu
  match l, m, hl, hm with
  | [(a, x), (b, y)], [(a', x'), (b', y')], _, _ =>
    dsimp only at hvl hul he
    subst hvl hul
    simp only [List.map_cons, List.map_nil, eqVals] at he
    obtain ⟨ha, he⟩ := ite_some he
    replace he := bind_some' he
    obtain ⟨t1, ht1, he⟩ := he
    obtain ⟨hb, ht1⟩ := ite_some ht1
    simp only [Option.bind_some, Option.some.injEq, Bool.and_true] at ht1 he
    rw [← he, ← ht1, ha, hb]
    exact eqIn_two hs hst n0 n1 o0 o1 h0 h1 9998 a' b' x x' y y' w
end Go.Ab

namespace Go.Ab
open Go

/-- A context in which pages may be compared. -/
noncomputable def cxE (n : Nat) (root : Code) (Γ : FuncId → Option Callee) (Λ : Nat → Option LoopSem) (wr : Nat → Bool) : Cx :=
  { P := Go.Proofs.Try.prog, nt := n, Γ := Γ, Λ := Λ, un := fun _ => false, root := root, wr := wr, eqT := fun t => Nat.beq t 34 }

set_option maxRecDepth 100000 in
theorem eqOK_page {cx : Cx} (hP : cx.P = Go.Proofs.Try.prog) (h : cx.eqT = fun t => Nat.beq t 34) : EqOK cx := fun t ht => by
  rw [h] at ht
  have := beq_true ht
  subst this
  rw [hP]
  refine ⟨by kernel_rfl, fun vs us r w hv hu he => ?_⟩
  obtain ⟨f0, f1, h1, h2, h3, h4, h5, h6, h7, h8⟩ : ∃ f0 f1 : Field, Go.Proofs.Try.prog.underlying 34 = some (.struct #[f0, f1]) ∧ f0.name ≠ "_" ∧ f1.name ≠ "_" ∧ f0.offset = 0 ∧ f1.offset = 1 ∧ Go.Proofs.Try.prog.underlying f0.type = some (.int .i64) ∧
      Go.Proofs.Try.prog.underlying f1.type = some (.int .i64) ∧ flatT Go.Proofs.Try.prog 8 34 = [f0.type, f1.type] := ⟨_, _, Go.Proofs.Try.underlying34, by decide, by decide, rfl, rfl, by kernel_rfl, by kernel_rfl, by kernel_rfl⟩
  exact eq_two h1 (by kernel_rfl) h2 h3 h4 h5 h6 h7 h8 vs us r w hv hu he

/-- n pages that go on. -/
def eat : Nat → List Pg → Option (List Pg)
  | 0, ps => some ps
  | _ + 1, [] => none
  | n + 1, p :: ps => cond (p.1 == 3 && (p.2 == 0 && true)) (eat n ps) none
end Go.Ab

namespace Go.Ab
open Go

abbrev pathB : List Bool := [false, true, true, true, true, true, true, false, true, false, false, false, true, true, true]
noncomputable abbrev body14b : Code := (codeAt (bodyOf Go.Proofs.Try.f14) (false :: pathB)).getD .skip
def outs14b : Exit → List Nat := fun e => match e with | .ret => [2] | _ => [3, 0]

def loop14b : LoopSem := ⟨[3, 5, 0, 4], outs14b, fun vs cs _ K => match vs, cs with
  | [.int .i64 i, .int .i64 j, .sl 2 L, .ref 0], [[.int .i64 k, .int .i64 a]] => (decP L).bind fun ps => bif decide (j = 1) && decide (1 ≤ a) && decide (a ≤ 4) && decide (0 ≤ i) && decide (i ≤ ps.length) && Nat.ble ps.length SMALL then optE (eat (a - 1).toNat (ps.drop i.toNat)) (K .ret [.bool false] [[.int .i64 k, .int .i64 a]])
      (fun _ => K (.exit 2) [.int .i64 (i + (a - 1)), .sl 2 (ps.map encP)] [[.int .i64 k, .int .i64 a]]) else none
  | _, _ => none⟩

noncomputable def LB14b (cx : Cx) (L : List (List CV)) (k a : Int) (β : Type) (K : Exit → List CV → List (List CV) → Option β) (n : Nat) (i j : Int) : Option β :=
  loopB cx [3, 5, 0, 4] outs14b pathB body14b n [.int .i64 i, .int .i64 j, .sl 2 L, .ref 0] [[.int .i64 k, .int .i64 a]] K

noncomputable def cx14' (Λ : Nat → Option LoopSem) : Cx := cxE 80 (bodyOf Go.Proofs.Try.f14) Γ1 Λ (fun _ => false)

set_option maxRecDepth 100000 in
theorem step14b (Λ : Nat → Option LoopSem) (L : List (List CV)) (k a : Int) (β : Type) (K : Exit → List CV → List (List CV) → Option β) (n : Nat) (i j : Int) : LB14b (cx14' Λ) L k a β K (n + 1) i j =
    cond (decide (j < a)) (cond (decide (i ≥ (L.length : Int))) (K .ret [.bool false] [[.int .i64 k, .int .i64 a]])
      ((rdE L i).bind fun c => (c[0]?).bind fun x => (asI .i64 x).bind fun u => (c[1]?).bind fun x => (asI .i64 x).bind fun v =>
        cond (!(u == 3 && (v == 0 && true))) (K .ret [.bool false] [[.int .i64 k, .int .i64 a]]) (LB14b (cx14' Λ) L k a β K n (IntKind.i64.wrap (i + 1)) (IntKind.i64.wrap (j + 1)))))
      (K (.exit 2) [.int .i64 i, .sl 2 L] [[.int .i64 k, .int .i64 a]]) := by kernel_rfl
end Go.Ab

namespace Go.Ab
open Go

theorem loop14b_spec (Λ : Nat → Option LoopSem) (ps : List Pg) (k a : Int) (ha : a ≤ 4) (hs : ps.length ≤ SMALL) (β : Type) (K : Exit → List CV → List (List CV) → Option β) : ∀ (m i : Nat) (j : Int), 0 ≤ j → j ≤ a → (a - j).toNat = m → i ≤ ps.length →
    LB14b (cx14' Λ) (ps.map encP) k a β K (m + 1) i j = match eat m (ps.drop i) with
      | some _ => K (.exit 2) [.int .i64 (i + (a - j)), .sl 2 (ps.map encP)] [[.int .i64 k, .int .i64 a]]
      | none => K .ret [.bool false] [[.int .i64 k, .int .i64 a]] := by
  intro m
  have hS : SMALL = 1152921504606846976 := rfl
  induction m with
  | zero =>
    intro i j h0 hj hm hi
    have : j = a := by omega
    subst this
    rw [step14b]
    simp [eat]
  | succ m ih =>
    intro i j h0 hj hm hi
    have hlt : j < a := by omega
    rw [step14b]
    have e1 : decide (j < a) = true := by simpa using hlt
    rw [e1, cond_true]
    by_cases hl : i < ps.length
    · have e2 : decide ((i : Int) ≥ ((ps.map encP).length : Int)) = false := by simp; omega
      rw [e2, cond_false, rdE_map hl]
      have w1 : IntKind.i64.wrap ((i : Int) + 1) = ((i + 1 : Nat) : Int) := by rw [IntWalk.i64_in]; simp; omega
      have w2 : IntKind.i64.wrap (j + 1) = j + 1 := by rw [IntWalk.i64_in]; omega
      have hd : ps.drop i = ps[i] :: ps.drop (i + 1) := List.drop_eq_getElem_cons hl
      rw [hd]
      simp only [encP, List.getElem?_cons_zero, List.getElem?_cons_succ, Option.bind_some, asI, if_true, w1, w2, eat]
      cases hq : (ps[i].1 == 3 && (ps[i].2 == 0 && true)) with
      | false => rfl
      | true =>
        simp only [Bool.not_true, cond_false, cond_true]
        have := ih (i + 1) (j + 1) (by omega) (by omega) (by omega) (by omega)
        refine this.trans ?_
        have e3 : ((i + 1 : Nat) : Int) + (a - (j + 1)) = (i : Int) + (a - j) := by omega
        rw [e3]
    · have e2 : decide ((i : Int) ≥ ((ps.map encP).length : Int)) = true := by simp; omega
      have hi' : i = ps.length := by omega
      subst hi'
      rw [e2, cond_true]
      simp [eat]
end Go.Ab

namespace Go.Ab
open Go

abbrev pathA : List Bool := [false, false, true, true, true]
noncomputable abbrev body14a : Code := (codeAt (bodyOf Go.Proofs.Try.f14) (false :: pathA)).getD .skip
def outs14a : Exit → List Nat := fun e => match e with | .ret => [2] | _ => []

/-- How many pages are gone through at a time; none: they may not be. -/
def one14 (p : Pg) : Option Nat :=
  cond (p.1 == 0 && p.2 == 0) (some 0) (cond (p.1 == 1 && decide (p.2 ≥ 0) && decide (p.2 ≤ 2)) (some 0)
    (cond (p.1 != 2 || decide (p.2 < 1) || decide (p.2 > 4)) none (some (p.2 - 1).toNat)))

/-- Pages, from the first on, by large objects; n: how many at most. -/
def mayR : Nat → List Pg → Bool
  | _, [] => true
  | 0, _ :: _ => false
  | n + 1, p :: ps => match one14 p with
    | none => false
    | some k => match eat k ps with
      | none => false
      | some rest => mayR n rest
end Go.Ab

namespace Go.Ab
open Go

noncomputable def cxM (Λ : Nat → Option LoopSem) : Cx := cx14' fun q => bif Nat.beq q 61822 then some loop14b else Λ q

noncomputable def LB14a (Λ : Nat → Option LoopSem) (L : List (List CV)) (β : Type) (K : Exit → List CV → List (List CV) → Option β) (n : Nat) (i : Int) : Option β :=
  loopB (cxM Λ) [3, 0] outs14a pathA body14a n [.int .i64 i, .sl 2 L] [] K

/-- A large object, from the page behind its first on. -/
noncomputable def big14 (L : List (List CV)) (i a b : Int) (β : Type) (K : Exit → List CV → List (List CV) → Option β) (go : Int → List (List CV) → Option β) : Option β :=
  cond (a != 2) (K .ret [.bool false] []) (cond (decide (b < 1)) (K .ret [.bool false] []) (cond (decide (b > 4)) (K .ret [.bool false] [])
    ((decP L).bind fun ps => cond (true && decide (1 ≤ b) && decide (b ≤ 4) && decide (0 ≤ IntKind.i64.wrap (i + 1)) && decide (IntKind.i64.wrap (i + 1) ≤ (ps.length : Int)) && Nat.ble ps.length SMALL)
      (optE (eat (b - 1).toNat (ps.drop (IntKind.i64.wrap (i + 1)).toNat)) (K .ret [.bool false] []) fun _ => go (IntKind.i64.wrap (i + 1) + (b - 1)) (ps.map encP)) none)))

set_option maxRecDepth 100000 in
theorem step14a (Λ : Nat → Option LoopSem) (L : List (List CV)) (β : Type) (K : Exit → List CV → List (List CV) → Option β) (n : Nat) (i : Int) : LB14a Λ L β K (n + 1) i =
    cond (decide (i < (L.length : Int))) ((rdE L i).bind fun c => (c[0]?).bind fun x => (asI .i64 x).bind fun a => (c[1]?).bind fun x => (asI .i64 x).bind fun b =>
      cond (a == 0) (cond (b == 0) (LB14a Λ L β K n (IntKind.i64.wrap (i + 1)))
          (cond (a == 1) (cond (decide (b ≥ 0)) (cond (decide (b ≤ 2)) (LB14a Λ L β K n (IntKind.i64.wrap (i + 1))) (big14 L i a b β K fun i L => LB14a Λ L β K n i)) (big14 L i a b β K fun i L => LB14a Λ L β K n i)) (big14 L i a b β K fun i L => LB14a Λ L β K n i)))
        (cond (a == 1) (cond (decide (b ≥ 0)) (cond (decide (b ≤ 2)) (LB14a Λ L β K n (IntKind.i64.wrap (i + 1))) (big14 L i a b β K fun i L => LB14a Λ L β K n i)) (big14 L i a b β K fun i L => LB14a Λ L β K n i)) (big14 L i a b β K fun i L => LB14a Λ L β K n i)))
      (K (.exit 0) [] []) := by kernel_rfl
end Go.Ab

namespace Go.Ab
open Go

theorem eat_len : ∀ (k : Nat) (ps rest : List Pg), eat k ps = some rest → rest = ps.drop k ∧ k ≤ ps.length
  | 0, ps, rest, h => by
    simp only [eat, Option.some.injEq] at h
    exact ⟨by simp [h], Nat.zero_le _⟩
  | k + 1, [], rest, h => by simp [eat] at h
  | k + 1, p :: ps, rest, h => by
    simp only [eat] at h
    replace h := cond_some h
    obtain ⟨_, h⟩ := h
    obtain ⟨h1, h2⟩ := eat_len k ps rest h
    exact ⟨by simp [h1], by simp; omega⟩

theorem loop14a_spec (Λ : Nat → Option LoopSem) (ps : List Pg) (hs : ps.length + 8 ≤ SMALL) (β : Type) (K : Exit → List CV → List (List CV) → Option β) : ∀ (m i : Nat), ps.length - i ≤ m → i ≤ ps.length →
    LB14a Λ (ps.map encP) β K (m + 1) i = cond (mayR m (ps.drop i)) (K (.exit 0) [] []) (K .ret [.bool false] []) := by
  intro m
  have hS : SMALL = 1152921504606846976 := rfl
  have fin : ∀ (m i : Nat), i = ps.length → LB14a Λ (ps.map encP) β K (m + 1) i = cond (mayR m (ps.drop i)) (K (.exit 0) [] []) (K .ret [.bool false] []) := fun m i hi => by
    subst hi
    rw [step14a]
    cases m <;> simp [mayR]
  induction m with
  | zero => exact fun i hn hi => fin 0 i (by omega)
  | succ m ih =>
    intro i hn hi
    by_cases hl : i < ps.length
    · rw [step14a]
      have e1 : decide ((i : Int) < ((ps.map encP).length : Int)) = true := by simp; omega
      rw [e1, cond_true, rdE_map hl]
      have w1 : IntKind.i64.wrap ((i : Int) + 1) = ((i + 1 : Nat) : Int) := by rw [IntWalk.i64_in]; simp; omega
      have hd : ps.drop i = ps[i] :: ps.drop (i + 1) := List.drop_eq_getElem_cons hl
      rw [hd]
      generalize hp : ps[i] = p
      obtain ⟨a, b⟩ := p
      have IH := ih (i + 1) (by omega) (by omega)
      have hbig : ∀ L', L' = ps.map encP → big14 L' i a b β K (fun i L => LB14a Λ L β K (m + 1) i) = cond (a != 2 || decide (b < 1) || decide (b > 4)) (K .ret [.bool false] [])
          (match eat (b - 1).toNat (ps.drop (i + 1)) with
            | none => K .ret [.bool false] []
            | some rest => cond (mayR m rest) (K (.exit 0) [] []) (K .ret [.bool false] [])) := fun L' hL' => by
        subst hL'
        unfold big14
        cases h2 : a != 2 with
        | true => rfl
        | false =>
          cases h3 : decide (b < 1) with
          | true => rfl
          | false =>
            cases h4 : decide (b > 4) with
            | true => rfl
            | false =>
              simp at h3 h4
              simp only [cond_false, Bool.or_false, decP_map, Option.bind_some, w1]
              have hc : (true && decide (1 ≤ b) && decide (b ≤ 4) && decide (0 ≤ ((i + 1 : Nat) : Int)) && decide (((i + 1 : Nat) : Int) ≤ (ps.length : Int)) && Nat.ble ps.length SMALL) = true := by
                have : Nat.ble ps.length SMALL = true := Nat.ble_eq_true_of_le (by omega)
                simp [this]
                omega
              rw [hc, cond_true, Int.toNat_natCast]
              unfold optE
              cases he : eat (b - 1).toNat (ps.drop (i + 1)) with
              | none => rfl
              | some rest =>
                obtain ⟨hr, hk⟩ := eat_len _ _ _ he
                have e3 : ((i + 1 : Nat) : Int) + (b - 1) = ((i + 1 + (b - 1).toNat : Nat) : Int) := by omega
                have hle : i + 1 + (b - 1).toNat ≤ ps.length := by simp at hk; omega
                dsimp only
                rw [e3, ih _ (by omega) hle, hr, List.drop_drop]
      simp only [encP, List.getElem?_cons_zero, List.getElem?_cons_succ, Option.bind_some, asI, if_true, w1, IH, hbig _ rfl, mayR, one14]
      cases h0 : a == 0 <;> cases hb0 : b == 0 <;> cases h1 : a == 1 <;> cases hb1 : decide (b ≥ 0) <;> cases hb2 : decide (b ≤ 2) <;> cases hq : (a != 2 || decide (b < 1) || decide (b > 4)) <;>
        simp [eat] <;> first | rfl | (cases eat (b.toNat - 1) (ps.drop (i + 1)) <;> rfl)
    · exact fin (m + 1) i (by omega)
end Go.Ab

namespace Go.Ab
open Go

theorem mayGo_eat : ∀ (r : Nat) (ps : List Pg), (mayGo r ps == some 0) = match eat r ps with | some rest => (mayGo 0 rest == some 0) | none => false
  | 0, ps => rfl
  | r + 1, [] => by
    have h : ¬ ((r : Int) + 1 = 0) := by omega
    simp [mayGo, eat, h]
  | r + 1, p :: ps => by
    have ih := mayGo_eat r ps
    have h0 : (((r + 1 : Nat) : Int) == 0) = false := beq_false_of_ne (by omega)
    have h1 : decide (((r + 1 : Nat) : Int) > 0) = true := decide_eq_true (by omega)
    have h2 : ((r + 1 : Nat) : Int) - 1 = (r : Int) := by omega
    simp only [mayGo, eat, h0, h1, h2, cond_false, cond_true]
    cases p.1 == 3 with
    | true =>
      simp only [cond_true, Bool.true_and, Bool.and_true]
      cases h : p.2 == 0 with
      | true => simp only [bne, h, Bool.not_true, cond_false, cond_true]; exact ih
      | false => simp [bne, h]
    | false =>
      simp only [cond_false, Bool.false_and]
      cases p.1 == 0 <;> cases p.1 == 1 <;> cases p.1 == 2 <;> cases p.2 != 0 <;> cases (bif decide (p.2 ≥ 0) then decide (p.2 ≤ 2) else false) <;> cases (bif decide (p.2 ≥ 1) then decide (p.2 ≤ 4) else false) <;> rfl

theorem mayR_iff : ∀ (n : Nat) (ps : List Pg), ps.length ≤ n → mayR n ps = (mayGo 0 ps == some 0)
  | n, [], _ => by cases n <;> rfl
  | 0, _ :: _, h => by simp at h
  | n + 1, (a, b) :: ps, h => by
    have hl : ps.length ≤ n := by simpa using h
    simp only [mayR, mayGo, one14]
    by_cases h3 : a = 3
    · subst h3
      rfl
    · have e3 : (a == 3) = false := by simpa using h3
      by_cases h0 : a = 0
      · subst h0
        by_cases hb : b = 0
        · subst hb
          exact mayR_iff n ps hl
        · have eb : (b == 0) = false := by simpa using hb
          simp only [bne, eb]
          rfl
      · have e0 : (a == 0) = false := by simpa using h0
        by_cases h1 : a = 1
        · subst h1
          by_cases hb : 0 ≤ b ∧ b ≤ 2
          · obtain ⟨hb1, hb2⟩ := hb
            have d1 : decide (b ≥ 0) = true := by simpa using hb1
            have d2 : decide (b ≤ 2) = true := by simpa using hb2
            simp only [d1, d2]
            exact mayR_iff n ps hl
          · have hb' : (decide (b ≥ 0) && decide (b ≤ 2)) = false := by simpa using hb
            have h' : (bif decide (b ≥ 0) then decide (b ≤ 2) else false) = false := by
              cases h : decide (b ≥ 0) <;> simp [h] at hb' ⊢
              exact hb'
            simp only [h', Bool.and_assoc, hb']
            rfl
        · have e1 : (a == 1) = false := by simpa using h1
          by_cases h2 : a = 2
          · subst h2
            by_cases hb : 1 ≤ b ∧ b ≤ 4
            · obtain ⟨hb1, hb2⟩ := hb
              have e1 : b - 1 = ((b - 1).toNat : Int) := by omega
              have hg := mayGo_eat (b - 1).toNat ps
              rw [← e1] at hg
              have d1 : decide (b < 1) = false := by simp; omega
              have d2 : decide (b > 4) = false := by simp; omega
              have d3 : decide (b ≥ 1) = true := by simp; omega
              have d4 : decide (b ≤ 4) = true := by simp; omega
              simp only [d1, d2, d3, d4]
              refine Eq.trans ?_ hg.symm
              show (match eat (b - 1).toNat ps with | none => false | some rest => mayR n rest) = _
              cases he : eat (b - 1).toNat ps with
              | none => rfl
              | some rest =>
                obtain ⟨hr, _⟩ := eat_len _ _ _ he
                exact mayR_iff n rest (by rw [hr, List.length_drop]; omega)
            · have h' : (bif decide (b ≥ 1) then decide (b ≤ 4) else false) = false := by
                by_cases h : 1 ≤ b <;> simp [h]
                omega
              have h2 : (decide (b < 1) || decide (b > 4)) = true := by simp; omega
              simp only [h', Bool.or_assoc, h2]
              rfl
          · have e2 : (a == 2) = false := by simpa using h2
            simp only [e0, e1, e2, e3, bne]
            rfl

theorem may_eq (ps : List Pg) : may ps = cond (decide ((ps.length : Int) < 1)) false (cond (decide ((ps.length : Int) > 64)) false (mayR ps.length ps)) := by
  rw [mayR_iff _ _ (Nat.le_refl _)]
  unfold may
  have key : ∀ b : Bool, (match mayGo 0 ps with
    | some r => bif r == 0 then b else false
    | none => false) = (b && (mayGo 0 ps == some 0)) := fun b => by
    cases mayGo 0 ps with
    | none => simp
    | some r => cases hr : r == 0 <;> simp [hr]
  refine (key _).trans ?_
  by_cases h1 : (ps.length : Int) ≥ 1 <;> by_cases h2 : (ps.length : Int) ≤ 64
  · have e1 : ¬ ((ps.length : Int) < 1) := by omega
    have e2 : ¬ ((ps.length : Int) > 64) := by omega
    simp only [h1, h2, e1, e2, decide_true, decide_false, cond_true, cond_false, Bool.true_and]
  · have e1 : ¬ ((ps.length : Int) < 1) := by omega
    have e2 : ((ps.length : Int) > 64) := by omega
    simp only [h1, h2, e1, e2, decide_true, decide_false, cond_true, cond_false, Bool.false_and]
  · have e1 : ((ps.length : Int) < 1) := by omega
    simp only [h1, h2, e1, decide_true, decide_false, cond_true, cond_false, Bool.false_and]
  · have e1 : ((ps.length : Int) < 1) := by omega
    simp only [h1, h2, e1, decide_true, decide_false, cond_true, cond_false, Bool.false_and]
end Go.Ab

namespace Go.Ab
open Go

def loop14a : LoopSem := ⟨[3, 0], outs14a, fun vs cs _ K => match vs, cs with
  | [.int .i64 i, .sl 2 L], [] => (decP L).bind fun ps => bif decide (i = 0) && Nat.ble ps.length 200 then cond (mayR ps.length ps) (K (.exit 0) [] []) (K .ret [.bool false] []) else none
  | _, _ => none⟩

def Λ14 : Nat → Option LoopSem := fun q => bif Nat.beq q 61822 then some loop14b else bif Nat.beq q 60 then some loop14a else none
noncomputable def cx14 : Cx := cx14' Λ14

theorem cx14_eq : cx14 = cxM fun q => bif Nat.beq q 60 then some loop14a else none := rfl

theorem loop14a_nat : NatL loop14a := fun vs cs => by
  unfold loop14a
  dsimp only
  split
  · exact .bind _ fun _ => .cond _ (.cond _ (.ret _ _ _) (.ret _ _ _)) .none
  · exact .none

theorem loop14b_nat : NatL loop14b := fun vs cs => by
  unfold loop14b
  dsimp only
  split
  · exact .bind _ fun _ => .cond _ (.optE (.ret _ _ _) fun _ => .ret _ _ _) .none
  · exact .none

theorem nat14 : ∀ q L, cx14.Λ q = some L → NatL L := fun q L h => by
  replace h : Λ14 q = some L := h
  unfold Λ14 at h
  cases h1 : Nat.beq q 61822 with
  | true => rw [h1] at h; obtain rfl := Option.some.inj h; exact loop14b_nat
  | false => rw [h1] at h; obtain ⟨_, rfl⟩ := cond_some2 h; exact loop14a_nat

theorem loops14 : LoopsS cx14 := .of fun k L h => by
  have hS : SMALL = 1152921504606846976 := rfl
  replace h : Λ14 k = some L := h
  unfold Λ14 at h
  cases h1 : Nat.beq k 61822 with
  | true =>
    rw [h1] at h
    obtain rfl := Option.some.inj h
    refine ⟨pathB, beq_true h1, fun vs cs β K r hr => ?_⟩
    unfold loop14b at hr
    dsimp only at hr
    split at hr
    · rename_i i j L k a
      replace hr := bind_some' hr
      obtain ⟨ps, hps, hr⟩ := hr
      replace hr := cond_some hr
      obtain ⟨hb, hr⟩ := hr
      simp only [Bool.and_eq_true, decide_eq_true_eq] at hb
      obtain ⟨⟨⟨⟨⟨rfl, ha⟩, ha4⟩, hi⟩, hil⟩, hs⟩ := hb
      have hs := Nat.le_of_ble_eq_true hs
      rw [decP_enc hps]
      refine ⟨(a - 1).toNat + 1, ?_⟩
      have := loop14b_spec Λ14 ps k a ha4 hs β K (a - 1).toNat i.toNat 1 (by omega) (by omega) rfl (by omega)
      rw [Int.toNat_of_nonneg hi] at this
      refine this.trans (Eq.trans ?_ hr)
      unfold optE
      cases eat (a - 1).toNat (ps.drop i.toNat) <;> rfl
    · cases hr
  | false =>
    rw [h1] at h
    obtain ⟨hk, rfl⟩ := cond_some2 h
    refine ⟨pathA, beq_true hk, fun vs cs β K r hr => ?_⟩
    unfold loop14a at hr
    dsimp only at hr
    split at hr
    · rename_i i L
      replace hr := bind_some' hr
      obtain ⟨ps, hps, hr⟩ := hr
      replace hr := cond_some hr
      obtain ⟨hb, hr⟩ := hr
      simp only [Bool.and_eq_true, decide_eq_true_eq] at hb
      obtain ⟨rfl, hs⟩ := hb
      have hs := Nat.le_of_ble_eq_true hs
      rw [decP_enc hps]
      refine ⟨ps.length + 1, ?_⟩
      have := loop14a_spec (fun q => bif Nat.beq q 60 then some loop14a else none) ps (by omega) β K ps.length 0 (by omega) (by omega)
      rw [List.drop_zero] at this
      exact this.trans hr
    · cases hr

/-- May pages be? -/
def gMayS : Callee := ⟨fun args conts _ K => match args, conts with
  | [.sl 2 L], [] => (decP L).bind fun ps => bif Nat.ble ps.length 200 then K (.bool (may ps)) [] else none
  | _, _ => none⟩

theorem mayS_nat : NatC gMayS := fun args conts => by
  unfold gMayS
  dsimp only
  split
  · exact .bind _ fun _ => .cond _ (.ret _ _) .none
  · exact .none

theorem mayS13 : SoundC Go.Proofs.Try.prog 13 gMayS := SoundC.of may_sound fun args conts β K r h => by
  have hS : SMALL = 1152921504606846976 := rfl
  unfold gMayS at h
  dsimp only at h
  split at h
  · replace h := bind_some' h
    obtain ⟨ps, hps, h⟩ := h
    replace h := cond_some h
    obtain ⟨hs, h⟩ := h
    have hs := Nat.le_of_ble_eq_true hs
    have h2 : Nat.ble ps.length SMALL = true := Nat.ble_eq_true_of_le (by omega)
    simp only [gMay, hps, Option.bind_some, h2, cond_true]
    exact h
  · cases h

set_option maxRecDepth 100000 in
theorem step14f (L : List (List CV)) (β : Type) (K : CV → List (List CV) → Option β) : fnK cx14 Go.Proofs.Try.f14 [.sl 2 L] [] K =
    cond (decide ((L.length : Int) < 1)) (K (.bool false) []) (cond (decide ((L.length : Int) > 64)) (K (.bool false) [])
      ((decP L).bind fun ps => bif true && Nat.ble ps.length 200 then cond (mayR ps.length ps) (K (.bool true) []) (K (.bool false) []) else none)) := by kernel_rfl

theorem mayS14 : SoundC Go.Proofs.Try.prog 14 gMayS :=
  SoundC.of (fnSound (cx := cx14) (fn := Go.Proofs.Try.f14) Γ1_sound Γ1_nat (eqOK_page rfl rfl) loops14 nat14
    Go.Proofs.Try.func14 (by kernel_rfl) (by kernel_rfl) (by kernel_rfl) (Nat.le_of_ble_eq_true (by kernel_rfl)))
    fun args conts β K r h => by
      unfold gMayS at h
      dsimp only at h
      split at h
      · rename_i L
        replace h := bind_some' h
        obtain ⟨ps, hps, h⟩ := h
        replace h := cond_some h
        obtain ⟨hs, h⟩ := h
        rw [fnC_run, step14f, hps]
        simp only [Option.bind_some, decP_len hps, hs, Bool.and_self, cond_true, ← h, may_eq]
        cases decide ((ps.length : Int) < 1) <;> cases decide ((ps.length : Int) > 64) <;> cases mayR ps.length ps <;> rfl
      · cases h
end Go.Ab

namespace Go.Ab
open Go

def gCountS : Callee := ⟨fun args conts _ K => match args, conts with
  | [.sl 2 L, .int .i64 k], [] => (decP L).bind fun ps => bif Nat.ble ps.length 200 then K (.int .i64 (cnt ps k)) [] else none
  | _, _ => none⟩

theorem countS_nat : NatC gCountS := fun args conts => by
  unfold gCountS
  dsimp only
  split
  · exact .bind _ fun _ => .cond _ (.ret _ _) .none
  · exact .none

theorem countS15 : SoundC Go.Proofs.Try.prog 15 gCountS := SoundC.of count_sound fun args conts β K r h => by
  have hS : SMALL = 1152921504606846976 := rfl
  unfold gCountS at h
  dsimp only at h
  split at h
  · replace h := bind_some' h
    obtain ⟨ps, hps, h⟩ := h
    replace h := cond_some h
    obtain ⟨hs, h⟩ := h
    have hs := Nat.le_of_ble_eq_true hs
    have h2 : Nat.ble ps.length SMALL = true := Nat.ble_eq_true_of_le (by omega)
    simp only [gCount, hps, Option.bind_some, h2, cond_true]
    exact h
  · cases h

abbrev path16 : List Bool := [false, true, false, true, true]
noncomputable abbrev body16 : Code := (codeAt (bodyOf Go.Proofs.Try.f16) (false :: path16)).getD .skip
def outs16 : Exit → List Nat := fun _ => [5]

def loop16 : LoopSem := ⟨[5, 6, 0, 1], outs16, fun vs cs _ K => match vs, cs with
  | [.int .i64 m, .int .i64 i, .sl 2 L, .int .i64 k], [] => (decP L).bind fun ps => bif decide (m = 0) && decide (i = 0) && Nat.ble ps.length 200 then K (.exit 0) [.int .i64 (cnt ps k)] [] else none
  | _, _ => none⟩

noncomputable def cx16 : Cx := cxP 23 (bodyOf Go.Proofs.Try.f16) (fun _ => none) (fun q => bif Nat.beq q 58 then some loop16 else none) (fun _ => false)

set_option maxRecDepth 100000 in
theorem step16 (n : Nat) (L : List (List CV)) (m i k : Int) (β : Type) (K : Exit → List CV → List (List CV) → Option β) :
    loopB cx16 [5, 6, 0, 1] outs16 path16 body16 (n + 1) [.int .i64 m, .int .i64 i, .sl 2 L, .int .i64 k] [] K =
    cond (decide (i < (L.length : Int))) ((rdE L i).bind fun c => (c[0]?).bind fun x => (asI .i64 x).bind fun a =>
      cond (a == k)
        (loopB cx16 [5, 6, 0, 1] outs16 path16 body16 n [.int .i64 (IntKind.i64.wrap (m + 1)), .int .i64 (IntKind.i64.wrap (i + 1)), .sl 2 L, .int .i64 k] [] K)
        (loopB cx16 [5, 6, 0, 1] outs16 path16 body16 n [.int .i64 m, .int .i64 (IntKind.i64.wrap (i + 1)), .sl 2 L, .int .i64 k] [] K))
      (K (.exit 0) [.int .i64 m] []) := by kernel_rfl

theorem loop16_spec (ps : List Pg) (k : Int) (hs : ps.length ≤ 200) (β : Type) (K : Exit → List CV → List (List CV) → Option β) : ∀ (n i : Nat) (m : Nat), ps.length - i ≤ n → i ≤ ps.length → m ≤ i →
    loopB cx16 [5, 6, 0, 1] outs16 path16 body16 (n + 1) [.int .i64 m, .int .i64 i, .sl 2 (ps.map encP), .int .i64 k] [] K = K (.exit 0) [.int .i64 (m + cnt (ps.drop i) k : Nat)] [] := by
  intro n
  have fin : ∀ (n i m : Nat), i = ps.length → loopB cx16 [5, 6, 0, 1] outs16 path16 body16 (n + 1) [.int .i64 m, .int .i64 i, .sl 2 (ps.map encP), .int .i64 k] [] K = K (.exit 0) [.int .i64 (m + cnt (ps.drop i) k : Nat)] [] := fun n i m hi => by
    subst hi
    rw [step16]
    simp [cnt]
  induction n with
  | zero => exact fun i m hn hi hm => fin 0 i m (by omega)
  | succ n ih =>
    intro i m hn hi hm
    by_cases hl : i < ps.length
    · rw [step16]
      have e1 : decide ((i : Int) < ((ps.map encP).length : Int)) = true := by simp; omega
      rw [e1, cond_true, rdE_map hl]
      have w1 : IntKind.i64.wrap ((i : Int) + 1) = ((i + 1 : Nat) : Int) := by rw [IntWalk.i64_in]; simp; omega
      have w2 : IntKind.i64.wrap ((m : Int) + 1) = ((m + 1 : Nat) : Int) := by rw [IntWalk.i64_in]; simp; omega
      have hd : ps.drop i = ps[i] :: ps.drop (i + 1) := List.drop_eq_getElem_cons hl
      have hc : cnt (ps.drop i) k = (if ps[i].1 == k then 1 else 0) + cnt (ps.drop (i + 1)) k := by
        rw [hd]
        simp only [cnt, List.filter_cons]
        split <;> simp <;> omega
      simp only [encP, List.getElem?_cons_zero, Option.bind_some, asI, if_true, w1, w2]
      cases hk : ps[i].1 == k with
      | true =>
        rw [cond_true, ih (i + 1) (m + 1) (by omega) (by omega) (by omega), hc, hk]
        simp only [if_true]
        congr 4
        omega
      | false =>
        rw [cond_false, ih (i + 1) m (by omega) (by omega) (by omega), hc, hk]
        simp
    · exact fin (n + 1) i m (by omega)

theorem loop16_nat : NatL loop16 := fun vs cs => by
  unfold loop16
  dsimp only
  split
  · exact .bind _ fun _ => .cond _ (.ret _ _ _) .none
  · exact .none

theorem loops16 : LoopsS cx16 := .of fun k L h => by
  obtain ⟨hk, rfl⟩ := cond_some2 h
  refine ⟨path16, beq_true hk, fun vs cs β K r hr => ?_⟩
  unfold loop16 at hr
  dsimp only at hr
  split at hr
  · rename_i m i L k
    replace hr := bind_some' hr
    obtain ⟨ps, hps, hr⟩ := hr
    replace hr := cond_some hr
    obtain ⟨hb, hr⟩ := hr
    simp only [Bool.and_eq_true, decide_eq_true_eq] at hb
    obtain ⟨⟨rfl, rfl⟩, hs⟩ := hb
    have hs := Nat.le_of_ble_eq_true hs
    rw [decP_enc hps]
    refine ⟨ps.length + 1, ?_⟩
    have := loop16_spec ps k hs β K ps.length 0 0 (by omega) (by omega) (by omega)
    simp only [List.drop_zero, Nat.zero_add] at this
    exact this.trans hr
  · cases hr

set_option maxRecDepth 100000 in
theorem step16f (L : List (List CV)) (k : Int) (β : Type) (K : CV → List (List CV) → Option β) : fnK cx16 Go.Proofs.Try.f16 [.sl 2 L, .int .i64 k] [] K =
    (decP L).bind fun ps => bif true && true && Nat.ble ps.length 200 then K (.int .i64 (cnt ps k)) [] else none := by kernel_rfl

theorem countS16 : SoundC Go.Proofs.Try.prog 16 gCountS :=
  SoundC.of (fnSound (cx := cx16) (fn := Go.Proofs.Try.f16) (fun f g h => by cases h) (fun f g h => by cases h) (eqOK_none fun _ => rfl) loops16 (fun q L h => by obtain ⟨_, rfl⟩ := cond_some2 h; exact loop16_nat)
    Go.Proofs.Try.func16 (by kernel_rfl) (by kernel_rfl) (by kernel_rfl) (Nat.le_of_ble_eq_true (by kernel_rfl)))
    fun args conts β K r h => by
      unfold gCountS at h
      dsimp only at h
      split at h
      · rename_i L k
        replace h := bind_some' h
        obtain ⟨ps, hps, h⟩ := h
        replace h := cond_some h
        obtain ⟨hs, h⟩ := h
        rw [fnC_run, step16f, hps]
        simp only [Option.bind_some, hs, Bool.and_self, cond_true]
        exact h
      · cases h
end Go.Ab

namespace Go.Ab
open Go

/-- Are the first n pages free? -/
def allFree : Nat → List Pg → Bool
  | 0, _ => true
  | _ + 1, [] => false
  | n + 1, p :: ps => cond (p.1 == 0) (allFree n ps) false

abbrev path25 : List Bool := [false, true, false, true]
noncomputable abbrev body25 : Code := (codeAt (bodyOf Go.Proofs.Try.f25) (false :: path25)).getD .skip
def outs25 : Exit → List Nat := fun e => match e with | .ret => [6] | _ => []

def gFree : Callee := ⟨fun args conts _ K => match args, conts with
  | [.sl 2 L, .int .i64 a, .int .i64 n], [] => (decP L).bind fun ps => bif decide (0 ≤ a) && decide (0 ≤ n) && decide (a + n ≤ (ps.length : Int)) && Nat.ble ps.length 200 then K (.bool (allFree n.toNat (ps.drop a.toNat))) [] else none
  | _, _ => none⟩

def loop25 : LoopSem := ⟨[7, 1, 2, 0], outs25, fun vs cs _ K => match vs, cs with
  | [.int .i64 i, .int .i64 a, .int .i64 n, .sl 2 L], [] => (decP L).bind fun ps => bif decide (i = a) && decide (0 ≤ a) && decide (0 ≤ n) && decide (a + n ≤ (ps.length : Int)) && Nat.ble ps.length 200 then cond (allFree n.toNat (ps.drop a.toNat)) (K (.exit 0) [] []) (K .ret [.bool false] []) else none
  | _, _ => none⟩

noncomputable def cx25 : Cx := cxP 22 (bodyOf Go.Proofs.Try.f25) (fun _ => none) (fun q => bif Nat.beq q 26 then some loop25 else none) (fun _ => false)

noncomputable def LB25 (L : List (List CV)) (a n : Int) (β : Type) (K : Exit → List CV → List (List CV) → Option β) (m : Nat) (i : Int) : Option β :=
  loopB cx25 [7, 1, 2, 0] outs25 path25 body25 m [.int .i64 i, .int .i64 a, .int .i64 n, .sl 2 L] [] K

set_option maxRecDepth 100000 in
theorem step25 (L : List (List CV)) (a n : Int) (β : Type) (K : Exit → List CV → List (List CV) → Option β) (m : Nat) (i : Int) : LB25 L a n β K (m + 1) i =
    cond (decide (i < IntKind.i64.wrap (a + n))) ((rdE L i).bind fun c => (c[0]?).bind fun x => (asI .i64 x).bind fun k =>
      cond (k != 0) (K .ret [.bool false] []) (LB25 L a n β K m (IntKind.i64.wrap (i + 1))))
      (K (.exit 0) [] []) := by kernel_rfl

theorem loop25_spec (ps : List Pg) (a n : Nat) (hn : a + n ≤ ps.length) (hs : ps.length ≤ 200) (β : Type) (K : Exit → List CV → List (List CV) → Option β) : ∀ (m i : Nat), i ≤ a + n → a + n - i = m →
    LB25 (ps.map encP) a n β K (m + 1) i = cond (allFree m (ps.drop i)) (K (.exit 0) [] []) (K .ret [.bool false] []) := by
  intro m
  have w0 : IntKind.i64.wrap ((a : Int) + n) = ((a + n : Nat) : Int) := by rw [IntWalk.i64_in]; simp; omega
  induction m with
  | zero =>
    intro i hi hm
    have : i = a + n := by omega
    subst this
    rw [step25, w0]
    simp [allFree]
  | succ m ih =>
    intro i hi hm
    rw [step25, w0]
    have hl : i < ps.length := by omega
    have e1 : decide ((i : Int) < ((a + n : Nat) : Int)) = true := by simp; omega
    rw [e1, cond_true, rdE_map hl]
    have w1 : IntKind.i64.wrap ((i : Int) + 1) = ((i + 1 : Nat) : Int) := by rw [IntWalk.i64_in]; simp; omega
    have hd : ps.drop i = ps[i] :: ps.drop (i + 1) := List.drop_eq_getElem_cons hl
    rw [hd]
    simp only [encP, List.getElem?_cons_zero, Option.bind_some, asI, if_true, w1, allFree]
    rw [ih (i + 1) (by omega) (by omega)]
    cases h : ps[i].1 == 0 <;> simp [bne, h]

theorem loop25_nat : NatL loop25 := fun vs cs => by
  unfold loop25
  dsimp only
  split
  · exact .bind _ fun _ => .cond _ (.cond _ (.ret _ _ _) (.ret _ _ _)) .none
  · exact .none

theorem free_nat : NatC gFree := fun args conts => by
  unfold gFree
  dsimp only
  split
  · exact .bind _ fun _ => .cond _ (.ret _ _) .none
  · exact .none

theorem loops25 : LoopsS cx25 := .of fun k L h => by
  obtain ⟨hk, rfl⟩ := cond_some2 h
  refine ⟨path25, beq_true hk, fun vs cs β K r hr => ?_⟩
  unfold loop25 at hr
  dsimp only at hr
  split at hr
  · rename_i i a n L
    replace hr := bind_some' hr
    obtain ⟨ps, hps, hr⟩ := hr
    replace hr := cond_some hr
    obtain ⟨hb, hr⟩ := hr
    simp only [Bool.and_eq_true, decide_eq_true_eq] at hb
    obtain ⟨⟨⟨⟨rfl, ha⟩, hn⟩, hl⟩, hs⟩ := hb
    have hs := Nat.le_of_ble_eq_true hs
    rw [decP_enc hps]
    refine ⟨n.toNat + 1, ?_⟩
    have := loop25_spec ps i.toNat n.toNat (by omega) hs β K n.toNat i.toNat (by omega) (by omega)
    rw [Int.toNat_of_nonneg ha, Int.toNat_of_nonneg hn] at this
    exact this.trans hr
  · cases hr

set_option maxRecDepth 100000 in
theorem step25f (L : List (List CV)) (a n : Int) (β : Type) (K : CV → List (List CV) → Option β) : fnK cx25 Go.Proofs.Try.f25 [.sl 2 L, .int .i64 a, .int .i64 n] [] K =
    (decP L).bind fun ps => bif decide (a = a) && decide (0 ≤ a) && decide (0 ≤ n) && decide (a + n ≤ (ps.length : Int)) && Nat.ble ps.length 200 then cond (allFree n.toNat (ps.drop a.toNat)) (K (.bool true) []) (K (.bool false) []) else none := by kernel_rfl

theorem free25 : SoundC Go.Proofs.Try.prog 25 gFree :=
  SoundC.of (fnSound (cx := cx25) (fn := Go.Proofs.Try.f25) (fun f g h => by cases h) (fun f g h => by cases h) (eqOK_none fun _ => rfl) loops25 (fun q L h => by obtain ⟨_, rfl⟩ := cond_some2 h; exact loop25_nat)
    Go.Proofs.Try.func25 (by kernel_rfl) (by kernel_rfl) (by kernel_rfl) (Nat.le_of_ble_eq_true (by kernel_rfl)))
    fun args conts β K r h => by
      unfold gFree at h
      dsimp only at h
      split at h
      · rename_i L a n
        replace h := bind_some' h
        obtain ⟨ps, hps, h⟩ := h
        replace h := cond_some h
        obtain ⟨hs, h⟩ := h
        rw [fnC_run, step25f, hps]
        simp only [Option.bind_some, hs, decide_true, Bool.true_and, cond_true, ← h]
        cases allFree n.toNat (ps.drop a.toNat) <;> rfl
      · cases h
end Go.Ab

namespace Go.Ab
open Go

def gClone : Callee := ⟨fun args conts _ K => match args, conts with
  | [.sl 2 L], [] => bif L.isEmpty then none else bif Nat.ble L.length 200 then K (.own 2 L) [] else none
  | _, _ => none⟩

theorem clone_nat : NatC gClone := fun args conts => by
  unfold gClone
  dsimp only
  split
  · exact .cond _ .none (.cond _ (.ret _ _) .none)
  · exact .none

theorem noLoops {cx : Cx} (h : ∀ q, cx.Λ q = none) : LoopsS cx := .of fun k L hk => by rw [h k] at hk; cases hk
theorem noNat {cx : Cx} (h : ∀ q, cx.Λ q = none) : ∀ q L, cx.Λ q = some L → NatL L := fun q L hk => by rw [h q] at hk; cases hk

noncomputable def cx30 : Cx := cxP 8 (bodyOf Go.Proofs.Try.f30) (fun _ => none) (fun _ => none) (fun q => Nat.beq q 5)

set_option maxRecDepth 100000 in
theorem step30f (L : List (List CV)) (β : Type) (K : CV → List (List CV) → Option β) : fnK cx30 Go.Proofs.Try.f30 [.sl 2 L] [] K =
    bif L.isEmpty then none else if L.length ≤ LIM then K (.own 2 L) [] else none := by kernel_rfl

theorem clone30 : SoundC Go.Proofs.Try.prog 30 gClone :=
  SoundC.of (fnSound (cx := cx30) (fn := Go.Proofs.Try.f30) (fun f g h => by cases h) (fun f g h => by cases h) (eqOK_none fun _ => rfl) (noLoops fun _ => rfl) (noNat fun _ => rfl)
    Go.Proofs.Try.func30 (by kernel_rfl) (by kernel_rfl) (by kernel_rfl) (Nat.le_of_ble_eq_true (by kernel_rfl)))
    fun args conts β K r h => by
      unfold gClone at h
      dsimp only at h
      split at h
      · rename_i L
        replace h := cond_none h
        obtain ⟨he, h⟩ := h
        replace h := cond_some h
        obtain ⟨hs, h⟩ := h
        have hs := Nat.le_of_ble_eq_true hs
        have hL : LIM = 4294967296 := rfl
        rw [fnC_run, step30f, he, cond_false, if_pos (by omega)]
        exact h
      · cases h

theorem splice_map {α γ : Type} (f : α → γ) (l x : List α) (o : Nat) : (splice l o x).map f = splice (l.map f) o (x.map f) := by
  simp [splice, List.map_take, List.map_drop]

/-- Pages with others in the places of theirs, from one on. -/
def putP (ps : List Pg) (a : Nat) (own : List Pg) : List Pg := splice ps a (own.take (min own.length (ps.length - a)))

def gPut : Callee := ⟨fun args conts _ K => match args, conts with
  | [.sl 2 L, .int .i64 a, .sl 2 O], [] => (decP L).bind fun ps => (decP O).bind fun own => bif !ps.isEmpty && Nat.ble ps.length 200 && decide (0 ≤ a) && decide (a ≤ (ps.length : Int)) then K (.own 2 ((putP ps a.toNat own).map encP)) [] else none
  | _, _ => none⟩

theorem put_nat : NatC gPut := fun args conts => by
  unfold gPut
  dsimp only
  split
  · exact .bind _ fun _ => .bind _ fun _ => .cond _ (.ret _ _) .none
  · exact .none

noncomputable def cx28 : Cx := cxP 16 (bodyOf Go.Proofs.Try.f28) (fun q => bif Nat.beq q 30 then some gClone else none) (fun _ => none) (fun _ => false)

set_option maxRecDepth 100000 in
theorem step28f (L O : List (List CV)) (a : Int) (β : Type) (K : CV → List (List CV) → Option β) : fnK cx28 Go.Proofs.Try.f28 [.sl 2 L, .int .i64 a, .sl 2 O] [] K =
    bif L.isEmpty then none else bif Nat.ble L.length 200 then
      bif okBounds L.length (some a) none none then K (.own 2 (splice L a.toNat (O.take (min O.length ((L.length : Int) - a).toNat)))) [] else none else none := by kernel_rfl

theorem put28 : SoundC Go.Proofs.Try.prog 28 gPut :=
  SoundC.of (fnSound (cx := cx28) (fn := Go.Proofs.Try.f28) (fun f g h => by obtain ⟨hb, rfl⟩ := cond_some1 h; rw [beq_true hb]; exact clone30) (fun f g h => by obtain ⟨_, rfl⟩ := cond_some1 h; exact clone_nat) (eqOK_none fun _ => rfl) (noLoops fun _ => rfl) (noNat fun _ => rfl)
    Go.Proofs.Try.func28 (by kernel_rfl) (by kernel_rfl) (by kernel_rfl) (Nat.le_of_ble_eq_true (by kernel_rfl)))
    fun args conts β K r h => by
      unfold gPut at h
      dsimp only at h
      split at h
      · rename_i L a O
        replace h := bind_some' h
        obtain ⟨ps, hps, h⟩ := h
        replace h := bind_some' h
        obtain ⟨own, hown, h⟩ := h
        replace h := cond_some h
        obtain ⟨hb, h⟩ := h
        simp only [Bool.and_eq_true, decide_eq_true_eq, Bool.not_eq_true'] at hb
        obtain ⟨⟨⟨he, hs⟩, h0⟩, hl⟩ := hb
        rw [fnC_run, step28f, decP_enc hps, decP_enc hown]
        have e1 : (ps.map encP).isEmpty = false := by simpa using he
        have e2 : okBounds (ps.map encP).length (some a) none none = true := by simp [okBounds, h0, hl]
        have e3 : ((ps.length : Int) - a).toNat = ps.length - a.toNat := by omega
        rw [e1, e2]
        simp only [List.length_map, cond_false, cond_true, hs, e3, ← List.map_take, ← splice_map]
        exact h
      · cases h

/-- What is wrong with taking some. -/
def freeE (ps : List Pg) (a n : Int) : Int := cond (decide (a < 0) || decide (a > (ps.length : Int) - n)) 3 (cond (allFree n.toNat (ps.drop a.toNat)) 0 4)

def gFreeE : Callee := ⟨fun args conts _ K => match args, conts with
  | [.sl 2 L, .int .i64 a, .int .i64 n], [] => (decP L).bind fun ps => bif decide (1 ≤ n) && decide (n ≤ 4) && Nat.ble ps.length 200 then K (.int .i64 (freeE ps a n)) [] else none
  | _, _ => none⟩

theorem freeE_nat : NatC gFreeE := fun args conts => by
  unfold gFreeE
  dsimp only
  split
  · exact .bind _ fun _ => .cond _ (.ret _ _) .none
  · exact .none

noncomputable def cx26 : Cx := cxP 25 (bodyOf Go.Proofs.Try.f26) (fun q => bif Nat.beq q 15 then some gCountS else none) (fun _ => none) (fun _ => false)

set_option maxRecDepth 100000 in
theorem step26f (L : List (List CV)) (a n : Int) (β : Type) (K : CV → List (List CV) → Option β) : fnK cx26 Go.Proofs.Try.f26 [.sl 2 L, .int .i64 a, .int .i64 n] [] K =
    cond (decide (a < 0)) (K (.int .i64 3) []) (cond (decide (a > IntKind.i64.wrap ((L.length : Int) - n))) (K (.int .i64 3) [])
      (cond (okBounds L.length (some a) none none) (cond (okBounds (subl L a.toNat ((L.length : Int) - a).toNat).length none (some n) none)
        ((decP (subl (subl L a.toNat ((L.length : Int) - a).toNat) 0 (n - 0).toNat)).bind fun ps => cond (Nat.ble ps.length 200)
          (cond (decide ((cnt ps 0 : Int) < n)) (K (.int .i64 4) []) (K (.int .i64 0) [])) none) none) none)) := by kernel_rfl

theorem cnt_le (ps : List Pg) (k : Int) : cnt ps k ≤ ps.length := List.length_filter_le _ _

theorem allFree_cnt : ∀ (n : Nat) (ps : List Pg), n ≤ ps.length → decide (((cnt (ps.take n) 0 : Nat) : Int) < (n : Int)) = !(allFree n ps)
  | 0, ps, _ => by simp [cnt, allFree]
  | n + 1, [], h => by simp at h
  | n + 1, p :: ps, h => by
    have ih := allFree_cnt n ps (by simpa using h)
    have hle := cnt_le (ps.take n) 0
    simp only [List.length_take] at hle
    simp only [allFree]
    cases hp : p.1 == 0 with
    | true =>
      have : cnt ((p :: ps).take (n + 1)) 0 = cnt (ps.take n) 0 + 1 := by simp [cnt, hp]
      rw [this, cond_true, ← ih]
      simp
    | false =>
      have : cnt ((p :: ps).take (n + 1)) 0 = cnt (ps.take n) 0 := by simp [cnt, hp]
      rw [this]
      simp
      omega

theorem free26 : SoundC Go.Proofs.Try.prog 26 gFreeE :=
  SoundC.of (fnSound (cx := cx26) (fn := Go.Proofs.Try.f26) (fun f g h => by obtain ⟨hb, rfl⟩ := cond_some1 h; rw [beq_true hb]; exact countS15) (fun f g h => by obtain ⟨_, rfl⟩ := cond_some1 h; exact countS_nat) (eqOK_none fun _ => rfl) (noLoops fun _ => rfl) (noNat fun _ => rfl)
    Go.Proofs.Try.func26 (by kernel_rfl) (by kernel_rfl) (by kernel_rfl) (Nat.le_of_ble_eq_true (by kernel_rfl)))
    fun args conts β K r h => by
      unfold gFreeE at h
      dsimp only at h
      split at h
      · rename_i L a n
        replace h := bind_some' h
        obtain ⟨ps, hps, h⟩ := h
        replace h := cond_some h
        obtain ⟨hb, h⟩ := h
        simp only [Bool.and_eq_true, decide_eq_true_eq] at hb
        obtain ⟨⟨h1, h4⟩, hs⟩ := hb
        have hs := Nat.le_of_ble_eq_true hs
        rw [fnC_run, step26f, decP_enc hps]
        have w : IntKind.i64.wrap ((ps.length : Int) - n) = (ps.length : Int) - n := by rw [IntWalk.i64_in]; omega
        simp only [List.length_map, w, ← h, freeE]
        cases ha : decide (a < 0) with
        | true => rfl
        | false =>
          cases hb : decide (a > (ps.length : Int) - n) with
          | true => rfl
          | false =>
            simp only [decide_eq_false_iff_not] at ha hb
            have e1 : okBounds ps.length (some a) none none = true := by simp [okBounds]; omega
            have e2 : subl (subl (ps.map encP) a.toNat ((ps.length : Int) - a).toNat) 0 (n - 0).toNat = ((ps.drop a.toNat).take n.toNat).map encP := by
              simp only [subl, List.drop_zero, List.map_take, List.map_drop, List.take_take]
              congr 1
              omega
            have e3 : okBounds (subl (ps.map encP) a.toNat ((ps.length : Int) - a).toNat).length none (some n) none = true := by simp [okBounds, subl]; omega
            have e4 : Nat.ble ((ps.drop a.toNat).take n.toNat).length 200 = true := Nat.ble_eq_true_of_le (by simp; omega)
            rw [e1, e2, e3, decP_map]
            simp only [Bool.or_self, cond_false, cond_true, Option.bind_some, e4]
            have := allFree_cnt n.toNat (ps.drop a.toNat) (by simp; omega)
            rw [Int.toNat_of_nonneg (by omega)] at this
            rw [this]
            cases allFree n.toNat (ps.drop a.toNat) <;> rfl
      · cases h
end Go.Ab

namespace Go.Ab
open Go

/-- A context in which all loops are unrolled. -/
noncomputable def cxU (n : Nat) (root : Code) (Γ : FuncId → Option Callee) (wr : Nat → Bool) : Cx :=
  { P := Go.Proofs.Try.prog, nt := n, Γ := Γ, Λ := fun _ => none, un := fun _ => true, root := root, wr := wr, eqT := fun _ => false }

def gMul : Callee := ⟨fun args conts _ K => match args, conts with
  | [.int .u64 a, .int .u64 b], [] => bif decide (a = 1) && decide (1 ≤ b) && decide (b ≤ 4) then K (.tup [.int .u64 0, .int .u64 b]) [] else none
  | _, _ => none⟩

theorem mul_nat : NatC gMul := fun args conts => by
  unfold gMul
  dsimp only
  split
  · exact .cond _ (.ret _ _) .none
  · exact .none

noncomputable def cx32 : Cx := cxU 51 (bodyOf Go.Proofs.Try.f32) (fun _ => none) (fun _ => false)
noncomputable def cx29 : Cx := cxU 30 (bodyOf Go.Proofs.Try.f29) (fun q => bif Nat.beq q 32 then some gMul else none) (fun _ => false)

set_option maxRecDepth 100000 in
theorem step32a (β : Type) (K : CV → List (List CV) → Option β) : fnK cx32 Go.Proofs.Try.f32 [.int .u64 1, .int .u64 1] [] K = K (.tup [.int .u64 0, .int .u64 1]) [] := by kernel_rfl
set_option maxRecDepth 100000 in
theorem step32b (β : Type) (K : CV → List (List CV) → Option β) : fnK cx32 Go.Proofs.Try.f32 [.int .u64 1, .int .u64 2] [] K = K (.tup [.int .u64 0, .int .u64 2]) [] := by kernel_rfl
set_option maxRecDepth 100000 in
theorem step32c (β : Type) (K : CV → List (List CV) → Option β) : fnK cx32 Go.Proofs.Try.f32 [.int .u64 1, .int .u64 3] [] K = K (.tup [.int .u64 0, .int .u64 3]) [] := by kernel_rfl
set_option maxRecDepth 100000 in
theorem step32d (β : Type) (K : CV → List (List CV) → Option β) : fnK cx32 Go.Proofs.Try.f32 [.int .u64 1, .int .u64 4] [] K = K (.tup [.int .u64 0, .int .u64 4]) [] := by kernel_rfl

theorem four {n : Int} (h1 : 1 ≤ n) (h4 : n ≤ 4) : n = 1 ∨ n = 2 ∨ n = 3 ∨ n = 4 := by omega

theorem mul32 : SoundC Go.Proofs.Try.prog 32 gMul :=
  SoundC.of (fnSound (cx := cx32) (fn := Go.Proofs.Try.f32) (fun f g h => by cases h) (fun f g h => by cases h) (eqOK_none fun _ => rfl) (noLoops fun _ => rfl) (noNat fun _ => rfl)
    Go.Proofs.Try.func32 (by kernel_rfl) (by kernel_rfl) (by kernel_rfl) (Nat.le_of_ble_eq_true (by kernel_rfl)))
    fun args conts β K r h => by
      unfold gMul at h
      dsimp only at h
      split at h
      · rename_i a b
        replace h := cond_some h
        obtain ⟨hb, h⟩ := h
        simp only [Bool.and_eq_true, decide_eq_true_eq] at hb
        obtain ⟨⟨rfl, h1⟩, h4⟩ := hb
        rw [fnC_run]
        rcases four h1 h4 with rfl | rfl | rfl | rfl
        · exact (step32a β K).trans h
        · exact (step32b β K).trans h
        · exact (step32c β K).trans h
        · exact (step32d β K).trans h
      · cases h

set_option maxRecDepth 100000 in
theorem step29f (a b : Int) (β : Type) (K : CV → List (List CV) → Option β) : fnK cx29 Go.Proofs.Try.f29 [.int .u64 a, .int .u64 b] [] K = bif decide (a = 1) && decide (1 ≤ b) && decide (b ≤ 4) then K (.tup [.int .u64 0, .int .u64 b]) [] else none := by kernel_rfl

theorem mul29 : SoundC Go.Proofs.Try.prog 29 gMul :=
  SoundC.of (fnSound (cx := cx29) (fn := Go.Proofs.Try.f29) (fun f g h => by obtain ⟨hb, rfl⟩ := cond_some1 h; rw [beq_true hb]; exact mul32) (fun f g h => by obtain ⟨_, rfl⟩ := cond_some1 h; exact mul_nat) (eqOK_none fun _ => rfl) (noLoops fun _ => rfl) (noNat fun _ => rfl)
    Go.Proofs.Try.func29 (by kernel_rfl) (by kernel_rfl) (by kernel_rfl) (Nat.le_of_ble_eq_true (by kernel_rfl)))
    fun args conts β K r h => by
      unfold gMul at h
      dsimp only at h
      split at h
      · rw [fnC_run, step29f]
        exact h
      · cases h

def gRepeat : Callee := ⟨fun args conts _ K => match args, conts with
  | [.sl 2 [[.int .i64 a, .int .i64 b]], .int .i64 n], [] => bif decide (1 ≤ n) && decide (n ≤ 4) then K (.own 2 (List.replicate n.toNat [.int .i64 a, .int .i64 b])) [] else none
  | _, _ => none⟩

theorem repeat_nat : NatC gRepeat := fun args conts => by
  unfold gRepeat
  dsimp only
  split
  · exact .cond _ (.ret _ _) .none
  · exact .none

noncomputable def cx27 : Cx := cxU 48 (bodyOf Go.Proofs.Try.f27) (fun q => bif Nat.beq q 29 then some gMul else none) (fun q => Nat.beq q 30)

set_option maxRecDepth 100000 in
theorem step27a (a b : Int) (β : Type) (K : CV → List (List CV) → Option β) : fnK cx27 Go.Proofs.Try.f27 [.sl 2 [[.int .i64 a, .int .i64 b]], .int .i64 1] [] K = K (.own 2 (List.replicate 1 [.int .i64 a, .int .i64 b])) [] := by kernel_rfl
set_option maxRecDepth 100000 in
theorem step27b (a b : Int) (β : Type) (K : CV → List (List CV) → Option β) : fnK cx27 Go.Proofs.Try.f27 [.sl 2 [[.int .i64 a, .int .i64 b]], .int .i64 2] [] K = K (.own 2 (List.replicate 2 [.int .i64 a, .int .i64 b])) [] := by kernel_rfl
set_option maxRecDepth 100000 in
theorem step27c (a b : Int) (β : Type) (K : CV → List (List CV) → Option β) : fnK cx27 Go.Proofs.Try.f27 [.sl 2 [[.int .i64 a, .int .i64 b]], .int .i64 3] [] K = K (.own 2 (List.replicate 3 [.int .i64 a, .int .i64 b])) [] := by kernel_rfl
set_option maxRecDepth 100000 in
theorem step27d (a b : Int) (β : Type) (K : CV → List (List CV) → Option β) : fnK cx27 Go.Proofs.Try.f27 [.sl 2 [[.int .i64 a, .int .i64 b]], .int .i64 4] [] K = K (.own 2 (List.replicate 4 [.int .i64 a, .int .i64 b])) [] := by kernel_rfl

theorem repeat27 : SoundC Go.Proofs.Try.prog 27 gRepeat :=
  SoundC.of (fnSound (cx := cx27) (fn := Go.Proofs.Try.f27) (fun f g h => by obtain ⟨hb, rfl⟩ := cond_some1 h; rw [beq_true hb]; exact mul29) (fun f g h => by obtain ⟨_, rfl⟩ := cond_some1 h; exact mul_nat) (eqOK_none fun _ => rfl) (noLoops fun _ => rfl) (noNat fun _ => rfl)
    Go.Proofs.Try.func27 (by kernel_rfl) (by kernel_rfl) (by kernel_rfl) (Nat.le_of_ble_eq_true (by kernel_rfl)))
    fun args conts β K r h => by
      unfold gRepeat at h
      dsimp only at h
      split at h
      · rename_i a b n
        replace h := cond_some h
        obtain ⟨hb, h⟩ := h
        simp only [Bool.and_eq_true, decide_eq_true_eq] at hb
        obtain ⟨h1, h4⟩ := hb
        rw [fnC_run]
        rcases four h1 h4 with rfl | rfl | rfl | rfl
        · exact (step27a a b β K).trans h
        · exact (step27b a b β K).trans h
        · exact (step27c a b β K).trans h
        · exact (step27d a b β K).trans h
      · cases h
end Go.Ab

namespace Go.Ab
open Go

def ΓC : FuncId → Option Callee := fun f => bif Nat.beq f 13 then some gMayS else bif Nat.beq f 24 then some gIn else bif Nat.beq f 26 then some gFreeE else bif Nat.beq f 28 then some gPut else bif Nat.beq f 27 then some gRepeat else none

/-- What one of several says, where it is one of them. -/
theorem cond_some3 {b : Bool} {x : Option Callee} {g g' : Callee} (h : (bif b then some g else x) = some g') : b = true ∧ g = g' ∨ b = false ∧ x = some g' := by
  cases b with
  | true => exact .inl ⟨rfl, Option.some.inj h⟩
  | false => exact .inr ⟨rfl, h⟩

theorem in_nat' : NatC gIn := in_nat

theorem ΓC_sound : ∀ f g, ΓC f = some g → SoundC Go.Proofs.Try.prog f g := fun f g h => by
  unfold ΓC at h
  rcases cond_some3 h with ⟨hb, rfl⟩ | ⟨_, h⟩
  · rw [beq_true hb]; exact mayS13
  rcases cond_some3 h with ⟨hb, rfl⟩ | ⟨_, h⟩
  · rw [beq_true hb]; exact in_sound
  rcases cond_some3 h with ⟨hb, rfl⟩ | ⟨_, h⟩
  · rw [beq_true hb]; exact free26
  rcases cond_some3 h with ⟨hb, rfl⟩ | ⟨_, h⟩
  · rw [beq_true hb]; exact put28
  obtain ⟨hb, rfl⟩ := cond_some1 h
  rw [beq_true hb]
  exact repeat27

theorem ΓC_nat : ∀ f g, ΓC f = some g → NatC g := fun f g h => by
  unfold ΓC at h
  rcases cond_some3 h with ⟨_, rfl⟩ | ⟨_, h⟩
  · exact mayS_nat
  rcases cond_some3 h with ⟨_, rfl⟩ | ⟨_, h⟩
  · exact in_nat
  rcases cond_some3 h with ⟨_, rfl⟩ | ⟨_, h⟩
  · exact freeE_nat
  rcases cond_some3 h with ⟨_, rfl⟩ | ⟨_, h⟩
  · exact put_nat
  obtain ⟨_, rfl⟩ := cond_some1 h
  exact repeat_nat

/-- An answer: pages, and what is wrong. -/
def resC (r : Int × List Pg) : CV := .tup [.own 2 (r.2.map encP), .int .i64 r.1]

def in3 (n a b : Int) : Bool := cond (decide (n ≥ a)) (decide (n ≤ b)) false

def smallE (ps : List Pg) (a c : Int) : Int × List Pg := cond (!(may ps)) (1, []) (cond (!(in3 c 0 2)) (1, []) (cond (freeE ps a 1 != 0) (freeE ps a 1, []) (0, putP ps a.toNat [(1, c)])))

def ownL (n : Int) : List Pg := (2, n) :: List.replicate (n.toNat - 1) (3, 0)

def largeE (ps : List Pg) (a n : Int) : Int × List Pg := cond (!(may ps)) (1, []) (cond (!(in3 n 1 4)) (1, []) (cond (freeE ps a n != 0) (freeE ps a n, []) (0, putP ps a.toNat (ownL n))))

def gSmall : Callee := ⟨fun args conts _ K => match args, conts with
  | [.sl 2 L, .int .i64 a, .int .i64 n], [] => (decP L).bind fun ps => bif Nat.ble ps.length 200 then K (resC (smallE ps a n)) [] else none
  | _, _ => none⟩

def gLarge : Callee := ⟨fun args conts _ K => match args, conts with
  | [.sl 2 L, .int .i64 a, .int .i64 n], [] => (decP L).bind fun ps => bif Nat.ble ps.length 200 then K (resC (largeE ps a n)) [] else none
  | _, _ => none⟩

theorem small_nat : NatC gSmall := fun args conts => by
  unfold gSmall
  dsimp only
  split
  · exact .bind _ fun _ => .cond _ (.ret _ _) .none
  · exact .none

theorem large_nat : NatC gLarge := fun args conts => by
  unfold gLarge
  dsimp only
  split
  · exact .bind _ fun _ => .cond _ (.ret _ _) .none
  · exact .none

theorem may_len {ps : List Pg} (h : may ps = true) : 1 ≤ ps.length ∧ ps.length ≤ 64 := by
  rw [may_eq] at h
  by_cases h1 : (ps.length : Int) < 1
  · simp [h1] at h
  · by_cases h2 : (ps.length : Int) > 64
    · simp [h1, h2] at h
    · omega

theorem freeE_in {ps : List Pg} {a n : Int} (h : freeE ps a n = 0) : 0 ≤ a ∧ a ≤ (ps.length : Int) - n ∧ allFree n.toNat (ps.drop a.toNat) = true := by
  unfold freeE at h
  cases h1 : decide (a < 0) with
  | true => simp [h1] at h
  | false =>
    cases h2 : decide (a > (ps.length : Int) - n) with
    | true => simp [h1, h2] at h
    | false =>
      simp only [decide_eq_false_iff_not] at h1 h2
      refine ⟨by omega, by omega, ?_⟩
      simp [h1, h2] at h
      have e1 : decide (a < 0) = false := by simpa using h1
      cases ha : allFree n.toNat (ps.drop a.toNat) with
      | true => rfl
      | false => rw [ha] at h; simp at h

noncomputable def cx18 : Cx := cxP 29 (bodyOf Go.Proofs.Try.f18) ΓC (fun _ => none) (fun _ => false)
noncomputable def cx17 : Cx := cxP 37 (bodyOf Go.Proofs.Try.f17) ΓC (fun _ => none) (fun _ => false)

set_option maxRecDepth 100000 in
theorem step18f (L : List (List CV)) (a n : Int) (β : Type) (K : CV → List (List CV) → Option β) : fnK cx18 Go.Proofs.Try.f18 [.sl 2 L, .int .i64 a, .int .i64 n] [] K =
    (decP L).bind fun ps => bif Nat.ble ps.length 200 then bif !(may ps) then K (resC (1, [])) [] else bif !(in3 n 0 2) then K (resC (1, [])) [] else
      (decP L).bind fun ps => bif Nat.ble ps.length 200 then bif freeE ps a 1 != 0 then K (resC (freeE ps a 1, [])) [] else
        (decP L).bind fun ps => bif !ps.isEmpty && Nat.ble ps.length 200 && decide (0 ≤ a) && decide (a ≤ (ps.length : Int)) then K (resC (0, putP ps a.toNat [(1, n)])) [] else none else none else none := by kernel_rfl

set_option maxRecDepth 100000 in
theorem step17a (L : List (List CV)) (a : Int) (β : Type) (K : CV → List (List CV) → Option β) : fnK cx17 Go.Proofs.Try.f17 [.sl 2 L, .int .i64 a, .int .i64 1] [] K =
    (decP L).bind fun ps => bif Nat.ble ps.length 200 then bif !(may ps) then K (resC (1, [])) [] else
      (decP L).bind fun ps => bif Nat.ble ps.length 200 then bif freeE ps a 1 != 0 then K (resC (freeE ps a 1, [])) [] else
        (decP L).bind fun ps => bif !ps.isEmpty && Nat.ble ps.length 200 && decide (0 ≤ a) && decide (a ≤ (ps.length : Int)) then K (resC (0, putP ps a.toNat (ownL 1))) [] else none else none else none := by kernel_rfl
set_option maxRecDepth 100000 in
theorem step17b (L : List (List CV)) (a : Int) (β : Type) (K : CV → List (List CV) → Option β) : fnK cx17 Go.Proofs.Try.f17 [.sl 2 L, .int .i64 a, .int .i64 2] [] K =
    (decP L).bind fun ps => bif Nat.ble ps.length 200 then bif !(may ps) then K (resC (1, [])) [] else
      (decP L).bind fun ps => bif Nat.ble ps.length 200 then bif freeE ps a 2 != 0 then K (resC (freeE ps a 2, [])) [] else
        (decP L).bind fun ps => bif !ps.isEmpty && Nat.ble ps.length 200 && decide (0 ≤ a) && decide (a ≤ (ps.length : Int)) then K (resC (0, putP ps a.toNat (ownL 2))) [] else none else none else none := by kernel_rfl
set_option maxRecDepth 100000 in
theorem step17c (L : List (List CV)) (a : Int) (β : Type) (K : CV → List (List CV) → Option β) : fnK cx17 Go.Proofs.Try.f17 [.sl 2 L, .int .i64 a, .int .i64 3] [] K =
    (decP L).bind fun ps => bif Nat.ble ps.length 200 then bif !(may ps) then K (resC (1, [])) [] else
      (decP L).bind fun ps => bif Nat.ble ps.length 200 then bif freeE ps a 3 != 0 then K (resC (freeE ps a 3, [])) [] else
        (decP L).bind fun ps => bif !ps.isEmpty && Nat.ble ps.length 200 && decide (0 ≤ a) && decide (a ≤ (ps.length : Int)) then K (resC (0, putP ps a.toNat (ownL 3))) [] else none else none else none := by kernel_rfl
set_option maxRecDepth 100000 in
theorem step17d (L : List (List CV)) (a : Int) (β : Type) (K : CV → List (List CV) → Option β) : fnK cx17 Go.Proofs.Try.f17 [.sl 2 L, .int .i64 a, .int .i64 4] [] K =
    (decP L).bind fun ps => bif Nat.ble ps.length 200 then bif !(may ps) then K (resC (1, [])) [] else
      (decP L).bind fun ps => bif Nat.ble ps.length 200 then bif freeE ps a 4 != 0 then K (resC (freeE ps a 4, [])) [] else
        (decP L).bind fun ps => bif !ps.isEmpty && Nat.ble ps.length 200 && decide (0 ≤ a) && decide (a ≤ (ps.length : Int)) then K (resC (0, putP ps a.toNat (ownL 4))) [] else none else none else none := by kernel_rfl


theorem small18 : SoundC Go.Proofs.Try.prog 18 gSmall :=
  SoundC.of (fnSound (cx := cx18) (fn := Go.Proofs.Try.f18) ΓC_sound ΓC_nat (eqOK_none fun _ => rfl) (noLoops fun _ => rfl) (noNat fun _ => rfl)
    Go.Proofs.Try.func18 (by kernel_rfl) (by kernel_rfl) (by kernel_rfl) (Nat.le_of_ble_eq_true (by kernel_rfl)))
    fun args conts β K r h => by
      unfold gSmall at h
      dsimp only at h
      split at h
      · rename_i L a n
        replace h := bind_some' h
        obtain ⟨ps, hps, h⟩ := h
        replace h := cond_some h
        obtain ⟨hs, h⟩ := h
        rw [fnC_run, step18f, hps, ← h, smallE]
        simp only [Option.bind_some, hs, cond_true]
        cases hm : may ps with
        | false => rfl
        | true =>
          cases hn : in3 n 0 2 with
          | false => rfl
          | true =>
            cases hf : freeE ps a 1 != 0 with
            | true => rfl
            | false =>
              have hf' : freeE ps a 1 = 0 := by simpa using hf
              obtain ⟨h0, hl, _⟩ := freeE_in hf'
              obtain ⟨l1, _⟩ := may_len hm
              have hc : (!ps.isEmpty && true && decide (0 ≤ a) && decide (a ≤ (ps.length : Int))) = true := by
                simp
                refine ⟨⟨by intro h; simp [h] at l1, h0⟩, by omega⟩
              rw [hc]
              rfl
      · cases h

theorem step17 {n : Int} (h1 : 1 ≤ n) (h4 : n ≤ 4) (L : List (List CV)) (a : Int) (β : Type) (K : CV → List (List CV) → Option β) : fnK cx17 Go.Proofs.Try.f17 [.sl 2 L, .int .i64 a, .int .i64 n] [] K =
    (decP L).bind fun ps => bif Nat.ble ps.length 200 then bif !(may ps) then K (resC (1, [])) [] else
      (decP L).bind fun ps => bif Nat.ble ps.length 200 then bif freeE ps a n != 0 then K (resC (freeE ps a n, [])) [] else
        (decP L).bind fun ps => bif !ps.isEmpty && Nat.ble ps.length 200 && decide (0 ≤ a) && decide (a ≤ (ps.length : Int)) then K (resC (0, putP ps a.toNat (ownL n))) [] else none else none else none := by
  rcases four h1 h4 with rfl | rfl | rfl | rfl
  · exact step17a L a β K
  · exact step17b L a β K
  · exact step17c L a β K
  · exact step17d L a β K

set_option maxRecDepth 100000 in
theorem step17o (L : List (List CV)) (a n : Int) (β : Type) (K : CV → List (List CV) → Option β) : fnK cx17 Go.Proofs.Try.f17 [.sl 2 L, .int .i64 a, .int .i64 n] [] K =
    (decP L).bind fun ps => bif Nat.ble ps.length 200 then bif !(may ps) then K (resC (1, [])) [] else bif !(in3 n 1 4) then K (resC (1, [])) [] else
      (decP L).bind fun ps => bif decide (1 ≤ n) && decide (n ≤ 4) && Nat.ble ps.length 200 then bif freeE ps a n != 0 then K (resC (freeE ps a n, [])) [] else
        bif decide (1 ≤ n) && decide (n ≤ 4) then (if (0 : Int) ≤ 0 ∧ (0 : Int) < ((List.replicate n.toNat [CV.int .i64 3, CV.int .i64 0]).length : Int) then
          ((List.replicate n.toNat [CV.int .i64 3, CV.int .i64 0])[0]?).bind fun e => (if 0 + 2 ≤ e.length then
            (decP L).bind fun ps => (decP ((List.replicate n.toNat [CV.int .i64 3, CV.int .i64 0]).set 0 (splice e 0 [.int .i64 2, .int .i64 n]))).bind fun own =>
              bif !ps.isEmpty && Nat.ble ps.length 200 && decide (0 ≤ a) && decide (a ≤ (ps.length : Int)) then K (resC (0, putP ps a.toNat own)) [] else none else none) else none) else none else none else none := by kernel_rfl

theorem large17 : SoundC Go.Proofs.Try.prog 17 gLarge :=
  SoundC.of (fnSound (cx := cx17) (fn := Go.Proofs.Try.f17) ΓC_sound ΓC_nat (eqOK_none fun _ => rfl) (noLoops fun _ => rfl) (noNat fun _ => rfl)
    Go.Proofs.Try.func17 (by kernel_rfl) (by kernel_rfl) (by kernel_rfl) (Nat.le_of_ble_eq_true (by kernel_rfl)))
    fun args conts β K r h => by
      unfold gLarge at h
      dsimp only at h
      split at h
      · rename_i L a n
        replace h := bind_some' h
        obtain ⟨ps, hps, h⟩ := h
        replace h := cond_some h
        obtain ⟨hs, h⟩ := h
        rw [fnC_run, ← h, largeE]
        cases hn : in3 n 1 4 with
        | false =>
          rw [step17o, hps]
          simp only [Option.bind_some, hs, cond_true, hn]
          cases may ps <;> rfl
        | true =>
          have hn' : 1 ≤ n ∧ n ≤ 4 := by
            unfold in3 at hn
            by_cases h1 : n ≥ 1
            · simp [h1] at hn; exact ⟨h1, hn⟩
            · simp [h1] at hn
          rw [step17 hn'.1 hn'.2, hps]
          simp only [Option.bind_some, hs, cond_true]
          cases hm : may ps with
          | false => rfl
          | true =>
            cases hf : freeE ps a n != 0 with
            | true => rfl
            | false =>
              have hf' : freeE ps a n = 0 := by simpa using hf
              obtain ⟨h0, hl, _⟩ := freeE_in hf'
              obtain ⟨l1, _⟩ := may_len hm
              have hc : (!ps.isEmpty && true && decide (0 ≤ a) && decide (a ≤ (ps.length : Int))) = true := by
                simp
                refine ⟨⟨by intro h; simp [h] at l1, h0⟩, by omega⟩
              rw [hc]
              rfl
      · cases h
end Go.Ab

namespace Go.Ab
open Go

theorem mayGo_tail {r : Int} {p : Pg} {ps : List Pg} (h : mayGo r (p :: ps) = some 0) : ∃ r', mayGo r' ps = some 0 := by
  obtain ⟨a, b⟩ := p
  simp only [mayGo, Bool.cond_eq_ite] at h
  repeat' (split at h)
  all_goals first | exact ⟨_, h⟩ | cases h

theorem rdE_at {ps : List Pg} {a : Int} (h0 : 0 ≤ a) (hl : a.toNat < ps.length) {γ : Type} (f : List CV → Option γ) : (rdE (ps.map encP) a).bind f = f (encP ps[a.toNat]) := by
  have h := rdE_map (f := f) hl
  rw [Int.toNat_of_nonneg h0] at h
  exact h

theorem in3_iff {n a b : Int} : in3 n a b = true ↔ a ≤ n ∧ n ≤ b := by
  unfold in3
  by_cases h : n ≥ a
  · simp [h]
  · simp [h]

theorem mayGo_large {r b : Int} {ps : List Pg} (h : mayGo r ((2, b) :: ps) = some 0) : 1 ≤ b ∧ b ≤ 4 ∧ ∃ rest, eat (b - 1).toNat ps = some rest ∧ mayGo 0 rest = some 0 := by
  have h' : (bif !(in3 b 1 4) then none else bif decide (r > 0) then none else mayGo (b - 1) ps) = some 0 := h
  cases hi : in3 b 1 4 with
  | false => rw [hi] at h'; cases h'
  | true =>
    obtain ⟨h1, h4⟩ := in3_iff.1 hi
    rw [hi] at h'
    cases hr : decide (r > 0) with
    | true => rw [hr] at h'; cases h'
    | false =>
      rw [hr] at h'
      simp only [Bool.not_true, cond_false] at h'
      have hg := mayGo_eat (b - 1).toNat ps
      rw [show (((b - 1).toNat : Nat) : Int) = b - 1 by omega, h'] at hg
      refine ⟨h1, h4, ?_⟩
      cases he : eat (b - 1).toNat ps with
      | none => rw [he] at hg; simp at hg
      | some rest => rw [he] at hg; exact ⟨rest, rfl, by simpa using hg.symm⟩

theorem mayGo_at : ∀ {ps : List Pg} {r : Int} {i : Nat} {b : Int}, mayGo r ps = some 0 → ps[i]? = some (2, b) → 1 ≤ b ∧ b ≤ 4 ∧ ∃ rest, eat (b - 1).toNat (ps.drop (i + 1)) = some rest ∧ mayGo 0 rest = some 0
  | [], _, _, _, _, hi => by simp at hi
  | p :: ps, r, 0, b, h, hi => by
    simp at hi
    subst hi
    simpa using mayGo_large h
  | p :: ps, r, i + 1, b, h, hi => by
    obtain ⟨r', h'⟩ := mayGo_tail h
    simpa using mayGo_at (i := i) h' (by simpa using hi)

theorem may_go {ps : List Pg} (h : may ps = true) : mayGo 0 ps = some 0 := by
  have hl := may_len h
  rw [may_eq, mayR_iff _ _ (Nat.le_refl _)] at h
  have e1 : decide ((ps.length : Int) < 1) = false := by simp; omega
  have e2 : decide ((ps.length : Int) > 64) = false := by simp; omega
  rw [e1, e2] at h
  simpa using h

theorem go_may {ps : List Pg} (h1 : 1 ≤ ps.length) (h2 : ps.length ≤ 64) (h : mayGo 0 ps = some 0) : may ps = true := by
  rw [may_eq, mayR_iff _ _ (Nat.le_refl _), h]
  have e1 : decide ((ps.length : Int) < 1) = false := by simp; omega
  have e2 : decide ((ps.length : Int) > 64) = false := by simp; omega
  rw [e1, e2]
  rfl

/-- How many pages are let go with one. -/
def runOf (p : Pg) : Int := cond (p.1 == 2) p.2 1

def dropE (ps : List Pg) (a : Int) : Int × List Pg := cond (!(may ps)) (1, []) (cond (decide (a < 0) || decide (a ≥ (ps.length : Int))) (3, [])
  (match ps[a.toNat]? with
    | none => (3, [])
    | some p => cond (p.1 == 0 || p.1 == 3) (3, []) (0, putP ps a.toNat (List.replicate (runOf p).toNat (0, 0)))))

def gDrop : Callee := ⟨fun args conts _ K => match args, conts with
  | [.sl 2 L, .int .i64 a], [] => (decP L).bind fun ps => bif Nat.ble ps.length 200 then K (resC (dropE ps a)) [] else none
  | _, _ => none⟩

theorem drop_nat : NatC gDrop := fun args conts => by
  unfold gDrop
  dsimp only
  split
  · exact .bind _ fun _ => .cond _ (.ret _ _) .none
  · exact .none

noncomputable def cx22 : Cx := cxP 46 (bodyOf Go.Proofs.Try.f22) ΓC (fun _ => none) (fun _ => false)

def dropN {β : Type} (K : CV → List (List CV) → Option β) (L : List (List CV)) (a n : Int) : Option β :=
  if 0 ≤ n ∧ n ≤ n ∧ n ≤ (LIM : Int) then (decP L).bind fun ps => (decP (List.replicate n.toNat [.int .i64 0, .int .i64 0])).bind fun own =>
    bif !ps.isEmpty && Nat.ble ps.length 200 && decide (0 ≤ a) && decide (a ≤ (ps.length : Int)) then K (resC (0, putP ps a.toNat own)) [] else none else none

def dropT {β : Type} (K : CV → List (List CV) → Option β) (L : List (List CV)) (a : Int) : Option β :=
  (rdE L a).bind fun c => (c[0]?).bind fun x => (asI .i64 x).bind fun k => cond (k == 2) ((rdE L a).bind fun c => (c[1]?).bind fun x => (asI .i64 x).bind fun n => dropN K L a n) (dropN K L a 1)

set_option maxRecDepth 100000 in
theorem step22f (L : List (List CV)) (a : Int) (β : Type) (K : CV → List (List CV) → Option β) : fnK cx22 Go.Proofs.Try.f22 [.sl 2 L, .int .i64 a] [] K =
    (decP L).bind fun ps => bif Nat.ble ps.length 200 then bif !(may ps) then K (resC (1, [])) [] else
      cond (decide (a < 0)) (cond (decide (a < 0)) (K (resC (3, [])) []) (dropT K L a))
        (cond (decide (a ≥ (L.length : Int))) (cond (decide (a ≥ (L.length : Int))) (K (resC (3, [])) []) (dropT K L a))
          ((rdE L a).bind fun c => (c[0]?).bind fun x => (asI .i64 x).bind fun k => cond (k == 0) (cond (k == 0) (K (resC (3, [])) []) (dropT K L a))
            ((rdE L a).bind fun c => (c[0]?).bind fun x => (asI .i64 x).bind fun k => cond (k == 3) (K (resC (3, [])) []) (dropT K L a)))) else none := by kernel_rfl

theorem decP_rep (n : Nat) (a b : Int) : decP (List.replicate n [.int .i64 a, .int .i64 b]) = some (List.replicate n (a, b)) := by
  have : (List.replicate n [CV.int .i64 a, CV.int .i64 b]) = (List.replicate n (a, b)).map encP := by simp [encP]
  rw [this, decP_map]

theorem drop22 : SoundC Go.Proofs.Try.prog 22 gDrop :=
  SoundC.of (fnSound (cx := cx22) (fn := Go.Proofs.Try.f22) ΓC_sound ΓC_nat (eqOK_none fun _ => rfl) (noLoops fun _ => rfl) (noNat fun _ => rfl)
    Go.Proofs.Try.func22 (by kernel_rfl) (by kernel_rfl) (by kernel_rfl) (Nat.le_of_ble_eq_true (by kernel_rfl)))
    fun args conts β K r h => by
      unfold gDrop at h
      dsimp only at h
      split at h
      · rename_i L a
        replace h := bind_some' h
        obtain ⟨ps, hps, h⟩ := h
        replace h := cond_some h
        obtain ⟨hs, h⟩ := h
        rw [fnC_run, step22f, decP_enc hps, ← h, dropE, decP_map]
        simp only [Option.bind_some, hs, cond_true, List.length_map]
        cases hm : may ps with
        | false => rfl
        | true =>
          cases h1 : decide (a < 0) with
          | true => rfl
          | false =>
            cases h2 : decide (a ≥ (ps.length : Int)) with
            | true => rfl
            | false =>
              simp only [decide_eq_false_iff_not] at h1 h2
              have hl : a.toNat < ps.length := by omega
              have hT : ∀ p, ps[a.toNat] = p → (p.1 == 0 || p.1 == 3) = false → dropT K (ps.map encP) a = K (resC (0, putP ps a.toNat (List.replicate (runOf p).toNat (0, 0)))) [] := fun p hp hk => by
                obtain ⟨k, b⟩ := p
                have hN : ∀ n : Int, 1 ≤ n → n ≤ 4 → dropN K (ps.map encP) a n = K (resC (0, putP ps a.toNat (List.replicate n.toNat (0, 0)))) [] := fun n n1 n4 => by
                  have hL : LIM = 4294967296 := rfl
                  unfold dropN
                  rw [if_pos (by omega), decP_map, decP_rep]
                  have hc : (!ps.isEmpty && Nat.ble ps.length 200 && decide (0 ≤ a) && decide (a ≤ (ps.length : Int))) = true := by
                    rw [hs]
                    simp
                    refine ⟨⟨by intro h; simp [h] at hl, by omega⟩, by omega⟩
                  simp only [Option.bind_some, hc, cond_true]
                unfold dropT
                rw [rdE_at (by omega) hl, rdE_at (by omega) hl, hp]
                simp only [encP, List.getElem?_cons_zero, List.getElem?_cons_succ, Option.bind_some, asI, if_true, runOf]
                cases h2 : k == 2 with
                | false => exact hN 1 (by omega) (by omega)
                | true =>
                  have hk2 : k = 2 := by simpa using h2
                  subst hk2
                  obtain ⟨b1, b4, _⟩ := mayGo_at (i := a.toNat) (may_go hm) (by rw [List.getElem?_eq_getElem hl, hp])
                  exact hN b b1 b4
              simp only [Bool.not_true, cond_false, Bool.or_self]
              rw [List.getElem?_eq_getElem hl]
              have hT' := hT _ rfl
              simp only [rdE_at (show 0 ≤ a by omega) hl]
              simp only [encP, List.getElem?_cons_zero, Option.bind_some, asI, if_true]
              cases h3 : ps[a.toNat].1 == 0 with
              | true => rfl
              | false =>
                cases h4 : ps[a.toNat].1 == 3 with
                | true => rfl
                | false => exact hT' (by rw [h3, h4]; rfl)
      · cases h
end Go.Ab

namespace Go.Ab
open Go

def ΓR : FuncId → Option Callee := fun f => bif Nat.beq f 14 then some gMayS else bif Nat.beq f 25 then some gFree else none

theorem ΓR_sound : ∀ f g, ΓR f = some g → SoundC Go.Proofs.Try.prog f g := fun f g h => by
  unfold ΓR at h
  rcases cond_some3 h with ⟨hb, rfl⟩ | ⟨_, h⟩
  · rw [beq_true hb]; exact mayS14
  obtain ⟨hb, rfl⟩ := cond_some1 h
  rw [beq_true hb]
  exact free25

theorem ΓR_nat : ∀ f g, ΓR f = some g → NatC g := fun f g h => by
  unfold ΓR at h
  rcases cond_some3 h with ⟨_, rfl⟩ | ⟨_, h⟩
  · exact mayS_nat
  obtain ⟨_, rfl⟩ := cond_some1 h
  exact free_nat

/-- An element is written. -/
def setE {β : Type} (L : List (List CV)) (a : Int) (c : List CV) (K : List (List CV) → Option β) : Option β :=
  if 0 ≤ a ∧ a < (L.length : Int) then (L[a.toNat]?).bind fun e => if 0 + 2 ≤ e.length then K (L.set a.toNat (splice e 0 c)) else none else none

theorem setE_map {β : Type} {ps : List Pg} {a : Int} (h0 : 0 ≤ a) (hl : a.toNat < ps.length) (q : Pg) (K : List (List CV) → Option β) : setE (ps.map encP) a (encP q) K = K ((ps.set a.toNat q).map encP) := by
  unfold setE
  rw [if_pos ⟨h0, by simp; omega⟩]
  have : (ps.map encP)[a.toNat]? = some (encP ps[a.toNat]) := by simp [hl]
  rw [this, Option.bind_some, if_pos (by simp [encP])]
  congr 1
  rw [List.map_set]
  congr 1

theorem setE_none {β : Type} {L : List (List CV)} {a : Int} (h : ¬ (0 ≤ a ∧ a < (L.length : Int))) (c : List CV) (K : List (List CV) → Option β) : setE L a c K = none := by
  unfold setE
  rw [if_neg h]

theorem splice_set {α : Type} (l : List α) (a : Nat) (x : List α) (q : α) (h : a < l.length) : splice (l.set a q) (a + 1) x = splice l a (q :: x) := by
  unfold splice
  have e1 : (l.set a q).take (a + 1) = l.take a ++ [q] := by
    rw [List.take_add_one, List.take_set, List.set_eq_of_length_le (by simp; omega)]
    simp [h]
  have e2 : (l.set a q).drop (a + 1 + x.length) = l.drop (a + (q :: x).length) := by
    rw [List.drop_set_of_lt (by omega)]
    congr 1
    simp
    omega
  rw [e1, e2]
  simp

theorem set_splice {α : Type} (l : List α) (a : Nat) (x : List α) (q : α) (h : a < l.length) : (splice l (a + 1) x).set a q = splice l a (q :: x) := by
  unfold splice
  have e1 : l.take (a + 1) = l.take a ++ [l[a]] := by
    rw [List.take_add_one]
    simp [h]
  have e2 : a + 1 + x.length = a + (q :: x).length := by simp; omega
  rw [e1, e2, List.append_assoc, List.append_assoc, List.set_append, if_neg (by simp; omega)]
  have : a - (l.take a).length = 0 := by simp; omega
  rw [this]
  simp

theorem splice_one {α : Type} (l : List α) (a : Nat) (q : α) (h : a < l.length) : l.set a q = splice l a [q] := by
  have := set_splice l a [] q h
  rw [← this]
  simp [splice]

theorem splice_len {α : Type} (l x : List α) (a : Nat) (h : a + x.length ≤ l.length) : (splice l a x).length = l.length := by
  simp [splice]
  omega

theorem putP_fit {ps own : List Pg} {a : Nat} (h : a + own.length ≤ ps.length) : putP ps a own = splice ps a own := by
  unfold putP
  rw [List.take_of_length_le (by omega)]

def fillR : Nat → Nat → Pg → List Pg → List Pg
  | 0, _, _, ps => ps
  | m + 1, j, q, ps => fillR m (j + 1) q (ps.set j q)

theorem fillR_eq : ∀ (m j : Nat) (q : Pg) (ps : List Pg), j + m ≤ ps.length → fillR m j q ps = splice ps j (List.replicate m q)
  | 0, j, q, ps, _ => by simp [fillR, splice]
  | m + 1, j, q, ps, h => by
    rw [fillR, fillR_eq m (j + 1) q _ (by simp; omega), splice_set _ _ _ _ (by omega)]
    rfl

theorem fillR_len : ∀ (m j : Nat) (q : Pg) (ps : List Pg), (fillR m j q ps).length = ps.length
  | 0, _, _, _ => rfl
  | m + 1, j, q, ps => by rw [fillR, fillR_len]; simp

noncomputable def cx19 : Cx := cxP 44 (bodyOf Go.Proofs.Try.f19) ΓR (fun _ => none) (fun _ => false)

set_option maxRecDepth 100000 in
theorem step19f (L : List (List CV)) (a n : Int) (β : Type) (K : CV → List (List CV) → Option β) : fnK cx19 Go.Proofs.Try.f19 [.sl 2 L, .int .i64 a, .int .i64 n] [] K =
    (decP L).bind fun ps => bif Nat.ble ps.length 200 then bif !(may ps) then K (resC (1, [])) [] else bif decide (n < 0) then K (resC (1, [])) [] else bif decide (n > 2) then K (resC (1, [])) [] else
      bif decide (a < 0) then K (resC (3, [])) [] else bif decide (a ≥ (L.length : Int)) then K (resC (3, [])) [] else
        (rdE L a).bind fun c => (c[0]?).bind fun x => (asI .i64 x).bind fun k => bif k != 0 then K (resC (4, [])) [] else
          if L.length ≤ LIM then setE L a [.int .i64 1, .int .i64 n] fun L => K (.tup [.own 2 L, .int .i64 0]) [] else none else none := by kernel_rfl

theorem ΓR_one {ps : List Pg} {a : Nat} (h : a < ps.length) : allFree 1 (ps.drop a) = (ps[a].1 == 0) := by
  rw [List.drop_eq_getElem_cons h]
  simp [allFree]

theorem small19 : SoundC Go.Proofs.Try.prog 19 gSmall :=
  SoundC.of (fnSound (cx := cx19) (fn := Go.Proofs.Try.f19) ΓR_sound ΓR_nat (eqOK_none fun _ => rfl) (noLoops fun _ => rfl) (noNat fun _ => rfl)
    Go.Proofs.Try.func19 (by kernel_rfl) (by kernel_rfl) (by kernel_rfl) (Nat.le_of_ble_eq_true (by kernel_rfl)))
    fun args conts β K r h => by
      have hL : LIM = 4294967296 := rfl
      unfold gSmall at h
      dsimp only at h
      split at h
      · rename_i L a n
        replace h := bind_some' h
        obtain ⟨ps, hps, h⟩ := h
        replace h := cond_some h
        obtain ⟨hs, h⟩ := h
        have hs' := Nat.le_of_ble_eq_true hs
        rw [fnC_run, step19f, decP_enc hps, ← h, smallE, decP_map]
        simp only [Option.bind_some, hs, cond_true, List.length_map, freeE, in3]
        cases hm : may ps with
        | false => rfl
        | true =>
          by_cases h1 : n < 0
          · have : ¬ n ≥ 0 := by omega
            simp [h1, this]
          · by_cases h2 : n > 2
            · have : ¬ n ≤ 2 := by omega
              simp [h2, this]
            · have d1 : decide (n < 0) = false := by simpa using h1
              have d2 : decide (n > 2) = false := by simpa using h2
              have d3 : decide (n ≥ 0) = true := by simp; omega
              have d4 : decide (n ≤ 2) = true := by simp; omega
              rw [d1, d2, d3, d4]
              by_cases h3 : a < 0
              · have d5 : decide (a < 0) = true := by simpa using h3
                rw [d5]
                rfl
              · have d5 : decide (a < 0) = false := by simpa using h3
                by_cases h4 : a ≥ (ps.length : Int)
                · have d6 : decide (a ≥ (ps.length : Int)) = true := by simpa using h4
                  have d7 : decide (a > (ps.length : Int) - 1) = true := by simp; omega
                  rw [d5, d6, d7]
                  rfl
                · have d6 : decide (a ≥ (ps.length : Int)) = false := by simpa using h4
                  have d7 : decide (a > (ps.length : Int) - 1) = false := by simp; omega
                  have hl : a.toNat < ps.length := by omega
                  rw [d5, d6, d7, rdE_at (by omega) hl, show (1 : Int).toNat = 1 from rfl, ΓR_one hl]
                  simp only [encP, List.getElem?_cons_zero, Option.bind_some, asI, if_true, Bool.not_true, cond_false, cond_true, Bool.or_self]
                  cases hk : ps[a.toNat].1 == 0 with
                  | false => simp [bne, hk]
                  | true =>
                    have := setE_map (by omega : 0 ≤ a) hl (1, n) fun L => K (.tup [.own 2 L, .int .i64 0]) []
                    simp only [bne, hk, Bool.not_true, cond_false, cond_true]
                    rw [if_pos (by omega)]
                    refine this.trans ?_
                    rw [putP_fit (by simp; omega), ← splice_one _ _ _ hl]
                    rfl
      · cases h

abbrev path21 : List Bool := [false, true, false, true, true, true, true, true, true, true]
noncomputable abbrev body21 : Code := (codeAt (bodyOf Go.Proofs.Try.f21) (false :: path21)).getD .skip
def outs21 : Exit → List Nat := fun _ => [9]

def loop21 : LoopSem := ⟨[10, 2, 9, 1], outs21, fun vs cs _ K => match vs, cs with
  | [.int .i64 i, .int .i64 n, .own 2 L, .int .i64 a], [] => (decP L).bind fun ps => bif decide (i = 1) && decide (1 ≤ n) && decide (n ≤ 4) && decide (0 ≤ a) && decide (a + n ≤ (ps.length : Int)) && Nat.ble ps.length 200 then
      K (.exit 0) [.own 2 ((fillR (n - 1).toNat (a.toNat + 1) (3, 0) ps).map encP)] [] else none
  | _, _ => none⟩

noncomputable def cx21 : Cx := cxP 63 (bodyOf Go.Proofs.Try.f21) ΓR (fun q => bif Nat.beq q 2042 then some loop21 else none) (fun _ => false)

noncomputable def LB21 (n a : Int) (β : Type) (K : Exit → List CV → List (List CV) → Option β) (m : Nat) (i : Int) (L : List (List CV)) : Option β :=
  loopB cx21 [10, 2, 9, 1] outs21 path21 body21 m [.int .i64 i, .int .i64 n, .own 2 L, .int .i64 a] [] K

set_option maxRecDepth 100000 in
theorem step21 (n a : Int) (β : Type) (K : Exit → List CV → List (List CV) → Option β) (m : Nat) (i : Int) (L : List (List CV)) : LB21 n a β K (m + 1) i L =
    cond (decide (i < n)) (setE L (IntKind.i64.wrap (a + i)) [.int .i64 3, .int .i64 0] fun L => LB21 n a β K m (IntKind.i64.wrap (i + 1)) L) (K (.exit 0) [.own 2 L] []) := by kernel_rfl

theorem loop21_spec (n a : Int) (h4 : n ≤ 4) (ha : 0 ≤ a) (β : Type) (K : Exit → List CV → List (List CV) → Option β) : ∀ (m : Nat) (i : Int) (ps : List Pg), 0 ≤ i → i ≤ n → (n - i).toNat = m → a + n ≤ (ps.length : Int) → ps.length ≤ 200 →
    LB21 n a β K (m + 1) i (ps.map encP) = K (.exit 0) [.own 2 ((fillR m (a + i).toNat (3, 0) ps).map encP)] [] := by
  intro m
  induction m with
  | zero =>
    intro i ps h0 hi hm hl hs
    have : i = n := by omega
    subst this
    rw [step21]
    simp [fillR]
  | succ m ih =>
    intro i ps h0 hi hm hl hs
    have e1 : decide (i < n) = true := by simp; omega
    rw [step21, e1, cond_true, IntWalk.i64_in (a + i) (by omega), IntWalk.i64_in (i + 1) (by omega)]
    refine (setE_map (by omega) (by omega) (3, 0) _).trans ?_
    rw [ih (i + 1) _ (by omega) (by omega) (by omega) (by simp; omega) (by simpa using hs), fillR]
    congr 5
    omega

theorem loop21_nat : NatL loop21 := fun vs cs => by
  unfold loop21
  dsimp only
  split
  · exact .bind _ fun _ => .cond _ (.ret _ _ _) .none
  · exact .none

theorem loops21 : LoopsS cx21 := .of fun k L h => by
  obtain ⟨hk, rfl⟩ := cond_some2 h
  refine ⟨path21, beq_true hk, fun vs cs β K r hr => ?_⟩
  unfold loop21 at hr
  dsimp only at hr
  split at hr
  · rename_i i n L a
    replace hr := bind_some' hr
    obtain ⟨ps, hps, hr⟩ := hr
    replace hr := cond_some hr
    obtain ⟨hb, hr⟩ := hr
    simp only [Bool.and_eq_true, decide_eq_true_eq] at hb
    obtain ⟨⟨⟨⟨⟨rfl, h1⟩, h4⟩, ha⟩, hl⟩, hs⟩ := hb
    have hs := Nat.le_of_ble_eq_true hs
    rw [decP_enc hps]
    refine ⟨(n - 1).toNat + 1, ?_⟩
    have := loop21_spec n a h4 ha β K (n - 1).toNat 1 ps (by omega) h1 rfl hl hs
    rw [show (a + 1).toNat = a.toNat + 1 by omega] at this
    exact this.trans hr
  · cases hr

set_option maxRecDepth 100000 in
theorem step21f (L : List (List CV)) (a n : Int) (β : Type) (K : CV → List (List CV) → Option β) : fnK cx21 Go.Proofs.Try.f21 [.sl 2 L, .int .i64 a, .int .i64 n] [] K =
    (decP L).bind fun ps => bif Nat.ble ps.length 200 then bif !(may ps) then K (resC (1, [])) [] else bif decide (n < 1) then K (resC (1, [])) [] else bif decide (n > 4) then K (resC (1, [])) [] else
      bif decide (a < 0) then K (resC (3, [])) [] else bif decide (a ≥ (L.length : Int)) then K (resC (3, [])) [] else bif decide (n > IntKind.i64.wrap ((L.length : Int) - a)) then K (resC (3, [])) [] else
        (decP L).bind fun ps => bif decide (0 ≤ a) && decide (0 ≤ n) && decide (a + n ≤ (ps.length : Int)) && Nat.ble ps.length 200 then
          bif !(allFree n.toNat (ps.drop a.toNat)) then K (resC (4, [])) [] else
          if L.length ≤ LIM then setE L a [.int .i64 2, .int .i64 n] fun L => (decP L).bind fun ps => bif decide ((1 : Int) = 1) && decide (1 ≤ n) && decide (n ≤ 4) && decide (0 ≤ a) && decide (a + n ≤ (ps.length : Int)) && Nat.ble ps.length 200 then
            K (.tup [.own 2 ((fillR (n - 1).toNat (a.toNat + 1) (3, 0) ps).map encP), .int .i64 0]) [] else none else none else none else none := by kernel_rfl

theorem large21 : SoundC Go.Proofs.Try.prog 21 gLarge :=
  SoundC.of (fnSound (cx := cx21) (fn := Go.Proofs.Try.f21) ΓR_sound ΓR_nat (eqOK_none fun _ => rfl) loops21 (fun q L h => by obtain ⟨_, rfl⟩ := cond_some2 h; exact loop21_nat)
    Go.Proofs.Try.func21 (by kernel_rfl) (by kernel_rfl) (by kernel_rfl) (Nat.le_of_ble_eq_true (by kernel_rfl)))
    fun args conts β K r h => by
      have hL : LIM = 4294967296 := rfl
      unfold gLarge at h
      dsimp only at h
      split at h
      · rename_i L a n
        replace h := bind_some' h
        obtain ⟨ps, hps, h⟩ := h
        replace h := cond_some h
        obtain ⟨hs, h⟩ := h
        have hs' := Nat.le_of_ble_eq_true hs
        rw [fnC_run, step21f, decP_enc hps, ← h, largeE, decP_map]
        simp only [Option.bind_some, hs, cond_true, List.length_map, freeE, in3]
        cases hm : may ps with
        | false => rfl
        | true =>
          by_cases h1 : n < 1
          · have : ¬ n ≥ 1 := by omega
            simp [h1, this]
          · by_cases h2 : n > 4
            · have : ¬ n ≤ 4 := by omega
              simp [h2, this]
            · have d1 : decide (n < 1) = false := by simpa using h1
              have d2 : decide (n > 4) = false := by simpa using h2
              have d3 : decide (n ≥ 1) = true := by simp; omega
              have d4 : decide (n ≤ 4) = true := by simp; omega
              rw [d1, d2, d3, d4]
              by_cases h3 : a < 0
              · have d5 : decide (a < 0) = true := by simpa using h3
                rw [d5]
                rfl
              · have d5 : decide (a < 0) = false := by simpa using h3
                by_cases h4 : a ≥ (ps.length : Int)
                · have d6 : decide (a ≥ (ps.length : Int)) = true := by simpa using h4
                  have d7 : decide (a > (ps.length : Int) - n) = true := by simp; omega
                  rw [d5, d6, d7]
                  rfl
                · have d6 : decide (a ≥ (ps.length : Int)) = false := by simpa using h4
                  rw [IntWalk.i64_in ((ps.length : Int) - a) (by omega), d5, d6]
                  by_cases h5 : n > (ps.length : Int) - a
                  · have d7 : decide (n > (ps.length : Int) - a) = true := by simpa using h5
                    have d8 : decide (a > (ps.length : Int) - n) = true := by simp; omega
                    rw [d7, d8]
                    rfl
                  · have d7 : decide (n > (ps.length : Int) - a) = false := by simpa using h5
                    have d8 : decide (a > (ps.length : Int) - n) = false := by simp; omega
                    have hl : a.toNat < ps.length := by omega
                    have d9 : (decide (0 ≤ a) && decide (0 ≤ n) && decide (a + n ≤ (ps.length : Int)) && true) = true := by simp; omega
                    rw [d7, d8, d9]
                    simp only [Bool.not_true, cond_false, cond_true, Bool.or_self]
                    cases hf : allFree n.toNat (ps.drop a.toNat) with
                    | false => rfl
                    | true =>
                      simp only [Bool.not_true, cond_false]
                      rw [if_pos (by omega)]
                      refine (setE_map (by omega : 0 ≤ a) hl (2, n) _).trans ?_
                      have d10 : (decide True && true && true && decide (0 ≤ a) && decide (a + n ≤ ((ps.set a.toNat (2, n)).length : Int)) && Nat.ble (ps.set a.toNat (2, n)).length 200) = true := by
                        rw [List.length_set, hs]
                        simp
                        omega
                      rw [decP_map, Option.bind_some, d10, fillR_eq _ _ _ _ (by simp; omega), splice_set _ _ _ _ hl, show (n - 1).toNat = n.toNat - 1 by omega, ← putP_fit (by simp; omega)]
                      rfl
      · cases h
end Go.Ab

namespace Go.Ab
open Go

abbrev path23 : List Bool := [false, true, false, true, false, true, true, true, true, true]
noncomputable abbrev body23 : Code := (codeAt (bodyOf Go.Proofs.Try.f23) (false :: path23)).getD .skip
def outs23 : Exit → List Nat := fun _ => [7, 1]

def loop23 : LoopSem := ⟨[8, 0, 1, 7], outs23, fun vs cs _ K => match vs, cs with
  | [.int .i64 i, .sl 2 L, .int .i64 a, .own 2 O], [] => (decP L).bind fun ps => (decP O).bind fun os => (ps[a.toNat]?).bind fun p => bif decide (i = 1) && decide (0 ≤ a) && decide (1 ≤ p.2) && decide (p.2 ≤ 4) && decide (a + p.2 ≤ (os.length : Int)) && decide (ps.length = os.length) && Nat.ble ps.length 200 then
      K (.exit 0) [.own 2 ((fillR (p.2 - 1).toNat (a.toNat + 1) (0, 0) os).map encP), .int .i64 a] [] else none
  | _, _ => none⟩

noncomputable def cx23 : Cx := cxP 65 (bodyOf Go.Proofs.Try.f23) ΓR (fun q => bif Nat.beq q 2026 then some loop23 else none) (fun _ => false)

noncomputable def LB23 (L : List (List CV)) (a : Int) (β : Type) (K : Exit → List CV → List (List CV) → Option β) (m : Nat) (i : Int) (O : List (List CV)) : Option β :=
  loopB cx23 [8, 0, 1, 7] outs23 path23 body23 m [.int .i64 i, .sl 2 L, .int .i64 a, .own 2 O] [] K

set_option maxRecDepth 100000 in
theorem step23 (L : List (List CV)) (a : Int) (β : Type) (K : Exit → List CV → List (List CV) → Option β) (m : Nat) (i : Int) (O : List (List CV)) : LB23 L a β K (m + 1) i O =
    (rdE L a).bind fun c => (c[1]?).bind fun x => (asI .i64 x).bind fun n =>
    cond (decide (i < n)) (setE O (IntKind.i64.wrap (a + i)) [.int .i64 0, .int .i64 0] fun O => LB23 L a β K m (IntKind.i64.wrap (i + 1)) O) (K (.exit 0) [.own 2 O, .int .i64 a] []) := by kernel_rfl

theorem loop23_spec (ps : List Pg) (a : Int) (ha : 0 ≤ a) (hl : a.toNat < ps.length) (n : Int) (hn : ps[a.toNat].2 = n) (h4 : n ≤ 4) (β : Type) (K : Exit → List CV → List (List CV) → Option β) : ∀ (m : Nat) (i : Int) (os : List Pg), 0 ≤ i → i ≤ n → (n - i).toNat = m → a + n ≤ (os.length : Int) → os.length ≤ 200 →
    LB23 (ps.map encP) a β K (m + 1) i (os.map encP) = K (.exit 0) [.own 2 ((fillR m (a + i).toNat (0, 0) os).map encP), .int .i64 a] [] := by
  intro m
  induction m with
  | zero =>
    intro i os h0 hi hm hl hs
    have : i = n := by omega
    subst this
    rw [step23, rdE_at ha (by assumption)]
    simp [encP, asI, hn, fillR]
  | succ m ih =>
    intro i os h0 hi hm hl hs
    have e1 : decide (i < n) = true := by simp; omega
    rw [step23, rdE_at ha (by assumption)]
    simp only [encP, List.getElem?_cons_zero, List.getElem?_cons_succ, Option.bind_some, asI, if_true, hn]
    rw [e1, cond_true, IntWalk.i64_in (a + i) (by omega), IntWalk.i64_in (i + 1) (by omega)]
    refine (setE_map (by omega) (by omega) (0, 0) _).trans ?_
    have := ih (i + 1) (os.set (a + i).toNat (0, 0)) (by omega) (by omega) (by omega) (by simp; omega) (by simpa using hs)
    refine this.trans ?_
    rw [fillR]
    congr 5
    omega

theorem loop23_nat : NatL loop23 := fun vs cs => by
  unfold loop23
  dsimp only
  split
  · exact .bind _ fun _ => .bind _ fun _ => .bind _ fun _ => .cond _ (.ret _ _ _) .none
  · exact .none

theorem loops23 : LoopsS cx23 := .of fun k L h => by
  obtain ⟨hk, rfl⟩ := cond_some2 h
  refine ⟨path23, beq_true hk, fun vs cs β K r hr => ?_⟩
  unfold loop23 at hr
  dsimp only at hr
  split at hr
  · rename_i i L a O
    replace hr := bind_some' hr
    obtain ⟨ps, hps, hr⟩ := hr
    replace hr := bind_some' hr
    obtain ⟨os, hos, hr⟩ := hr
    replace hr := bind_some' hr
    obtain ⟨p, hp, hr⟩ := hr
    replace hr := cond_some hr
    obtain ⟨hb, hr⟩ := hr
    simp only [Bool.and_eq_true, decide_eq_true_eq] at hb
    obtain ⟨⟨⟨⟨⟨⟨rfl, ha⟩, h1⟩, h4⟩, hl⟩, he⟩, hs⟩ := hb
    have hs := Nat.le_of_ble_eq_true hs
    obtain ⟨hlt, hpp⟩ := List.getElem?_eq_some_iff.1 hp
    rw [decP_enc hps, decP_enc hos]
    refine ⟨(p.2 - 1).toNat + 1, ?_⟩
    have := loop23_spec ps a ha hlt p.2 (by rw [hpp]) h4 β K (p.2 - 1).toNat 1 os (by omega) h1 rfl hl (by omega)
    rw [show (a + 1).toNat = a.toNat + 1 by omega] at this
    exact this.trans hr
  · cases hr

def dropF {β : Type} (K : CV → List (List CV) → Option β) (L : List (List CV)) (a : Int) (h : Bool) : Option β :=
  cond h (K (resC (3, [])) []) (if L.length ≤ LIM then (rdE L a).bind fun c => (c[0]?).bind fun x => (asI .i64 x).bind fun k =>
    cond (k == 2) ((decP L).bind fun ps => (decP L).bind fun os => (ps[a.toNat]?).bind fun p => bif decide ((1 : Int) = 1) && decide (0 ≤ a) && decide (1 ≤ p.2) && decide (p.2 ≤ 4) && decide (a + p.2 ≤ (os.length : Int)) && decide (ps.length = os.length) && Nat.ble ps.length 200 then
        setE ((fillR (p.2 - 1).toNat (a.toNat + 1) (0, 0) os).map encP) a [.int .i64 0, .int .i64 0] fun O => K (.tup [.own 2 O, .int .i64 0]) [] else none)
      (setE L a [.int .i64 0, .int .i64 0] fun O => K (.tup [.own 2 O, .int .i64 0]) []) else none)

set_option maxRecDepth 100000 in
theorem step23f (L : List (List CV)) (a : Int) (β : Type) (K : CV → List (List CV) → Option β) : fnK cx23 Go.Proofs.Try.f23 [.sl 2 L, .int .i64 a] [] K =
    (decP L).bind fun ps => bif Nat.ble ps.length 200 then bif !(may ps) then K (resC (1, [])) [] else
      bif decide (a < 0) then K (resC (3, [])) [] else bif decide (a ≥ (L.length : Int)) then K (resC (3, [])) [] else
        (rdE L a).bind fun c => (c[0]?).bind fun x => (asI .i64 x).bind fun k => cond (k != 1)
          ((rdE L a).bind fun c => (c[0]?).bind fun x => (asI .i64 x).bind fun k => dropF K L a (k != 2)) (dropF K L a false) else none := by kernel_rfl

theorem mayGo_kind : ∀ {ps : List Pg} {r : Int} {i : Nat} {p : Pg}, mayGo r ps = some 0 → ps[i]? = some p → p.1 = 0 ∨ p.1 = 1 ∨ p.1 = 2 ∨ p.1 = 3
  | [], _, _, _, _, hi => by simp at hi
  | p :: ps, r, 0, q, h, hi => by
    simp at hi
    subst hi
    obtain ⟨a, b⟩ := p
    simp only [mayGo, Bool.cond_eq_ite] at h
    by_cases h3 : a = 3
    · exact .inr (.inr (.inr h3))
    by_cases h0 : a = 0
    · exact .inl h0
    by_cases h1 : a = 1
    · exact .inr (.inl h1)
    by_cases h2 : a = 2
    · exact .inr (.inr (.inl h2))
    · simp [h3, h0, h1, h2] at h
  | p :: ps, r, i + 1, q, h, hi => by
    obtain ⟨r', h'⟩ := mayGo_tail h
    exact mayGo_kind (i := i) h' (by simpa using hi)

/-- A large object's pages are all there. -/
theorem may_run {ps : List Pg} (h : may ps = true) {i : Nat} {b : Int} (hi : ps[i]? = some (2, b)) : 1 ≤ b ∧ b ≤ 4 ∧ i + b.toNat ≤ ps.length := by
  obtain ⟨h1, h4, rest, he, _⟩ := mayGo_at (may_go h) hi
  obtain ⟨hlt, _⟩ := List.getElem?_eq_some_iff.1 hi
  obtain ⟨_, hk⟩ := eat_len _ _ _ he
  simp at hk
  omega

theorem drop23 : SoundC Go.Proofs.Try.prog 23 gDrop :=
  SoundC.of (fnSound (cx := cx23) (fn := Go.Proofs.Try.f23) ΓR_sound ΓR_nat (eqOK_none fun _ => rfl) loops23 (fun q L h => by obtain ⟨_, rfl⟩ := cond_some2 h; exact loop23_nat)
    Go.Proofs.Try.func23 (by kernel_rfl) (by kernel_rfl) (by kernel_rfl) (Nat.le_of_ble_eq_true (by kernel_rfl)))
    fun args conts β K r h => by
      have hL : LIM = 4294967296 := rfl
      unfold gDrop at h
      dsimp only at h
      split at h
      · rename_i L a
        replace h := bind_some' h
        obtain ⟨ps, hps, h⟩ := h
        replace h := cond_some h
        obtain ⟨hs, h⟩ := h
        have hs' := Nat.le_of_ble_eq_true hs
        rw [fnC_run, step23f, decP_enc hps, ← h, dropE, decP_map]
        simp only [Option.bind_some, hs, cond_true, List.length_map]
        cases hm : may ps with
        | false => rfl
        | true =>
          cases h1 : decide (a < 0) with
          | true => rfl
          | false =>
            cases h2 : decide (a ≥ (ps.length : Int)) with
            | true => rfl
            | false =>
              simp only [decide_eq_false_iff_not] at h1 h2
              have hl : a.toNat < ps.length := by omega
              have hg : ps[a.toNat]? = some ps[a.toNat] := List.getElem?_eq_getElem hl
              have hkind := mayGo_kind (may_go hm) hg
              have hF : ∀ p, ps[a.toNat] = p → (p.1 == 0 || p.1 == 3) = false → dropF K (ps.map encP) a false = K (resC (0, putP ps a.toNat (List.replicate (runOf p).toNat (0, 0)))) [] := fun p hp hk => by
                obtain ⟨k, b⟩ := p
                unfold dropF
                rw [cond_false, if_pos (by simp; omega), rdE_at (by omega) hl, hp]
                simp only [encP, List.getElem?_cons_zero, Option.bind_some, asI, if_true, runOf, decP_map, hg, hp]
                cases h2 : k == 2 with
                | false =>
                  simp only [cond_false]
                  refine (setE_map (by omega : 0 ≤ a) hl (0, 0) _).trans ?_
                  rw [splice_one _ _ _ hl, ← putP_fit (by simp; omega)]
                  rfl
                | true =>
                  have hk2 : k = 2 := by simpa using h2
                  subst hk2
                  obtain ⟨b1, b4, hb⟩ := may_run hm (by rw [hg, hp])
                  have hc : (decide True && decide (0 ≤ a) && decide (1 ≤ b) && decide (b ≤ 4) && decide (a + b ≤ (ps.length : Int)) && decide True && Nat.ble ps.length 200) = true := by
                    rw [hs]
                    simp
                    omega
                  rw [hc]
                  simp only [cond_true]
                  refine (setE_map (by omega : 0 ≤ a) (by rw [fillR_len]; exact hl) (0, 0) _).trans ?_
                  rw [fillR_eq _ _ _ _ (by omega), set_splice _ _ _ _ hl, ← List.replicate_succ, show (b - 1).toNat + 1 = b.toNat by omega, ← putP_fit (by simp; omega)]
                  rfl
              simp only [Bool.not_true, cond_false, Bool.or_self, hg]
              have hF' := hF _ rfl
              simp only [rdE_at (show 0 ≤ a by omega) hl]
              simp only [encP, List.getElem?_cons_zero, Option.bind_some, asI, if_true]
              generalize ps[a.toNat] = p at hkind hF' ⊢
              obtain ⟨k, b⟩ := p
              rcases hkind with hk | hk | hk | hk <;> (replace hk : k = _ := hk; subst hk)
              · rfl
              · exact hF' rfl
              · exact hF' rfl
              · rfl
      · cases h
end Go.Ab

namespace Go.Ab
open Go

def sameP : List Pg → List Pg → Bool
  | [], [] => true
  | p :: ps, q :: qs => cond (p.1 == q.1 && (p.2 == q.2 && true)) (sameP ps qs) false
  | _, _ => false

theorem sameP_iff : ∀ {ps qs : List Pg}, sameP ps qs = true ↔ ps = qs
  | [], [] => by simp [sameP]
  | [], _ :: _ => by simp [sameP]
  | _ :: _, [] => by simp [sameP]
  | (a, b) :: ps, (c, d) :: qs => by
    simp only [sameP, Bool.and_true]
    by_cases h1 : a = c
    · by_cases h2 : b = d
      · simp [h1, h2, sameP_iff]
      · simp [h1, h2]
    · simp [h1]

abbrev path20 : List Bool := [false, true, false, true, true]
noncomputable abbrev body20 : Code := (codeAt (bodyOf Go.Proofs.Try.f20) (false :: path20)).getD .skip
def outs20 : Exit → List Nat := fun e => match e with | .ret => [4] | _ => []

def loop20 : LoopSem := ⟨[5, 0, 1], outs20, fun vs cs _ K => match vs, cs with
  | [.int .i64 i, .sl 2 L, .sl 2 M], [] => (decP L).bind fun ps => (decP M).bind fun qs => bif decide (i = 0) && decide (ps.length = qs.length) && Nat.ble ps.length 200 then cond (sameP ps qs) (K (.exit 0) [] []) (K .ret [.bool false] []) else none
  | _, _ => none⟩

noncomputable def cx20 : Cx := cxE 26 (bodyOf Go.Proofs.Try.f20) (fun _ => none) (fun q => bif Nat.beq q 58 then some loop20 else none) (fun _ => false)

noncomputable def LB20 (L M : List (List CV)) (β : Type) (K : Exit → List CV → List (List CV) → Option β) (m : Nat) (i : Int) : Option β :=
  loopB cx20 [5, 0, 1] outs20 path20 body20 m [.int .i64 i, .sl 2 L, .sl 2 M] [] K

set_option maxRecDepth 100000 in
theorem step20 (L M : List (List CV)) (β : Type) (K : Exit → List CV → List (List CV) → Option β) (m : Nat) (i : Int) : LB20 L M β K (m + 1) i =
    cond (decide (i < (L.length : Int))) ((rdE L i).bind fun c => (c[0]?).bind fun x => (asI .i64 x).bind fun a => (c[1]?).bind fun x => (asI .i64 x).bind fun b =>
      (rdE M i).bind fun c => (c[0]?).bind fun x => (asI .i64 x).bind fun a' => (c[1]?).bind fun x => (asI .i64 x).bind fun b' =>
      cond (!(a == a' && (b == b' && true))) (K .ret [.bool false] []) (LB20 L M β K m (IntKind.i64.wrap (i + 1))))
      (K (.exit 0) [] []) := by kernel_rfl

theorem loop20_spec (ps qs : List Pg) (he : ps.length = qs.length) (hs : ps.length ≤ 200) (β : Type) (K : Exit → List CV → List (List CV) → Option β) : ∀ (m i : Nat), ps.length - i ≤ m → i ≤ ps.length →
    LB20 (ps.map encP) (qs.map encP) β K (m + 1) i = cond (sameP (ps.drop i) (qs.drop i)) (K (.exit 0) [] []) (K .ret [.bool false] []) := by
  intro m
  have fin : ∀ (m i : Nat), i = ps.length → LB20 (ps.map encP) (qs.map encP) β K (m + 1) i = cond (sameP (ps.drop i) (qs.drop i)) (K (.exit 0) [] []) (K .ret [.bool false] []) := fun m i hi => by
    subst hi
    rw [step20, he, List.drop_length, ← he, List.drop_length]
    simp [sameP]
  induction m with
  | zero => exact fun i hm hi => fin 0 i (by omega)
  | succ m ih =>
    intro i hm hi
    by_cases hl : i < ps.length
    · have hl' : i < qs.length := by omega
      have e1 : decide ((i : Int) < ((ps.map encP).length : Int)) = true := by simp; omega
      rw [step20, e1, cond_true]
      simp only [rdE_map hl, rdE_map hl']
      have w1 : IntKind.i64.wrap ((i : Int) + 1) = ((i + 1 : Nat) : Int) := by rw [IntWalk.i64_in]; simp; omega
      have hd : ps.drop i = ps[i] :: ps.drop (i + 1) := List.drop_eq_getElem_cons hl
      have hd' : qs.drop i = qs[i] :: qs.drop (i + 1) := List.drop_eq_getElem_cons hl'
      rw [hd, hd', sameP]
      simp only [encP, List.getElem?_cons_zero, List.getElem?_cons_succ, Option.bind_some, asI, if_true, w1]
      rw [ih (i + 1) (by omega) (by omega)]
      cases (ps[i].1 == qs[i].1 && (ps[i].2 == qs[i].2 && true)) <;> rfl
    · exact fin (m + 1) i (by omega)

theorem loop20_nat : NatL loop20 := fun vs cs => by
  unfold loop20
  dsimp only
  split
  · exact .bind _ fun _ => .bind _ fun _ => .cond _ (.cond _ (.ret _ _ _) (.ret _ _ _)) .none
  · exact .none

theorem loops20 : LoopsS cx20 := .of fun k L h => by
  obtain ⟨hk, rfl⟩ := cond_some2 h
  refine ⟨path20, beq_true hk, fun vs cs β K r hr => ?_⟩
  unfold loop20 at hr
  dsimp only at hr
  split at hr
  · rename_i i L M
    replace hr := bind_some' hr
    obtain ⟨ps, hps, hr⟩ := hr
    replace hr := bind_some' hr
    obtain ⟨qs, hqs, hr⟩ := hr
    replace hr := cond_some hr
    obtain ⟨hb, hr⟩ := hr
    simp only [Bool.and_eq_true, decide_eq_true_eq] at hb
    obtain ⟨⟨rfl, he⟩, hs⟩ := hb
    have hs := Nat.le_of_ble_eq_true hs
    rw [decP_enc hps, decP_enc hqs]
    refine ⟨ps.length + 1, ?_⟩
    have := loop20_spec ps qs he hs β K ps.length 0 (by omega) (by omega)
    simp only [List.drop_zero] at this
    exact this.trans hr
  · cases hr

def gSame : Callee := ⟨fun args conts _ K => match args, conts with
  | [.sl 2 L, .sl 2 M], [] => (decP L).bind fun ps => (decP M).bind fun qs => bif Nat.ble ps.length 200 then K (.bool (sameP ps qs)) [] else none
  | _, _ => none⟩

theorem same_nat : NatC gSame := fun args conts => by
  unfold gSame
  dsimp only
  split
  · exact .bind _ fun _ => .bind _ fun _ => .cond _ (.ret _ _) .none
  · exact .none

set_option maxRecDepth 100000 in
theorem step20f (L M : List (List CV)) (β : Type) (K : CV → List (List CV) → Option β) : fnK cx20 Go.Proofs.Try.f20 [.sl 2 L, .sl 2 M] [] K =
    cond ((L.length : Int) != (M.length : Int)) (K (.bool false) []) ((decP L).bind fun ps => (decP M).bind fun qs => bif decide ((0 : Int) = 0) && decide (ps.length = qs.length) && Nat.ble ps.length 200 then cond (sameP ps qs) (K (.bool true) []) (K (.bool false) []) else none) := by kernel_rfl

theorem sameP_len {ps qs : List Pg} (h : ps.length ≠ qs.length) : sameP ps qs = false := by
  cases hq : sameP ps qs with
  | false => rfl
  | true => rw [sameP_iff.1 hq] at h; exact absurd rfl h

theorem same20 : SoundC Go.Proofs.Try.prog 20 gSame :=
  SoundC.of (fnSound (cx := cx20) (fn := Go.Proofs.Try.f20) (fun f g h => by cases h) (fun f g h => by cases h) (eqOK_page rfl rfl) loops20 (fun q L h => by obtain ⟨_, rfl⟩ := cond_some2 h; exact loop20_nat)
    Go.Proofs.Try.func20 (by kernel_rfl) (by kernel_rfl) (by kernel_rfl) (Nat.le_of_ble_eq_true (by kernel_rfl)))
    fun args conts β K r h => by
      unfold gSame at h
      dsimp only at h
      split at h
      · rename_i L M
        replace h := bind_some' h
        obtain ⟨ps, hps, h⟩ := h
        replace h := bind_some' h
        obtain ⟨qs, hqs, h⟩ := h
        replace h := cond_some h
        obtain ⟨hs, h⟩ := h
        rw [fnC_run, step20f, ← h, decP_enc hps, decP_enc hqs, decP_map, decP_map]
        simp only [Option.bind_some, hs, List.length_map]
        by_cases he : ps.length = qs.length
        · rw [he]
          simp only [bne_self_eq_false, cond_false, decide_true, Bool.and_self, cond_true]
          cases sameP ps qs <;> rfl
        · have : ((ps.length : Int) != (qs.length : Int)) = true := by simp; omega
          rw [this, cond_true, sameP_len he]
      · cases h
end Go.Ab

namespace Go.Ab
open Go

/-- Where are n pages free? -/
def findL (n : Nat) : List Pg → Option Nat
  | [] => none
  | p :: ps => cond (allFree n (p :: ps)) (some 0) ((findL n ps).map (· + 1))

theorem allFree_short : ∀ (n : Nat) (ps : List Pg), ps.length < n → allFree n ps = false
  | 0, ps, h => by omega
  | n + 1, [], _ => rfl
  | n + 1, p :: ps, h => by
    rw [allFree, allFree_short n ps (by simpa using h)]
    cases p.1 == 0 <;> rfl

theorem findL_short : ∀ (n : Nat) (ps : List Pg), ps.length < n → findL n ps = none
  | n, [], _ => rfl
  | n, p :: ps, h => by
    rw [findL, allFree_short n (p :: ps) h, cond_false, findL_short n ps (by simp at h; omega)]
    rfl

theorem allFree_take : ∀ (n : Nat) (ps : List Pg), n ≤ ps.length → allFree (ps.take n).length (ps.take n) = allFree n ps
  | 0, ps, _ => by simp [allFree]
  | n + 1, [], h => by simp at h
  | n + 1, p :: ps, h => by
    have := allFree_take n ps (by simpa using h)
    simp only [List.take_succ_cons, List.length_cons, allFree, this]

abbrev path11b : List Bool := [false, true, false, false, false, true, false, false, true, false, true, true, false, true]
abbrev path11a : List Bool := [false, true, false, true, true, false, true]
noncomputable abbrev body11b : Code := (codeAt (bodyOf Go.Proofs.Try.f11) (false :: path11b)).getD .skip
noncomputable abbrev body11a : Code := (codeAt (bodyOf Go.Proofs.Try.f11) (false :: path11a)).getD .skip
def outs11b : Exit → List Nat := fun e => match e with | .exit 1 => [6, 0, 1] | _ => [6]
def outs11a : Exit → List Nat := fun e => match e with | .ret => [4, 5] | _ => []

def ΓF : FuncId → Option Callee := fun f => bif Nat.beq f 13 then some gMayS else bif Nat.beq f 24 then some gIn else none

def loop11b : LoopSem := ⟨[31, 29, 30, 6, 0, 1], outs11b, fun vs cs _ K => match vs, cs with
  | [.int .i64 i, .sl 2 W, .int .i64 len, .int .i64 a, .sl 2 L, .int .i64 n], [] => (decP W).bind fun ws => bif decide (i = 0) && decide (len = (ws.length : Int)) && Nat.ble ws.length 200 then
      cond (allFree ws.length ws) (K (.exit 2) [.int .i64 a] []) (K (.exit 1) [.int .i64 a, .sl 2 L, .int .i64 n] []) else none
  | _, _ => none⟩

noncomputable def LB11b (Λ : Nat → Option LoopSem) (W : List (List CV)) (len a : Int) (L : List (List CV)) (n : Int) (β : Type) (K : Exit → List CV → List (List CV) → Option β) (m : Nat) (i : Int) : Option β :=
  loopB (cxP 40 (bodyOf Go.Proofs.Try.f11) ΓF Λ (fun _ => false)) [31, 29, 30, 6, 0, 1] outs11b path11b body11b m [.int .i64 i, .sl 2 W, .int .i64 len, .int .i64 a, .sl 2 L, .int .i64 n] [] K

set_option maxRecDepth 100000 in
theorem step11b (Λ : Nat → Option LoopSem) (W : List (List CV)) (len a : Int) (L : List (List CV)) (n : Int) (β : Type) (K : Exit → List CV → List (List CV) → Option β) (m : Nat) (i : Int) : LB11b Λ W len a L n β K (m + 1) i =
    cond (decide (i < len)) ((rdE W i).bind fun c => (c[0]?).bind fun x => (asI .i64 x).bind fun k => (c[1]?).bind fun x => (asI .i64 x).bind fun _ =>
      cond (k != 0) (K (.exit 1) [.int .i64 a, .sl 2 L, .int .i64 n] []) (LB11b Λ W len a L n β K m (IntKind.i64.wrap (i + 1))))
      (K (.exit 2) [.int .i64 a] []) := by kernel_rfl

theorem loop11b_spec (Λ : Nat → Option LoopSem) (ws : List Pg) (a : Int) (L : List (List CV)) (n : Int) (hs : ws.length ≤ 200) (β : Type) (K : Exit → List CV → List (List CV) → Option β) : ∀ (m i : Nat), ws.length - i = m → i ≤ ws.length →
    LB11b Λ (ws.map encP) ws.length a L n β K (m + 1) i = cond (allFree m (ws.drop i)) (K (.exit 2) [.int .i64 a] []) (K (.exit 1) [.int .i64 a, .sl 2 L, .int .i64 n] []) := by
  intro m
  induction m with
  | zero =>
    intro i hm hi
    have : i = ws.length := by omega
    subst this
    rw [step11b]
    simp [allFree]
  | succ m ih =>
    intro i hm hi
    have hl : i < ws.length := by omega
    have e1 : decide ((i : Int) < (ws.length : Int)) = true := by simp; omega
    rw [step11b, e1, cond_true, rdE_map hl]
    have w1 : IntKind.i64.wrap ((i : Int) + 1) = ((i + 1 : Nat) : Int) := by rw [IntWalk.i64_in]; simp; omega
    have hd : ws.drop i = ws[i] :: ws.drop (i + 1) := List.drop_eq_getElem_cons hl
    rw [hd, allFree]
    simp only [encP, List.getElem?_cons_zero, List.getElem?_cons_succ, Option.bind_some, asI, if_true, w1]
    rw [ih (i + 1) (by omega) (by omega)]
    cases hk : ws[i].1 == 0 <;> simp [bne, hk]

def loop11a : LoopSem := ⟨[6, 0, 1], outs11a, fun vs cs _ K => match vs, cs with
  | [.int .i64 a, .sl 2 L, .int .i64 n], [] => (decP L).bind fun ps => bif decide (a = 0) && decide (1 ≤ n) && decide (n ≤ 4) && Nat.ble ps.length 200 then
      optE (findL n.toNat ps) (K (.exit 0) [] []) fun k => K .ret [.int .i64 (k : Nat), .bool true] [] else none
  | _, _ => none⟩

noncomputable def Λ11b (Λ : Nat → Option LoopSem) : Nat → Option LoopSem := fun q => bif Nat.beq q 27938 then some loop11b else Λ q

noncomputable def LB11a (Λ : Nat → Option LoopSem) (L : List (List CV)) (n : Int) (β : Type) (K : Exit → List CV → List (List CV) → Option β) (m : Nat) (a : Int) : Option β :=
  loopB (cxP 40 (bodyOf Go.Proofs.Try.f11) ΓF (Λ11b Λ) (fun _ => false)) [6, 0, 1] outs11a path11a body11a m [.int .i64 a, .sl 2 L, .int .i64 n] [] K

set_option maxRecDepth 100000 in
theorem step11a (Λ : Nat → Option LoopSem) (L : List (List CV)) (n : Int) (β : Type) (K : Exit → List CV → List (List CV) → Option β) (m : Nat) (a : Int) : LB11a Λ L n β K (m + 1) a =
    cond (decide (IntKind.i64.wrap (a + n) ≤ (L.length : Int)))
      (cond (okBounds L.length (some a) none none) (cond (okBounds (subl L a.toNat ((L.length : Int) - a).toNat).length none (some n) none)
        ((decP (subl (subl L a.toNat ((L.length : Int) - a).toNat) 0 (n - 0).toNat)).bind fun ws => bif true && decide (((subl (subl L a.toNat ((L.length : Int) - a).toNat) 0 (n - 0).toNat).length : Int) = (ws.length : Int)) && Nat.ble ws.length 200 then
          cond (allFree ws.length ws) (K .ret [.int .i64 a, .bool true] []) (LB11a Λ L n β K m (IntKind.i64.wrap (a + 1))) else none) none) none)
      (K (.exit 0) [] []) := by kernel_rfl

theorem loop11a_spec (Λ : Nat → Option LoopSem) (ps : List Pg) (n : Nat) (h1 : 1 ≤ n) (h4 : n ≤ 4) (hs : ps.length ≤ 200) (β : Type) (K : Exit → List CV → List (List CV) → Option β) : ∀ (m i : Nat), ps.length - i ≤ m → i ≤ ps.length →
    LB11a Λ (ps.map encP) n β K (m + 1) i = optE (findL n (ps.drop i)) (K (.exit 0) [] []) fun k => K .ret [.int .i64 (i + k : Nat), .bool true] [] := by
  intro m
  have fin : ∀ (m i : Nat), ps.length < i + n → i ≤ ps.length → LB11a Λ (ps.map encP) n β K (m + 1) i = optE (findL n (ps.drop i)) (K (.exit 0) [] []) fun k => K .ret [.int .i64 (i + k : Nat), .bool true] [] := fun m i hi hl => by
    rw [step11a, IntWalk.i64_in ((i : Int) + n) (by omega), findL_short _ _ (by simp; omega)]
    have e1 : decide ((i : Int) + n ≤ ((ps.map encP).length : Int)) = false := by simp; omega
    rw [e1]
    rfl
  induction m with
  | zero => exact fun i hm hi => fin 0 i (by omega) hi
  | succ m ih =>
    intro i hm hi
    by_cases hl : i + n ≤ ps.length
    · have hil : i < ps.length := by omega
      rw [step11a, IntWalk.i64_in ((i : Int) + n) (by omega)]
      have e1 : decide ((i : Int) + n ≤ ((ps.map encP).length : Int)) = true := by simp; omega
      have e2 : okBounds (ps.map encP).length (some (i : Int)) none none = true := by simp [okBounds]; omega
      have e3 : okBounds (subl (ps.map encP) ((i : Int)).toNat (((ps.map encP).length : Int) - i).toNat).length none (some (n : Int)) none = true := by simp [okBounds, subl]; omega
      have e4 : subl (subl (ps.map encP) ((i : Int)).toNat (((ps.map encP).length : Int) - i).toNat) 0 ((n : Int) - 0).toNat = ((ps.drop i).take n).map encP := by
        simp only [subl, List.drop_zero, List.map_take, List.map_drop, List.take_take, List.length_map, Int.toNat_natCast]
        congr 1
        omega
      have e5 : Nat.ble ((ps.drop i).take n).length 200 = true := Nat.ble_eq_true_of_le (by simp; omega)
      have w1 : IntKind.i64.wrap ((i : Int) + 1) = ((i + 1 : Nat) : Int) := by rw [IntWalk.i64_in]; simp; omega
      rw [e1, e2, e3, e4, decP_map]
      simp only [cond_true, Option.bind_some, List.length_map, decide_true, Bool.true_and, e5]
      rw [allFree_take _ _ (by simp; omega), w1, ih (i + 1) (by omega) (by omega)]
      have hd : ps.drop i = ps[i] :: ps.drop (i + 1) := List.drop_eq_getElem_cons hil
      rw [hd, findL]
      cases allFree n (ps[i] :: ps.drop (i + 1)) with
      | true => rfl
      | false =>
        simp only [cond_false]
        cases findL n (ps.drop (i + 1)) with
        | none => rfl
        | some k =>
          simp only [Option.map_some, optE]
          congr 4
          omega
    · exact fin (m + 1) i (by omega) hi

def Λ11 : Nat → Option LoopSem := fun q => bif Nat.beq q 27938 then some loop11b else bif Nat.beq q 218 then some loop11a else none
noncomputable def cx11 : Cx := cxP 40 (bodyOf Go.Proofs.Try.f11) ΓF Λ11 (fun _ => false)

theorem loop11a_nat : NatL loop11a := fun vs cs => by
  unfold loop11a
  dsimp only
  split
  · exact .bind _ fun _ => .cond _ (.optE (.ret _ _ _) fun _ => .ret _ _ _) .none
  · exact .none

theorem loop11b_nat : NatL loop11b := fun vs cs => by
  unfold loop11b
  dsimp only
  split
  · exact .bind _ fun _ => .cond _ (.cond _ (.ret _ _ _) (.ret _ _ _)) .none
  · exact .none

/-- One of two loops. -/
theorem two_loops {b b' : Bool} {g g' L : LoopSem} (h : (bif b then some g else bif b' then some g' else none) = some L) : b = true ∧ g = L ∨ b' = true ∧ g' = L := by
  cases b with
  | true => exact .inl ⟨rfl, Option.some.inj h⟩
  | false => cases b' with
    | true => exact .inr ⟨rfl, Option.some.inj h⟩
    | false => cases h

theorem loops11 : LoopsS cx11 := .of fun k L h => by
  rcases two_loops h with ⟨hk, rfl⟩ | ⟨hk, rfl⟩
  · refine ⟨path11b, beq_true hk, fun vs cs β K r hr => ?_⟩
    unfold loop11b at hr
    dsimp only at hr
    split at hr
    · rename_i i W len a L n
      replace hr := bind_some' hr
      obtain ⟨ws, hws, hr⟩ := hr
      replace hr := cond_some hr
      obtain ⟨hb, hr⟩ := hr
      simp only [Bool.and_eq_true, decide_eq_true_eq] at hb
      obtain ⟨⟨rfl, rfl⟩, hs⟩ := hb
      have hs := Nat.le_of_ble_eq_true hs
      rw [decP_enc hws]
      refine ⟨ws.length + 1, ?_⟩
      have := loop11b_spec Λ11 ws a L n hs β K ws.length 0 (by omega) (by omega)
      simp only [List.drop_zero] at this
      exact this.trans hr
    · cases hr
  · refine ⟨path11a, beq_true hk, fun vs cs β K r hr => ?_⟩
    unfold loop11a at hr
    dsimp only at hr
    split at hr
    · rename_i a L n
      replace hr := bind_some' hr
      obtain ⟨ps, hps, hr⟩ := hr
      replace hr := cond_some hr
      obtain ⟨hb, hr⟩ := hr
      simp only [Bool.and_eq_true, decide_eq_true_eq] at hb
      obtain ⟨⟨⟨rfl, h1⟩, h4⟩, hs⟩ := hb
      have hs := Nat.le_of_ble_eq_true hs
      rw [decP_enc hps]
      refine ⟨ps.length + 1, ?_⟩
      have := loop11a_spec (fun q => bif Nat.beq q 218 then some loop11a else none) ps n.toNat (by omega) (by omega) hs β K ps.length 0 (by omega) (by omega)
      simp only [List.drop_zero, Nat.zero_add] at this
      rw [Int.toNat_of_nonneg (by omega)] at this
      exact this.trans hr
    · cases hr

/-- What Find comes to. -/
def findR (ps : List Pg) (n : Int) : Int × Bool := cond (!(may ps)) (0, false) (cond (!(in3 n 1 4)) (0, false) (match findL n.toNat ps with | some k => ((k : Nat), true) | none => (0, false)))

def gFind : Callee := ⟨fun args conts _ K => match args, conts with
  | [.sl 2 L, .int .i64 n], [] => (decP L).bind fun ps => bif Nat.ble ps.length 200 then K (.tup [.int .i64 (findR ps n).1, .bool (findR ps n).2]) [] else none
  | _, _ => none⟩

theorem find_nat : NatC gFind := fun args conts => by
  unfold gFind
  dsimp only
  split
  · exact .bind _ fun _ => .cond _ (.ret _ _) .none
  · exact .none

theorem ΓF_sound : ∀ f g, ΓF f = some g → SoundC Go.Proofs.Try.prog f g := fun f g h => by
  unfold ΓF at h
  rcases cond_some3 h with ⟨hb, rfl⟩ | ⟨_, h⟩
  · rw [beq_true hb]; exact mayS13
  obtain ⟨hb, rfl⟩ := cond_some1 h
  rw [beq_true hb]
  exact in_sound

theorem ΓF_nat : ∀ f g, ΓF f = some g → NatC g := fun f g h => by
  unfold ΓF at h
  rcases cond_some3 h with ⟨_, rfl⟩ | ⟨_, h⟩
  · exact mayS_nat
  obtain ⟨_, rfl⟩ := cond_some1 h
  exact in_nat

set_option maxRecDepth 100000 in
theorem step11f (L : List (List CV)) (n : Int) (β : Type) (K : CV → List (List CV) → Option β) : fnK cx11 Go.Proofs.Try.f11 [.sl 2 L, .int .i64 n] [] K =
    (decP L).bind fun ps => bif Nat.ble ps.length 200 then bif !(may ps) then K (.tup [.int .i64 0, .bool false]) [] else bif !(in3 n 1 4) then K (.tup [.int .i64 0, .bool false]) [] else
      (decP L).bind fun ps => bif true && decide (1 ≤ n) && decide (n ≤ 4) && Nat.ble ps.length 200 then optE (findL n.toNat ps) (K (.tup [.int .i64 0, .bool false]) []) fun k => K (.tup [.int .i64 (k : Nat), .bool true]) [] else none else none := by kernel_rfl

theorem find11 : SoundC Go.Proofs.Try.prog 11 gFind :=
  SoundC.of (fnSound (cx := cx11) (fn := Go.Proofs.Try.f11) ΓF_sound ΓF_nat (eqOK_none fun _ => rfl) loops11 (fun q L h => by
      rcases two_loops h with ⟨_, rfl⟩ | ⟨_, rfl⟩
      · exact loop11b_nat
      · exact loop11a_nat)
    Go.Proofs.Try.func11 (by kernel_rfl) (by kernel_rfl) (by kernel_rfl) (Nat.le_of_ble_eq_true (by kernel_rfl)))
    fun args conts β K r h => by
      unfold gFind at h
      dsimp only at h
      split at h
      · rename_i L n
        replace h := bind_some' h
        obtain ⟨ps, hps, h⟩ := h
        replace h := cond_some h
        obtain ⟨hs, h⟩ := h
        rw [fnC_run, step11f, decP_enc hps, ← h, findR, decP_map]
        simp only [Option.bind_some, hs, cond_true]
        cases hm : may ps with
        | false => rfl
        | true =>
          cases hn : in3 n 1 4 with
          | false => rfl
          | true =>
            obtain ⟨h1, h4⟩ := in3_iff.1 hn
            have hc : (true && decide (1 ≤ n) && decide (n ≤ 4) && true) = true := by simp; omega
            rw [hc]
            simp only [Bool.not_true, cond_false, cond_true]
            cases findL n.toNat ps <;> rfl
      · cases h

abbrev path12 : List Bool := [false, true, false, true, true, true]
noncomputable abbrev body12 : Code := (codeAt (bodyOf Go.Proofs.Try.f12) (false :: path12)).getD .skip

def loop12 : LoopSem := ⟨[7, 0, 1], outs11a, loop11a.run⟩

noncomputable def cx12 : Cx := cxP 33 (bodyOf Go.Proofs.Try.f12) ΓR (fun q => bif Nat.beq q 122 then some loop12 else none) (fun _ => false)

noncomputable def LB12 (L : List (List CV)) (n : Int) (β : Type) (K : Exit → List CV → List (List CV) → Option β) (m : Nat) (a : Int) : Option β :=
  loopB cx12 [7, 0, 1] outs11a path12 body12 m [.int .i64 a, .sl 2 L, .int .i64 n] [] K

set_option maxRecDepth 100000 in
theorem step12 (L : List (List CV)) (n : Int) (β : Type) (K : Exit → List CV → List (List CV) → Option β) (m : Nat) (a : Int) : LB12 L n β K (m + 1) a =
    cond (decide (IntKind.i64.wrap (a + n) ≤ (L.length : Int)))
      ((decP L).bind fun ps => bif decide (0 ≤ a) && decide (0 ≤ n) && decide (a + n ≤ (ps.length : Int)) && Nat.ble ps.length 200 then
          cond (allFree n.toNat (ps.drop a.toNat)) (K .ret [.int .i64 a, .bool true] []) (LB12 L n β K m (IntKind.i64.wrap (a + 1))) else none)
      (K (.exit 0) [] []) := by kernel_rfl

theorem loop12_spec (ps : List Pg) (n : Nat) (h1 : 1 ≤ n) (h4 : n ≤ 4) (hs : ps.length ≤ 200) (β : Type) (K : Exit → List CV → List (List CV) → Option β) : ∀ (m i : Nat), ps.length - i ≤ m → i ≤ ps.length →
    LB12 (ps.map encP) n β K (m + 1) i = optE (findL n (ps.drop i)) (K (.exit 0) [] []) fun k => K .ret [.int .i64 (i + k : Nat), .bool true] [] := by
  intro m
  have fin : ∀ (m i : Nat), ps.length < i + n → i ≤ ps.length → LB12 (ps.map encP) n β K (m + 1) i = optE (findL n (ps.drop i)) (K (.exit 0) [] []) fun k => K .ret [.int .i64 (i + k : Nat), .bool true] [] := fun m i hi hl => by
    rw [step12, IntWalk.i64_in ((i : Int) + n) (by omega), findL_short _ _ (by simp; omega)]
    have e1 : decide ((i : Int) + n ≤ ((ps.map encP).length : Int)) = false := by simp; omega
    rw [e1]
    rfl
  induction m with
  | zero => exact fun i hm hi => fin 0 i (by omega) hi
  | succ m ih =>
    intro i hm hi
    by_cases hl : i + n ≤ ps.length
    · have hil : i < ps.length := by omega
      rw [step12, IntWalk.i64_in ((i : Int) + n) (by omega), decP_map]
      have e1 : decide ((i : Int) + n ≤ ((ps.map encP).length : Int)) = true := by simp; omega
      have e2 : (decide (0 ≤ (i : Int)) && decide (0 ≤ (n : Int)) && decide ((i : Int) + n ≤ (ps.length : Int)) && Nat.ble ps.length 200) = true := by
        rw [Nat.ble_eq_true_of_le hs]
        simp
        omega
      have w1 : IntKind.i64.wrap ((i : Int) + 1) = ((i + 1 : Nat) : Int) := by rw [IntWalk.i64_in]; simp; omega
      rw [e1]
      simp only [cond_true, Option.bind_some, e2, Int.toNat_natCast]
      rw [w1, ih (i + 1) (by omega) (by omega)]
      have hd : ps.drop i = ps[i] :: ps.drop (i + 1) := List.drop_eq_getElem_cons hil
      rw [hd, findL]
      cases allFree n (ps[i] :: ps.drop (i + 1)) with
      | true => rfl
      | false =>
        simp only [cond_false]
        cases findL n (ps.drop (i + 1)) with
        | none => rfl
        | some k =>
          simp only [Option.map_some, optE]
          congr 4
          omega
    · exact fin (m + 1) i (by omega) hi

theorem loop12_nat : NatL loop12 := loop11a_nat

theorem loops12 : LoopsS cx12 := .of fun k L h => by
  obtain ⟨hk, rfl⟩ := cond_some2 h
  refine ⟨path12, beq_true hk, fun vs cs β K r hr => ?_⟩
  unfold loop12 loop11a at hr
  dsimp only at hr
  split at hr
  · rename_i a L n
    replace hr := bind_some' hr
    obtain ⟨ps, hps, hr⟩ := hr
    replace hr := cond_some hr
    obtain ⟨hb, hr⟩ := hr
    simp only [Bool.and_eq_true, decide_eq_true_eq] at hb
    obtain ⟨⟨⟨rfl, h1⟩, h4⟩, hs⟩ := hb
    have hs := Nat.le_of_ble_eq_true hs
    rw [decP_enc hps]
    refine ⟨ps.length + 1, ?_⟩
    have := loop12_spec ps n.toNat (by omega) (by omega) hs β K ps.length 0 (by omega) (by omega)
    simp only [List.drop_zero, Nat.zero_add] at this
    rw [Int.toNat_of_nonneg (by omega)] at this
    exact this.trans hr
  · cases hr

set_option maxRecDepth 100000 in
theorem step12f (L : List (List CV)) (n : Int) (β : Type) (K : CV → List (List CV) → Option β) : fnK cx12 Go.Proofs.Try.f12 [.sl 2 L, .int .i64 n] [] K =
    (decP L).bind fun ps => bif Nat.ble ps.length 200 then bif !(may ps) then K (.tup [.int .i64 0, .bool false]) [] else bif decide (n < 1) then K (.tup [.int .i64 0, .bool false]) [] else bif decide (n > 4) then K (.tup [.int .i64 0, .bool false]) [] else
      (decP L).bind fun ps => bif true && decide (1 ≤ n) && decide (n ≤ 4) && Nat.ble ps.length 200 then optE (findL n.toNat ps) (K (.tup [.int .i64 0, .bool false]) []) fun k => K (.tup [.int .i64 (k : Nat), .bool true]) [] else none else none := by kernel_rfl

theorem find12 : SoundC Go.Proofs.Try.prog 12 gFind :=
  SoundC.of (fnSound (cx := cx12) (fn := Go.Proofs.Try.f12) ΓR_sound ΓR_nat (eqOK_none fun _ => rfl) loops12 (fun q L h => by obtain ⟨_, rfl⟩ := cond_some2 h; exact loop12_nat)
    Go.Proofs.Try.func12 (by kernel_rfl) (by kernel_rfl) (by kernel_rfl) (Nat.le_of_ble_eq_true (by kernel_rfl)))
    fun args conts β K r h => by
      unfold gFind at h
      dsimp only at h
      split at h
      · rename_i L n
        replace h := bind_some' h
        obtain ⟨ps, hps, h⟩ := h
        replace h := cond_some h
        obtain ⟨hs, h⟩ := h
        rw [fnC_run, step12f, decP_enc hps, ← h, findR, decP_map]
        simp only [Option.bind_some, hs, cond_true]
        cases hm : may ps with
        | false => rfl
        | true =>
          by_cases h1 : n < 1
          · have hn : in3 n 1 4 = false := by cases h : in3 n 1 4; rfl; exact absurd (in3_iff.1 h).1 (by omega)
            simp [h1, hn]
          · by_cases h4 : n > 4
            · have hn : in3 n 1 4 = false := by cases h : in3 n 1 4; rfl; exact absurd (in3_iff.1 h).2 (by omega)
              simp [h4, hn]
            · have hn : in3 n 1 4 = true := in3_iff.2 ⟨by omega, by omega⟩
              have d1 : decide (n < 1) = false := by simpa using h1
              have d2 : decide (n > 4) = false := by simpa using h4
              have hc : (true && decide (1 ≤ n) && decide (n ≤ 4) && true) = true := by simp; omega
              rw [hc, hn, d1, d2]
              simp only [Bool.not_true, cond_false, cond_true]
              cases findL n.toNat ps <;> rfl
      · cases h
end Go.Ab

namespace Go.Ab
open Go

def gAwake : Callee := ⟨fun args conts _ K => match args, conts with
  | [], [] => K (.bool true) []
  | _, _ => none⟩

theorem awake_nat : NatC gAwake := fun args conts => by
  unfold gAwake
  dsimp only
  split
  · exact .ret _ _
  · exact .none

def ΓA : FuncId → Option Callee := fun f => bif Nat.beq f 11 then some gFind else bif Nat.beq f 12 then some gFind else bif Nat.beq f 13 then some gMayS else bif Nat.beq f 14 then some gMayS else
  bif Nat.beq f 15 then some gCountS else bif Nat.beq f 16 then some gCountS else bif Nat.beq f 17 then some gLarge else bif Nat.beq f 21 then some gLarge else bif Nat.beq f 18 then some gSmall else bif Nat.beq f 19 then some gSmall else
  bif Nat.beq f 20 then some gSame else bif Nat.beq f 22 then some gDrop else bif Nat.beq f 23 then some gDrop else none

theorem ΓA_sound : ∀ f g, ΓA f = some g → SoundC Go.Proofs.Try.prog f g := fun f g h => by
  unfold ΓA at h
  rcases cond_some3 h with ⟨hb, rfl⟩ | ⟨_, h⟩
  · rw [beq_true hb]; exact find11
  rcases cond_some3 h with ⟨hb, rfl⟩ | ⟨_, h⟩
  · rw [beq_true hb]; exact find12
  rcases cond_some3 h with ⟨hb, rfl⟩ | ⟨_, h⟩
  · rw [beq_true hb]; exact mayS13
  rcases cond_some3 h with ⟨hb, rfl⟩ | ⟨_, h⟩
  · rw [beq_true hb]; exact mayS14
  rcases cond_some3 h with ⟨hb, rfl⟩ | ⟨_, h⟩
  · rw [beq_true hb]; exact countS15
  rcases cond_some3 h with ⟨hb, rfl⟩ | ⟨_, h⟩
  · rw [beq_true hb]; exact countS16
  rcases cond_some3 h with ⟨hb, rfl⟩ | ⟨_, h⟩
  · rw [beq_true hb]; exact large17
  rcases cond_some3 h with ⟨hb, rfl⟩ | ⟨_, h⟩
  · rw [beq_true hb]; exact large21
  rcases cond_some3 h with ⟨hb, rfl⟩ | ⟨_, h⟩
  · rw [beq_true hb]; exact small18
  rcases cond_some3 h with ⟨hb, rfl⟩ | ⟨_, h⟩
  · rw [beq_true hb]; exact small19
  rcases cond_some3 h with ⟨hb, rfl⟩ | ⟨_, h⟩
  · rw [beq_true hb]; exact same20
  rcases cond_some3 h with ⟨hb, rfl⟩ | ⟨_, h⟩
  · rw [beq_true hb]; exact drop22
  obtain ⟨hb, rfl⟩ := cond_some1 h
  rw [beq_true hb]
  exact drop23

theorem ΓA_nat : ∀ f g, ΓA f = some g → NatC g := fun f g h => by
  unfold ΓA at h
  rcases cond_some3 h with ⟨_, rfl⟩ | ⟨_, h⟩
  · exact find_nat
  rcases cond_some3 h with ⟨_, rfl⟩ | ⟨_, h⟩
  · exact find_nat
  rcases cond_some3 h with ⟨_, rfl⟩ | ⟨_, h⟩
  · exact mayS_nat
  rcases cond_some3 h with ⟨_, rfl⟩ | ⟨_, h⟩
  · exact mayS_nat
  rcases cond_some3 h with ⟨_, rfl⟩ | ⟨_, h⟩
  · exact countS_nat
  rcases cond_some3 h with ⟨_, rfl⟩ | ⟨_, h⟩
  · exact countS_nat
  rcases cond_some3 h with ⟨_, rfl⟩ | ⟨_, h⟩
  · exact large_nat
  rcases cond_some3 h with ⟨_, rfl⟩ | ⟨_, h⟩
  · exact large_nat
  rcases cond_some3 h with ⟨_, rfl⟩ | ⟨_, h⟩
  · exact small_nat
  rcases cond_some3 h with ⟨_, rfl⟩ | ⟨_, h⟩
  · exact small_nat
  rcases cond_some3 h with ⟨_, rfl⟩ | ⟨_, h⟩
  · exact same_nat
  rcases cond_some3 h with ⟨_, rfl⟩ | ⟨_, h⟩
  · exact drop_nat
  obtain ⟨_, rfl⟩ := cond_some1 h
  exact drop_nat

noncomputable def cx10 : Cx := cxP 53 (bodyOf Go.Proofs.Try.f10) ΓA (fun _ => none) (fun _ => false)

set_option maxRecDepth 100000 in
theorem step10f (β : Type) (K : CV → List (List CV) → Option β) : fnK cx10 Go.Proofs.Try.f10 [] [] K = K (.bool true) [] := by kernel_rfl

theorem awake10 : SoundC Go.Proofs.Try.prog 10 gAwake :=
  SoundC.of (fnSound (cx := cx10) (fn := Go.Proofs.Try.f10) ΓA_sound ΓA_nat (eqOK_none fun _ => rfl) (noLoops fun _ => rfl) (noNat fun _ => rfl)
    Go.Proofs.Try.func10 (by kernel_rfl) (by kernel_rfl) (by kernel_rfl) (Nat.le_of_ble_eq_true (by kernel_rfl)))
    fun args conts β K r h => by
      unfold gAwake at h
      dsimp only at h
      split at h
      · rw [fnC_run, step10f]
        exact h
      · cases h

/-- The callees of the statements. -/
def ΓL : FuncId → Option Callee := fun f => bif Nat.beq f 10 then some gAwake else ΓA f

theorem ΓL_sound : ∀ f g, ΓL f = some g → SoundC Go.Proofs.Try.prog f g := fun f g h => by
  unfold ΓL at h
  rcases cond_some3 h with ⟨hb, rfl⟩ | ⟨_, h⟩
  · rw [beq_true hb]; exact awake10
  exact ΓA_sound f g h

theorem ΓL_nat : ∀ f g, ΓL f = some g → NatC g := fun f g h => by
  unfold ΓL at h
  rcases cond_some3 h with ⟨_, rfl⟩ | ⟨_, h⟩
  · exact awake_nat
  exact ΓA_nat f g h
end Go.Ab

namespace Go.Ab
open Go

noncomputable def cx3 : Cx := cxP 57 (bodyOf Go.Proofs.Try.f3) ΓL (fun _ => none) (fun _ => false)
noncomputable def cx7 : Cx := cxP 103 (bodyOf Go.Proofs.Try.f7) ΓL (fun _ => none) (fun _ => false)

set_option maxRecDepth 100000 in
theorem step3f (L : List (List CV)) (n k : Int) (β : Type) (K : CV → List (List CV) → Option β) : fnK cx3 Go.Proofs.Try.f3 [.sl 2 L, .int .i64 n, .int .i64 k] [] K =
  bif decide ((↑(List.length L) : Int) > 200) then K (CV.bool true) []
  else
    Option.bind (decP L) fun ps =>
      bif Nat.ble (List.length ps) 200 then
        Option.bind (decP L) fun ps_1 =>
          bif Nat.ble (List.length ps_1) 200 then
            bif Prod.fst (findR ps n) == Prod.fst (findR ps_1 n) then
              bif Prod.snd (findR ps n) == Prod.snd (findR ps_1 n) then
                Option.bind (decP L) fun ps =>
                  bif Nat.ble (List.length ps) 200 then
                    Option.bind (decP L) fun ps_2 =>
                      bif Nat.ble (List.length ps_2) 200 then
                        bif may ps == may ps_2 then
                          Option.bind (decP L) fun ps =>
                            bif Nat.ble (List.length ps) 200 then
                              Option.bind (decP L) fun ps_3 =>
                                bif Nat.ble (List.length ps_3) 200 then
                                  K (CV.bool ((↑(cnt ps k) : Int) == (↑(cnt ps_3 k) : Int))) []
                                else none
                            else none
                        else K (CV.bool false) []
                      else none
                  else none
              else K (CV.bool false) []
            else K (CV.bool false) []
          else none
      else none := by kernel_rfl

set_option maxRecDepth 100000 in
theorem step7f (L : List (List CV)) (n k : Int) (β : Type) (K : CV → List (List CV) → Option β) : fnK cx7 Go.Proofs.Try.f7 [.sl 2 L, .int .i64 n, .int .i64 k] [] K =
  bif decide ((↑(List.length L) : Int) > 200) then K (CV.bool true) []
  else
    Option.bind (decP L) fun ps =>
      bif Nat.ble (List.length ps) 200 then
        Option.bind (decP L) fun ps_1 =>
          bif Nat.ble (List.length ps_1) 200 then
            Option.bind (decP (List.map encP (Prod.snd (smallE ps n k)))) fun ps_2 =>
              Option.bind (decP (List.map encP (Prod.snd (smallE ps_1 n k)))) fun qs =>
                bif Nat.ble (List.length ps_2) 200 then
                  Option.bind (decP L) fun ps_3 =>
                    bif Nat.ble (List.length ps_3) 200 then
                      Option.bind (decP L) fun ps_4 =>
                        bif Nat.ble (List.length ps_4) 200 then
                          Option.bind (decP (List.map encP (Prod.snd (largeE ps_3 n k)))) fun ps_5 =>
                            Option.bind (decP (List.map encP (Prod.snd (largeE ps_4 n k)))) fun qs_1 =>
                              bif Nat.ble (List.length ps_5) 200 then
                                Option.bind (decP L) fun ps_6 =>
                                  bif Nat.ble (List.length ps_6) 200 then
                                    Option.bind (decP L) fun ps_7 =>
                                      bif Nat.ble (List.length ps_7) 200 then
                                        Option.bind (decP (List.map encP (Prod.snd (dropE ps_6 n)))) fun ps_8 =>
                                          Option.bind (decP (List.map encP (Prod.snd (dropE ps_7 n)))) fun qs_2 =>
                                            bif Nat.ble (List.length ps_8) 200 then
                                              bif sameP ps_2 qs then
                                                bif Prod.fst (smallE ps n k) == Prod.fst (smallE ps_1 n k) then
                                                  bif sameP ps_5 qs_1 then
                                                    bif Prod.fst (largeE ps_3 n k) == Prod.fst (largeE ps_4 n k) then
                                                      bif sameP ps_8 qs_2 then
                                                        K (CV.bool (Prod.fst (dropE ps_6 n) == Prod.fst (dropE ps_7 n)))
                                                          []
                                                      else K (CV.bool false) []
                                                    else K (CV.bool false) []
                                                  else K (CV.bool false) []
                                                else K (CV.bool false) []
                                              else K (CV.bool false) []
                                            else none
                                      else none
                                  else none
                              else none
                        else none
                    else none
                else none
          else none
      else none := by kernel_rfl

theorem law3 (ps : List Pg) (n k : Int) (β : Type) (K : CV → List (List CV) → Option β) : fnK cx3 Go.Proofs.Try.f3 [.sl 2 (ps.map encP), .int .i64 n, .int .i64 k] [] K = K (.bool true) [] := by
  rw [step3f]
  simp only [decP_map, List.length_map]
  by_cases h : (ps.length : Int) > 200
  · simp only [h, decide_true, cond_true]
  · have hs : Nat.ble ps.length 200 = true := Nat.ble_eq_true_of_le (by omega)
    simp only [h, decide_false, cond_false, Option.bind_some, hs, cond_true, beq_self_eq_true]

theorem smallE_len (ps : List Pg) (a c : Int) : (smallE ps a c).2.length ≤ ps.length := by
  unfold smallE
  cases may ps with
  | false => simp
  | true =>
    cases in3 c 0 2 with
    | false => simp
    | true =>
      cases hf : freeE ps a 1 != 0 with
      | true => simp
      | false =>
        obtain ⟨h0, hl, _⟩ := freeE_in (by simpa using hf)
        simp only [Bool.not_true, cond_false]
        rw [putP_fit (by simp; omega), splice_len _ _ _ (by simp; omega)]
        exact Nat.le_refl _

theorem ownL_len {n : Int} (h : 1 ≤ n) : (ownL n).length = n.toNat := by
  simp [ownL]
  omega

theorem largeE_len (ps : List Pg) (a n : Int) : (largeE ps a n).2.length ≤ ps.length := by
  unfold largeE
  cases may ps with
  | false => simp
  | true =>
    cases hn : in3 n 1 4 with
    | false => simp
    | true =>
      cases hf : freeE ps a n != 0 with
      | true => simp
      | false =>
        obtain ⟨h1, _⟩ := in3_iff.1 hn
        obtain ⟨h0, hl, _⟩ := freeE_in (by simpa using hf)
        simp only [Bool.not_true, cond_false]
        have ho := ownL_len h1
        rw [putP_fit (by omega), splice_len _ _ _ (by omega)]
        exact Nat.le_refl _

theorem dropE_len (ps : List Pg) (a : Int) : (dropE ps a).2.length ≤ ps.length := by
  unfold dropE
  cases hm : may ps with
  | false => simp
  | true =>
    by_cases h1 : a < 0
    · simp [h1]
    · by_cases h2 : a ≥ (ps.length : Int)
      · simp [h2]
      · have d1 : decide (a < 0) = false := by simpa using h1
        have d2 : decide (a ≥ (ps.length : Int)) = false := by simpa using h2
        have hl : a.toNat < ps.length := by omega
        have hg : ps[a.toNat]? = some ps[a.toNat] := List.getElem?_eq_getElem hl
        rw [d1, d2, hg]
        generalize hp : ps[a.toNat] = p at hg
        obtain ⟨k, b⟩ := p
        simp only [Bool.not_true, Bool.or_self, cond_false, runOf]
        cases (k == 0 || k == 3) with
        | true => simp
        | false =>
          cases hk : k == 2 with
          | false =>
            simp only [cond_false]
            rw [putP_fit (by simp; omega), splice_len _ _ _ (by simp; omega)]
            exact Nat.le_refl _
          | true =>
            have hk2 : k = 2 := by simpa using hk
            subst hk2
            obtain ⟨b1, b4, hb⟩ := may_run hm hg
            simp only [cond_false, cond_true]
            rw [putP_fit (by simp; omega), splice_len _ _ _ (by simp; omega)]
            exact Nat.le_refl _

theorem sameP_self (ps : List Pg) : sameP ps ps = true := sameP_iff.2 rfl

theorem law7 (ps : List Pg) (n k : Int) (β : Type) (K : CV → List (List CV) → Option β) : fnK cx7 Go.Proofs.Try.f7 [.sl 2 (ps.map encP), .int .i64 n, .int .i64 k] [] K = K (.bool true) [] := by
  rw [step7f]
  simp only [decP_map, List.length_map]
  by_cases h : (ps.length : Int) > 200
  · simp only [h, decide_true, cond_true]
  · have hs : Nat.ble ps.length 200 = true := Nat.ble_eq_true_of_le (by omega)
    have h1 : Nat.ble (smallE ps n k).2.length 200 = true := Nat.ble_eq_true_of_le (Nat.le_trans (smallE_len _ _ _) (by omega))
    have h2 : Nat.ble (largeE ps n k).2.length 200 = true := Nat.ble_eq_true_of_le (Nat.le_trans (largeE_len _ _ _) (by omega))
    have h3 : Nat.ble (dropE ps n).2.length 200 = true := Nat.ble_eq_true_of_le (Nat.le_trans (dropE_len _ _) (by omega))
    simp only [h, decide_false, cond_false, Option.bind_some, hs, h1, h2, h3, cond_true, sameP_self, beq_self_eq_true]
end Go.Ab
