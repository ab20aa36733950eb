/- Pages: what the program's functions come to.
pages.May.
pages.Count.
pages.Count: its contract.
pages.May.
pages.May: the loop's answer.
Struct types whose cells are numbers: '=='.
ragpickerref04.May: the inner loop.
ragpickerref04.May: the inner loop's answer.
ragpickerref04.May: the inner loop's answer.
ragpickerref04.May.
ragpickerref04.May: the outer loop.
ragpickerref04.May: the outer loop's answer.
ragpickerref04.May: it is as pages.May.
ragpickerref04.May: its contract.
Small functions of cells and class.
cells.on: its iterator.
cells.On.
cells.all: its iterator.
cells.all: its iterator's contract.
cells.On, cells.All: their contracts.
cells.first; cells.Room, Start, Next.
cells.first; cells.Room, Start, Next: their contracts.
ragpickerref01.Ints; awake.
What the laws on cells call.
Cells in rows: what is found among them.
CellsStart comes to true.
CellsRooms, CellsOn: their loops. -/
import Derived.Test.YtkahninpodhcmaaDoorAbD
import Derived.Test.YtkahninpodhcmaaDoorProg
import Derived.IntWalk
namespace Go.Ab
open Go

/-- A context without loops of its own. -/
noncomputable def cxP (n : Nat) (root : Code) (Γ : FuncId → Option Callee) (Λ : Nat → Option LoopSem) (wr : Nat → Bool) : Cx :=
  { P := Go.Proofs.Tryd.prog, nt := n, Γ := Γ, Λ := Λ, un := fun _ => false, root := root, wr := wr, eqT := fun _ => false }

def Γ1 : FuncId → Option Callee := fun f => bif Nat.beq f 76 then some gIn else none
end Go.Ab

namespace Go.Ab
open Go

theorem in_nat : NatC gIn := fun args conts => by
  unfold gIn
  dsimp only
  split
  · exact .ret _ _
  · exact .none

theorem Γ1_nat : ∀ f g, Γ1 f = some g → NatC g := fun f g h => by
  unfold Γ1 at h
  obtain ⟨_, rfl⟩ := cond_some1 h
  exact in_nat

noncomputable def cx24 : Cx := cxP 15 (bodyOf Go.Proofs.Tryd.f76) (fun _ => none) (fun _ => none) (fun _ => false)

set_option maxRecDepth 100000 in
theorem in_step (a b c : Int) (β : Type) (K : CV → List (List CV) → Option β) : fnK cx24 Go.Proofs.Tryd.f76 [.int .i64 a, .int .i64 b, .int .i64 c] [] K =
 cond (decide (a ≥ b)) (K (.bool (decide (a ≤ c))) []) (K (.bool false) []) := by kernel_rfl

theorem in_sound : SoundC Go.Proofs.Tryd.prog 76 gIn :=
  SoundC.of (fnSound (cx := cx24) (fn := Go.Proofs.Tryd.f76) (fun f g h => by cases h) (fun f g h => by cases h) (eqOK_none fun _ => rfl) (fun p L b h => by cases h) (fun q L h => by cases h) Go.Proofs.Tryd.func76 (by kernel_rfl) (by kernel_rfl) (by kernel_rfl) (Nat.le_of_ble_eq_true (by kernel_rfl)))
    fun args conts β K r h => by
      unfold gIn at h
      dsimp only at h
      split at h
      · rename_i a b c
        rw [fnC_run, in_step]
        cases hq : decide (a ≥ b) <;> simp only [hq, cond_true, cond_false] at h ⊢ <;> exact h
      · cases h

theorem Γ1_sound : ∀ f g, Γ1 f = some g → SoundC Go.Proofs.Tryd.prog f g := fun f g h => by
  unfold Γ1 at h
  obtain ⟨hb, rfl⟩ := cond_some1 h
  have := beq_true hb
  subst this
  exact in_sound
end Go.Ab

namespace Go.Ab
open Go

abbrev Pg := Int × Int

def encP (p : Pg) : List CV := [.int .i64 p.1, .int .i64 p.2]

def dec2 : List CV → Option Pg
  | [.int .i64 a, .int .i64 b] => some (a, b)
  | _ => none

theorem dec2_enc {l : List CV} {p : Pg} (h : dec2 l = some p) : l = encP p := by
  unfold dec2 at h
  split at h
  · cases h; rfl
  · cases h

def decP (L : List (List CV)) : Option (List Pg) := mapO dec2 L

theorem decP_enc : ∀ {L : List (List CV)} {ps : List Pg}, decP L = some ps → L = ps.map encP
  | [], ps, h => by
    simp only [decP, mapO, Option.some.injEq] at h
    subst h
    rfl
  | l :: L, ps, h => by
    simp only [decP, mapO] at h
    obtain ⟨p, hp, h⟩ := bind_some' h
    obtain ⟨qs, hq, h⟩ := bind_some' h
    cases h
    rw [dec2_enc hp, decP_enc (ps := qs) hq]
    rfl

@[simp] theorem decP_map (ps : List Pg) : decP (ps.map encP) = some ps := by
  induction ps with
  | nil => rfl
  | cons p ps ih =>
    simp only [decP] at ih
    simp [decP, mapO, encP, dec2, ih]

/-- An element that there is. -/
theorem rdE_map {ps : List Pg} {i : Nat} (h : i < ps.length) {γ : Type} (f : List CV → Option γ) : (rdE (ps.map encP) (i : Int)).bind f = f (encP ps[i]) := by
  simp [rdE, h]

def SMALL : Nat := 1152921504606846976

def cnt (ps : List Pg) (k : Int) : Nat := (ps.filter fun p => p.1 == k).length

noncomputable abbrev body15 : Code := (codeAt (bodyOf Go.Proofs.Tryd.f15) [false, false, true, false, true, true]).getD .skip
def outs15 : Exit → List Nat := fun _ => [5]

def loop15 : LoopSem := ⟨[5, 10, 8, 9, 1], outs15, fun vs cs _ K => match vs, cs with
  | [.int .i64 m, .int .i64 i, .sl 2 L, .int .i64 len, .int .i64 k], [] => (decP L).bind fun ps => bif decide (m = 0) && decide (i = 0) && decide (len = (ps.length : Int)) && Nat.ble ps.length SMALL then K (.exit 0) [.int .i64 (cnt ps k)] [] else none
  | _, _ => none⟩

noncomputable def cx15 : Cx := cxP 22 (bodyOf Go.Proofs.Tryd.f15) (fun _ => none) (fun q => bif Nat.beq q 58 then some loop15 else none) (fun _ => false)

set_option maxRecDepth 100000 in
theorem step15 (n : Nat) (L : List (List CV)) (m i len k : Int) (β : Type) (K : Exit → List CV → List (List CV) → Option β) :
    loopB cx15 [5, 10, 8, 9, 1] outs15 [false, true, false, true, true] body15 (n + 1) [.int .i64 m, .int .i64 i, .sl 2 L, .int .i64 len, .int .i64 k] [] K =
 cond (decide (i < len)) ((rdE L i).bind fun c => (c[0]?).bind fun x => (asI .i64 x).bind fun a => (c[1]?).bind fun x => (asI .i64 x).bind fun _ => cond (a == k) (loopB cx15 [5, 10, 8, 9, 1] outs15 [false, true, false, true, true] body15 n [.int .i64 (IntKind.i64.wrap (m + 1)), .int .i64 (IntKind.i64.wrap (i + 1)), .sl 2 L, .int .i64 len, .int .i64 k] [] K) (loopB cx15 [5, 10, 8, 9, 1] outs15 [false, true, false, true, true] body15 n [.int .i64 m, .int .i64 (IntKind.i64.wrap (i + 1)), .sl 2 L, .int .i64 len, .int .i64 k] [] K)) (K (.exit 0) [.int .i64 m] []) := by kernel_rfl

theorem loop15_spec (ps : List Pg) (k : Int) (hs : ps.length ≤ SMALL) (β : Type) (K : Exit → List CV → List (List CV) → Option β) : ∀ (n i : Nat) (m : Nat), ps.length - i ≤ n → i ≤ ps.length → m ≤ i →
    loopB cx15 [5, 10, 8, 9, 1] outs15 [false, true, false, true, true] body15 (n + 1) [.int .i64 m, .int .i64 i, .sl 2 (ps.map encP), .int .i64 (ps.length : Int), .int .i64 k] [] K = K (.exit 0) [.int .i64 (m + cnt (ps.drop i) k : Nat)] [] := by
  intro n
  have hS : SMALL = 1152921504606846976 := rfl
  induction n with
  | zero =>
    intro i m hn hi hm
    have hil : i = ps.length := by omega
    subst hil
    rw [step15]
    simp [cnt]
  | succ n ih =>
    intro i m hn hi hm
    rw [step15]
    by_cases hl : i < ps.length
    · have e1 : decide ((i : Int) < (ps.length : Int)) = true := by simp; omega
      rw [e1, cond_true, rdE_map hl]
      have w1 : IntKind.i64.wrap ((i : Int) + 1) = ((i + 1 : Nat) : Int) := by rw [IntWalk.i64_in]; simp; omega
      have w2 : IntKind.i64.wrap ((m : Int) + 1) = ((m + 1 : Nat) : Int) := by rw [IntWalk.i64_in]; simp; omega
      have hd : ps.drop i = ps[i] :: ps.drop (i + 1) := List.drop_eq_getElem_cons hl
      have hc : cnt (ps.drop i) k = (if ps[i].1 == k then 1 else 0) + cnt (ps.drop (i + 1)) k := by
        rw [hd]
        simp only [cnt, List.filter_cons]
        split <;> simp <;> omega
      simp only [encP, List.getElem?_cons_zero, List.getElem?_cons_succ, Option.bind_some, asI, if_true, w1, w2]
      cases hk : ps[i].1 == k with
      | true =>
        rw [cond_true, ih (i + 1) (m + 1) (by omega) (by omega) (by omega), hc, hk]
        simp only [if_true]
        congr 4
        omega
      | false =>
        rw [cond_false, ih (i + 1) m (by omega) (by omega) (by omega), hc, hk]
        simp
    · have hil : i = ps.length := by omega
      subst hil
      simp [cnt]
end Go.Ab

namespace Go.Ab
open Go

theorem loop15_nat : NatL loop15 := fun vs cs => by
  unfold loop15
  dsimp only
  split
  · exact .bind _ fun _ => .cond _ (.ret _ _ _) .none
  · exact .none

theorem loops15 : LoopsS cx15 := .of fun k L h => by
  obtain ⟨hk, rfl⟩ := cond_some2 h
  refine ⟨[false, true, false, true, true], beq_true hk, fun vs cs β K r hr => ?_⟩
  unfold loop15 at hr
  dsimp only at hr
  split at hr
  · rename_i m i L len k
    replace hr := bind_some' hr
    obtain ⟨ps, hps, hr⟩ := hr
    replace hr := cond_some hr
    obtain ⟨hb, hr⟩ := hr
    simp only [Bool.and_eq_true, decide_eq_true_eq] at hb
    obtain ⟨⟨⟨rfl, rfl⟩, rfl⟩, hs⟩ := hb
    have hs := Nat.le_of_ble_eq_true hs
    rw [decP_enc hps]
    refine ⟨ps.length + 1, ?_⟩
    have := loop15_spec ps k hs β K ps.length 0 0 (by omega) (by omega) (by omega)
    simp only [List.drop_zero, Nat.zero_add] at this
    exact this.trans hr
  · cases hr

def gCount : Callee := ⟨fun args conts _ K => match args, conts with
  | [.sl 2 L, .int .i64 k], [] => (decP L).bind fun ps => bif Nat.ble ps.length SMALL then K (.int .i64 (cnt ps k)) [] else none
  | _, _ => none⟩

set_option maxRecDepth 100000 in
theorem step15f (L : List (List CV)) (k : Int) (β : Type) (K : CV → List (List CV) → Option β) : fnK cx15 Go.Proofs.Tryd.f15 [.sl 2 L, .int .i64 k] [] K =
 (decP L).bind fun ps => bif true && true && decide ((L.length : Int) = (ps.length : Int)) && Nat.ble ps.length SMALL then K (.int .i64 (cnt ps k)) [] else none := by kernel_rfl

theorem count_nat : NatC gCount := fun args conts => by
  unfold gCount
  dsimp only
  split
  · exact .bind _ fun _ => .cond _ (.ret _ _) .none
  · exact .none

theorem decP_len {L : List (List CV)} {ps : List Pg} (h : decP L = some ps) : L.length = ps.length := by rw [decP_enc h]; simp

theorem count_sound : SoundC Go.Proofs.Tryd.prog 15 gCount :=
  SoundC.of (fnSound (cx := cx15) (fn := Go.Proofs.Tryd.f15) (fun f g h => by cases h) (fun f g h => by cases h) (eqOK_none fun _ => rfl) loops15 (fun q L h => by obtain ⟨_, rfl⟩ := cond_some2 h; exact loop15_nat)
    Go.Proofs.Tryd.func15 (by kernel_rfl) (by kernel_rfl) (by kernel_rfl) (Nat.le_of_ble_eq_true (by kernel_rfl)))
    fun args conts β K r h => by
      unfold gCount at h
      dsimp only at h
      split at h
      · rename_i L k
        replace h := bind_some' h
        obtain ⟨ps, hps, h⟩ := h
        replace h := cond_some h
        obtain ⟨hs, h⟩ := h
        rw [fnC_run, step15f, hps]
        simp only [Option.bind_some, decP_len hps, hs, decide_true, Bool.and_self, cond_true]
        exact h
      · cases h
end Go.Ab

namespace Go.Ab
open Go

def mayGo : Int → List Pg → Option Int
  | rest, [] => some rest
  | rest, p :: ps => cond (p.1 == 3) (cond (rest == 0) none (cond (p.2 != 0) none (mayGo (rest - 1) ps)))
      (cond (p.1 == 0) (cond (p.2 != 0) none (cond (decide (rest > 0)) none (mayGo rest ps)))
        (cond (p.1 == 1) (cond (!(cond (decide (p.2 ≥ 0)) (decide (p.2 ≤ 2)) false)) none (cond (decide (rest > 0)) none (mayGo rest ps)))
          (cond (p.1 == 2) (cond (!(cond (decide (p.2 ≥ 1)) (decide (p.2 ≤ 4)) false)) none (cond (decide (rest > 0)) none (mayGo (p.2 - 1) ps))) none)))

def may (ps : List Pg) : Bool := match mayGo 0 ps with
  | some r => cond (r == 0) (cond (decide ((ps.length : Int) ≥ 1)) (decide ((ps.length : Int) ≤ 64)) false) false
  | none => false

noncomputable abbrev body13 : Code := (codeAt (bodyOf Go.Proofs.Tryd.f50) [false, false, true, false, true, true]).getD .skip
def outs13 : Exit → List Nat := fun e => match e with | .ret => [2] | _ => [3, 0]

def loop13 : LoopSem := ⟨[3, 8, 6, 7, 0], outs13, fun vs cs _ K => match vs, cs with
  | [.int .i64 r, .int .i64 i, .sl 2 L, .int .i64 len, .sl 2 L'], [] => (decP L).bind fun ps => (decP L').bind fun ps' => bif decide (r = 0) && decide (i = 0) && decide (len = (ps.length : Int)) && Nat.ble ps.length SMALL then (match mayGo 0 ps with
      | some r' => K (.exit 0) [.int .i64 r', .sl 2 (ps'.map encP)] []
      | none => K .ret [.bool false] []) else none
  | _, _ => none⟩

noncomputable def cx13 : Cx := cxP 58 (bodyOf Go.Proofs.Tryd.f50) Γ1 (fun q => bif Nat.beq q 58 then some loop13 else none) (fun _ => false)

noncomputable def LB13 (L : List (List CV)) (len : Int) (L' : List (List CV)) (β : Type) (K : Exit → List CV → List (List CV) → Option β) (n : Nat) (rest i : Int) : Option β :=
  loopB cx13 [3, 8, 6, 7, 0] outs13 [false, true, false, true, true] body13 n [.int .i64 rest, .int .i64 i, .sl 2 L, .int .i64 len, .sl 2 L'] [] K

set_option maxRecDepth 100000 in
theorem step13 (L L' : List (List CV)) (len : Int) (β : Type) (K : Exit → List CV → List (List CV) → Option β) (n : Nat) (rest i : Int) : LB13 L len L' β K (n + 1) rest i =
 cond (decide (i < len)) ((rdE L i).bind fun c => (c[0]?).bind fun x => (asI .i64 x).bind fun a => (c[1]?).bind fun x => (asI .i64 x).bind fun b => cond (a == 3) (cond (rest == 0) (K .ret [.bool false] []) (cond (b != 0) (K .ret [.bool false] []) (LB13 L len L' β K n (IntKind.i64.wrap (rest - 1)) (IntKind.i64.wrap (i + 1))))) (cond (a == 0) (cond (b != 0) (K .ret [.bool false] []) (cond (decide (rest > 0)) (K .ret [.bool false] []) (cond (a == 2) (LB13 L len L' β K n (IntKind.i64.wrap (b - 1)) (IntKind.i64.wrap (i + 1))) (LB13 L len L' β K n rest (IntKind.i64.wrap (i + 1)))))) (cond (a == 1) (cond (!(cond (decide (b ≥ 0)) (decide (b ≤ 2)) false)) (K .ret [.bool false] []) (cond (decide (rest > 0)) (K .ret [.bool false] []) (cond (a == 2) (LB13 L len L' β K n (IntKind.i64.wrap (b - 1)) (IntKind.i64.wrap (i + 1))) (LB13 L len L' β K n rest (IntKind.i64.wrap (i + 1)))))) (cond (a == 2) (cond (!(cond (decide (b ≥ 1)) (decide (b ≤ 4)) false)) (K .ret [.bool false] []) (cond (decide (rest > 0)) (K .ret [.bool false] []) (cond (a == 2) (LB13 L len L' β K n (IntKind.i64.wrap (b - 1)) (IntKind.i64.wrap (i + 1))) (LB13 L len L' β K n rest (IntKind.i64.wrap (i + 1)))))) (K .ret [.bool false] []))))) (K (.exit 0) [.int .i64 rest, .sl 2 L'] []) := by kernel_rfl
end Go.Ab

namespace Go.Ab
open Go

theorem loop13_spec (ps : List Pg) (L' : List (List CV)) (hs : ps.length ≤ SMALL) (β : Type) (K : Exit → List CV → List (List CV) → Option β) : ∀ (n i : Nat) (rest : Int), ps.length - i ≤ n → i ≤ ps.length → 0 ≤ rest → rest ≤ 3 →
    LB13 (ps.map encP) (ps.length : Int) L' β K (n + 1) rest i = match mayGo rest (ps.drop i) with
      | some r' => K (.exit 0) [.int .i64 r', .sl 2 L'] []
      | none => K .ret [.bool false] [] := by
  intro n
  have hS : SMALL = 1152921504606846976 := rfl
  have fin : ∀ (n i : Nat) (rest : Int), i = ps.length → LB13 (ps.map encP) (ps.length : Int) L' β K (n + 1) rest i = match mayGo rest (ps.drop i) with
      | some r' => K (.exit 0) [.int .i64 r', .sl 2 L'] []
      | none => K .ret [.bool false] [] := fun n i rest hi => by
    subst hi
    rw [step13]
    simp [mayGo]
  induction n with
  | zero => exact fun i rest hn hi _ _ => fin 0 i rest (by omega)
  | succ n ih =>
    intro i rest hn hi h0 h3
    by_cases hl : i < ps.length
    · rw [step13]
      have e1 : decide ((i : Int) < (ps.length : Int)) = true := by simp; omega
      rw [e1, cond_true, rdE_map hl]
      have w1 : IntKind.i64.wrap ((i : Int) + 1) = ((i + 1 : Nat) : Int) := by rw [IntWalk.i64_in]; simp; omega
      have hd : ps.drop i = ps[i] :: ps.drop (i + 1) := List.drop_eq_getElem_cons hl
      rw [hd]
      generalize ps[i] = p
      obtain ⟨a, b⟩ := p
      simp only [encP, List.getElem?_cons_zero, List.getElem?_cons_succ, Option.bind_some, asI, if_true, w1, mayGo]
      have IH := fun rest h0 h3 => ih (i + 1) rest (by omega) (by omega) h0 h3
      cases ha3 : a == 3 with
      | true =>
        simp only [cond_true]
        cases hr : rest == 0 with
        | true => rfl
        | false =>
          simp only [cond_false]
          cases hb : b != 0 with
          | true => rfl
          | false =>
            simp only [cond_false]
            have hr' : rest ≠ 0 := by simpa using hr
            rw [IntWalk.i64_in (rest - 1) (by omega)]
            exact IH (rest - 1) (by omega) (by omega)
      | false =>
        simp only [cond_false]
        cases ha0 : a == 0 with
        | true =>
          have ha : a = 0 := by simpa using ha0
          subst ha
          simp only [cond_true]
          cases hb : b != 0 with
          | true => rfl
          | false =>
            cases hr : decide (rest > 0) with
            | true => rfl
            | false => exact IH rest h0 h3
        | false =>
          simp only [cond_false]
          cases ha1 : a == 1 with
          | true =>
            have ha : a = 1 := by simpa using ha1
            subst ha
            simp only [cond_true]
            cases hb : !(bif decide (b ≥ 0) then decide (b ≤ 2) else false) with
            | true => rfl
            | false =>
              cases hr : decide (rest > 0) with
              | true => rfl
              | false => exact IH rest h0 h3
          | false =>
            simp only [cond_false]
            cases ha2 : a == 2 with
            | true =>
              simp only [cond_true]
              cases hb : !(bif decide (b ≥ 1) then decide (b ≤ 4) else false) with
              | true => rfl
              | false =>
                have hb' : 1 ≤ b ∧ b ≤ 4 := by
                  by_cases h1 : b ≥ 1
                  · simp [h1] at hb; exact ⟨h1, hb⟩
                  · simp [h1] at hb
                cases hr : decide (rest > 0) with
                | true => rfl
                | false =>
                  simp only [cond_false]
                  rw [IntWalk.i64_in (b - 1) (by omega)]
                  exact IH (b - 1) (by omega) (by omega)
            | false => rfl
    · exact fin (n + 1) i rest (by omega)

theorem loop13_nat : NatL loop13 := fun vs cs => by
  unfold loop13
  dsimp only
  split
  · refine .bind _ fun _ => .bind _ fun _ => .cond _ ?_ .none
    split
    · exact .ret _ _ _
    · exact .ret _ _ _
  · exact .none

theorem loops13 : LoopsS cx13 := .of fun k L h => by
  obtain ⟨hk, rfl⟩ := cond_some2 h
  refine ⟨[false, true, false, true, true], beq_true hk, fun vs cs β K r hr => ?_⟩
  unfold loop13 at hr
  dsimp only at hr
  split at hr
  · rename_i m i L len L'
    replace hr := bind_some' hr
    obtain ⟨ps, hps, hr⟩ := hr
    replace hr := bind_some' hr
    obtain ⟨ps', hps', hr⟩ := hr
    replace hr := cond_some hr
    obtain ⟨hb, hr⟩ := hr
    simp only [Bool.and_eq_true, decide_eq_true_eq] at hb
    obtain ⟨⟨⟨rfl, rfl⟩, rfl⟩, hs⟩ := hb
    have hs := Nat.le_of_ble_eq_true hs
    rw [decP_enc hps, decP_enc hps']
    refine ⟨ps.length + 1, ?_⟩
    have := loop13_spec ps (ps'.map encP) hs β K ps.length 0 0 (by omega) (by omega) (by omega) (by omega)
    rw [List.drop_zero] at this
    exact this.trans hr
  · cases hr

set_option maxRecDepth 100000 in
theorem step13f (L : List (List CV)) (β : Type) (K : CV → List (List CV) → Option β) : fnK cx13 Go.Proofs.Tryd.f50 [.sl 2 L] [] K =
 (decP L).bind fun ps => (decP L).bind fun ps' => bif true && true && decide ((L.length : Int) = (ps.length : Int)) && Nat.ble ps.length SMALL then (match mayGo 0 ps with | some r' => cond (r' == 0) (K (.bool (cond (decide (((ps'.map encP).length : Int) ≥ 1)) (decide (((ps'.map encP).length : Int) ≤ 64)) false)) []) (K (.bool false) []) | none => K (.bool false) []) else none := by kernel_rfl

def gMay : Callee := ⟨fun args conts _ K => match args, conts with
  | [.sl 2 L], [] => (decP L).bind fun ps => bif Nat.ble ps.length SMALL then K (.bool (may ps)) [] else none
  | _, _ => none⟩

theorem may_nat : NatC gMay := fun args conts => by
  unfold gMay
  dsimp only
  split
  · exact .bind _ fun _ => .cond _ (.ret _ _) .none
  · exact .none

theorem may_sound : SoundC Go.Proofs.Tryd.prog 50 gMay :=
  SoundC.of (fnSound (cx := cx13) (fn := Go.Proofs.Tryd.f50) Γ1_sound Γ1_nat (eqOK_none fun _ => rfl) loops13 (fun q L h => by obtain ⟨_, rfl⟩ := cond_some2 h; exact loop13_nat)
    Go.Proofs.Tryd.func50 (by kernel_rfl) (by kernel_rfl) (by kernel_rfl) (Nat.le_of_ble_eq_true (by kernel_rfl)))
    fun args conts β K r h => by
      unfold gMay at h
      dsimp only at h
      split at h
      · rename_i L
        replace h := bind_some' h
        obtain ⟨ps, hps, h⟩ := h
        replace h := cond_some h
        obtain ⟨hs, h⟩ := h
        rw [fnC_run, step13f, hps]
        simp only [Option.bind_some, decP_len hps, hs, decide_true, Bool.and_self, cond_true, List.length_map]
        rw [← h]
        unfold may
        cases mayGo 0 ps with
        | none => rfl
        | some r' => cases hr : r' == 0 <;> simp [hr]
      · cases h
end Go.Ab

namespace Go.Ab
open Go

theorem kindV_ints {P : Program} : ∀ {ts : List TypeId} {vs : List Value}, (∀ t ∈ ts, ∃ k, P.underlying t = some (.int k)) → kindV P ts vs = true → ∃ l : List (IntKind × Int), vs = l.map (fun p => .int p.1 p.2) ∧ l.length = ts.length
  | [], [], _, _ => ⟨[], rfl, rfl⟩
  | [], _ :: _, _, h => by simp [kindV] at h
  | _ :: _, [], _, h => by simp [kindV] at h
  | t :: ts, v :: vs, hk, h => by
    obtain ⟨k, ht⟩ := hk t (by simp)
    simp only [kindV, Bool.and_eq_true, ht] at h
    obtain ⟨l, rfl, hl⟩ := kindV_ints (fun t h => hk t (by simp [h])) h.2
    have h1 := h.1
    split at h1
    · rename_i _ b n _
      exact ⟨(b, n) :: l, by simp, by simp [hl]⟩
    · rename_i hq; cases hq
    · cases h1

theorem run_equalIn_int {P : Program} {t : TypeId} {k : IntKind} (hu : P.underlying t = some (.int k)) (d : Nat) (c : IntKind) (a b : Int) (w : World) : (Op.equalIn (d + 1) t (.int c a) (.int c b)).run P w = .ok (a == b) w := by
  simp [Op.equalIn, run_underlying hu]

theorem run_part0 {P : Program} {t : TypeId} {k : IntKind} (h : P.underlying t = some (.int k)) (a : Array Value) (i : Nat) (v : Value) (hv : a[i]? = some v) (w : World) : (part t a i).run P w = .ok v w := by
  simp [part, run_isAgg h, aggD, hv]

theorem eqIn_two {P : Program} {t : TypeId} {f0 f1 : Field} {k0 k1 : IntKind} (hs : P.underlying t = some (.struct #[f0, f1])) (hst : P.stoodInHeld t = false) (n0 : f0.name ≠ "_") (n1 : f1.name ≠ "_") (o0 : f0.offset = 0) (o1 : f1.offset = 1)
    (h0 : P.underlying f0.type = some (.int k0)) (h1 : P.underlying f1.type = some (.int k1)) (d : Nat) (a b : IntKind) (x x' y y' : Int) (w : World) :
    (Op.equalIn (d + 2) t (.agg #[.int a x, .int b y]) (.agg #[.int a x', .int b y'])).run P w = .ok (x == x' && y == y') w := by
  have p0 := fun v u => run_part0 h0 #[.int a v, .int b u] 0 (.int a v) rfl w
  have p1 := fun v u => run_part0 h1 #[.int a v, .int b u] 1 (.int b u) rfl w
  have q0 := run_equalIn_int h0 d a x x' w
  have q1 := run_equalIn_int h1 d b y y' w
  rw [show d + 2 = (d + 1) + 1 from rfl]
  unfold Op.equalIn
  cases hx : x == x' <;> cases hy : y == y' <;> rw [hx] at q0 <;> rw [hy] at q1 <;> simp [run_underlying hs, hst, n0, n1, o0, o1, p0, p1, q0, q1]

theorem eq_two {P : Program} {t : TypeId} {f0 f1 : Field} {k0 k1 : IntKind} (hs : P.underlying t = some (.struct #[f0, f1])) (hst : P.stoodInHeld t = false) (n0 : f0.name ≠ "_") (n1 : f1.name ≠ "_") (o0 : f0.offset = 0) (o1 : f1.offset = 1)
    (h0 : P.underlying f0.type = some (.int k0)) (h1 : P.underlying f1.type = some (.int k1)) (hf : flatT P 8 t = [f0.type, f1.type]) (vs us : Array Value) (r : Bool) (w : World)
    (hv : kindV P (flatT P 8 t) vs.toList = true) (hu : kindV P (flatT P 8 t) us.toList = true) (he : eqVals vs.toList us.toList = some r) : (Op.equal t (.agg vs) (.agg us)).run P w = .ok r w := by
  rw [hf] at hv hu
  have hk : ∀ t ∈ [f0.type, f1.type], ∃ k, P.underlying t = some (.int k) := fun t ht => by
    simp at ht
    rcases ht with rfl | rfl
    · exact ⟨_, h0⟩
    · exact ⟨_, h1⟩
  obtain ⟨vl⟩ := vs
  obtain ⟨ul⟩ := us
  obtain ⟨l, hvl, hl⟩ := kindV_ints hk hv
  obtain ⟨m, hul, hm⟩ := kindV_ints hk hu
  match l, m, hl, hm with
  | [(a, x), (b, y)], [(a', x'), (b', y')], _, _ =>
    dsimp only at hvl hul he
    subst hvl hul
    simp only [List.map_cons, List.map_nil, eqVals] at he
    obtain ⟨ha, he⟩ := ite_some he
    replace he := bind_some' he
    obtain ⟨t1, ht1, he⟩ := he
    obtain ⟨hb, ht1⟩ := ite_some ht1
    simp only [Option.bind_some, Option.some.injEq, Bool.and_true] at ht1 he
    rw [← he, ← ht1, ha, hb]
    exact eqIn_two hs hst n0 n1 o0 o1 h0 h1 9998 a' b' x x' y y' w
end Go.Ab

namespace Go.Ab
open Go

/-- A context in which pages may be compared. -/
noncomputable def cxE (n : Nat) (root : Code) (Γ : FuncId → Option Callee) (Λ : Nat → Option LoopSem) (wr : Nat → Bool) : Cx :=
  { P := Go.Proofs.Tryd.prog, nt := n, Γ := Γ, Λ := Λ, un := fun _ => false, root := root, wr := wr, eqT := fun t => Nat.beq t 50 }

set_option maxRecDepth 100000 in
theorem eqOK_page {cx : Cx} (hP : cx.P = Go.Proofs.Tryd.prog) (h : cx.eqT = fun t => Nat.beq t 50) : EqOK cx := fun t ht => by
  rw [h] at ht
  have := beq_true ht
  subst this
  rw [hP]
  refine ⟨by kernel_rfl, fun vs us r w hv hu he => ?_⟩
  obtain ⟨f0, f1, h1, h2, h3, h4, h5, h6, h7, h8⟩ : ∃ f0 f1 : Field, Go.Proofs.Tryd.prog.underlying 50 = some (.struct #[f0, f1]) ∧ f0.name ≠ "_" ∧ f1.name ≠ "_" ∧ f0.offset = 0 ∧ f1.offset = 1 ∧ Go.Proofs.Tryd.prog.underlying f0.type = some (.int .i64) ∧
      Go.Proofs.Tryd.prog.underlying f1.type = some (.int .i64) ∧ flatT Go.Proofs.Tryd.prog 8 50 = [f0.type, f1.type] := ⟨_, _, Go.Proofs.Tryd.underlying50, by decide, by decide, rfl, rfl, by kernel_rfl, by kernel_rfl, by kernel_rfl⟩
  exact eq_two h1 (by kernel_rfl) h2 h3 h4 h5 h6 h7 h8 vs us r w hv hu he

/-- n pages that go on. -/
def eat : Nat → List Pg → Option (List Pg)
  | 0, ps => some ps
  | _ + 1, [] => none
  | n + 1, p :: ps => cond (p.1 == 3 && (p.2 == 0 && true)) (eat n ps) none
end Go.Ab

namespace Go.Ab
open Go

abbrev pathB : List Bool := [false, true, true, true, true, true, true, false, true, false, false, false, true, true, true]
noncomputable abbrev body14b : Code := (codeAt (bodyOf Go.Proofs.Tryd.f74) (false :: pathB)).getD .skip
def outs14b : Exit → List Nat := fun e => match e with | .ret => [2] | _ => [3, 0]

def loop14b : LoopSem := ⟨[3, 5, 0, 4], outs14b, fun vs cs _ K => match vs, cs with
  | [.int .i64 i, .int .i64 j, .sl 2 L, .ref 0], [[.int .i64 k, .int .i64 a]] => (decP L).bind fun ps => bif decide (j = 1) && decide (1 ≤ a) && decide (a ≤ 4) && decide (0 ≤ i) && decide (i ≤ ps.length) && Nat.ble ps.length SMALL then optE (eat (a - 1).toNat (ps.drop i.toNat)) (K .ret [.bool false] [[.int .i64 k, .int .i64 a]])
      (fun _ => K (.exit 2) [.int .i64 (i + (a - 1)), .sl 2 (ps.map encP)] [[.int .i64 k, .int .i64 a]]) else none
  | _, _ => none⟩

noncomputable def LB14b (cx : Cx) (L : List (List CV)) (k a : Int) (β : Type) (K : Exit → List CV → List (List CV) → Option β) (n : Nat) (i j : Int) : Option β :=
  loopB cx [3, 5, 0, 4] outs14b pathB body14b n [.int .i64 i, .int .i64 j, .sl 2 L, .ref 0] [[.int .i64 k, .int .i64 a]] K

noncomputable def cx14' (Λ : Nat → Option LoopSem) : Cx := cxE 80 (bodyOf Go.Proofs.Tryd.f74) Γ1 Λ (fun _ => false)

set_option maxRecDepth 100000 in
theorem step14b (Λ : Nat → Option LoopSem) (L : List (List CV)) (k a : Int) (β : Type) (K : Exit → List CV → List (List CV) → Option β) (n : Nat) (i j : Int) : LB14b (cx14' Λ) L k a β K (n + 1) i j =
 cond (decide (j < a)) (cond (decide (i ≥ (L.length : Int))) (K .ret [.bool false] [[.int .i64 k, .int .i64 a]]) ((rdE L i).bind fun c => (c[0]?).bind fun x => (asI .i64 x).bind fun u => (c[1]?).bind fun x => (asI .i64 x).bind fun v => cond (!(u == 3 && (v == 0 && true))) (K .ret [.bool false] [[.int .i64 k, .int .i64 a]]) (LB14b (cx14' Λ) L k a β K n (IntKind.i64.wrap (i + 1)) (IntKind.i64.wrap (j + 1))))) (K (.exit 2) [.int .i64 i, .sl 2 L] [[.int .i64 k, .int .i64 a]]) := by kernel_rfl
end Go.Ab

namespace Go.Ab
open Go

theorem loop14b_spec (Λ : Nat → Option LoopSem) (ps : List Pg) (k a : Int) (ha : a ≤ 4) (hs : ps.length ≤ SMALL) (β : Type) (K : Exit → List CV → List (List CV) → Option β) : ∀ (m i : Nat) (j : Int), 0 ≤ j → j ≤ a → (a - j).toNat = m → i ≤ ps.length →
    LB14b (cx14' Λ) (ps.map encP) k a β K (m + 1) i j = match eat m (ps.drop i) with
      | some _ => K (.exit 2) [.int .i64 (i + (a - j)), .sl 2 (ps.map encP)] [[.int .i64 k, .int .i64 a]]
      | none => K .ret [.bool false] [[.int .i64 k, .int .i64 a]] := by
  intro m
  have hS : SMALL = 1152921504606846976 := rfl
  induction m with
  | zero =>
    intro i j h0 hj hm hi
    have : j = a := by omega
    subst this
    rw [step14b]
    simp [eat]
  | succ m ih =>
    intro i j h0 hj hm hi
    have hlt : j < a := by omega
    rw [step14b]
    have e1 : decide (j < a) = true := by simpa using hlt
    rw [e1, cond_true]
    by_cases hl : i < ps.length
    · have e2 : decide ((i : Int) ≥ ((ps.map encP).length : Int)) = false := by simp; omega
      rw [e2, cond_false, rdE_map hl]
      have w1 : IntKind.i64.wrap ((i : Int) + 1) = ((i + 1 : Nat) : Int) := by rw [IntWalk.i64_in]; simp; omega
      have w2 : IntKind.i64.wrap (j + 1) = j + 1 := by rw [IntWalk.i64_in]; omega
      have hd : ps.drop i = ps[i] :: ps.drop (i + 1) := List.drop_eq_getElem_cons hl
      rw [hd]
      simp only [encP, List.getElem?_cons_zero, List.getElem?_cons_succ, Option.bind_some, asI, if_true, w1, w2, eat]
      cases hq : (ps[i].1 == 3 && (ps[i].2 == 0 && true)) with
      | false => rfl
      | true =>
        simp only [Bool.not_true, cond_false, cond_true]
        have := ih (i + 1) (j + 1) (by omega) (by omega) (by omega) (by omega)
        refine this.trans ?_
        have e3 : ((i + 1 : Nat) : Int) + (a - (j + 1)) = (i : Int) + (a - j) := by omega
        rw [e3]
    · have e2 : decide ((i : Int) ≥ ((ps.map encP).length : Int)) = true := by simp; omega
      have hi' : i = ps.length := by omega
      subst hi'
      rw [e2, cond_true]
      simp [eat]
end Go.Ab

namespace Go.Ab
open Go

abbrev pathA : List Bool := [false, false, true, true, true]
noncomputable abbrev body14a : Code := (codeAt (bodyOf Go.Proofs.Tryd.f74) (false :: pathA)).getD .skip
def outs14a : Exit → List Nat := fun e => match e with | .ret => [2] | _ => []

/-- How many pages are gone through at a time; none: they may not be. -/
def one14 (p : Pg) : Option Nat :=
  cond (p.1 == 0 && p.2 == 0) (some 0) (cond (p.1 == 1 && decide (p.2 ≥ 0) && decide (p.2 ≤ 2)) (some 0)
    (cond (p.1 != 2 || decide (p.2 < 1) || decide (p.2 > 4)) none (some (p.2 - 1).toNat)))

/-- Pages, from the first on, by large objects; n: how many at most. -/
def mayR : Nat → List Pg → Bool
  | _, [] => true
  | 0, _ :: _ => false
  | n + 1, p :: ps => match one14 p with
    | none => false
    | some k => match eat k ps with
      | none => false
      | some rest => mayR n rest
end Go.Ab

namespace Go.Ab
open Go

noncomputable def cxM (Λ : Nat → Option LoopSem) : Cx := cx14' fun q => bif Nat.beq q 61822 then some loop14b else Λ q

noncomputable def LB14a (Λ : Nat → Option LoopSem) (L : List (List CV)) (β : Type) (K : Exit → List CV → List (List CV) → Option β) (n : Nat) (i : Int) : Option β :=
  loopB (cxM Λ) [3, 0] outs14a pathA body14a n [.int .i64 i, .sl 2 L] [] K

/-- A large object, from the page behind its first on. -/
noncomputable def big14 (L : List (List CV)) (i a b : Int) (β : Type) (K : Exit → List CV → List (List CV) → Option β) (go : Int → List (List CV) → Option β) : Option β :=
  cond (a != 2) (K .ret [.bool false] []) (cond (decide (b < 1)) (K .ret [.bool false] []) (cond (decide (b > 4)) (K .ret [.bool false] [])
    ((decP L).bind fun ps => cond (true && decide (1 ≤ b) && decide (b ≤ 4) && decide (0 ≤ IntKind.i64.wrap (i + 1)) && decide (IntKind.i64.wrap (i + 1) ≤ (ps.length : Int)) && Nat.ble ps.length SMALL)
      (optE (eat (b - 1).toNat (ps.drop (IntKind.i64.wrap (i + 1)).toNat)) (K .ret [.bool false] []) fun _ => go (IntKind.i64.wrap (i + 1) + (b - 1)) (ps.map encP)) none)))

set_option maxRecDepth 100000 in
theorem step14a (Λ : Nat → Option LoopSem) (L : List (List CV)) (β : Type) (K : Exit → List CV → List (List CV) → Option β) (n : Nat) (i : Int) : LB14a Λ L β K (n + 1) i =
 cond (decide (i < (L.length : Int))) ((rdE L i).bind fun c => (c[0]?).bind fun x => (asI .i64 x).bind fun a => (c[1]?).bind fun x => (asI .i64 x).bind fun b => cond (a == 0) (cond (b == 0) (LB14a Λ L β K n (IntKind.i64.wrap (i + 1))) (cond (a == 1) (cond (decide (b ≥ 0)) (cond (decide (b ≤ 2)) (LB14a Λ L β K n (IntKind.i64.wrap (i + 1))) (big14 L i a b β K fun i L => LB14a Λ L β K n i)) (big14 L i a b β K fun i L => LB14a Λ L β K n i)) (big14 L i a b β K fun i L => LB14a Λ L β K n i))) (cond (a == 1) (cond (decide (b ≥ 0)) (cond (decide (b ≤ 2)) (LB14a Λ L β K n (IntKind.i64.wrap (i + 1))) (big14 L i a b β K fun i L => LB14a Λ L β K n i)) (big14 L i a b β K fun i L => LB14a Λ L β K n i)) (big14 L i a b β K fun i L => LB14a Λ L β K n i))) (K (.exit 0) [] []) := by kernel_rfl
end Go.Ab

namespace Go.Ab
open Go

theorem eat_len : ∀ (k : Nat) (ps rest : List Pg), eat k ps = some rest → rest = ps.drop k ∧ k ≤ ps.length
  | 0, ps, rest, h => by
    simp only [eat, Option.some.injEq] at h
    exact ⟨by simp [h], Nat.zero_le _⟩
  | k + 1, [], rest, h => by simp [eat] at h
  | k + 1, p :: ps, rest, h => by
    simp only [eat] at h
    replace h := cond_some h
    obtain ⟨_, h⟩ := h
    obtain ⟨h1, h2⟩ := eat_len k ps rest h
    exact ⟨by simp [h1], by simp; omega⟩

theorem loop14a_spec (Λ : Nat → Option LoopSem) (ps : List Pg) (hs : ps.length + 8 ≤ SMALL) (β : Type) (K : Exit → List CV → List (List CV) → Option β) : ∀ (m i : Nat), ps.length - i ≤ m → i ≤ ps.length →
    LB14a Λ (ps.map encP) β K (m + 1) i = cond (mayR m (ps.drop i)) (K (.exit 0) [] []) (K .ret [.bool false] []) := by
  intro m
  have hS : SMALL = 1152921504606846976 := rfl
  have fin : ∀ (m i : Nat), i = ps.length → LB14a Λ (ps.map encP) β K (m + 1) i = cond (mayR m (ps.drop i)) (K (.exit 0) [] []) (K .ret [.bool false] []) := fun m i hi => by
    subst hi
    rw [step14a]
    cases m <;> simp [mayR]
  induction m with
  | zero => exact fun i hn hi => fin 0 i (by omega)
  | succ m ih =>
    intro i hn hi
    by_cases hl : i < ps.length
    · rw [step14a]
      have e1 : decide ((i : Int) < ((ps.map encP).length : Int)) = true := by simp; omega
      rw [e1, cond_true, rdE_map hl]
      have w1 : IntKind.i64.wrap ((i : Int) + 1) = ((i + 1 : Nat) : Int) := by rw [IntWalk.i64_in]; simp; omega
      have hd : ps.drop i = ps[i] :: ps.drop (i + 1) := List.drop_eq_getElem_cons hl
      rw [hd]
      generalize hp : ps[i] = p
      obtain ⟨a, b⟩ := p
      have IH := ih (i + 1) (by omega) (by omega)
      have hbig : ∀ L', L' = ps.map encP → big14 L' i a b β K (fun i L => LB14a Λ L β K (m + 1) i) = cond (a != 2 || decide (b < 1) || decide (b > 4)) (K .ret [.bool false] [])
          (match eat (b - 1).toNat (ps.drop (i + 1)) with
            | none => K .ret [.bool false] []
            | some rest => cond (mayR m rest) (K (.exit 0) [] []) (K .ret [.bool false] [])) := fun L' hL' => by
        subst hL'
        unfold big14
        cases h2 : a != 2 with
        | true => rfl
        | false =>
          cases h3 : decide (b < 1) with
          | true => rfl
          | false =>
            cases h4 : decide (b > 4) with
            | true => rfl
            | false =>
              simp at h3 h4
              simp only [cond_false, Bool.or_false, decP_map, Option.bind_some, w1]
              have hc : (true && decide (1 ≤ b) && decide (b ≤ 4) && decide (0 ≤ ((i + 1 : Nat) : Int)) && decide (((i + 1 : Nat) : Int) ≤ (ps.length : Int)) && Nat.ble ps.length SMALL) = true := by
                have : Nat.ble ps.length SMALL = true := Nat.ble_eq_true_of_le (by omega)
                simp [this]
                omega
              rw [hc, cond_true, Int.toNat_natCast]
              unfold optE
              cases he : eat (b - 1).toNat (ps.drop (i + 1)) with
              | none => rfl
              | some rest =>
                obtain ⟨hr, hk⟩ := eat_len _ _ _ he
                have e3 : ((i + 1 : Nat) : Int) + (b - 1) = ((i + 1 + (b - 1).toNat : Nat) : Int) := by omega
                have hle : i + 1 + (b - 1).toNat ≤ ps.length := by simp at hk; omega
                dsimp only
                rw [e3, ih _ (by omega) hle, hr, List.drop_drop]
      simp only [encP, List.getElem?_cons_zero, List.getElem?_cons_succ, Option.bind_some, asI, if_true, w1, IH, hbig _ rfl, mayR, one14]
      cases h0 : a == 0 <;> cases hb0 : b == 0 <;> cases h1 : a == 1 <;> cases hb1 : decide (b ≥ 0) <;> cases hb2 : decide (b ≤ 2) <;> cases hq : (a != 2 || decide (b < 1) || decide (b > 4)) <;>
        simp [eat] <;> first | rfl | (cases eat (b.toNat - 1) (ps.drop (i + 1)) <;> rfl)
    · exact fin (m + 1) i (by omega)
end Go.Ab

namespace Go.Ab
open Go

theorem mayGo_eat : ∀ (r : Nat) (ps : List Pg), (mayGo r ps == some 0) = match eat r ps with | some rest => (mayGo 0 rest == some 0) | none => false
  | 0, ps => rfl
  | r + 1, [] => by
    have h : ¬ ((r : Int) + 1 = 0) := by omega
    simp [mayGo, eat, h]
  | r + 1, p :: ps => by
    have ih := mayGo_eat r ps
    have h0 : (((r + 1 : Nat) : Int) == 0) = false := beq_false_of_ne (by omega)
    have h1 : decide (((r + 1 : Nat) : Int) > 0) = true := decide_eq_true (by omega)
    have h2 : ((r + 1 : Nat) : Int) - 1 = (r : Int) := by omega
    simp only [mayGo, eat, h0, h1, h2, cond_false, cond_true]
    cases p.1 == 3 with
    | true =>
      simp only [cond_true, Bool.true_and, Bool.and_true]
      cases h : p.2 == 0 with
      | true => simp only [bne, h, Bool.not_true, cond_false, cond_true]; exact ih
      | false => simp [bne, h]
    | false =>
      simp only [cond_false, Bool.false_and]
      cases p.1 == 0 <;> cases p.1 == 1 <;> cases p.1 == 2 <;> cases p.2 != 0 <;> cases (bif decide (p.2 ≥ 0) then decide (p.2 ≤ 2) else false) <;> cases (bif decide (p.2 ≥ 1) then decide (p.2 ≤ 4) else false) <;> rfl

theorem mayR_iff : ∀ (n : Nat) (ps : List Pg), ps.length ≤ n → mayR n ps = (mayGo 0 ps == some 0)
  | n, [], _ => by cases n <;> rfl
  | 0, _ :: _, h => by simp at h
  | n + 1, (a, b) :: ps, h => by
    have hl : ps.length ≤ n := by simpa using h
    simp only [mayR, mayGo, one14]
    by_cases h3 : a = 3
    · subst h3
      rfl
    · have e3 : (a == 3) = false := by simpa using h3
      by_cases h0 : a = 0
      · subst h0
        by_cases hb : b = 0
        · subst hb
          exact mayR_iff n ps hl
        · have eb : (b == 0) = false := by simpa using hb
          simp only [bne, eb]
          rfl
      · have e0 : (a == 0) = false := by simpa using h0
        by_cases h1 : a = 1
        · subst h1
          by_cases hb : 0 ≤ b ∧ b ≤ 2
          · obtain ⟨hb1, hb2⟩ := hb
            have d1 : decide (b ≥ 0) = true := by simpa using hb1
            have d2 : decide (b ≤ 2) = true := by simpa using hb2
            simp only [d1, d2]
            exact mayR_iff n ps hl
          · have hb' : (decide (b ≥ 0) && decide (b ≤ 2)) = false := by simpa using hb
            have h' : (bif decide (b ≥ 0) then decide (b ≤ 2) else false) = false := by
              cases h : decide (b ≥ 0) <;> simp [h] at hb' ⊢
              exact hb'
            simp only [h', Bool.and_assoc, hb']
            rfl
        · have e1 : (a == 1) = false := by simpa using h1
          by_cases h2 : a = 2
          · subst h2
            by_cases hb : 1 ≤ b ∧ b ≤ 4
            · obtain ⟨hb1, hb2⟩ := hb
              have e1 : b - 1 = ((b - 1).toNat : Int) := by omega
              have hg := mayGo_eat (b - 1).toNat ps
              rw [← e1] at hg
              have d1 : decide (b < 1) = false := by simp; omega
              have d2 : decide (b > 4) = false := by simp; omega
              have d3 : decide (b ≥ 1) = true := by simp; omega
              have d4 : decide (b ≤ 4) = true := by simp; omega
              simp only [d1, d2, d3, d4]
              refine Eq.trans ?_ hg.symm
              show (match eat (b - 1).toNat ps with | none => false | some rest => mayR n rest) = _
              cases he : eat (b - 1).toNat ps with
              | none => rfl
              | some rest =>
                obtain ⟨hr, _⟩ := eat_len _ _ _ he
                exact mayR_iff n rest (by rw [hr, List.length_drop]; omega)
            · have h' : (bif decide (b ≥ 1) then decide (b ≤ 4) else false) = false := by
                by_cases h : 1 ≤ b <;> simp [h]
                omega
              have h2 : (decide (b < 1) || decide (b > 4)) = true := by simp; omega
              simp only [h', Bool.or_assoc, h2]
              rfl
          · have e2 : (a == 2) = false := by simpa using h2
            simp only [e0, e1, e2, e3, bne]
            rfl

theorem may_eq (ps : List Pg) : may ps = cond (decide ((ps.length : Int) < 1)) false (cond (decide ((ps.length : Int) > 64)) false (mayR ps.length ps)) := by
  rw [mayR_iff _ _ (Nat.le_refl _)]
  unfold may
  have key : ∀ b : Bool, (match mayGo 0 ps with
    | some r => bif r == 0 then b else false
    | none => false) = (b && (mayGo 0 ps == some 0)) := fun b => by
    cases mayGo 0 ps with
    | none => simp
    | some r => cases hr : r == 0 <;> simp [hr]
  refine (key _).trans ?_
  by_cases h1 : (ps.length : Int) ≥ 1 <;> by_cases h2 : (ps.length : Int) ≤ 64
  · have e1 : ¬ ((ps.length : Int) < 1) := by omega
    have e2 : ¬ ((ps.length : Int) > 64) := by omega
    simp only [h1, h2, e1, e2, decide_true, decide_false, cond_true, cond_false, Bool.true_and]
  · have e1 : ¬ ((ps.length : Int) < 1) := by omega
    have e2 : ((ps.length : Int) > 64) := by omega
    simp only [h1, h2, e1, e2, decide_true, decide_false, cond_true, cond_false, Bool.false_and]
  · have e1 : ((ps.length : Int) < 1) := by omega
    simp only [h1, h2, e1, decide_true, decide_false, cond_true, cond_false, Bool.false_and]
  · have e1 : ((ps.length : Int) < 1) := by omega
    simp only [h1, h2, e1, decide_true, decide_false, cond_true, cond_false, Bool.false_and]
end Go.Ab

namespace Go.Ab
open Go

def loop14a : LoopSem := ⟨[3, 0], outs14a, fun vs cs _ K => match vs, cs with
  | [.int .i64 i, .sl 2 L], [] => (decP L).bind fun ps => bif decide (i = 0) && Nat.ble ps.length 200 then cond (mayR ps.length ps) (K (.exit 0) [] []) (K .ret [.bool false] []) else none
  | _, _ => none⟩

def Λ14 : Nat → Option LoopSem := fun q => bif Nat.beq q 61822 then some loop14b else bif Nat.beq q 60 then some loop14a else none
noncomputable def cx14 : Cx := cx14' Λ14

theorem cx14_eq : cx14 = cxM fun q => bif Nat.beq q 60 then some loop14a else none := rfl

theorem loop14a_nat : NatL loop14a := fun vs cs => by
  unfold loop14a
  dsimp only
  split
  · exact .bind _ fun _ => .cond _ (.cond _ (.ret _ _ _) (.ret _ _ _)) .none
  · exact .none

theorem loop14b_nat : NatL loop14b := fun vs cs => by
  unfold loop14b
  dsimp only
  split
  · exact .bind _ fun _ => .cond _ (.optE (.ret _ _ _) fun _ => .ret _ _ _) .none
  · exact .none

theorem nat14 : ∀ q L, cx14.Λ q = some L → NatL L := fun q L h => by
  replace h : Λ14 q = some L := h
  unfold Λ14 at h
  cases h1 : Nat.beq q 61822 with
  | true => rw [h1] at h; obtain rfl := Option.some.inj h; exact loop14b_nat
  | false => rw [h1] at h; obtain ⟨_, rfl⟩ := cond_some2 h; exact loop14a_nat

theorem loops14 : LoopsS cx14 := .of fun k L h => by
  have hS : SMALL = 1152921504606846976 := rfl
  replace h : Λ14 k = some L := h
  unfold Λ14 at h
  cases h1 : Nat.beq k 61822 with
  | true =>
    rw [h1] at h
    obtain rfl := Option.some.inj h
    refine ⟨pathB, beq_true h1, fun vs cs β K r hr => ?_⟩
    unfold loop14b at hr
    dsimp only at hr
    split at hr
    · rename_i i j L k a
      replace hr := bind_some' hr
      obtain ⟨ps, hps, hr⟩ := hr
      replace hr := cond_some hr
      obtain ⟨hb, hr⟩ := hr
      simp only [Bool.and_eq_true, decide_eq_true_eq] at hb
      obtain ⟨⟨⟨⟨⟨rfl, ha⟩, ha4⟩, hi⟩, hil⟩, hs⟩ := hb
      have hs := Nat.le_of_ble_eq_true hs
      rw [decP_enc hps]
      refine ⟨(a - 1).toNat + 1, ?_⟩
      have := loop14b_spec Λ14 ps k a ha4 hs β K (a - 1).toNat i.toNat 1 (by omega) (by omega) rfl (by omega)
      rw [Int.toNat_of_nonneg hi] at this
      refine this.trans (Eq.trans ?_ hr)
      unfold optE
      cases eat (a - 1).toNat (ps.drop i.toNat) <;> rfl
    · cases hr
  | false =>
    rw [h1] at h
    obtain ⟨hk, rfl⟩ := cond_some2 h
    refine ⟨pathA, beq_true hk, fun vs cs β K r hr => ?_⟩
    unfold loop14a at hr
    dsimp only at hr
    split at hr
    · rename_i i L
      replace hr := bind_some' hr
      obtain ⟨ps, hps, hr⟩ := hr
      replace hr := cond_some hr
      obtain ⟨hb, hr⟩ := hr
      simp only [Bool.and_eq_true, decide_eq_true_eq] at hb
      obtain ⟨rfl, hs⟩ := hb
      have hs := Nat.le_of_ble_eq_true hs
      rw [decP_enc hps]
      refine ⟨ps.length + 1, ?_⟩
      have := loop14a_spec (fun q => bif Nat.beq q 60 then some loop14a else none) ps (by omega) β K ps.length 0 (by omega) (by omega)
      rw [List.drop_zero] at this
      exact this.trans hr
    · cases hr

/-- May pages be? -/
def gMayS : Callee := ⟨fun args conts _ K => match args, conts with
  | [.sl 2 L], [] => (decP L).bind fun ps => bif Nat.ble ps.length 200 then K (.bool (may ps)) [] else none
  | _, _ => none⟩

theorem mayS_nat : NatC gMayS := fun args conts => by
  unfold gMayS
  dsimp only
  split
  · exact .bind _ fun _ => .cond _ (.ret _ _) .none
  · exact .none

theorem mayS13 : SoundC Go.Proofs.Tryd.prog 50 gMayS := SoundC.of may_sound fun args conts β K r h => by
  have hS : SMALL = 1152921504606846976 := rfl
  unfold gMayS at h
  dsimp only at h
  split at h
  · replace h := bind_some' h
    obtain ⟨ps, hps, h⟩ := h
    replace h := cond_some h
    obtain ⟨hs, h⟩ := h
    have hs := Nat.le_of_ble_eq_true hs
    have h2 : Nat.ble ps.length SMALL = true := Nat.ble_eq_true_of_le (by omega)
    simp only [gMay, hps, Option.bind_some, h2, cond_true]
    exact h
  · cases h

set_option maxRecDepth 100000 in
theorem step14f (L : List (List CV)) (β : Type) (K : CV → List (List CV) → Option β) : fnK cx14 Go.Proofs.Tryd.f74 [.sl 2 L] [] K =
 cond (decide ((L.length : Int) < 1)) (K (.bool false) []) (cond (decide ((L.length : Int) > 64)) (K (.bool false) []) ((decP L).bind fun ps => bif true && Nat.ble ps.length 200 then cond (mayR ps.length ps) (K (.bool true) []) (K (.bool false) []) else none)) := by kernel_rfl

theorem mayS14 : SoundC Go.Proofs.Tryd.prog 74 gMayS :=
  SoundC.of (fnSound (cx := cx14) (fn := Go.Proofs.Tryd.f74) Γ1_sound Γ1_nat (eqOK_page rfl rfl) loops14 nat14
    Go.Proofs.Tryd.func74 (by kernel_rfl) (by kernel_rfl) (by kernel_rfl) (Nat.le_of_ble_eq_true (by kernel_rfl)))
    fun args conts β K r h => by
      unfold gMayS at h
      dsimp only at h
      split at h
      · rename_i L
        replace h := bind_some' h
        obtain ⟨ps, hps, h⟩ := h
        replace h := cond_some h
        obtain ⟨hs, h⟩ := h
        rw [fnC_run, step14f, hps]
        simp only [Option.bind_some, decP_len hps, hs, Bool.and_self, cond_true, ← h, may_eq]
        cases decide ((ps.length : Int) < 1) <;> cases decide ((ps.length : Int) > 64) <;> cases mayR ps.length ps <;> rfl
      · cases h
end Go.Ab

namespace Go.Ab
open Go

noncomputable abbrev cxT (n : Nat) (root : Code) (Γ : FuncId → Option Callee) (wr : Nat → Bool) : Cx := cxP n root Γ (fun _ => none) wr

/-- A function without loops. -/
theorem plain_sound {n f : Nat} {fn : Func} {Γ : FuncId → Option Callee} {wr : Nat → Bool} (hΓ : ∀ f g, Γ f = some g → SoundC Go.Proofs.Tryd.prog f g) (hN : ∀ f g, Γ f = some g → NatC g) (hf : Go.Proofs.Tryd.prog.funcs[f]? = some fn)
    (hn : (fn.name == "runtime.NumGoroutine") = false) (hb : fn.body = some (bodyOf fn)) (hnt : n = fn.ntmps) (hpn : fn.params.size + fn.nfree ≤ fn.ntmps) : SoundC Go.Proofs.Tryd.prog f (fnC (cxT n (bodyOf fn) Γ wr) fn) :=
  fnSound (cx := cxT n (bodyOf fn) Γ wr) hΓ hN (eqOK_none fun _ => rfl) (fun p L b h => by cases h) (fun q L h => by cases h) hf hn hb hnt hpn

def wordsOf (c : Int) : Int := if c < 0 then 0 else if c ≥ 3 then 0 else if c = 0 then 2 else if c = 1 then 4 else 8

/-- How many cells a page of a class has. -/
def cellsN (c : Int) : Int := if wordsOf c = 0 then 0 else 16 / wordsOf c

def gAddr : Callee := ⟨fun args conts _ K => match args, conts with
  | [.int .i64 p], [] => bif decide (0 ≤ p) && decide (p ≤ 4096) then K (.int .i64 (16 * (p + 1))) [] else none
  | _, _ => none⟩

def gWords : Callee := ⟨fun args conts _ K => match args, conts with
  | [.int .i64 c], [] => K (.int .i64 (wordsOf c)) []
  | _, _ => none⟩

def gCells : Callee := ⟨fun args conts _ K => match args, conts with
  | [.int .i64 c], [] => K (.int .i64 (cellsN c)) []
  | _, _ => none⟩

def holdsB (x y a : Int) : Bool := cond (decide (a ≥ x)) (decide (IntKind.i64.wrap (a - x) < y)) false

def gHolds : Callee := ⟨fun args conts _ K => match args, conts with
  | [.agg [.int .i64 x, .int .i64 y], .int .i64 a], [] => K (.bool (holdsB x y a)) []
  | _, _ => none⟩

/-- place.at, in, ahead. -/
def predB (f : Nat) (a x y : Int) : Bool := cond (Nat.beq f 71) (a == x) (cond (Nat.beq f 900030) (holdsB x y a) (decide (a < x)))

def gPred (f : Nat) : Callee := ⟨fun args conts _ K => match args, conts with
  | [.int .i64 a, .agg [.int .i64 x, .int .i64 y]], [] => K (.bool (predB f a x y)) []
  | _, _ => none⟩

def gOnF : Callee := ⟨fun args conts _ K => match args, conts with
  | [.sl 2 L, .int .i64 p], [] => K (.fn 89 [] [.pc [.sl 2 L] 0, .pc [.int .i64 p] 0]) []
  | _, _ => none⟩

def gAllF : Callee := ⟨fun args conts _ K => match args, conts with
  | [.sl 2 L], [] => K (.fn 80 [] [.pc [.sl 2 L] 0]) []
  | _, _ => none⟩

theorem addr_nat : NatC gAddr := fun args conts => by
  unfold gAddr
  dsimp only
  split
  · exact .cond _ (.ret _ _) .none
  · exact .none
theorem words_nat : NatC gWords := fun args conts => by
  unfold gWords
  dsimp only
  split
  · exact .ret _ _
  · exact .none
theorem cells_nat : NatC gCells := fun args conts => by
  unfold gCells
  dsimp only
  split
  · exact .ret _ _
  · exact .none
theorem holds_nat : NatC gHolds := fun args conts => by
  unfold gHolds
  dsimp only
  split
  · exact .ret _ _
  · exact .none
theorem pred_nat (f : Nat) : NatC (gPred f) := fun args conts => by
  unfold gPred
  dsimp only
  split
  · exact .ret _ _
  · exact .none
theorem onF_nat : NatC gOnF := fun args conts => by
  unfold gOnF
  dsimp only
  split
  · exact .ret _ _
  · exact .none
theorem allF_nat : NatC gAllF := fun args conts => by
  unfold gAllF
  dsimp only
  split
  · exact .ret _ _
  · exact .none

def Γ0 : FuncId → Option Callee := fun _ => none
theorem Γ0_sound : ∀ f g, Γ0 f = some g → SoundC Go.Proofs.Tryd.prog f g := fun f g h => by cases h
theorem Γ0_nat : ∀ f g, Γ0 f = some g → NatC g := fun f g h => by cases h

set_option maxRecDepth 100000 in
theorem addr_step (p : Int) (β : Type) (K : CV → List (List CV) → Option β) : fnK (cxT 6 (bodyOf Go.Proofs.Tryd.f90) Γ0 (fun _ => false)) Go.Proofs.Tryd.f90 [.int .i64 p] [] K =
 K (CV.int IntKind.i64 (IntKind.wrap IntKind.i64 (IntKind.wrap IntKind.i64 (p + 1) * 16))) [] := by kernel_rfl

theorem addr_sound : SoundC Go.Proofs.Tryd.prog 90 gAddr :=
  SoundC.of (plain_sound (n := 6) (wr := fun _ => false) Γ0_sound Γ0_nat Go.Proofs.Tryd.func90 (by kernel_rfl) (by kernel_rfl) (by kernel_rfl) (Nat.le_of_ble_eq_true (by kernel_rfl)))
    fun args conts β K r h => by
      unfold gAddr at h
      dsimp only at h
      split at h
      · rename_i p
        replace h := cond_some h
        obtain ⟨hb, h⟩ := h
        simp only [Bool.and_eq_true, decide_eq_true_eq] at hb
        rw [fnC_run, addr_step, IntWalk.i64_in (p + 1) (by omega), IntWalk.i64_in _ (by omega), show (p + 1) * 16 = 16 * (p + 1) by omega]
        exact h
      · cases h

set_option maxRecDepth 100000 in
theorem words_step (c : Int) (β : Type) (K : CV → List (List CV) → Option β) : fnK (cxT 12 (bodyOf Go.Proofs.Tryd.f84) Γ0 (fun _ => false)) Go.Proofs.Tryd.f84 [.int .i64 c] [] K =
  (bif decide (c < 0) then K (CV.int IntKind.i64 0) []
  else
    bif decide (c ≥ 3) then K (CV.int IntKind.i64 0) []
    else
      if 0 ≤ c ∧ c < ((3 : Nat) : Int) then
        Option.bind ([CV.int IntKind.i64 2, CV.int IntKind.i64 4, CV.int IntKind.i64 8][0 + Int.toNat c * szOf Go.Proofs.Tryd.prog 3]?)
          fun x => Option.bind (asI IntKind.i64 x) fun n => K (CV.int IntKind.i64 n) []
      else none) := by kernel_rfl

theorem sz3 : szOf Go.Proofs.Tryd.prog 3 = 1 := by kernel_rfl

theorem words_sound : SoundC Go.Proofs.Tryd.prog 84 gWords :=
  SoundC.of (plain_sound (n := 12) (wr := fun _ => false) Γ0_sound Γ0_nat Go.Proofs.Tryd.func84 (by kernel_rfl) (by kernel_rfl) (by kernel_rfl) (Nat.le_of_ble_eq_true (by kernel_rfl)))
    fun args conts β K r h => by
      unfold gWords at h
      dsimp only at h
      split at h
      · rename_i c
        rw [fnC_run, words_step, ← h]
        unfold wordsOf
        by_cases h0 : c < 0
        · simp [h0]
        · by_cases h3 : c ≥ 3
          · simp [h0, h3]
          · have h1 : 0 ≤ c ∧ c < ((3 : Nat) : Int) := ⟨by omega, by omega⟩
            rw [if_pos h1, sz3]
            have : c = 0 ∨ c = 1 ∨ c = 2 := by omega
            rcases this with rfl | rfl | rfl <;> rfl
      · cases h

def ΓC : FuncId → Option Callee := fun f => bif Nat.beq f 84 then some gWords else none
theorem ΓC_sound : ∀ f g, ΓC f = some g → SoundC Go.Proofs.Tryd.prog f g := fun f g h => by
  unfold ΓC at h
  obtain ⟨hb, rfl⟩ := cond_some1 h
  have := beq_true hb
  subst this
  exact words_sound
theorem ΓC_nat : ∀ f g, ΓC f = some g → NatC g := fun f g h => by
  unfold ΓC at h
  obtain ⟨_, rfl⟩ := cond_some1 h
  exact words_nat

set_option maxRecDepth 100000 in
theorem cells_step (c : Int) (β : Type) (K : CV → List (List CV) → Option β) : fnK (cxT 10 (bodyOf Go.Proofs.Tryd.f67) ΓC (fun _ => false)) Go.Proofs.Tryd.f67 [.int .i64 c] [] K =
  (bif wordsOf c == 0 then K (CV.int IntKind.i64 0) []
  else (if wordsOf c = 0 then none else K (CV.int IntKind.i64 (IntKind.i64.wrap (Int.tdiv 16 (wordsOf c)))) [])) := by kernel_rfl

theorem words_cases (c : Int) : wordsOf c = 0 ∨ wordsOf c = 2 ∨ wordsOf c = 4 ∨ wordsOf c = 8 := by
  unfold wordsOf
  repeat' split
  all_goals simp

theorem cells_sound : SoundC Go.Proofs.Tryd.prog 67 gCells :=
  SoundC.of (plain_sound (n := 10) (wr := fun _ => false) ΓC_sound ΓC_nat Go.Proofs.Tryd.func67 (by kernel_rfl) (by kernel_rfl) (by kernel_rfl) (Nat.le_of_ble_eq_true (by kernel_rfl)))
    fun args conts β K r h => by
      unfold gCells at h
      dsimp only at h
      split at h
      · rename_i c
        rw [fnC_run, cells_step, ← h]
        unfold cellsN
        rcases words_cases c with e | e | e | e <;> rw [e] <;> rfl
      · cases h

set_option maxRecDepth 100000 in
theorem at_step (x y a : Int) (β : Type) (K : CV → List (List CV) → Option β) : fnK (cxT 9 (bodyOf Go.Proofs.Tryd.f71) Γ0 (fun _ => false)) Go.Proofs.Tryd.f71 [.int .i64 a, .agg [.int .i64 x, .int .i64 y]] [] K = K (.bool (a == x)) [] := by kernel_rfl
theorem at_sound : SoundC Go.Proofs.Tryd.prog 71 (gPred 71) :=
  SoundC.of (plain_sound (n := 9) (wr := fun _ => false) Γ0_sound Γ0_nat Go.Proofs.Tryd.func71 (by kernel_rfl) (by kernel_rfl) (by kernel_rfl) (Nat.le_of_ble_eq_true (by kernel_rfl)))
    fun args conts β K r h => by
      unfold gPred at h
      dsimp only at h
      split at h
      · rw [fnC_run, at_step]; exact h
      · cases h
set_option maxRecDepth 100000 in
theorem onF_step (L : List (List CV)) (p : Int) (β : Type) (K : CV → List (List CV) → Option β) : fnK (cxT 6 (bodyOf Go.Proofs.Tryd.f81) Γ0 (fun _ => false)) Go.Proofs.Tryd.f81 [.sl 2 L, .int .i64 p] [] K =
  K (.fn 89 [] [.pc [.sl 2 L] 0, .pc [.int .i64 p] 0]) [] := by kernel_rfl
set_option maxRecDepth 100000 in
theorem allF_step (L : List (List CV)) (β : Type) (K : CV → List (List CV) → Option β) : fnK (cxT 4 (bodyOf Go.Proofs.Tryd.f58) Γ0 (fun _ => false)) Go.Proofs.Tryd.f58 [.sl 2 L] [] K =
  K (.fn 80 [] [.pc [.sl 2 L] 0]) [] := by kernel_rfl

theorem onF_sound : SoundC Go.Proofs.Tryd.prog 81 gOnF :=
  SoundC.of (plain_sound (n := 6) (wr := fun _ => false) Γ0_sound Γ0_nat Go.Proofs.Tryd.func81 (by kernel_rfl) (by kernel_rfl) (by kernel_rfl) (Nat.le_of_ble_eq_true (by kernel_rfl)))
    fun args conts β K r h => by
      unfold gOnF at h
      dsimp only at h
      split at h
      · rw [fnC_run, onF_step]; exact h
      · cases h
theorem allF_sound : SoundC Go.Proofs.Tryd.prog 58 gAllF :=
  SoundC.of (plain_sound (n := 4) (wr := fun _ => false) Γ0_sound Γ0_nat Go.Proofs.Tryd.func58 (by kernel_rfl) (by kernel_rfl) (by kernel_rfl) (Nat.le_of_ble_eq_true (by kernel_rfl)))
    fun args conts β K r h => by
      unfold gAllF at h
      dsimp only at h
      split at h
      · rw [fnC_run, allF_step]; exact h
      · cases h
end Go.Ab

namespace Go.Ab
open Go

/-- A list that is put together: numbers. -/
def decO : List (List CV) → Option (List (List CV))
  | [[.own 1 L]] => some L
  | _ => none

def shO : Sh where
  T := List (List CV)
  n := 1
  un := fun L => [[.own 1 L]]
  dec := decO
  ok := fun co x h => by
    unfold decO at h
    split at h
    · cases h; rfl
    · cases h
  dec_un := fun _ => rfl
  len := fun _ => rfl

def ΓOn : FuncId → Option Callee := fun f => bif Nat.beq f 90 then some gAddr else bif Nat.beq f 84 then some gWords else bif Nat.beq f 67 then some gCells else none

theorem ΓOn_all {Q : FuncId → Callee → Prop} (h1 : Q 90 gAddr) (h2 : Q 84 gWords) (h3 : Q 67 gCells) : ∀ f g, ΓOn f = some g → Q f g := fun f g h => by
  unfold ΓOn at h
  cases e1 : Nat.beq f 90 with
  | true => rw [e1] at h; have := beq_true e1; subst this; cases h; exact h1
  | false =>
    cases e2 : Nat.beq f 84 with
    | true => rw [e1, e2] at h; have := beq_true e2; subst this; cases h; exact h2
    | false =>
      cases e3 : Nat.beq f 67 with
      | true => rw [e1, e2, e3] at h; have := beq_true e3; subst this; cases h; exact h3
      | false => rw [e1, e2, e3] at h; cases h

theorem ΓOn_sound : ∀ f g, ΓOn f = some g → SoundC Go.Proofs.Tryd.prog f g := ΓOn_all addr_sound words_sound cells_sound
theorem ΓOn_nat : ∀ f g, ΓOn f = some g → NatC g := ΓOn_all (Q := fun _ g => NatC g) addr_nat words_nat cells_nat

/-- n cells of w words from the i-th on. -/
def cellRow (at_ w : Int) : Nat → Nat → List Cell
  | _, 0 => []
  | i, n + 1 => (at_ + (i : Int) * w, w) :: cellRow at_ w (i + 1) n

noncomputable abbrev bodyOn : Code := (codeAt (bodyOf Go.Proofs.Tryd.f89) [false, false, true, true, false, true, true, true, false, true, true]).getD .skip
def outsOn : Exit → List Nat := fun _ => []
abbrev insOn : List Nat := [0, 5, 6, 32, 33]
abbrev pathOn : List Bool := [false, true, true, false, true, true, true, false, true, true]

def lOf : CV → Nat
  | .rcd l _ _ _ _ _ _ => l
  | _ => 0

noncomputable def loopOn (S : Sh) (c0 : CV) (Y : YSem) : LoopSem := ⟨insOn, outsOn, fun vs cs _ K => match vs, cs with
  | [.yld l, .int .i64 a, .int .i64 w, .int .i64 n, .int .i64 i], [c] :: co => bif okC c c0 && okC (.yld l) (.yld (lOf c0)) && decide (i = 0) && decide (0 ≤ n) && decide (n ≤ 8) && decide (0 ≤ w) && decide (w ≤ 8) && decide (0 ≤ a) && decide (a ≤ 65536) then (S.dec co).bind fun x =>
      runC S Y (cellRow a w 0 n.toNat) x _ fun s x' => selS s (K (.exit 1) [] ([c0] :: S.un x')) fun k => K .ret [] ([setS c0 (some k)] :: S.un x')
      else none
  | _, _ => none⟩

noncomputable def cxOn (S : Sh) (c0 : CV) (Y : YSem) : Cx :=
  { P := Go.Proofs.Tryd.prog, nt := 47, Γ := ΓOn, Λ := fun q => bif Nat.beq q 1910 then some (loopOn S c0 Y) else none, un := fun _ => false, root := bodyOf Go.Proofs.Tryd.f89, wr := fun _ => false, eqT := fun _ => false, Y := some (S.n, gY c0 (guardY S Y)) }

abbrev rc0 (S : Sh) (l : Nat) (fx : Loop) (ts : List Nat) (env : List CV) (bs : List Nat) (s : Option Nat) : CV := .rcd l fx ts env bs S.n s

noncomputable def LBOn (S : Sh) (l : Nat) (fx : Loop) (ts : List Nat) (env : List CV) (bs : List Nat) (Y : YSem) (a w n : Int) (β : Type) (K : Exit → List CV → List (List CV) → Option β) (m : Nat) (i : Int) (s : Option Nat) (x : S.T) : Option β :=
  loopB (cxOn S (rc0 S l fx ts env bs none) Y) insOn outsOn pathOn bodyOn m [.yld l, .int .i64 a, .int .i64 w, .int .i64 n, .int .i64 i] ([rc0 S l fx ts env bs s] :: S.un x) K

/-- What its code comes to, for contents of a shape. -/
structure OnSteps (S : Sh) : Prop where
  loop : ∀ (l : Nat) (fx : Loop) (ts : List Nat) (env : List CV) (bs : List Nat) (Y : YSem) (a w n : Int) (β : Type) (K : Exit → List CV → List (List CV) → Option β) (m : Nat) (i : Int) (x : S.T),
    LBOn S l fx ts env bs Y a w n β K (m + 1) i none x = cond (decide (i < n)) (cond (decide (l = l)) (cond (okC (rc0 S l fx ts env bs none) (rc0 S l fx ts env bs none))
        (Y [.agg [.int .i64 (IntKind.i64.wrap (a + IntKind.i64.wrap (i * w))), .int .i64 w]] (S.un x) β fun s co => (S.dec co).bind fun x' =>
          cond (!s.isNone) (K .ret [] ([rc0 S l fx ts env bs s] :: S.un x')) (LBOn S l fx ts env bs Y a w n β K m (IntKind.i64.wrap (i + 1)) s x')) none) none)
      (K (.exit 1) [] ([rc0 S l fx ts env bs none] :: S.un x))
  fn : ∀ (l : Nat) (fx : Loop) (ts : List Nat) (env : List CV) (bs : List Nat) (Y : YSem) (L : List (List CV)) (p : Int) (x : S.T) (β : Type) (K : CV → List (List CV) → Option β),
    fnK (cxOn S (rc0 S l fx ts env bs none) Y) Go.Proofs.Tryd.f89 [.yld l, .pc [.sl 2 L] 0, .pc [.int .i64 p] 0] ([rc0 S l fx ts env bs none] :: S.un x) K =
    (rdE L p).bind fun c => (c[0]?).bind fun y => (asI .i64 y).bind fun n => (c[1]?).bind fun y => (asI .i64 y).bind fun b =>
      bif decide (0 ≤ p) && decide (p ≤ 4096) then
        bif n == 2 then
          bif decide (l = l) then bif okC (rc0 S l fx ts env bs none) (rc0 S l fx ts env bs none) then
            Y [.agg [.int .i64 (16 * (p + 1)), .int .i64 (IntKind.i64.wrap (b * 16))]] (S.un x) β fun s co => (S.dec co).bind fun x' => K (.tup []) ([rc0 S l fx ts env bs s] :: S.un x')
            else none else none
        else bif n == 1 then
          bif okC (rc0 S l fx ts env bs none) (rc0 S l fx ts env bs none) && okC (.yld l) (.yld l) && decide ((0 : Int) = 0) && decide (0 ≤ cellsN b) && decide (cellsN b ≤ 8) && decide (0 ≤ wordsOf b) && decide (wordsOf b ≤ 8) && decide (0 ≤ 16 * (p + 1)) && decide (16 * (p + 1) ≤ 65536) then
            (S.dec (S.un x)).bind fun x => runC S Y (cellRow (16 * (p + 1)) (wordsOf b) 0 (cellsN b).toNat) x β fun s x' => selS s (K (.tup []) ([rc0 S l fx ts env bs none] :: S.un x')) fun k => K (.tup []) ([rc0 S l fx ts env bs (some k)] :: S.un x')
          else none
        else K (.tup []) ([rc0 S l fx ts env bs none] :: S.un x)
      else none

set_option maxRecDepth 100000 in
theorem onSteps_O : OnSteps shO where
  loop := fun l fx ts env bs Y a w n β K m i x => by kernel_rfl
  fn := fun l fx ts env bs Y L p x β K => by kernel_rfl

/-- A page's cells. -/
def cellsP (p : Int) (q : Pg) : List Cell := cond (q.1 == 2) [(16 * (p + 1), IntKind.i64.wrap (q.2 * 16))] (cond (q.1 == 1) (cellRow (16 * (p + 1)) (wordsOf q.2) 0 (cellsN q.2).toNat) [])

theorem cellsN_le (c : Int) : 0 ≤ cellsN c ∧ cellsN c ≤ 8 := by
  unfold cellsN
  rcases words_cases c with e | e | e | e <;> rw [e] <;> decide

theorem loopOn_spec {S : Sh} (hS : OnSteps S) (l : Nat) (fx : Loop) (ts : List Nat) (env : List CV) (bs : List Nat) (Y : YSem) (a w : Int) (n : Nat) (hn : n ≤ 8) (hw : 0 ≤ w ∧ w ≤ 8) (ha : 0 ≤ a ∧ a ≤ 65536) (β : Type) (K : Exit → List CV → List (List CV) → Option β) :
    ∀ (k i : Nat) (x : S.T), i + k = n → LBOn S l fx ts env bs Y a w n β K (k + 1) i none x =
      runC S Y (cellRow a w i k) x β fun s x' => selS s (K (.exit 1) [] ([rc0 S l fx ts env bs none] :: S.un x')) fun k => K .ret [] ([rc0 S l fx ts env bs (some k)] :: S.un x')
  | 0, i, x, h => by
    rw [hS.loop]
    simp [show ¬ ((i : Int) < (n : Int)) by omega, cellRow, runC, selS]
  | k + 1, i, x, h => by
    have hm : 0 ≤ (i : Int) * w ∧ (i : Int) * w ≤ 64 := by
      have h1 : (i : Int) ≤ 8 := by omega
      have h2 : (i : Int) * w ≤ 8 * 8 := Int.mul_le_mul h1 hw.2 hw.1 (by omega)
      exact ⟨Int.mul_nonneg (by omega) hw.1, by omega⟩
    rw [hS.loop, IntWalk.i64_in ((i : Int) * w) (by omega), IntWalk.i64_in (a + (i : Int) * w) (by omega), IntWalk.i64_in ((i : Int) + 1) (by omega)]
    simp only [show ((i : Int) < (n : Int)) by omega, decide_true, cond_true, okC_self, cellRow, runC, cellV]
    congr 1
    funext s co
    congr 1
    funext x'
    cases s with
    | none =>
      have := loopOn_spec hS l fx ts env bs Y a w n hn hw ha β K k (i + 1) x' (by omega)
      simp only [Option.isNone_none, Bool.not_true, cond_false, selS]
      rw [show ((i : Int) + 1) = ((i + 1 : Nat) : Int) by omega, this]
      rfl
    | some j => rfl

/-- The cells of a page are handed on. -/
def Gon (S : Sh) : ItSem := fun Y caps conts _ K => match caps with
  | [.pc [.sl 2 L] 0, .pc [.int .i64 p] 0] => (decP L).bind fun ps => (S.dec conts).bind fun x => bif Nat.ble ps.length 200 && decide (0 ≤ p) && decide (p < (ps.length : Int)) then
      runC S Y (cellsP p (ps.getD p.toNat (0, 0))) x _ fun s x' => K s (S.un x') else none
  | _ => none

theorem Gon_nat (S : Sh) : NatI (Gon S) := fun Y hY caps conts => by
  unfold Gon
  split
  · exact .bind _ fun _ => .bind _ fun _ => .cond _ (.seq2 (runC_nat hY _ _) fun _ _ => .ret _ _) .none
  · exact .none

theorem loopOn_nat {S : Sh} {c0 : CV} {Y : YSem} (hY : NatYS Y) : NatL (loopOn S c0 Y) := fun vs cs => by
  unfold loopOn
  dsimp only
  split
  · refine .cond _ (.bind _ fun x => ?_) .none
    rcases runC_nat (S := S) hY (cellRow _ _ 0 _) x with ⟨s, x', h⟩ | h
    · cases s with
      | none => exact .inl ⟨_, _, _, fun β K => h _ _⟩
      | some k => exact .inl ⟨_, _, _, fun β K => h _ _⟩
    · exact .inr fun β K => h _ _
  · exact .none

theorem loopsOn {S : Sh} (hS : OnSteps S) (l : Nat) (fx : Loop) (ts : List Nat) (env : List CV) (bs : List Nat) (Y : YSem) : LoopsS (cxOn S (rc0 S l fx ts env bs none) Y) := .of fun k L h => by
  obtain ⟨hk, rfl⟩ := cond_some2 h
  refine ⟨pathOn, beq_true hk, fun vs cs β K r hr => ?_⟩
  unfold loopOn at hr
  dsimp only at hr
  split at hr
  · rename_i l' a w n i c co
    replace hr := cond_some hr
    obtain ⟨hb, hr⟩ := hr
    simp only [Bool.and_eq_true, decide_eq_true_eq] at hb
    obtain ⟨⟨⟨⟨⟨⟨⟨⟨hc, hl⟩, rfl⟩, h1⟩, h2⟩, h3⟩, h4⟩, h5⟩, h6⟩ := hb
    obtain rfl := okC_eq hc
    obtain rfl : l' = l := CV.yld.inj (okC_eq hl)
    replace hr := bind_some' hr
    obtain ⟨x, hx, hr⟩ := hr
    obtain rfl := S.ok _ _ hx
    refine ⟨n.toNat + 1, ?_⟩
    have := loopOn_spec hS l' fx ts env bs Y a w n.toNat (by omega) ⟨h3, h4⟩ ⟨h5, h6⟩ β K n.toNat 0 x (by omega)
    rw [show ((n.toNat : Nat) : Int) = n by omega] at this
    exact this.trans hr
  · cases hr

theorem nxOn {S : Sh} {c0 : CV} {Y : YSem} (hY : NatYS Y) : NatX (cxOn S c0 Y) where
  c := ΓOn_nat
  y := fun y h => by cases h; exact gY_nat (guard_nat hY)
  it := fun f G h => by cases h
  rf := fun q R h => by cases h

theorem hI_ne {G : ItSem} {m n : Nat} (hn : ¬ n = m) (hG : ∀ (Y : YSem) (caps : List CV) (cs : List (List CV)) (β : Type) (K : Option Nat → List (List CV) → Option β) (r : β), G Y caps cs β K = some r → cs.length = m)
    {l : Nat} {fx : Loop} {ts : List Nat} {env : List CV} {bs : List Nat} {Y : YSem} {args : List CV} {conts : List (List CV)} {β : Type} {K : CV → List (List CV) → Option β} {r : β} : ¬ (hI l (.rcd l fx ts env bs n none) G Y).run args conts β K = some r := fun h => by
  unfold hI at h
  dsimp only at h
  split at h
  · replace h := cond_some h
    obtain ⟨hb, h⟩ := h
    simp only [Bool.and_eq_true] at hb
    have h1 := beq_true hb.2
    have h2 := hG _ _ _ _ _ _ h
    exact hn (by rw [← h2, ← h1]; rfl)
  · cases h

/-- The iterator of a page's cells. -/
theorem onI {S : Sh} (hS : OnSteps S) : SoundI Go.Proofs.Tryd.prog 89 (Gon S) := by
  intro l fx ts env bs n Y hY hSY
  by_cases hn : n = S.n
  · subst hn
    refine SoundC.of (fnSoundY (cx := cxOn S (rc0 S l fx ts env bs none) Y) (fn := Go.Proofs.Tryd.f89) ΓOn_sound (nxOn hY) ⟨eqOK_none fun _ => rfl, fun y h => (by cases h; exact guard_soundY hY hSY), fun f G h => (by cases h), fun _ _ _ _ _ _ h => (by cases h), fun f n h => (by cases h)⟩
      (loopsOn hS l fx ts env bs Y) (fun q L h => by obtain ⟨_, rfl⟩ := cond_some2 h; exact loopOn_nat hY) Go.Proofs.Tryd.func89 (by kernel_rfl) (by kernel_rfl) (by kernel_rfl) (Nat.le_of_ble_eq_true (by kernel_rfl))) fun args conts β K r h => ?_
    unfold hI at h
    dsimp only at h
    split at h
    · rename_i l' caps c cs
      replace h := cond_some h
      obtain ⟨hb, h⟩ := h
      simp only [Bool.and_eq_true, decide_eq_true_eq] at hb
      obtain ⟨⟨rfl, hc⟩, _⟩ := hb
      obtain rfl := okC_eq hc
      unfold Gon at h
      split at h
      · rename_i L p
        replace h := bind_some' h
        obtain ⟨ps, hps, h⟩ := h
        replace h := bind_some' h
        obtain ⟨x, hx, h⟩ := h
        replace h := cond_some h
        obtain ⟨hb, h⟩ := h
        simp only [Bool.and_eq_true, decide_eq_true_eq] at hb
        obtain ⟨⟨h200, h0⟩, hlt⟩ := hb
        have h200 := Nat.le_of_ble_eq_true h200
        obtain rfl := S.ok _ _ hx
        obtain rfl := decP_enc hps
        rw [fnC_run, hS.fn, ← h]
        obtain ⟨m, rfl⟩ : ∃ m : Nat, p = m := ⟨p.toNat, by omega⟩
        have hm : m < ps.length := by omega
        rw [rdE_map hm]
        simp only [encP, List.getElem?_cons_zero, List.getElem?_cons_succ, Option.bind_some, asI, if_true, Int.toNat_natCast]
        have e0 : ps.getD m (0, 0) = ps[m] := by simp [hm]
        rw [e0]
        generalize ps[m] = q
        obtain ⟨k, b⟩ := q
        have hp : (decide (0 ≤ (m : Int)) && decide ((m : Int) ≤ 4096)) = true := by simp; omega
        rw [hp, cond_true]
        unfold cellsP
        dsimp only
        cases h2 : k == 2 with
        | true =>
          simp only [cond_true, decide_true, okC_self, runC, cellV]
          congr 1
          funext s co
          congr 1
          funext x'
          cases s <;> rfl
        | false =>
          cases h1 : k == 1 with
          | true =>
            have hc := cellsN_le b
            have hw := words_cases b
            have w0 : 0 ≤ wordsOf b := by omega
            have w8 : wordsOf b ≤ 8 := by omega
            simp only [cond_false, cond_true, okC_self, decide_true, decide_eq_true hc.1, decide_eq_true hc.2, decide_eq_true w0, decide_eq_true w8, decide_eq_true (show 0 ≤ 16 * ((m : Int) + 1) by omega), decide_eq_true (show 16 * ((m : Int) + 1) ≤ 65536 by omega), Bool.and_self, S.dec_un, Option.bind_some]
            congr 1
            funext s x'
            cases s <;> rfl
          | false => rfl
      · cases h
    · cases h
  · refine ⟨⟨Go.Proofs.Tryd.f89, Go.Proofs.Tryd.func89, by kernel_rfl, by kernel_rfl⟩, fun args conts β K r h => ?_⟩
    exact absurd h (hI_ne hn fun Y caps cs β K r h => by
      unfold Gon at h
      split at h
      · replace h := bind_some' h
        obtain ⟨ps, hps, h⟩ := h
        replace h := bind_some' h
        obtain ⟨x, hx, h⟩ := h
        rw [S.ok _ _ hx, S.len]
      · cases h)
end Go.Ab

namespace Go.Ab
open Go

abbrev pathOnR : List Bool := [false, true, false, true, true, true]
/-- A cell's beginning is put to a list. -/
def Yout : YSem := fun args conts _ K => match args, conts with
  | [.agg [.int .i64 a, .int .i64 _]], [[.own 1 O]] => if (O ++ [[CV.int .i64 a]]).length ≤ LIM then K none [[.own 1 (O ++ [[CV.int .i64 a]])]] else none
  | _, _ => none

def rfOn : RfSem := ⟨[5], fun env => match env with
  | [.ref 0] => Yout
  | _ => fun _ _ _ _ => none⟩

def ΓOnC : FuncId → Option Callee := fun f => bif Nat.beq f 50 then some gMay else bif Nat.beq f 81 then some gOnF else none

end Go.Ab

namespace Go.Ab
open Go

def stOf : CV → Option Nat
  | .rcd _ _ _ _ _ _ s => s
  | _ => none

/-- The contents that go with the inner rounds: the outer loop's record, its contents, the outer loop's yield. -/
noncomputable def shIn (S : Sh) (l : Nat) (fx : Loop) (ts : List Nat) (env : List CV) (bs : List Nat) : Sh where
  T := Option Nat × S.T
  n := S.n + 2
  un := fun x => [rc0 S l fx ts env bs x.1] :: (S.un x.2 ++ [[.yld l]])
  dec := fun co => match co with
    | [c] :: rest => bif okC c (rc0 S l fx ts env bs (stOf c)) && (match rest.getLast? with | some [c'] => okC c' (.yld l) | _ => false) then (S.dec rest.dropLast).bind fun x => some (stOf c, x) else none
    | _ => none
  ok := fun co x h => by
    split at h
    · rename_i c rest
      replace h := cond_some h
      obtain ⟨hb, h⟩ := h
      simp only [Bool.and_eq_true] at hb
      obtain ⟨hc, hl⟩ := hb
      split at hl
      · rename_i c' hg
        obtain ⟨y, hy, h⟩ := bind_some' h
        cases h
        have e1 := S.ok _ _ hy
        have e2 := okC_eq hl
        subst e2
        have e3 : rest = rest.dropLast ++ [[.yld l]] := by
          have hne : rest ≠ [] := by intro h0; subst h0; simp at hg
          rw [List.getLast?_eq_some_getLast hne] at hg
          have := List.dropLast_concat_getLast hne
          rw [Option.some.inj hg] at this
          exact this.symm
        have e4 := okC_eq hc
        show [c] :: rest = [rc0 S l fx ts env bs (stOf c)] :: (S.un y ++ [[.yld l]])
        rw [← e1, ← e3, ← e4]
      · cases hl
    · cases h
  dec_un := fun x => by
    simp only [List.getLast?_append, List.getLast?_singleton, Option.some_or, List.dropLast_concat, S.dec_un, Option.bind_some, stOf, okC_self, Bool.and_self, cond_true]
  len := fun x => by simp [S.len]

abbrev pathIn : List Bool := [false, true, true, false, false, true, true, false, false, true, true, true]
noncomputable abbrev asIn : Code := (codeAt (bodyOf Go.Proofs.Tryd.f80) (false :: pathIn)).getD .skip
noncomputable abbrev bdIn : Code := (codeAt (bodyOf Go.Proofs.Tryd.f80) (true :: pathIn)).getD .skip

/-- A round of the inner loop: it asks for one of the outer loop. -/
noncomputable def Yin (S : Sh) (l : Nat) (fx : Loop) (ts : List Nat) (env : List CV) (bs : List Nat) (Y : YSem) : YSem := fun args conts _ K => match args with
  | [.agg [.int .i64 a, .int .i64 b]] => ((shIn S l fx ts env bs).dec conts).bind fun x => bif x.1.isNone then
      Y [.agg [.int .i64 a, .int .i64 b]] (S.un x.2) _ fun s co => (S.dec co).bind fun x' => selS s (K none ((shIn S l fx ts env bs).un (none, x'))) fun k => K (some 0) ((shIn S l fx ts env bs).un (some k, x')) else none
  | _ => none

noncomputable def rfIn (S : Sh) (l : Nat) (fx : Loop) (ts : List Nat) (env : List CV) (bs : List Nat) (Y : YSem) : RfSem := ⟨[2], fun en => match en with
  | [.ref k] => bif Nat.beq k (S.n + 1) then Yin S l fx ts env bs Y else fun _ _ _ _ => none
  | _ => fun _ _ _ _ => none⟩

/-- All cells, from a page on. -/
def allFrom : Nat → List Pg → List Cell
  | _, [] => []
  | i, q :: r => cellsP (i : Int) q ++ allFrom (i + 1) r

noncomputable abbrev bodyAll : Code := (codeAt (bodyOf Go.Proofs.Tryd.f80) [false, false, true, true, true]).getD .skip
abbrev pathAll : List Bool := [false, true, true, true]
abbrev insAll : List Nat := [2, 1, 9, 10]
def outsAll : Exit → List Nat := fun _ => []

noncomputable def loopAll (S : Sh) (l : Nat) (fx : Loop) (ts : List Nat) (env : List CV) (bs : List Nat) (Y : YSem) : LoopSem := ⟨insAll, outsAll, fun vs cs _ K => match vs with
  | [.ref k, .pc [.sl 2 L] 0, .int .i64 n, .int .i64 i] => (decP L).bind fun ps => bif Nat.beq k (S.n + 1) && decide (n = (ps.length : Int)) && decide (i = 0) && Nat.ble ps.length 200 then ((shIn S l fx ts env bs).dec cs).bind fun x => bif x.1.isNone then
      runC S Y (allFrom 0 ps) x.2 _ fun s x' => selS s (K (.exit 0) [] ((shIn S l fx ts env bs).un (none, x'))) fun k => K .ret [] ((shIn S l fx ts env bs).un (some k, x'))
      else none else none
  | _ => none⟩

noncomputable def cxAll (S : Sh) (l : Nat) (fx : Loop) (ts : List Nat) (env : List CV) (bs : List Nat) (Y : YSem) : Cx :=
  { P := Go.Proofs.Tryd.prog, nt := 22, Γ := ΓOnC, Λ := fun q => bif Nat.beq q 30 then some (loopAll S l fx ts env bs Y) else none, un := fun _ => false, root := bodyOf Go.Proofs.Tryd.f80, wr := fun _ => false, eqT := fun _ => false,
    Y := some (S.n, gY (rc0 S l fx ts env bs none) (guardY S Y)), It := fun f => bif Nat.beq f 89 then some (restr0 (Gon (shIn S l fx ts env bs))) else none, rf := fun q => bif Nat.beq q 7782 then some (rfIn S l fx ts env bs Y) else none }

noncomputable def LBAll (S : Sh) (l : Nat) (fx : Loop) (ts : List Nat) (env : List CV) (bs : List Nat) (Y : YSem) (L : List (List CV)) (n : Int) (β : Type) (K : Exit → List CV → List (List CV) → Option β) (m : Nat) (i : Int) (x : Option Nat × S.T) : Option β :=
  loopB (cxAll S l fx ts env bs Y) insAll outsAll pathAll bodyAll m [.ref (S.n + 1), .pc [.sl 2 L] 0, .int .i64 n, .int .i64 i] ((shIn S l fx ts env bs).un x) K

structure AllSteps (S : Sh) : Prop where
  on : ∀ (l : Nat) (fx : Loop) (ts : List Nat) (env : List CV) (bs : List Nat), OnSteps (shIn S l fx ts env bs)
  rd : ∀ (l : Nat) (fx : Loop) (ts : List Nat) (env : List CV) (bs : List Nat) (Y : YSem) (a b : Int) (x : S.T) (β : Type) (K : Option Nat → List (List CV) → Option β),
    roundB (cxAll S l fx ts env bs Y) [2] pathIn [16] asIn bdIn [.ref (S.n + 1)] [.agg [.int .i64 a, .int .i64 b]] ((shIn S l fx ts env bs).un (none, x)) K =
    cond (decide (l = l)) (cond (okC (rc0 S l fx ts env bs none) (rc0 S l fx ts env bs none)) (Y [.agg [.int .i64 a, .int .i64 b]] (S.un x) _ fun s co => (S.dec co).bind fun x' =>
      cond (!s.isNone) (K (some 0) ((shIn S l fx ts env bs).un (s, x'))) (K none ((shIn S l fx ts env bs).un (s, x')))) none) none
  loop : ∀ (l : Nat) (fx : Loop) (ts : List Nat) (env : List CV) (bs : List Nat) (Y : YSem) (L : List (List CV)) (n : Int) (β : Type) (K : Exit → List CV → List (List CV) → Option β) (m : Nat) (i : Int) (x : S.T),
    LBAll S l fx ts env bs Y L n β K (m + 1) i (none, x) = cond (decide (i < n))
      ((decP L).bind fun ps => ((shIn S l fx ts env bs).dec ((shIn S l fx ts env bs).un (none, x))).bind fun x => bif Nat.ble ps.length 200 && decide (0 ≤ i) && decide (i < (ps.length : Int)) then
        runC (shIn S l fx ts env bs) (Yin S l fx ts env bs Y) (cellsP i (ps.getD i.toNat (0, 0))) x β fun s x' => selS s (LBAll S l fx ts env bs Y L n β K m (IntKind.i64.wrap (i + 1)) x') fun k => bif Nat.beq k 0 then K .ret [] ((shIn S l fx ts env bs).un x') else none
        else none)
      (K (.exit 0) [] ((shIn S l fx ts env bs).un (none, x)))
  fn : ∀ (l : Nat) (fx : Loop) (ts : List Nat) (env : List CV) (bs : List Nat) (Y : YSem) (L : List (List CV)) (x : S.T) (β : Type) (K : CV → List (List CV) → Option β),
    fnK (cxAll S l fx ts env bs Y) Go.Proofs.Tryd.f80 [.yld l, .pc [.sl 2 L] 0] ([rc0 S l fx ts env bs none] :: S.un x) K =
    (decP L).bind fun ps => bif Nat.ble ps.length SMALL then cond (!may ps) (K (.tup []) ([rc0 S l fx ts env bs none] :: S.un x))
      ((decP L).bind fun ps => bif Nat.beq (S.n + 1) (S.n + 1) && decide ((L.length : Int) = (ps.length : Int)) && decide ((0 : Int) = 0) && Nat.ble ps.length 200 then ((shIn S l fx ts env bs).dec ((shIn S l fx ts env bs).un (none, x))).bind fun x => bif x.1.isNone then
        runC S Y (allFrom 0 ps) x.2 β fun s x' => selS s (K (.tup []) ([rc0 S l fx ts env bs none] :: S.un x')) fun k => K (.tup []) ([rc0 S l fx ts env bs (some k)] :: S.un x')
        else none else none) else none

set_option maxRecDepth 100000 in
theorem onSteps_inO (l : Nat) (fx : Loop) (ts : List Nat) (env : List CV) (bs : List Nat) : OnSteps (shIn shO l fx ts env bs) where
  loop := fun l fx ts env bs Y a w n β K m i x => by kernel_rfl
  fn := fun l fx ts env bs Y L p x β K => by kernel_rfl

set_option maxRecDepth 100000 in
theorem allSteps_O : AllSteps shO where
  on := onSteps_inO
  rd := fun l fx ts env bs Y a b x β K => by kernel_rfl
  loop := fun l fx ts env bs Y L n β K m i x => by kernel_rfl
  fn := fun l fx ts env bs Y L x β K => by kernel_rfl
end Go.Ab

namespace Go.Ab
open Go

theorem bind_in {S : Sh} {l : Nat} {fx : Loop} {ts : List Nat} {env : List CV} {bs : List Nat} (s : Option Nat) (x : S.T) {γ : Type} (f : (shIn S l fx ts env bs).T → Option γ) : ((shIn S l fx ts env bs).dec ((shIn S l fx ts env bs).un (s, x))).bind f = f (s, x) := by
  rw [(shIn S l fx ts env bs).dec_un (s, x)]
  rfl

theorem runC_in {S : Sh} {l : Nat} {fx : Loop} {ts : List Nat} {env : List CV} {bs : List Nat} {Y : YSem} : ∀ (cs : List Cell) (x : S.T) (β : Type) (K : Option Nat → Option Nat × S.T → Option β),
    runC (shIn S l fx ts env bs) (Yin S l fx ts env bs Y) cs (none, x) β K = runC S Y cs x β fun s x' => selS s (K none (none, x')) fun k => K (some 0) (some k, x')
  | [], x, β, K => rfl
  | c :: cs, x, β, K => by
    simp only [runC, cellV, Yin, bind_in, Option.isNone_none, cond_true]
    congr 1
    funext s co
    congr 1
    funext x'
    cases s with
    | none =>
      simp only [selS]
      exact runC_in cs x' β K
    | some k => rfl

theorem Yin_nat {S : Sh} {l : Nat} {fx : Loop} {ts : List Nat} {env : List CV} {bs : List Nat} {Y : YSem} (hY : NatYS Y) : NatYS (Yin S l fx ts env bs Y) := fun args conts => by
  unfold Yin
  split
  · exact .bind _ fun _ => .cond _ (.seq2 (hY _ _) fun _ _ => .bind _ fun _ => .selS (.ret _ _) fun _ => .ret _ _) .none
  · exact .none

theorem loopAll_spec {S : Sh} (hS : AllSteps S) (l : Nat) (fx : Loop) (ts : List Nat) (env : List CV) (bs : List Nat) (Y : YSem) (ps : List Pg) (h200 : ps.length ≤ 200) (β : Type) (K : Exit → List CV → List (List CV) → Option β) :
    ∀ (k i : Nat) (x : S.T), i + k = ps.length → LBAll S l fx ts env bs Y (ps.map encP) (ps.length : Int) β K (k + 1) i (none, x) =
      runC S Y (allFrom i (ps.drop i)) x β fun s x' => selS s (K (.exit 0) [] ((shIn S l fx ts env bs).un (none, x'))) fun k => K .ret [] ((shIn S l fx ts env bs).un (some k, x'))
  | 0, i, x, h => by
    rw [hS.loop, List.drop_eq_nil_of_le (by omega)]
    simp [show ¬ ((i : Int) < (ps.length : Int)) by omega, allFrom, runC, selS]
  | k + 1, i, x, h => by
    have hi : i < ps.length := by omega
    have hd : ps.drop i = ps[i] :: ps.drop (i + 1) := List.drop_eq_getElem_cons hi
    have hb : Nat.ble ps.length 200 = true := Nat.ble_eq_true_of_le h200
    have e0 : ps.getD i (0, 0) = ps[i] := by simp [hi]
    rw [hS.loop, hd]
    simp only [decP_map, Option.bind_some, bind_in, hb, decide_eq_true (show (0 : Int) ≤ (i : Int) by omega), decide_eq_true (show (i : Int) < (ps.length : Int) by omega), Bool.and_self, cond_true, Int.toNat_natCast, e0, allFrom]
    refine (runC_in (S := S) _ x β _).trans ?_
    rw [runC_append, IntWalk.i64_in ((i : Int) + 1) (by omega)]
    congr 1
    funext s x'
    cases s with
    | none =>
      have := loopAll_spec hS l fx ts env bs Y ps h200 β K k (i + 1) x' (by omega)
      simp only [selS]
      rw [show ((i : Int) + 1) = ((i + 1 : Nat) : Int) by omega, this]
      rfl
    | some j => rfl

/-- All cells are handed on. -/
def Gall (S : Sh) : ItSem := fun Y caps conts _ K => match caps with
  | [.pc [.sl 2 L] 0] => (decP L).bind fun ps => (S.dec conts).bind fun x => bif Nat.ble ps.length 200 then
      cond (may ps) (runC S Y (allFrom 0 ps) x _ fun s x' => K s (S.un x')) (K none (S.un x)) else none
  | _ => none

theorem Gall_nat (S : Sh) : NatI (Gall S) := fun Y hY caps conts => by
  unfold Gall
  split
  · exact .bind _ fun _ => .bind _ fun _ => .cond _ (.cond _ (.seq2 (runC_nat hY _ _) fun _ _ => .ret _ _) (.ret _ _)) .none
  · exact .none

theorem loopAll_nat {S : Sh} {l : Nat} {fx : Loop} {ts : List Nat} {env : List CV} {bs : List Nat} {Y : YSem} (hY : NatYS Y) : NatL (loopAll S l fx ts env bs Y) := fun vs cs => by
  unfold loopAll
  dsimp only
  split
  · refine .bind _ fun ps => .cond _ (.bind _ fun x => .cond _ ?_ .none) .none
    rcases runC_nat (S := S) hY (allFrom 0 ps) x.2 with ⟨s, x', h⟩ | h
    · cases s with
      | none => exact .inl ⟨_, _, _, fun β K => h _ _⟩
      | some k => exact .inl ⟨_, _, _, fun β K => h _ _⟩
    · exact .inr fun β K => h _ _
  · exact .none

theorem pair_none {S : Sh} {x : Option Nat × S.T} (h : x.1.isNone = true) : x = (none, x.2) := by
  obtain ⟨s, x⟩ := x
  cases s with
  | none => rfl
  | some k => cases h

theorem loopsAll {S : Sh} (hS : AllSteps S) (l : Nat) (fx : Loop) (ts : List Nat) (env : List CV) (bs : List Nat) (Y : YSem) : LoopsS (cxAll S l fx ts env bs Y) := .of fun k L h => by
  obtain ⟨hk, rfl⟩ := cond_some2 h
  refine ⟨pathAll, beq_true hk, fun vs cs β K r hr => ?_⟩
  unfold loopAll at hr
  dsimp only at hr
  split at hr
  · rename_i k L n i
    replace hr := bind_some' hr
    obtain ⟨ps, hps, hr⟩ := hr
    replace hr := cond_some hr
    obtain ⟨hb, hr⟩ := hr
    simp only [Bool.and_eq_true, decide_eq_true_eq] at hb
    obtain ⟨⟨⟨hk, rfl⟩, rfl⟩, h200⟩ := hb
    have hk := beq_true hk
    subst hk
    replace hr := bind_some' hr
    obtain ⟨x, hx, hr⟩ := hr
    replace hr := cond_some hr
    obtain ⟨hn, hr⟩ := hr
    rw [(shIn S l fx ts env bs).ok _ _ hx, pair_none hn, decP_enc hps]
    refine ⟨ps.length + 1, ?_⟩
    have := loopAll_spec hS l fx ts env bs Y ps (Nat.le_of_ble_eq_true h200) β K ps.length 0 x.2 (by omega)
    rw [List.drop_zero] at this
    exact this.trans hr
  · cases hr

theorem ΓOnC_all {Q : FuncId → Callee → Prop} (h1 : Q 50 gMay) (h2 : Q 81 gOnF) : ∀ f g, ΓOnC f = some g → Q f g := fun f g h => by
  unfold ΓOnC at h
  cases e1 : Nat.beq f 50 with
  | true => rw [e1] at h; have := beq_true e1; subst this; cases h; exact h1
  | false =>
    rw [e1] at h
    obtain ⟨hb, rfl⟩ := cond_some1 h
    have := beq_true hb
    subst this
    exact h2
theorem ΓOnC_sound : ∀ f g, ΓOnC f = some g → SoundC Go.Proofs.Tryd.prog f g := ΓOnC_all may_sound onF_sound
theorem ΓOnC_nat : ∀ f g, ΓOnC f = some g → NatC g := ΓOnC_all (Q := fun _ g => NatC g) may_nat onF_nat

theorem cond_some3.{u} {b : Bool} {α : Type u} {g g' : α} (h : (bif b then some g else none) = some g') : b = true ∧ g = g' := by
  cases b with
  | true => exact ⟨rfl, Option.some.inj h⟩
  | false => cases h

theorem nxAll {S : Sh} {l : Nat} {fx : Loop} {ts : List Nat} {env : List CV} {bs : List Nat} {Y : YSem} (hY : NatYS Y) : NatX (cxAll S l fx ts env bs Y) where
  c := ΓOnC_nat
  y := fun y h => by cases h; exact gY_nat (guard_nat hY)
  it := fun f G h => by obtain ⟨_, rfl⟩ := cond_some3 h; exact restr0_nat (Gon_nat _)
  rf := fun q R h en => by
    obtain ⟨_, rfl⟩ := cond_some3 h
    unfold rfIn
    dsimp only
    split
    · rename_i k
      cases Nat.beq k (S.n + 1) with
      | true => exact Yin_nat hY
      | false => exact fun _ _ => .none
    · exact fun _ _ => .none

theorem roundsAll {S : Sh} (hS : AllSteps S) (l : Nat) (fx : Loop) (ts : List Nat) (env : List CV) (bs : List Nat) (Y : YSem) : RoundsS (cxAll S l fx ts env bs Y) := fun p R g ps asg bd h hp en args conts β K r hr => by
  obtain ⟨hq, rfl⟩ := cond_some3 h
  have hp0 := pathN_inj p pathIn (beq_true hq)
  subst hp0
  have hpp : codeAt (bodyOf Go.Proofs.Tryd.f80) pathIn = some (.rangeFunc (.tmp 15) #[16] asIn bdIn) := by kernel_rfl
  have hp' : codeAt (bodyOf Go.Proofs.Tryd.f80) pathIn = some (.rangeFunc g ps asg bd) := hp
  rw [hpp] at hp'
  cases hp'
  unfold rfIn at hr
  dsimp only at hr
  split at hr
  · rename_i k
    cases hk : Nat.beq k (S.n + 1) with
    | false => rw [hk] at hr; cases hr
    | true =>
      rw [hk, cond_true] at hr
      have hk := beq_true hk
      subst hk
      unfold Yin at hr
      split at hr
      · rename_i a b
        replace hr := bind_some' hr
        obtain ⟨x, hx, hr⟩ := hr
        replace hr := cond_some hr
        obtain ⟨hn, hr⟩ := hr
        rw [(shIn S l fx ts env bs).ok _ _ hx, pair_none hn]
        show roundB (cxAll S l fx ts env bs Y) [2] pathIn [16] asIn bdIn _ _ _ K = some r
        rw [hS.rd, ← hr]
        simp only [decide_true, okC_self, cond_true]
        exact congrArg (Y _ _ β) (funext fun s => funext fun co => congrArg (Option.bind (S.dec co)) (funext fun x' => by cases s <;> rfl))
      · cases hr
  · cases hr

/-- The iterator of all cells. -/
theorem allI {S : Sh} (hS : AllSteps S) : SoundI Go.Proofs.Tryd.prog 80 (Gall S) := by
  intro l fx ts env bs n Y hY hSY
  by_cases hn : n = S.n
  · subst hn
    refine SoundC.of (fnSoundY (cx := cxAll S l fx ts env bs Y) (fn := Go.Proofs.Tryd.f80) ΓOnC_sound (nxAll hY) ⟨eqOK_none fun _ => rfl, fun y h => (by cases h; exact guard_soundY hY hSY), fun f G h => (by
        obtain ⟨hf, rfl⟩ := cond_some3 h
        have := beq_true hf
        subst this
        exact restr0_sound (Gon_nat _) (onI (hS.on l fx ts env bs))), roundsAll hS l fx ts env bs Y, fun f n h => (by cases h)⟩
      (loopsAll hS l fx ts env bs Y) (fun q L h => by obtain ⟨_, rfl⟩ := cond_some2 h; exact loopAll_nat hY) Go.Proofs.Tryd.func80 (by kernel_rfl) (by kernel_rfl) (by kernel_rfl) (Nat.le_of_ble_eq_true (by kernel_rfl))) fun args conts β K r h => ?_
    unfold hI at h
    dsimp only at h
    split at h
    · rename_i l' caps c cs
      replace h := cond_some h
      obtain ⟨hb, h⟩ := h
      simp only [Bool.and_eq_true, decide_eq_true_eq] at hb
      obtain ⟨⟨rfl, hc⟩, _⟩ := hb
      obtain rfl := okC_eq hc
      unfold Gall at h
      split at h
      · rename_i L
        replace h := bind_some' h
        obtain ⟨ps, hps, h⟩ := h
        replace h := bind_some' h
        obtain ⟨x, hx, h⟩ := h
        replace h := cond_some h
        obtain ⟨h200, h⟩ := h
        obtain rfl := S.ok _ _ hx
        have hle := Nat.le_of_ble_eq_true h200
        have hsm : Nat.ble ps.length SMALL = true := Nat.ble_eq_true_of_le (by have : SMALL = 1152921504606846976 := rfl; omega)
        rw [fnC_run, hS.fn, hps, ← h]
        simp only [Option.bind_some, hsm, h200, decP_len hps, decide_true, Nat.beq_refl, Bool.and_self, cond_true, bind_in, Option.isNone_none]
        cases may ps with
        | false => rfl
        | true =>
          simp only [Bool.not_true, cond_false, cond_true]
          congr 1
          funext s x'
          cases s <;> rfl
      · cases h
    · cases h
  · refine ⟨⟨Go.Proofs.Tryd.f80, Go.Proofs.Tryd.func80, by kernel_rfl, by kernel_rfl⟩, fun args conts β K r h => ?_⟩
    exact absurd h (hI_ne hn fun Y caps cs β K r h => by
      unfold Gall at h
      split at h
      · replace h := bind_some' h
        obtain ⟨ps, hps, h⟩ := h
        replace h := bind_some' h
        obtain ⟨x, hx, h⟩ := h
        rw [S.ok _ _ hx, S.len]
      · cases h)
end Go.Ab

namespace Go.Ab
open Go

def atV (cs : List Cell) : List (List CV) := cs.map fun c => [CV.int .i64 c.1]

theorem Yout_nat : NatYS Yout := fun args conts => by
  unfold Yout
  split
  · split
    · exact .ret _ _
    · exact .none
  · exact .none

theorem runC_out : ∀ (cs : List Cell) (O : List (List CV)) (β : Type) (K : Option Nat → List (List CV) → Option β), O.length + cs.length ≤ LIM → runC shO Yout cs O β K = K none (O ++ atV cs)
  | [], O, β, K, _ => by simp [runC, atV]
  | c :: cs, O, β, K, h => by
    simp only [List.length_cons] at h
    have hl : (O ++ [[CV.int .i64 c.1]]).length ≤ LIM := by simp; omega
    have := runC_out cs (O ++ [[CV.int .i64 c.1]]) β K (by simp; omega)
    simp only [runC, cellV, shO, Yout, if_pos hl, decO, Option.bind_some, selS] at this ⊢
    rw [this]
    simp [atV]

theorem cellRow_len (a w : Int) : ∀ (n i : Nat), (cellRow a w i n).length = n
  | 0, _ => rfl
  | n + 1, i => by simp [cellRow, cellRow_len a w n]

theorem cellsP_len (p : Int) (q : Pg) : (cellsP p q).length ≤ 8 := by
  unfold cellsP
  have := cellsN_le q.2
  cases q.1 == 2 <;> cases q.1 == 1 <;> simp [cellRow_len] <;> omega

theorem allFrom_len : ∀ (ps : List Pg) (i : Nat), (allFrom i ps).length ≤ 8 * ps.length
  | [], _ => Nat.le_refl _
  | q :: r, i => by
    have h1 := cellsP_len (i : Int) q
    have h2 := allFrom_len r (i + 1)
    simp only [allFrom, List.length_append, List.length_cons]
    omega

/-- A page's cells, as they are told. -/
def onL (ps : List Pg) (p : Int) : List Cell := cond (decide (p < 0)) [] (cond (decide (p ≥ (ps.length : Int))) [] (cond (may ps) (cellsP p (ps.getD p.toNat (0, 0))) []))

/-- All cells. -/
def allCs (ps : List Pg) : List Cell := cond (may ps) (allFrom 0 ps) []

def gOnC : Callee := ⟨fun args conts _ K => match args, conts with
  | [.sl 2 L, .int .i64 p], [] => (decP L).bind fun ps => bif Nat.ble ps.length 200 then K (.own 1 (atV (onL ps p))) [] else none
  | _, _ => none⟩

def gAllC : Callee := ⟨fun args conts _ K => match args, conts with
  | [.sl 2 L], [] => (decP L).bind fun ps => bif Nat.ble ps.length 200 then K (.own 1 (atV (allCs ps))) [] else none
  | _, _ => none⟩

theorem onC_nat : NatC gOnC := fun args conts => by
  unfold gOnC
  dsimp only
  split
  · exact .bind _ fun _ => .cond _ (.ret _ _) .none
  · exact .none
theorem allC_nat : NatC gAllC := fun args conts => by
  unfold gAllC
  dsimp only
  split
  · exact .bind _ fun _ => .cond _ (.ret _ _) .none
  · exact .none

theorem rfOn_nat (en : List CV) : NatYS (rfOn.Y en) := by
  unfold rfOn
  dsimp only
  split
  · exact Yout_nat
  · exact fun _ _ => .none

theorem smOf {n : Nat} (h : Nat.ble n 200 = true) : Nat.ble n SMALL = true := by
  have := Nat.le_of_ble_eq_true h
  exact Nat.ble_eq_true_of_le (by have : SMALL = 1152921504606846976 := rfl; omega)

/-! ### All -/

abbrev pathAllR : List Bool := [false, true, false, true, true]
noncomputable abbrev asAll : Code := (codeAt (bodyOf Go.Proofs.Tryd.f31) (false :: pathAllR)).getD .skip
noncomputable abbrev bdAll : Code := (codeAt (bodyOf Go.Proofs.Tryd.f31) (true :: pathAllR)).getD .skip

def rfAll : RfSem := ⟨[3], rfOn.Y⟩

def ΓAllC : FuncId → Option Callee := fun f => bif Nat.beq f 58 then some gAllF else none
theorem ΓAllC_sound : ∀ f g, ΓAllC f = some g → SoundC Go.Proofs.Tryd.prog f g := fun f g h => by
  unfold ΓAllC at h
  obtain ⟨hb, rfl⟩ := cond_some1 h
  have := beq_true hb
  subst this
  exact allF_sound
theorem ΓAllC_nat : ∀ f g, ΓAllC f = some g → NatC g := fun f g h => by
  unfold ΓAllC at h
  obtain ⟨_, rfl⟩ := cond_some1 h
  exact allF_nat

noncomputable def cx12 : Cx :=
  { P := Go.Proofs.Tryd.prog, nt := 14, Γ := ΓAllC, Λ := fun _ => none, un := fun _ => false, root := bodyOf Go.Proofs.Tryd.f31, wr := fun _ => false, eqT := fun _ => false, It := fun f => bif Nat.beq f 80 then some (restr0 (Gall shO)) else none, rf := fun q => bif Nat.beq q 58 then some rfAll else none }

set_option maxRecDepth 100000 in
theorem roundAll (a b : Int) (O : List (List CV)) (β : Type) (K : Option Nat → List (List CV) → Option β) : roundB cx12 [3] pathAllR [7] asAll bdAll [.ref 0] [.agg [.int .i64 a, .int .i64 b]] [[.own 1 O]] K =
 if (O ++ [[CV.int .i64 a]]).length ≤ LIM then K none [[.own 1 (O ++ [[.int .i64 a]])]] else none := by kernel_rfl

set_option maxRecDepth 100000 in
theorem stepAllC (L : List (List CV)) (β : Type) (K : CV → List (List CV) → Option β) : fnK cx12 Go.Proofs.Tryd.f31 [.sl 2 L] [] K =
 (decP L).bind fun ps => (shO.dec [[.own 1 []]]).bind fun x => bif Nat.ble ps.length 200 then cond (may ps) (runC shO Yout (allFrom 0 ps) x β fun s x' => selS s (K (.own 1 x') []) fun k => bif Nat.beq k 0 then K (.own 1 []) [] else none) (K (.own 1 x) []) else none := by kernel_rfl

theorem nx12 : NatX cx12 where
  c := ΓAllC_nat
  y := fun y h => by cases h
  it := fun f G h => by obtain ⟨_, rfl⟩ := cond_some3 h; exact restr0_nat (Gall_nat _)
  rf := fun q R h en => by obtain ⟨_, rfl⟩ := cond_some3 h; exact rfOn_nat en

theorem rounds12 : RoundsS cx12 := fun p R g ps asg bd h hp en args conts β K r hr => by
  obtain ⟨hq, rfl⟩ := cond_some3 h
  have hp0 := pathN_inj p pathAllR (beq_true hq)
  subst hp0
  have hpp : codeAt (bodyOf Go.Proofs.Tryd.f31) pathAllR = some (.rangeFunc (.tmp 6) #[7] asAll bdAll) := by kernel_rfl
  have hp' : codeAt (bodyOf Go.Proofs.Tryd.f31) pathAllR = some (.rangeFunc g ps asg bd) := hp
  rw [hpp] at hp'
  cases hp'
  unfold rfAll rfOn at hr
  dsimp only at hr
  split at hr
  · unfold Yout at hr
    split at hr
    · rename_i a b O
      exact (roundAll a b O β K).trans hr
    · cases hr
  · cases hr

theorem allC_sound : SoundC Go.Proofs.Tryd.prog 31 gAllC :=
  SoundC.of (fnSoundY (cx := cx12) (fn := Go.Proofs.Tryd.f31) ΓAllC_sound nx12 ⟨eqOK_none fun _ => rfl, fun y h => (by cases h), fun f G h => (by
      obtain ⟨hf, rfl⟩ := cond_some3 h
      have := beq_true hf
      subst this
      exact restr0_sound (Gall_nat _) (allI allSteps_O)), rounds12, fun f n h => (by cases h)⟩ (fun p L b h => by cases h) (fun q L h => by cases h)
    Go.Proofs.Tryd.func31 (by kernel_rfl) (by kernel_rfl) (by kernel_rfl) (Nat.le_of_ble_eq_true (by kernel_rfl)))
    fun args conts β K r h => by
      unfold gAllC at h
      dsimp only at h
      split at h
      · rename_i L
        replace h := bind_some' h
        obtain ⟨ps, hps, h⟩ := h
        replace h := cond_some h
        obtain ⟨h200, h⟩ := h
        rw [fnC_run, stepAllC, hps, ← h]
        unfold allCs
        simp only [show shO.dec [[.own 1 []]] = some [] from rfl, Option.bind_some, h200, cond_true]
        cases may ps with
        | false => rfl
        | true =>
          simp only [cond_true]
          refine (runC_out _ [] β _ ?_).trans ?_
          · have := allFrom_len ps 0
            have := Nat.le_of_ble_eq_true h200
            have : LIM = 4294967296 := rfl
            simp
            omega
          · rfl
      · cases h
end Go.Ab

namespace Go.Ab
open Go

def decF (f : Nat) : List (List CV) → Option (Int × Int × Int × Bool)
  | [[.fn f' [.int .i64 a] []], [.int .i64 x, .int .i64 y], [.bool b]] => bif Nat.beq f' f then some (a, x, y, b) else none
  | _ => none

/-- What is looked for, and what is found. -/
def shF (f : Nat) : Sh where
  T := Int × Int × Int × Bool
  n := 3
  un := fun x => [[.fn f [.int .i64 x.1] []], [.int .i64 x.2.1, .int .i64 x.2.2.1], [.bool x.2.2.2]]
  dec := decF f
  ok := fun co x h => by
    unfold decF at h
    split at h
    · replace h := cond_some h
      obtain ⟨hb, h⟩ := h
      have := beq_true hb
      subst this
      cases h
      rfl
    · cases h
  dec_un := fun x => by simp [decF]
  len := fun _ => rfl

set_option maxRecDepth 100000 in
theorem onSteps_inF (f : Nat) (l : Nat) (fx : Loop) (ts : List Nat) (env : List CV) (bs : List Nat) : OnSteps (shIn (shF f) l fx ts env bs) where
  loop := fun l fx ts env bs Y a w n β K m i x => by kernel_rfl
  fn := fun l fx ts env bs Y L p x β K => by kernel_rfl

set_option maxRecDepth 100000 in
theorem allSteps_F (f : Nat) : AllSteps (shF f) where
  on := onSteps_inF f
  rd := fun l fx ts env bs Y a b x β K => by kernel_rfl
  loop := fun l fx ts env bs Y L n β K m i x => by kernel_rfl
  fn := fun l fx ts env bs Y L x β K => by kernel_rfl

abbrev pathF : List Bool := [false, true, false, true]
noncomputable abbrev asF : Code := (codeAt (bodyOf Go.Proofs.Tryd.f70) (false :: pathF)).getD .skip
noncomputable abbrev bdF : Code := (codeAt (bodyOf Go.Proofs.Tryd.f70) (true :: pathF)).getD .skip

/-- A round of the search. -/
def Yf (f : Nat) : YSem := fun args conts _ K => match args with
  | [.agg [.int .i64 a, .int .i64 b]] => ((shF f).dec conts).bind fun x => bif predB f x.1 a b then K (some 0) ((shF f).un (x.1, a, b, true)) else K none ((shF f).un x)
  | _ => none

def rfF (f : Nat) : RfSem := ⟨[3, 4, 5], fun en => match en with
  | [.ref 0, .ref 1, .ref 2] => Yf f
  | _ => fun _ _ _ _ => none⟩

def ΓF : FuncId → Option Callee := lookL [(58, gAllF), (71, gPred 71)]

noncomputable def cx28 (f : Nat) : Cx :=
  { P := Go.Proofs.Tryd.prog, nt := 15, Γ := ΓF, Λ := fun _ => none, un := fun _ => false, root := bodyOf Go.Proofs.Tryd.f70, wr := fun _ => false, eqT := fun _ => false, It := fun k => bif Nat.beq k 80 then some (restr0 (Gall (shF f))) else none, rf := fun q => bif Nat.beq q 26 then some (rfF f) else none }

/-- What the search's code comes to. -/
structure FirstSteps (f : Nat) : Prop where
  rd : ∀ (a b : Int) (x : Int × Int × Int × Bool) (β : Type) (K : Option Nat → List (List CV) → Option β), roundB (cx28 f) [3, 4, 5] pathF [9] asF bdF [.ref 0, .ref 1, .ref 2] [.agg [.int .i64 a, .int .i64 b]] ((shF f).un x) K =
    cond (predB f x.1 a b) (K (some 0) ((shF f).un (x.1, a, b, true))) (K none ((shF f).un x))
  fn : ∀ (L : List (List CV)) (a : Int) (β : Type) (K : CV → List (List CV) → Option β), fnK (cx28 f) Go.Proofs.Tryd.f70 [.sl 2 L, .fn f [.int .i64 a] []] [] K =
    (decP L).bind fun ps => ((shF f).dec ((shF f).un (a, 0, 0, false))).bind fun x => bif Nat.ble ps.length 200 then
      cond (may ps) (runC (shF f) (Yf f) (allFrom 0 ps) x β fun s x' => selS s (K (.tup [.agg [.int .i64 0, .int .i64 0], .bool false]) []) fun k => bif Nat.beq k 0 then K (.tup [.agg [.int .i64 x'.2.1, .int .i64 x'.2.2.1], .bool x'.2.2.2]) [] else none)
        (K (.tup [.agg [.int .i64 0, .int .i64 0], .bool false]) []) else none

set_option maxRecDepth 100000 in
theorem firstSteps29 : FirstSteps 71 where
  rd := fun a b x β K => by kernel_rfl
  fn := fun L a β K => by kernel_rfl
end Go.Ab

namespace Go.Ab
open Go

/-- The first cell of which it holds. -/
def firstC (f : Nat) (a : Int) (cs : List Cell) : Option Cell := cs.find? fun c => predB f a c.1 c.2

theorem runC_first (f : Nat) (a : Int) : ∀ (cs : List Cell) (β : Type) (K : Option Nat → Int × Int × Int × Bool → Option β), runC (shF f) (Yf f) cs (a, 0, 0, false) β K = match firstC f a cs with
    | some c => K (some 0) (a, c.1, c.2, true)
    | none => K none (a, 0, 0, false)
  | [], β, K => rfl
  | c :: cs, β, K => by
    have hd : ∀ (x : Int × Int × Int × Bool) {γ : Type} (g : (shF f).T → Option γ), ((shF f).dec ((shF f).un x)).bind g = g x := fun x γ g => by rw [(shF f).dec_un x]; rfl
    simp only [runC, cellV, Yf, firstC, List.find?_cons]
    rw [hd]
    cases predB f a c.1 c.2 with
    | true =>
      simp only [cond_true]
      rw [hd]
      rfl
    | false =>
      simp only [cond_false]
      rw [hd]
      exact runC_first f a cs β K

def foundV (o : Option Cell) : CV := optE o (.tup [.agg [.int .i64 0, .int .i64 0], .bool false]) fun c => .tup [.agg [.int .i64 c.1, .int .i64 c.2], .bool true]

def okF (f : Nat) : Bool := Nat.beq f 71

def gFirst : Callee := ⟨fun args conts _ K => match args, conts with
  | [.sl 2 L, .fn f [.int .i64 a] []], [] => (decP L).bind fun ps => bif Nat.ble ps.length 200 && okF f then K (.tup [.agg [.int .i64 (optE (firstC f a (allCs ps)) 0 (·.1)), .int .i64 (optE (firstC f a (allCs ps)) 0 (·.2))], .bool (firstC f a (allCs ps)).isSome]) [] else none
  | _, _ => none⟩

theorem first_nat : NatC gFirst := fun args conts => by
  unfold gFirst
  dsimp only
  split
  · exact .bind _ fun _ => .cond _ (.ret _ _) .none
  · exact .none

theorem ΓF_good : Good Go.Proofs.Tryd.prog [(58, gAllF), (71, gPred 71)] := Good.cons ⟨allF_sound, allF_nat⟩ (Good.cons ⟨at_sound, pred_nat _⟩ Good.nil)
theorem ΓF_sound : ∀ f g, ΓF f = some g → SoundC Go.Proofs.Tryd.prog f g := fun f g h => (ΓF_good f g h).s
theorem ΓF_nat : ∀ f g, ΓF f = some g → NatC g := fun f g h => (ΓF_good f g h).n

theorem Yf_nat (f : Nat) : NatYS (Yf f) := fun args conts => by
  unfold Yf
  split
  · exact .bind _ fun _ => .cond _ (.ret _ _) (.ret _ _)
  · exact .none

theorem nx28 (f : Nat) : NatX (cx28 f) where
  c := ΓF_nat
  y := fun y h => by cases h
  it := fun f G h => by obtain ⟨_, rfl⟩ := cond_some3 h; exact restr0_nat (Gall_nat _)
  rf := fun q R h en => by
    obtain ⟨_, rfl⟩ := cond_some3 h
    unfold rfF
    dsimp only
    split
    · exact Yf_nat f
    · exact fun _ _ => .none

theorem rounds28 {f : Nat} (hf : FirstSteps f) : RoundsS (cx28 f) := fun p R g ps asg bd h hp en args conts β K r hr => by
  obtain ⟨hq, rfl⟩ := cond_some3 h
  have hp0 := pathN_inj p pathF (beq_true hq)
  subst hp0
  have hpp : codeAt (bodyOf Go.Proofs.Tryd.f70) pathF = some (.rangeFunc (.tmp 8) #[9] asF bdF) := by kernel_rfl
  have hp' : codeAt (bodyOf Go.Proofs.Tryd.f70) pathF = some (.rangeFunc g ps asg bd) := hp
  rw [hpp] at hp'
  cases hp'
  unfold rfF at hr
  dsimp only at hr
  split at hr
  · unfold Yf at hr
    split at hr
    · rename_i a b
      replace hr := bind_some' hr
      obtain ⟨x, hx, hr⟩ := hr
      rw [(shF f).ok _ _ hx]
      exact (hf.rd a b x β K).trans hr
    · cases hr
  · cases hr

theorem first_sound_of {f : Nat} (hf : FirstSteps f) : SoundC Go.Proofs.Tryd.prog 70 (fnC (cx28 f) Go.Proofs.Tryd.f70) :=
  fnSoundY (cx := cx28 f) (fn := Go.Proofs.Tryd.f70) ΓF_sound (nx28 f) ⟨eqOK_none fun _ => rfl, fun y h => (by cases h), fun k G h => (by
      obtain ⟨hk, rfl⟩ := cond_some3 h
      have := beq_true hk
      subst this
      exact restr0_sound (Gall_nat _) (allI (allSteps_F f))), rounds28 hf, fun f n h => (by cases h)⟩ (fun p L b h => by cases h) (fun q L h => by cases h)
    Go.Proofs.Tryd.func70 (by kernel_rfl) (by kernel_rfl) (by kernel_rfl) (Nat.le_of_ble_eq_true (by kernel_rfl))

theorem first_run {f : Nat} (hf : FirstSteps f) {ps : List Pg} (h200 : Nat.ble ps.length 200 = true) (a : Int) (β : Type) (K : CV → List (List CV) → Option β) : fnK (cx28 f) Go.Proofs.Tryd.f70 [.sl 2 (ps.map encP), .fn f [.int .i64 a] []] [] K =
    K (.tup [.agg [.int .i64 (optE (firstC f a (allCs ps)) 0 (·.1)), .int .i64 (optE (firstC f a (allCs ps)) 0 (·.2))], .bool (firstC f a (allCs ps)).isSome]) [] := by
  have hd : ∀ (x : Int × Int × Int × Bool) {γ : Type} (g : (shF f).T → Option γ), ((shF f).dec ((shF f).un x)).bind g = g x := fun x γ g => by rw [(shF f).dec_un x]; rfl
  rw [hf.fn]
  simp only [decP_map, Option.bind_some]
  rw [hd]
  simp only [h200, cond_true]
  unfold allCs
  cases may ps with
  | false => rfl
  | true =>
    simp only [cond_true]
    refine (runC_first f a (allFrom 0 ps) β _).trans ?_
    cases firstC f a (allFrom 0 ps) with
    | none => rfl
    | some c => rfl

set_option maxRecDepth 100000 in
theorem first_sound : SoundC Go.Proofs.Tryd.prog 70 gFirst := by
  refine ⟨(first_sound_of firstSteps29).enter, fun args conts β K r h => ?_⟩
  unfold gFirst at h
  dsimp only at h
  split at h
  · rename_i L f a
    replace h := bind_some' h
    obtain ⟨ps, hps, h⟩ := h
    replace h := cond_some h
    obtain ⟨hb, h⟩ := h
    simp only [Bool.and_eq_true] at hb
    obtain ⟨h200, hf⟩ := hb
    obtain rfl := decP_enc hps
    have go : ∀ (hf : FirstSteps f), _ := fun hf => (first_sound_of hf).calls [.sl 2 (ps.map encP), .fn f [.int .i64 a] []] [] β K r ((first_run hf h200 a β K).trans h)
    have := beq_true hf
    subst this
    exact go firstSteps29
  · cases h

def ΓQ : FuncId → Option Callee := fun f => bif Nat.beq f 70 then some gFirst else none
theorem ΓQ_sound : ∀ f g, ΓQ f = some g → SoundC Go.Proofs.Tryd.prog f g := fun f g h => by
  unfold ΓQ at h
  obtain ⟨hb, rfl⟩ := cond_some1 h
  have := beq_true hb
  subst this
  exact first_sound
theorem ΓQ_nat : ∀ f g, ΓQ f = some g → NatC g := fun f g h => by
  unfold ΓQ at h
  obtain ⟨_, rfl⟩ := cond_some1 h
  exact first_nat

/-- A cell's room, its beginning. -/
def roomA (ps : List Pg) (a : Int) : Int := optE (firstC 71 a (allCs ps)) 0 (·.2)
def startA (ps : List Pg) (a : Int) : Int × Bool := (optE (firstC 900030 a (allCs ps)) 0 (·.1), (firstC 900030 a (allCs ps)).isSome)
def nextA (ps : List Pg) (a : Int) : Int × Bool := (optE (firstC 900032 a (allCs ps)) 0 (·.1), (firstC 900032 a (allCs ps)).isSome)

def gRoom : Callee := ⟨fun args conts _ K => match args, conts with
  | [.sl 2 L, .int .i64 a], [] => (decP L).bind fun ps => bif Nat.ble ps.length 200 then K (.int .i64 (roomA ps a)) [] else none
  | _, _ => none⟩
def gStart : Callee := ⟨fun args conts _ K => match args, conts with
  | [.sl 2 L, .int .i64 a], [] => (decP L).bind fun ps => bif Nat.ble ps.length 200 then K (.tup [.int .i64 (startA ps a).1, .bool (startA ps a).2]) [] else none
  | _, _ => none⟩
def gNext : Callee := ⟨fun args conts _ K => match args, conts with
  | [.sl 2 L, .int .i64 a], [] => (decP L).bind fun ps => bif Nat.ble ps.length 200 then K (.tup [.int .i64 (nextA ps a).1, .bool (nextA ps a).2]) [] else none
  | _, _ => none⟩

theorem room_nat : NatC gRoom := fun args conts => by
  unfold gRoom
  dsimp only
  split
  · exact .bind _ fun _ => .cond _ (.ret _ _) .none
  · exact .none
theorem start_nat : NatC gStart := fun args conts => by
  unfold gStart
  dsimp only
  split
  · exact .bind _ fun _ => .cond _ (.ret _ _) .none
  · exact .none
theorem next_nat : NatC gNext := fun args conts => by
  unfold gNext
  dsimp only
  split
  · exact .bind _ fun _ => .cond _ (.ret _ _) .none
  · exact .none

set_option maxRecDepth 100000 in
theorem room_step (L : List (List CV)) (a : Int) (β : Type) (K : CV → List (List CV) → Option β) : fnK (cxT 16 (bodyOf Go.Proofs.Tryd.f39) ΓQ (fun _ => false)) Go.Proofs.Tryd.f39 [.sl 2 L, .int .i64 a] [] K =
 (decP L).bind fun ps => bif Nat.ble ps.length 200 && okF 71 then K (.int .i64 (optE (firstC 71 a (allCs ps)) 0 (·.2))) [] else none := by kernel_rfl
theorem room_sound : SoundC Go.Proofs.Tryd.prog 39 gRoom :=
  SoundC.of (plain_sound (n := 16) (wr := fun _ => false) ΓQ_sound ΓQ_nat Go.Proofs.Tryd.func39 (by kernel_rfl) (by kernel_rfl) (by kernel_rfl) (Nat.le_of_ble_eq_true (by kernel_rfl)))
    fun args conts β K r h => by
      unfold gRoom at h
      dsimp only at h
      split at h
      · rw [fnC_run, room_step, show okF 71 = true from rfl]; simp only [Bool.and_true]; exact h
      · cases h
end Go.Ab

namespace Go.Ab
open Go

def encI (xs : List Int) : List (List CV) := xs.map fun a => [CV.int .i64 a]

def dec1 : List CV → Option Int
  | [.int .i64 a] => some a
  | _ => none

def decI (L : List (List CV)) : Option (List Int) := mapO dec1 L

theorem decI_enc : ∀ {L : List (List CV)} {xs : List Int}, decI L = some xs → L = encI xs
  | [], xs, h => by
    simp only [decI, mapO, Option.some.injEq] at h
    subst h
    rfl
  | l :: L, xs, h => by
    simp only [decI, mapO] at h
    obtain ⟨p, hp, h⟩ := bind_some' h
    obtain ⟨qs, hq, h⟩ := bind_some' h
    cases h
    have e1 : l = [CV.int .i64 p] := by
      unfold dec1 at hp
      split at hp
      · cases hp; rfl
      · cases hp
    rw [e1, decI_enc (xs := qs) hq]
    rfl

@[simp] theorem decI_map (xs : List Int) : decI (encI xs) = some xs := by
  induction xs with
  | nil => rfl
  | cons p ps ih =>
    simp only [decI, encI] at ih
    simp [decI, encI, mapO, dec1, ih]

@[simp] theorem encI_len (xs : List Int) : (encI xs).length = xs.length := by simp [encI]

theorem rdE_int {xs : List Int} {i : Nat} (h : i < xs.length) {γ : Type} (f : List CV → Option γ) : (rdE (encI xs) (i : Int)).bind f = f [CV.int .i64 xs[i]] := by
  simp [rdE, h, encI]

theorem atV_enc (cs : List Cell) : atV cs = encI (cs.map (·.1)) := by simp [atV, encI]

end Go.Ab

namespace Go.Ab
open Go

theorem lookL_all {Q : FuncId → Callee → Prop} : ∀ (l : List (Nat × Callee)), (∀ p ∈ l, Q p.1 p.2) → ∀ f g, lookL l f = some g → Q f g
  | [], _, f, g, h => by cases h
  | p :: r, hl, f, g, h => by
    simp only [lookL] at h
    cases e : Nat.beq f p.1 with
    | true =>
      rw [e] at h
      have := beq_true e
      subst this
      cases h
      exact hl p (by simp)
    | false =>
      rw [e] at h
      exact lookL_all r (fun q hq => hl q (by simp [hq])) f g h

end Go.Ab

namespace Go.Ab
open Go

@[simp] theorem asI_i (n : Int) : asI .i64 (.int .i64 n) = some n := by simp [asI]

/-- Cells that rise, from lo on, none within another. -/
def chain : Int → List Cell → Prop
  | _, [] => True
  | lo, c :: cs => lo ≤ c.1 ∧ 2 ≤ c.2 ∧ c.1 ≤ 65536 ∧ c.2 ≤ 64 ∧ chain (c.1 + c.2) cs

theorem chain_mono : ∀ {cs : List Cell} {lo lo' : Int}, lo' ≤ lo → chain lo cs → chain lo' cs
  | [], _, _, _, _ => trivial
  | _ :: _, _, _, h, ⟨h1, h2⟩ => ⟨by omega, h2⟩

theorem chain_append : ∀ {cs ds : List Cell} {lo hi : Int}, chain lo cs → (∀ c ∈ cs, c.1 + c.2 ≤ hi) → lo ≤ hi → chain hi ds → chain lo (cs ++ ds)
  | [], _, _, _, _, _, h, hd => chain_mono h hd
  | c :: cs, ds, lo, hi, ⟨h1, h2, h3, h4, h5⟩, hb, _, hd => ⟨h1, h2, h3, h4, chain_append h5 (fun d hd => hb d (by simp [hd])) (hb c (by simp)) hd⟩

theorem chain_mem : ∀ {cs : List Cell} {lo : Int}, chain lo cs → ∀ c ∈ cs, lo ≤ c.1 ∧ 2 ≤ c.2 ∧ c.1 ≤ 65536 ∧ c.2 ≤ 64
  | [], _, _, _, h => by cases h
  | d :: cs, lo, ⟨h1, h2, h3, h4, h5⟩, c, h => by
    rcases List.mem_cons.1 h with rfl | h
    · exact ⟨h1, h2, h3, h4⟩
    · have := chain_mem h5 c h
      exact ⟨by omega, this.2⟩

/-- A number that an int may be. -/
def rg (a : Int) : Prop := -9223372036854775808 ≤ a ∧ a ≤ 9223372036854775807

theorem holds_iff {x y a : Int} (ha : rg a) (hx : 0 ≤ x) : holdsB x y a = true ↔ x ≤ a ∧ a < x + y := by
  unfold rg at ha
  unfold holdsB
  by_cases h : a ≥ x
  · rw [decide_eq_true h, cond_true, IntWalk.i64_in (a - x) (by omega)]
    simp
    omega
  · simp [h]

theorem find30 {a : Int} (ha : rg a) : ∀ {cs : List Cell} {lo : Int}, 0 ≤ lo → chain lo cs → ∀ c ∈ cs, c.1 ≤ a → a < c.1 + c.2 → firstC 900030 a cs = some c
  | [], _, _, _, _, h, _, _ => by cases h
  | d :: cs, lo, h0, ⟨h1, h2, h3, h4, h5⟩, c, h, ha1, ha2 => by
    show List.find? _ _ = _
    rw [List.find?_cons]
    have hp : predB 900030 a d.1 d.2 = holdsB d.1 d.2 a := rfl
    rw [hp]
    rcases List.mem_cons.1 h with rfl | h
    · rw [(holds_iff ha (by omega)).2 ⟨ha1, ha2⟩]
    · have := chain_mem h5 c h
      have hf : holdsB d.1 d.2 a = false := by
        cases hh : holdsB d.1 d.2 a with
        | false => rfl
        | true => have := (holds_iff ha (by omega)).1 hh; omega
      rw [hf]
      exact find30 ha (by omega) h5 c h ha1 ha2

theorem of30 {a : Int} (ha : rg a) {cs : List Cell} {lo : Int} (h0 : 0 ≤ lo) (hc : chain lo cs) {c : Cell} (h : firstC 900030 a cs = some c) : c ∈ cs ∧ c.1 ≤ a ∧ a < c.1 + c.2 := by
  have h1 := List.mem_of_find?_eq_some h
  have h2 := List.find?_some h
  have h3 := chain_mem hc c h1
  exact ⟨h1, (holds_iff ha (by omega)).1 h2⟩

theorem find29 {cs : List Cell} {lo : Int} (hc : chain lo cs) : ∀ c ∈ cs, firstC 71 c.1 cs = some c := by
  induction cs generalizing lo with
  | nil => intro c h; cases h
  | cons d cs ih =>
    obtain ⟨h1, h2, h3, h4, h5⟩ := hc
    intro c h
    show List.find? _ _ = _
    rw [List.find?_cons]
    have hp : predB 71 c.1 d.1 d.2 = (c.1 == d.1) := rfl
    rw [hp]
    rcases List.mem_cons.1 h with rfl | h
    · simp
    · have := chain_mem h5 c h
      have hf : (c.1 == d.1) = false := by simp; omega
      rw [hf]
      exact ih h5 c h

theorem of29 {a : Int} {cs : List Cell} {c : Cell} (h : firstC 71 a cs = some c) : c ∈ cs ∧ c.1 = a := by
  have h1 := List.mem_of_find?_eq_some h
  have h2 := List.find?_some h
  have hp : predB 71 a c.1 c.2 = (a == c.1) := rfl
  rw [hp] at h2
  exact ⟨h1, by simp at h2; exact h2.symm⟩

/-! ### The cells of pages -/

theorem cellRow_chain (a w : Int) (ha : 0 ≤ a ∧ a ≤ 8192) (hw : 2 ≤ w ∧ w ≤ 8) : ∀ (n i : Nat), i + n ≤ 8 → chain (a + i * w) (cellRow a w i n)
  | 0, _, _ => trivial
  | n + 1, i, h => by
    have hm : (i : Int) * w ≤ 8 * 8 := Int.mul_le_mul (by omega) hw.2 (by omega) (by omega)
    refine ⟨Int.le_refl _, hw.1, by omega, by omega, ?_⟩
    have := cellRow_chain a w ha hw n (i + 1) (by omega)
    rw [show a + (i : Int) * w + w = a + ((i + 1 : Nat) : Int) * w by rw [Int.natCast_add, Int.add_mul]; simp; omega]
    exact this

theorem cellRow_hi (a w : Int) (hw : 2 ≤ w) : ∀ (n i : Nat), ∀ c ∈ cellRow a w i n, c.1 + c.2 ≤ a + ((i + n : Nat) : Int) * w
  | 0, _, c, h => by cases h
  | n + 1, i, c, h => by
    simp only [cellRow, List.mem_cons] at h
    rcases h with rfl | h
    · have h1 : ((i + (n + 1) : Nat) : Int) * w = (i : Int) * w + w + (n : Int) * w := by rw [show ((i + (n + 1) : Nat) : Int) = (i : Int) + 1 + n by omega, Int.add_mul, Int.add_mul, Int.one_mul]
      have h2 : 0 ≤ (n : Int) * w := Int.mul_nonneg (by omega) (by omega)
      show a + (i : Int) * w + w ≤ _
      omega
    · have := cellRow_hi a w hw n (i + 1) c h
      rw [show i + (n + 1) = i + 1 + n by omega]
      exact this

/-- Small pages have cells that fill them. -/
theorem small_full {b : Int} (h : 0 ≤ b ∧ b ≤ 2) : 2 ≤ wordsOf b ∧ wordsOf b ≤ 8 ∧ ((cellsN b).toNat : Int) * wordsOf b = 16 ∧ (cellsN b).toNat ≤ 8 ∧ 1 ≤ (cellsN b).toNat := by
  have : b = 0 ∨ b = 1 ∨ b = 2 := by omega
  rcases this with rfl | rfl | rfl <;> decide

theorem beq_of {a b : Int} (h : a = b) : (a == b) = true := by simp [h]
theorem beq_ne {a b : Int} (h : a ≠ b) : (a == b) = false := by simp [h]

/-- What pages that may be are like, one by one: with r pages of a large object to come. -/
theorem mayGo_cons {r : Nat} {q : Pg} {ps : List Pg} {e : Int} (h : mayGo r (q :: ps) = some e) :
    (q.1 = 3 ∧ ∃ k, r = k + 1 ∧ mayGo k ps = some e) ∨ (r = 0 ∧ q = (0, 0) ∧ mayGo (0 : Nat) ps = some e) ∨ (r = 0 ∧ q.1 = 1 ∧ (0 ≤ q.2 ∧ q.2 ≤ 2) ∧ mayGo (0 : Nat) ps = some e) ∨
      (r = 0 ∧ q.1 = 2 ∧ (1 ≤ q.2 ∧ q.2 ≤ 4) ∧ mayGo ((q.2 - 1).toNat : Nat) ps = some e) := by
  obtain ⟨a, b⟩ := q
  simp only [mayGo] at h
  by_cases h3 : a = 3
  · subst h3
    simp only [beq_self_eq_true, cond_true] at h
    cases r with
    | zero => simp at h
    | succ k =>
      refine .inl ⟨rfl, k, rfl, ?_⟩
      have hr : (((k + 1 : Nat) : Int) == 0) = false := beq_ne (by omega)
      rw [hr, cond_false] at h
      cases hb : b != 0 with
      | true => rw [hb] at h; cases h
      | false =>
        rw [hb, cond_false, show ((k + 1 : Nat) : Int) - 1 = (k : Int) by omega] at h
        exact h
  · rw [beq_ne h3, cond_false] at h
    have r0 : ∀ {x : Option Int}, (bif decide ((r : Int) > 0) then none else x) = some e → r = 0 ∧ x = some e := fun {x} hx => by
      cases hd : decide ((r : Int) > 0) with
      | true => rw [hd] at hx; cases hx
      | false => rw [hd] at hx; simp at hd; exact ⟨by omega, hx⟩
    by_cases h0 : a = 0
    · subst h0
      simp only [beq_self_eq_true, cond_true] at h
      cases hb : b != 0 with
      | true => rw [hb] at h; cases h
      | false =>
        rw [hb, cond_false] at h
        obtain ⟨rfl, h⟩ := r0 h
        simp at hb
        subst hb
        exact .inr (.inl ⟨rfl, rfl, h⟩)
    · rw [beq_ne h0, cond_false] at h
      by_cases h1 : a = 1
      · subst h1
        simp only [beq_self_eq_true, cond_true] at h
        cases hb : !(bif decide (b ≥ 0) then decide (b ≤ 2) else false) with
        | true => rw [hb] at h; cases h
        | false =>
          rw [hb, cond_false] at h
          obtain ⟨rfl, h⟩ := r0 h
          refine .inr (.inr (.inl ⟨rfl, rfl, ?_, h⟩))
          by_cases hb0 : b ≥ 0 <;> simp [hb0] at hb
          exact ⟨hb0, hb⟩
      · rw [beq_ne h1, cond_false] at h
        by_cases h2 : a = 2
        · subst h2
          simp only [beq_self_eq_true, cond_true] at h
          cases hb : !(bif decide (b ≥ 1) then decide (b ≤ 4) else false) with
          | true => rw [hb] at h; cases h
          | false =>
            rw [hb, cond_false] at h
            obtain ⟨rfl, h⟩ := r0 h
            have hb' : 1 ≤ b ∧ b ≤ 4 := by
              by_cases hb1 : b ≥ 1 <;> simp [hb1] at hb
              exact ⟨hb1, hb⟩
            refine .inr (.inr (.inr ⟨rfl, rfl, hb', ?_⟩))
            rw [show (((b - 1).toNat : Nat) : Int) = b - 1 by omega]
            exact h
        · rw [beq_ne h2] at h
          cases h

theorem cellsP_rest {i : Int} {q : Pg} (h : q.1 = 3 ∨ q.1 = 0) : cellsP i q = [] := by
  unfold cellsP
  rcases h with h | h <;> rw [h] <;> rfl
theorem cellsP_small {i : Int} {q : Pg} (h : q.1 = 1) : cellsP i q = cellRow (16 * (i + 1)) (wordsOf q.2) 0 (cellsN q.2).toNat := by
  unfold cellsP
  rw [h]
  rfl
theorem cellsP_large {i : Int} {q : Pg} (h : q.1 = 2) (hb : 1 ≤ q.2 ∧ q.2 ≤ 4) : cellsP i q = [(16 * (i + 1), 16 * q.2)] := by
  unfold cellsP
  rw [h, IntWalk.i64_in _ (by omega), Int.mul_comm q.2 16]
  rfl

theorem allFrom_chain : ∀ (ps : List Pg) (i r : Nat) (e : Int), i + ps.length ≤ 300 → r ≤ 3 → mayGo r ps = some e → chain (16 * ((i : Int) + 1 + r)) (allFrom i ps)
  | [], _, _, _, _, _, _ => trivial
  | q :: ps, i, r, e, hl, hr, h => by
    simp only [List.length_cons] at hl
    simp only [allFrom]
    rcases mayGo_cons h with ⟨h3, k, rfl, h'⟩ | ⟨rfl, rfl, h'⟩ | ⟨rfl, h1, hb, h'⟩ | ⟨rfl, h2, hb, h'⟩
    · rw [cellsP_rest (.inl h3), List.nil_append]
      exact chain_mono (by omega) (allFrom_chain ps (i + 1) k e (by omega) (by omega) h')
    · rw [cellsP_rest (.inr rfl), List.nil_append]
      exact chain_mono (by omega) (allFrom_chain ps (i + 1) 0 e (by omega) (by omega) h')
    · obtain ⟨w2, w8, hf, hn, _⟩ := small_full hb
      rw [cellsP_small h1]
      have hc := cellRow_chain (16 * ((i : Int) + 1)) (wordsOf q.2) ⟨by omega, by omega⟩ ⟨w2, w8⟩ (cellsN q.2).toNat 0 (by omega)
      have hh := cellRow_hi (16 * ((i : Int) + 1)) (wordsOf q.2) w2 (cellsN q.2).toNat 0
      rw [Nat.zero_add, hf] at hh
      refine chain_append (hi := 16 * ((i : Int) + 1) + 16) (chain_mono (by simp) hc) hh (by omega) ?_
      exact chain_mono (by omega) (allFrom_chain ps (i + 1) 0 e (by omega) (by omega) h')
    · rw [cellsP_large h2 hb]
      refine ⟨by simp, by simp; omega, by simp; omega, by simp; omega, ?_⟩
      exact chain_mono (by simp; omega) (allFrom_chain ps (i + 1) _ e (by omega) (by omega) h')

theorem may_go {ps : List Pg} (h : may ps = true) : mayGo (0 : Nat) ps = some 0 ∧ 1 ≤ ps.length ∧ ps.length ≤ 64 := by
  unfold may at h
  show mayGo 0 ps = some 0 ∧ _
  cases hm : mayGo 0 ps with
  | none => rw [hm] at h; cases h
  | some r =>
    rw [hm] at h
    dsimp only at h
    cases h0 : r == 0 with
    | false => rw [h0] at h; cases h
    | true =>
      rw [h0, cond_true] at h
      have : r = 0 := by simpa using h0
      subst this
      refine ⟨rfl, ?_⟩
      by_cases h1 : (ps.length : Int) ≥ 1
      · simp [h1] at h; omega
      · rw [decide_eq_false h1] at h; cases h

theorem all_chain (ps : List Pg) : chain 16 (allCs ps) := by
  unfold allCs
  cases h : may ps with
  | false => exact trivial
  | true =>
    obtain ⟨h1, h2, h3⟩ := may_go h
    exact chain_mono (by omega) (allFrom_chain ps 0 0 0 (by omega) (by omega) h1)
end Go.Ab

namespace Go.Ab
open Go

theorem startA_some {ps : List Pg} {a : Int} {c : Cell} (h : firstC 900030 a (allCs ps) = some c) : startA ps a = (c.1, true) := by simp [startA, h, optE]
theorem startA_none {ps : List Pg} {a : Int} (h : firstC 900030 a (allCs ps) = none) : startA ps a = (0, false) := by simp [startA, h, optE]
theorem roomA_some {ps : List Pg} {a : Int} {c : Cell} (h : firstC 71 a (allCs ps) = some c) : roomA ps a = c.2 := by simp [roomA, h, optE]
theorem roomA_none {ps : List Pg} {a : Int} (h : firstC 71 a (allCs ps) = none) : roomA ps a = 0 := by simp [roomA, h, optE]

theorem rg_of {a : Int} (h : 0 ≤ a ∧ a ≤ 100000) : rg a := by unfold rg; omega

/-- Where a cell begins, in its room. -/
theorem start_mem {ps : List Pg} {a : Int} (ha : rg a) {c : Cell} (hc : c ∈ allCs ps) (h1 : c.1 ≤ a) (h2 : a < c.1 + c.2) : startA ps a = (c.1, true) := startA_some (find30 ha (by omega) (all_chain ps) c hc h1 h2)
theorem room_mem {ps : List Pg} {c : Cell} (hc : c ∈ allCs ps) : roomA ps c.1 = c.2 := roomA_some (find29 (all_chain ps) c hc)
theorem all_mem {ps : List Pg} {c : Cell} (hc : c ∈ allCs ps) : 16 ≤ c.1 ∧ 2 ≤ c.2 ∧ c.1 ≤ 65536 ∧ c.2 ≤ 64 := chain_mem (all_chain ps) c hc

end Go.Ab

namespace Go.Ab
open Go

theorem own_get {xs : List Int} {i : Nat} (h : i < xs.length) {γ : Type} (f : List CV → Option γ) :
    (if 0 ≤ (i : Int) ∧ (i : Int) < ((encI xs).length : Int) then ((encI xs)[(i : Int).toNat]?).bind f else none) = f [CV.int .i64 xs[i]] := by
  rw [if_pos ⟨by omega, by simp; omega⟩]
  simp [encI, h]

theorem roomA_le (ps : List Pg) (a : Int) : 0 ≤ roomA ps a ∧ roomA ps a ≤ 64 := by
  cases h : firstC 71 a (allCs ps) with
  | none => rw [roomA_none h]; omega
  | some c =>
    have := all_mem (of29 h).1
    rw [roomA_some h]
    omega

def rsum (ps : List Pg) : List Int → Int
  | [] => 0
  | x :: xs => roomA ps x + rsum ps xs

abbrev path5 : List Bool := [false, true, false, true, true, true, true, true]
def outs5 : Exit → List Nat := fun _ => [5, 0]

def loop5 : LoopSem := ⟨[4, 5, 6, 0], outs5, fun vs cs _ K => match vs, cs with
  | [.own 1 A, .int .i64 n, .int .i64 i, .sl 2 L], [] => (decI A).bind fun xs => (decP L).bind fun ps => bif decide (i = 0) && decide (0 ≤ n) && decide (n ≤ 1000000) && Nat.ble xs.length 8192 && Nat.ble ps.length 200 then
      K (.exit 0) [.int .i64 (n + rsum ps xs), .sl 2 L] [] else none
  | _, _ => none⟩

theorem loop5_nat : NatL loop5 := fun vs cs => by
  unfold loop5
  dsimp only
  split
  · exact .bind _ fun _ => .bind _ fun _ => .cond _ (.ret _ _ _) .none
  · exact .none

/-! ### CellsOn -/

abbrev path6 : List Bool := [false, true, false, true, true, true, true, true]
def outs6 : Exit → List Nat := fun e => match e with | .ret => [4] | _ => [0, 1, 6, 7]

/-- From cell to cell. -/
def walkOn (ps : List Pg) : List Int → Int → Option Int
  | [], t => some t
  | x :: xs, t => cond (x != t) none (walkOn ps xs (t + roomA ps t))

def loop6 : LoopSem := ⟨[6, 7, 8, 0, 1], outs6, fun vs cs _ K => match vs, cs with
  | [.own 1 A, .int .i64 t, .int .i64 i, .sl 2 L, .int .i64 p], [] => (decI A).bind fun xs => (decP L).bind fun ps => bif decide (i = 0) && decide (0 ≤ t) && decide (t ≤ 1000000) && Nat.ble xs.length 8192 && Nat.ble ps.length 200 then
      optE (walkOn ps xs t) (K .ret [.bool false] []) fun t' => K (.exit 0) [.sl 2 L, .int .i64 p, .own 1 A, .int .i64 t'] [] else none
  | _, _ => none⟩

theorem Nat3.optE' {α A B C : Type} {o : Option α} {F : (β : Type) → (A → B → C → Option β) → Option β} {G : α → (β : Type) → (A → B → C → Option β) → Option β} (hF : Nat3 F) (hG : ∀ a, Nat3 (G a)) : Nat3 (fun β K => Ab.optE o (F β K) fun a => G a β K) := Nat3.optE hF hG

theorem loop6_nat : NatL loop6 := fun vs cs => by
  unfold loop6
  dsimp only
  split
  · exact .bind _ fun _ => .bind _ fun _ => .cond _ (.optE (.ret _ _ _) fun _ => .ret _ _ _) .none
  · exact .none

end Go.Ab
