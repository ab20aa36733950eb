/- CellsStart comes to true.
CellsRooms, CellsOn: their loops.
CellsRooms, CellsOn come to true. -/
import Derived.Test.YtnfgbfmhnllnnabDoorCgA
namespace Go.Ab
open Go

noncomputable abbrev cx4 : Cx := cxT 77 (bodyOf Go.Proofs.Tryd.f4) ΓL (fun _ => false)

set_option maxRecDepth 100000 in
theorem step4f (L : List (List CV)) (a : Int) (β : Type) (K : CV → List (List CV) → Option β) : fnK cx4 Go.Proofs.Tryd.f4 [.sl 2 L, .int .i64 a] [] K =
  bif decide ((↑(List.length L) : Int) > 64) then K (CV.bool true) []
  else
    Option.bind (decP L) fun ps =>
      bif Nat.ble (List.length ps) 200 then
        Option.bind (decP L) fun ps_1 =>
          bif Nat.ble (List.length ps_1) 200 then
            bif !Prod.snd (startA ps a) then
              bif Prod.fst (startA ps a) == 0 then K (CV.bool (roomA ps_1 a == 0)) [] else K (CV.bool false) []
            else
              Option.bind (decP L) fun ps_2 =>
                bif Nat.ble (List.length ps_2) 200 then
                  Option.bind (decP L) fun ps_3 =>
                    bif Nat.ble (List.length ps_3) 200 then
                      bif decide (roomA ps_2 (Prod.fst (startA ps a)) ≥ 2) then
                        bif decide (a ≥ Prod.fst (startA ps a)) then
                          bif
                              decide
                                (IntKind.wrap IntKind.i64 (a - Prod.fst (startA ps a)) <
                                  roomA ps_2 (Prod.fst (startA ps a))) then
                            bif decide (roomA ps_1 a > 0) == (a == Prod.fst (startA ps a)) then
                              bif Prod.snd (startA ps_3 (Prod.fst (startA ps a))) then
                                K (CV.bool (Prod.fst (startA ps_3 (Prod.fst (startA ps a))) == Prod.fst (startA ps a)))
                                  []
                              else K (CV.bool false) []
                            else K (CV.bool false) []
                          else K (CV.bool false) []
                        else K (CV.bool false) []
                      else K (CV.bool false) []
                    else none
                else none
          else none
      else none := by kernel_rfl

theorem startA_some {ps : List Pg} {a : Int} {c : Cell} (h : firstC 30 a (allCs ps) = some c) : startA ps a = (c.1, true) := by simp [startA, h, optE]
theorem startA_none {ps : List Pg} {a : Int} (h : firstC 30 a (allCs ps) = none) : startA ps a = (0, false) := by simp [startA, h, optE]
theorem roomA_some {ps : List Pg} {a : Int} {c : Cell} (h : firstC 29 a (allCs ps) = some c) : roomA ps a = c.2 := by simp [roomA, h, optE]
theorem roomA_none {ps : List Pg} {a : Int} (h : firstC 29 a (allCs ps) = none) : roomA ps a = 0 := by simp [roomA, h, optE]

theorem rg_of {a : Int} (h : 0 ≤ a ∧ a ≤ 100000) : rg a := by unfold rg; omega

/-- Where a cell begins, in its room. -/
theorem start_mem {ps : List Pg} {a : Int} (ha : rg a) {c : Cell} (hc : c ∈ allCs ps) (h1 : c.1 ≤ a) (h2 : a < c.1 + c.2) : startA ps a = (c.1, true) := startA_some (find30 ha (by omega) (all_chain ps) c hc h1 h2)
theorem room_mem {ps : List Pg} {c : Cell} (hc : c ∈ allCs ps) : roomA ps c.1 = c.2 := roomA_some (find29 (all_chain ps) c hc)
theorem all_mem {ps : List Pg} {c : Cell} (hc : c ∈ allCs ps) : 16 ≤ c.1 ∧ 2 ≤ c.2 ∧ c.1 ≤ 65536 ∧ c.2 ≤ 64 := chain_mem (all_chain ps) c hc

theorem law4 (ps : List Pg) (a : Int) (ha : rg a) (β : Type) (K : CV → List (List CV) → Option β) : (fnC cx4 Go.Proofs.Tryd.f4).run [.sl 2 (ps.map encP), .int .i64 a] [] β K = K (.bool true) [] := by
  rw [fnC_run, step4f]
  simp only [List.length_map, decP_map, Option.bind_some]
  by_cases hl : (ps.length : Int) > 64
  · rw [decide_eq_true hl]; rfl
  · rw [decide_eq_false hl, cond_false, show Nat.ble ps.length 200 = true from Nat.ble_eq_true_of_le (by omega)]
    simp only [cond_true]
    cases h30 : firstC 30 a (allCs ps) with
    | none =>
      have h29 : firstC 29 a (allCs ps) = none := by
        cases h : firstC 29 a (allCs ps) with
        | none => rfl
        | some c =>
          obtain ⟨hc, he⟩ := of29 h
          have := all_mem hc
          rw [find30 ha (by omega) (all_chain ps) c hc (by omega) (by omega)] at h30
          cases h30
      rw [startA_none h30, roomA_none h29]
      rfl
    | some c =>
      obtain ⟨hc, h1, h2⟩ := of30 ha (by omega) (all_chain ps) h30
      have hm := all_mem hc
      rw [startA_some h30]
      dsimp only
      rw [room_mem hc, start_mem (rg_of (by omega)) hc (Int.le_refl _) (by omega), IntWalk.i64_in (a - c.1) (by unfold rg at ha; omega)]
      have hr : decide (roomA ps a > 0) = (a == c.1) := by
        cases h : firstC 29 a (allCs ps) with
        | none =>
          rw [roomA_none h]
          have : a ≠ c.1 := fun e => by
            rw [e, find29 (all_chain ps) c hc] at h
            cases h
          simp [this]
        | some d =>
          obtain ⟨hd, he⟩ := of29 h
          have hmd := all_mem hd
          have := find30 ha (by omega) (all_chain ps) d hd (by omega) (by omega)
          rw [h30] at this
          cases this
          rw [roomA_some h, he]
          simp
          omega
      rw [hr, decide_eq_true (show c.2 ≥ 2 by omega), decide_eq_true (show a ≥ c.1 from h1), decide_eq_true (show a - c.1 < c.2 by omega)]
      simp
end Go.Ab

namespace Go.Ab
open Go

theorem own_get {xs : List Int} {i : Nat} (h : i < xs.length) {γ : Type} (f : List CV → Option γ) :
    (if 0 ≤ (i : Int) ∧ (i : Int) < ((encI xs).length : Int) then ((encI xs)[(i : Int).toNat]?).bind f else none) = f [CV.int .i64 xs[i]] := by
  rw [if_pos ⟨by omega, by simp; omega⟩]
  simp [encI, h]

theorem asI_i (n : Int) : asI .i64 (.int .i64 n) = some n := by simp [asI]

theorem roomA_le (ps : List Pg) (a : Int) : 0 ≤ roomA ps a ∧ roomA ps a ≤ 64 := by
  cases h : firstC 29 a (allCs ps) with
  | none => rw [roomA_none h]; omega
  | some c =>
    have := all_mem (of29 h).1
    rw [roomA_some h]
    omega

def rsum (ps : List Pg) : List Int → Int
  | [] => 0
  | x :: xs => roomA ps x + rsum ps xs

abbrev path5 : List Bool := [false, true, false, true, true, true, true, true]
noncomputable abbrev body5 : Code := (codeAt (bodyOf Go.Proofs.Tryd.f5) (false :: path5)).getD .skip
def outs5 : Exit → List Nat := fun _ => [5, 0]

def loop5 : LoopSem := ⟨[4, 5, 6, 0], outs5, fun vs cs _ K => match vs, cs with
  | [.own 1 A, .int .i64 n, .int .i64 i, .sl 2 L], [] => (decI A).bind fun xs => (decP L).bind fun ps => bif decide (i = 0) && decide (0 ≤ n) && decide (n ≤ 1000000) && Nat.ble xs.length 8192 && Nat.ble ps.length 200 then
      K (.exit 0) [.int .i64 (n + rsum ps xs), .sl 2 L] [] else none
  | _, _ => none⟩

noncomputable def cx5 : Cx := cxP 45 (bodyOf Go.Proofs.Tryd.f5) ΓL (fun q => bif Nat.beq q 506 then some loop5 else none) (fun _ => false)

noncomputable def LB5 (A L : List (List CV)) (β : Type) (K : Exit → List CV → List (List CV) → Option β) (m : Nat) (n i : Int) : Option β :=
  loopB cx5 [4, 5, 6, 0] outs5 path5 body5 m [.own 1 A, .int .i64 n, .int .i64 i, .sl 2 L] [] K

set_option maxRecDepth 100000 in
theorem step5 (A L : List (List CV)) (β : Type) (K : Exit → List CV → List (List CV) → Option β) (m : Nat) (n i : Int) : LB5 A L β K (m + 1) n i =
    cond (decide (i < (A.length : Int))) (if 0 ≤ i ∧ i < (A.length : Int) then (A[i.toNat]?).bind fun e => (e[0]?).bind fun x => (asI .i64 x).bind fun a => (decP L).bind fun ps => bif Nat.ble ps.length 200 then
        LB5 A L β K m (IntKind.i64.wrap (n + roomA ps a)) (IntKind.i64.wrap (i + 1)) else none else none)
      (K (.exit 0) [.int .i64 n, .sl 2 L] []) := by kernel_rfl

theorem loop5_spec (xs : List Int) (ps : List Pg) (hx : xs.length ≤ 8192) (hp : Nat.ble ps.length 200 = true) (β : Type) (K : Exit → List CV → List (List CV) → Option β) : ∀ (m i : Nat) (n : Int), i + m = xs.length → 0 ≤ n ∧ n ≤ 1000000 + 64 * i →
    LB5 (encI xs) (ps.map encP) β K (m + 1) n i = K (.exit 0) [.int .i64 (n + rsum ps (xs.drop i)), .sl 2 (ps.map encP)] [] := by
  intro m
  induction m with
  | zero =>
    intro i n h _
    rw [step5, encI_len, decide_eq_false (by omega), cond_false, List.drop_eq_nil_of_le (by omega)]
    simp [rsum]
  | succ m ih =>
    intro i n h hn
    have hi : i < xs.length := by omega
    have hd : xs.drop i = xs[i] :: xs.drop (i + 1) := List.drop_eq_getElem_cons hi
    have hr := roomA_le ps xs[i]
    rw [step5, decide_eq_true (show (i : Int) < ((encI xs).length : Int) by simp; omega), cond_true, own_get hi, List.getElem?_cons_zero, Option.bind_some, asI_i, Option.bind_some, decP_map, Option.bind_some, hp, cond_true]
    rw [IntWalk.i64_in (n + roomA ps xs[i]) (by omega), IntWalk.i64_in ((i : Int) + 1) (by omega), show (i : Int) + 1 = ((i + 1 : Nat) : Int) by omega,
      ih (i + 1) (n + roomA ps xs[i]) (by omega) (by omega), hd, rsum, Int.add_assoc]

theorem loop5_nat : NatL loop5 := fun vs cs => by
  unfold loop5
  dsimp only
  split
  · exact .bind _ fun _ => .bind _ fun _ => .cond _ (.ret _ _ _) .none
  · exact .none

theorem loops5 : LoopsS cx5 := .of fun k L h => by
  obtain ⟨hk, rfl⟩ := cond_some2 h
  refine ⟨path5, beq_true hk, fun vs cs β K r hr => ?_⟩
  unfold loop5 at hr
  dsimp only at hr
  split at hr
  · rename_i A n i L
    replace hr := bind_some' hr
    obtain ⟨xs, hxs, hr⟩ := hr
    replace hr := bind_some' hr
    obtain ⟨ps, hps, hr⟩ := hr
    replace hr := cond_some hr
    obtain ⟨hb, hr⟩ := hr
    simp only [Bool.and_eq_true, decide_eq_true_eq] at hb
    obtain ⟨⟨⟨⟨rfl, h1⟩, h2⟩, h3⟩, h4⟩ := hb
    have h3 := Nat.le_of_ble_eq_true h3
    obtain rfl := decI_enc hxs
    obtain rfl := decP_enc hps
    refine ⟨xs.length + 1, ?_⟩
    have := loop5_spec xs ps h3 h4 β K xs.length 0 n (by omega) (by omega)
    rw [List.drop_zero] at this
    exact this.trans hr
  · cases hr

/-! ### CellsOn -/

abbrev path6 : List Bool := [false, true, false, true, true, true, true, true]
noncomputable abbrev body6 : Code := (codeAt (bodyOf Go.Proofs.Tryd.f6) (false :: path6)).getD .skip
def outs6 : Exit → List Nat := fun e => match e with | .ret => [4] | _ => [0, 1, 6, 7]

/-- From cell to cell. -/
def walkOn (ps : List Pg) : List Int → Int → Option Int
  | [], t => some t
  | x :: xs, t => cond (x != t) none (walkOn ps xs (t + roomA ps t))

def loop6 : LoopSem := ⟨[6, 7, 8, 0, 1], outs6, fun vs cs _ K => match vs, cs with
  | [.own 1 A, .int .i64 t, .int .i64 i, .sl 2 L, .int .i64 p], [] => (decI A).bind fun xs => (decP L).bind fun ps => bif decide (i = 0) && decide (0 ≤ t) && decide (t ≤ 1000000) && Nat.ble xs.length 8192 && Nat.ble ps.length 200 then
      optE (walkOn ps xs t) (K .ret [.bool false] []) fun t' => K (.exit 0) [.sl 2 L, .int .i64 p, .own 1 A, .int .i64 t'] [] else none
  | _, _ => none⟩

noncomputable def cx6 : Cx := cxP 83 (bodyOf Go.Proofs.Tryd.f6) ΓL (fun q => bif Nat.beq q 506 then some loop6 else none) (fun _ => false)

noncomputable def LB6 (A L : List (List CV)) (p : Int) (β : Type) (K : Exit → List CV → List (List CV) → Option β) (m : Nat) (t i : Int) : Option β :=
  loopB cx6 [6, 7, 8, 0, 1] outs6 path6 body6 m [.own 1 A, .int .i64 t, .int .i64 i, .sl 2 L, .int .i64 p] [] K

set_option maxRecDepth 100000 in
theorem step6 (A L : List (List CV)) (p : Int) (β : Type) (K : Exit → List CV → List (List CV) → Option β) (m : Nat) (t i : Int) : LB6 A L p β K (m + 1) t i =
    cond (decide (i < (A.length : Int))) (if 0 ≤ i ∧ i < (A.length : Int) then (A[i.toNat]?).bind fun e => (e[0]?).bind fun x => (asI .i64 x).bind fun a => cond (a != t) (K .ret [.bool false] []) ((decP L).bind fun ps => bif Nat.ble ps.length 200 then
        LB6 A L p β K m (IntKind.i64.wrap (t + roomA ps t)) (IntKind.i64.wrap (i + 1)) else none) else none)
      (K (.exit 0) [.sl 2 L, .int .i64 p, .own 1 A, .int .i64 t] []) := by kernel_rfl

theorem loop6_spec (xs : List Int) (ps : List Pg) (p : Int) (hx : xs.length ≤ 8192) (hp : Nat.ble ps.length 200 = true) (β : Type) (K : Exit → List CV → List (List CV) → Option β) : ∀ (m i : Nat) (t : Int), i + m = xs.length → 0 ≤ t ∧ t ≤ 1000000 + 64 * i →
    LB6 (encI xs) (ps.map encP) p β K (m + 1) t i = optE (walkOn ps (xs.drop i) t) (K .ret [.bool false] []) fun t' => K (.exit 0) [.sl 2 (ps.map encP), .int .i64 p, .own 1 (encI xs), .int .i64 t'] [] := by
  intro m
  induction m with
  | zero =>
    intro i t h _
    rw [step6, encI_len, decide_eq_false (by omega), cond_false, List.drop_eq_nil_of_le (by omega)]
    rfl
  | succ m ih =>
    intro i t h hn
    have hi : i < xs.length := by omega
    have hd : xs.drop i = xs[i] :: xs.drop (i + 1) := List.drop_eq_getElem_cons hi
    have hr := roomA_le ps t
    rw [step6, decide_eq_true (show (i : Int) < ((encI xs).length : Int) by simp; omega), cond_true, own_get hi, hd, walkOn, List.getElem?_cons_zero, Option.bind_some, asI_i, Option.bind_some]
    cases hq : xs[i] != t with
    | true => rfl
    | false =>
      rw [cond_false, cond_false, decP_map, Option.bind_some, hp, cond_true, IntWalk.i64_in (t + roomA ps t) (by omega), IntWalk.i64_in ((i : Int) + 1) (by omega), show (i : Int) + 1 = ((i + 1 : Nat) : Int) by omega,
        ih (i + 1) (t + roomA ps t) (by omega) (by omega)]

theorem Nat3.optE' {α A B C : Type} {o : Option α} {F : (β : Type) → (A → B → C → Option β) → Option β} {G : α → (β : Type) → (A → B → C → Option β) → Option β} (hF : Nat3 F) (hG : ∀ a, Nat3 (G a)) : Nat3 (fun β K => Ab.optE o (F β K) fun a => G a β K) := Nat3.optE hF hG

theorem loop6_nat : NatL loop6 := fun vs cs => by
  unfold loop6
  dsimp only
  split
  · exact .bind _ fun _ => .bind _ fun _ => .cond _ (.optE (.ret _ _ _) fun _ => .ret _ _ _) .none
  · exact .none

theorem loops6 : LoopsS cx6 := .of fun k L h => by
  obtain ⟨hk, rfl⟩ := cond_some2 h
  refine ⟨path6, beq_true hk, fun vs cs β K r hr => ?_⟩
  unfold loop6 at hr
  dsimp only at hr
  split at hr
  · rename_i A t i L p
    replace hr := bind_some' hr
    obtain ⟨xs, hxs, hr⟩ := hr
    replace hr := bind_some' hr
    obtain ⟨ps, hps, hr⟩ := hr
    replace hr := cond_some hr
    obtain ⟨hb, hr⟩ := hr
    simp only [Bool.and_eq_true, decide_eq_true_eq] at hb
    obtain ⟨⟨⟨⟨rfl, h1⟩, h2⟩, h3⟩, h4⟩ := hb
    have h3 := Nat.le_of_ble_eq_true h3
    obtain rfl := decI_enc hxs
    obtain rfl := decP_enc hps
    refine ⟨xs.length + 1, ?_⟩
    have := loop6_spec xs ps p h3 h4 β K xs.length 0 t (by omega) (by omega)
    rw [List.drop_zero] at this
    exact this.trans hr
  · cases hr
end Go.Ab

namespace Go.Ab
open Go

set_option maxRecDepth 100000 in
theorem step5f (L : List (List CV)) (β : Type) (K : CV → List (List CV) → Option β) : fnK cx5 Go.Proofs.Tryd.f5 [.sl 2 L] [] K =
  cond (decide ((L.length : Int) > 64)) (K (.bool true) []) ((decP L).bind fun ps => bif Nat.ble ps.length SMALL then cond (!may ps) (K (.bool true) [])
    ((decP L).bind fun ps => bif Nat.ble ps.length 200 then (decP L).bind fun ps_1 => bif Nat.ble ps_1.length SMALL then (decI (atV (allCs ps))).bind fun xs => (decP L).bind fun ps =>
      bif decide ((0 : Int) = 0) && decide (0 ≤ IntKind.i64.wrap (16 * (cnt ps_1 0 : Int))) && decide (IntKind.i64.wrap (16 * (cnt ps_1 0 : Int)) ≤ 1000000) && Nat.ble xs.length 8192 && Nat.ble ps.length 200 then
        K (.bool (IntKind.i64.wrap (16 * (cnt ps_1 0 : Int)) + rsum ps xs == IntKind.i64.wrap (16 * (L.length : Int)))) [] else none else none else none) else none) := by kernel_rfl

set_option maxRecDepth 100000 in
theorem step6f (L : List (List CV)) (p : Int) (β : Type) (K : CV → List (List CV) → Option β) : fnK cx6 Go.Proofs.Tryd.f6 [.sl 2 L, .int .i64 p] [] K =
  cond (decide ((L.length : Int) > 64)) (K (.bool true) []) ((decP L).bind fun ps => bif Nat.ble ps.length SMALL then cond (!may ps) (K (.bool true) []) (cond (decide (p < 0)) (K (.bool true) []) (cond (decide (p ≥ (L.length : Int))) (K (.bool true) [])
    ((decP L).bind fun ps => bif Nat.ble ps.length 200 then (decI (atV (onL ps p))).bind fun xs => (decP L).bind fun ps_1 =>
      bif decide ((0 : Int) = 0) && decide (0 ≤ IntKind.i64.wrap (16 + IntKind.i64.wrap (16 * p))) && decide (IntKind.i64.wrap (16 + IntKind.i64.wrap (16 * p)) ≤ 1000000) && Nat.ble xs.length 8192 && Nat.ble ps_1.length 200 then
        optE (walkOn ps_1 xs (IntKind.i64.wrap (16 + IntKind.i64.wrap (16 * p)))) (K (.bool false) []) fun t' =>
          (rdE L p).bind fun c => (c[0]?).bind fun x => (asI .i64 x).bind fun n => cond (n == 0) (K (.bool (((atV (onL ps p)).length : Int) == 0)) [])
            ((rdE L p).bind fun c => (c[0]?).bind fun x => (asI .i64 x).bind fun n => cond (n == 3) (K (.bool (((atV (onL ps p)).length : Int) == 0)) [])
              (cond (decide (t' ≥ IntKind.i64.wrap (32 + IntKind.i64.wrap (16 * p)))) (K (.bool (decide (((atV (onL ps p)).length : Int) ≥ 1))) []) (K (.bool false) [])))
        else none else none))) else none) := by kernel_rfl

/-! ### Rooms -/

def rooms (cs : List Cell) : Int := (cs.map (·.2)).foldr (· + ·) 0

theorem rooms_append (cs ds : List Cell) : rooms (cs ++ ds) = rooms cs + rooms ds := by
  induction cs with
  | nil => simp [rooms]
  | cons c cs ih =>
    simp only [rooms, List.cons_append, List.map_cons, List.foldr_cons] at ih ⊢
    omega

theorem rooms_row (a w : Int) : ∀ (n i : Nat), rooms (cellRow a w i n) = (n : Int) * w
  | 0, _ => by simp [rooms, cellRow]
  | n + 1, i => by
    have := rooms_row a w n (i + 1)
    simp only [rooms, cellRow, List.map_cons, List.foldr_cons] at this ⊢
    rw [this, show ((n + 1 : Nat) : Int) = (n : Int) + 1 by omega, Int.add_mul]
    omega

theorem cnt_cons (q : Pg) (ps : List Pg) (k : Int) : (cnt (q :: ps) k : Int) = (if q.1 == k then 1 else 0) + (cnt ps k : Int) := by
  simp only [cnt, List.filter_cons]
  split <;> simp <;> omega

theorem rooms_all : ∀ (ps : List Pg) (i r : Nat), mayGo r ps = some 0 → rooms (allFrom i ps) + 16 * (cnt ps 0 : Int) + 16 * r = 16 * (ps.length : Int)
  | [], _, r, h => by
    simp only [mayGo, Option.some.injEq] at h
    simp [rooms, allFrom, cnt]
    omega
  | q :: ps, i, r, h => by
    simp only [allFrom, rooms_append, cnt_cons, List.length_cons]
    rcases mayGo_cons h with ⟨h3, k, rfl, h'⟩ | ⟨rfl, rfl, h'⟩ | ⟨rfl, h1, hb, h'⟩ | ⟨rfl, h2, hb, h'⟩
    · have := rooms_all ps (i + 1) k h'
      rw [cellsP_rest (.inl h3), h3]
      simp [rooms] at this ⊢
      omega
    · have := rooms_all ps (i + 1) 0 h'
      rw [cellsP_rest (.inr rfl)]
      simp [rooms] at this ⊢
      omega
    · have := rooms_all ps (i + 1) 0 h'
      obtain ⟨_, _, hf, _⟩ := small_full hb
      rw [cellsP_small h1, rooms_row, hf, h1]
      simp at this ⊢
      omega
    · have := rooms_all ps (i + 1) (q.2 - 1).toNat h'
      have e : rooms [(16 * ((i : Int) + 1), 16 * q.2)] = 16 * q.2 := by simp [rooms]
      rw [cellsP_large h2 hb, e, h2]
      simp at this ⊢
      omega

theorem rsum_cells (ps : List Pg) : ∀ (cs : List Cell), (∀ c ∈ cs, c ∈ allCs ps) → rsum ps (cs.map (·.1)) = rooms cs
  | [], _ => rfl
  | c :: cs, h => by
    have := rsum_cells ps cs fun d hd => h d (by simp [hd])
    simp only [List.map_cons, rsum, rooms, List.foldr_cons] at this ⊢
    rw [room_mem (h c (by simp)), this]

theorem all_len (ps : List Pg) : (allCs ps).length ≤ 8 * ps.length := by
  unfold allCs
  cases may ps with
  | false => simp
  | true => exact allFrom_len ps 0

theorem cnt_le (ps : List Pg) (k : Int) : cnt ps k ≤ ps.length := List.length_filter_le _ _

theorem law5 (ps : List Pg) (β : Type) (K : CV → List (List CV) → Option β) : (fnC cx5 Go.Proofs.Tryd.f5).run [.sl 2 (ps.map encP)] [] β K = K (.bool true) [] := by
  rw [fnC_run, step5f]
  simp only [List.length_map, decP_map, Option.bind_some]
  by_cases hl : (ps.length : Int) > 64
  · rw [decide_eq_true hl]; rfl
  · have h200 : Nat.ble ps.length 200 = true := Nat.ble_eq_true_of_le (by omega)
    rw [decide_eq_false hl, cond_false, smOf h200, cond_true]
    cases hm : may ps with
    | false => rfl
    | true =>
      obtain ⟨h1, _⟩ := may_go hm
      have hc := cnt_le ps 0
      have hn := all_len ps
      have hr := rooms_all ps 0 0 h1
      have e1 : allCs ps = allFrom 0 ps := by unfold allCs; rw [hm]; rfl
      rw [atV_enc, decI_map, h200, IntWalk.i64_in (16 * (cnt ps 0 : Int)) (by omega), IntWalk.i64_in (16 * (ps.length : Int)) (by omega)]
      simp only [Bool.not_true, cond_false, cond_true, Option.bind_some]
      rw [rsum_cells ps _ (fun c hc => hc), e1]
      have g1 : decide (0 ≤ 16 * (cnt ps 0 : Int)) = true := decide_eq_true (by omega)
      have g2 : decide (16 * (cnt ps 0 : Int) ≤ 1000000) = true := decide_eq_true (by omega)
      have g3 : Nat.ble ((allFrom 0 ps).map (·.1)).length 8192 = true := Nat.ble_eq_true_of_le (by rw [List.length_map, ← e1]; omega)
      have g4 : (16 * (cnt ps 0 : Int) + rooms (allFrom 0 ps) == 16 * (ps.length : Int)) = true := by simp at hr ⊢; omega
      rw [g1, g2, g3, g4]
      rfl

/-! ### On -/

theorem rdE_pg {ps : List Pg} {i : Nat} (h : i < ps.length) : rdE (ps.map encP) (i : Int) = some (encP ps[i]) := by simp [rdE, h]

theorem may_at {r : Nat} {ps : List Pg} {e : Int} (h : mayGo r ps = some e) : ∀ q ∈ ps, q.1 = 3 ∨ q.1 = 0 ∨ (q.1 = 1 ∧ 0 ≤ q.2 ∧ q.2 ≤ 2) ∨ (q.1 = 2 ∧ 1 ≤ q.2 ∧ q.2 ≤ 4) := by
  induction ps generalizing r with
  | nil => intro q hq; cases hq
  | cons p ps ih =>
    intro q hq
    rcases mayGo_cons h with ⟨h3, k, _, h'⟩ | ⟨_, rfl, h'⟩ | ⟨_, h1, hb, h'⟩ | ⟨_, h2, hb, h'⟩ <;> rcases List.mem_cons.1 hq with rfl | hq
    · exact .inl h3
    · exact ih h' q hq
    · exact .inr (.inl rfl)
    · exact ih h' q hq
    · exact .inr (.inr (.inl ⟨h1, hb⟩))
    · exact ih h' q hq
    · exact .inr (.inr (.inr ⟨h2, hb⟩))
    · exact ih h' q hq

theorem cellsP_sub : ∀ (ps : List Pg) (i p : Nat) (h : p < ps.length), ∀ c ∈ cellsP ((i + p : Nat) : Int) ps[p], c ∈ allFrom i ps
  | [], _, p, h, _, _ => by simp at h
  | q :: ps, i, 0, _, c, hc => by simp only [allFrom, List.mem_append]; exact .inl hc
  | q :: ps, i, p + 1, h, c, hc => by
    simp only [allFrom, List.mem_append]
    refine .inr (cellsP_sub ps (i + 1) p (by simpa using h) c ?_)
    rw [show i + 1 + p = i + (p + 1) by omega]
    exact hc

theorem onL_eq {ps : List Pg} (hm : may ps = true) {p : Nat} (h : p < ps.length) : onL ps p = cellsP p ps[p] := by
  unfold onL
  rw [decide_eq_false (by omega), cond_false, decide_eq_false (by omega), cond_false, hm, cond_true]
  simp [h]

theorem on_sub {ps : List Pg} (hm : may ps = true) {p : Nat} (h : p < ps.length) : ∀ c ∈ cellsP p ps[p], c ∈ allCs ps := fun c hc => by
  unfold allCs
  rw [hm, cond_true]
  exact cellsP_sub ps 0 p h c (by rw [Nat.zero_add]; exact hc)

theorem walk_row {ps : List Pg} (a w : Int) : ∀ (n i : Nat), (∀ c ∈ cellRow a w i n, c ∈ allCs ps) → walkOn ps ((cellRow a w i n).map (·.1)) (a + (i : Int) * w) = some (a + ((i + n : Nat) : Int) * w)
  | 0, i, _ => rfl
  | n + 1, i, h => by
    have hr : roomA ps (a + (i : Int) * w) = w := room_mem (h (a + (i : Int) * w, w) (by simp [cellRow]))
    simp only [cellRow, List.map_cons, walkOn, bne_self_eq_false, cond_false, hr]
    have := walk_row (ps := ps) a w n (i + 1) fun c hc => h c (by simp [cellRow, hc])
    rw [show a + (i : Int) * w + w = a + ((i + 1 : Nat) : Int) * w by rw [Int.natCast_add, Int.add_mul]; simp; omega, this, show i + (n + 1) = i + 1 + n by omega]

theorem law6 (ps : List Pg) (p : Int) (_hp : rg p) (β : Type) (K : CV → List (List CV) → Option β) : (fnC cx6 Go.Proofs.Tryd.f6).run [.sl 2 (ps.map encP), .int .i64 p] [] β K = K (.bool true) [] := by
  rw [fnC_run, step6f]
  simp only [List.length_map, decP_map, Option.bind_some]
  by_cases hl : (ps.length : Int) > 64
  · rw [decide_eq_true hl]; rfl
  · have h200 : Nat.ble ps.length 200 = true := Nat.ble_eq_true_of_le (by omega)
    rw [decide_eq_false hl, cond_false, smOf h200, cond_true]
    cases hm : may ps with
    | false => rfl
    | true =>
      by_cases h0 : p < 0
      · rw [decide_eq_true h0]; rfl
      · by_cases h1 : p ≥ (ps.length : Int)
        · rw [decide_eq_false h0, decide_eq_true h1]; rfl
        · rw [decide_eq_false h0, decide_eq_false h1]
          obtain ⟨m, rfl⟩ : ∃ m : Nat, p = m := ⟨p.toNat, by omega⟩
          have hlt : m < ps.length := by omega
          rw [IntWalk.i64_in (16 * (m : Int)) (by omega), IntWalk.i64_in (16 + 16 * (m : Int)) (by omega), IntWalk.i64_in (32 + 16 * (m : Int)) (by omega), atV_enc, decI_map, h200, rdE_pg hlt, onL_eq hm hlt]
          simp only [Bool.not_true, cond_false, cond_true, Option.bind_some]
          have hlen := cellsP_len (m : Int) ps[m]
          have hsub := on_sub hm hlt
          have hk := may_at (may_go hm).1 ps[m] (List.getElem_mem hlt)
          have g1 : decide (0 ≤ 16 + 16 * (m : Int)) = true := decide_eq_true (by omega)
          have g2 : decide (16 + 16 * (m : Int) ≤ 1000000) = true := decide_eq_true (by omega)
          have g3 : Nat.ble ((cellsP (m : Int) ps[m]).map (·.1)).length 8192 = true := Nat.ble_eq_true_of_le (by rw [List.length_map]; omega)
          rw [g1, g2, g3]
          generalize hq : ps[m] = q at *
          obtain ⟨k, b⟩ := q
          simp only [encP, List.getElem?_cons_zero, asI_i, Option.bind_some]
          dsimp only at hk
          have e16 : 16 + 16 * (m : Int) = 16 * ((m : Int) + 1) := by omega
          rcases hk with rfl | rfl | ⟨rfl, hb⟩ | ⟨rfl, hb⟩
          · rw [cellsP_rest (.inl rfl)]; rfl
          · rw [cellsP_rest (.inr rfl)]; rfl
          · obtain ⟨_, _, hf, _, hn1⟩ := small_full hb
            rw [cellsP_small rfl] at hsub ⊢
            dsimp only at hsub ⊢
            have hw := walk_row (ps := ps) (16 * ((m : Int) + 1)) (wordsOf b) (cellsN b).toNat 0 hsub
            rw [Nat.zero_add, hf] at hw
            simp only [Int.natCast_zero, Int.zero_mul, Int.add_zero] at hw
            rw [e16, hw]
            have g5 : decide (16 * ((m : Int) + 1) + 16 ≥ 32 + 16 * (m : Int)) = true := decide_eq_true (by omega)
            have g6 : decide (((encI ((cellRow (16 * ((m : Int) + 1)) (wordsOf b) 0 (cellsN b).toNat).map (·.1))).length : Int) ≥ 1) = true := decide_eq_true (by rw [encI_len, List.length_map, cellRow_len]; omega)
            simp only [decide_true, Bool.and_self, cond_true, optE]
            rw [g5, g6]
            rfl
          · rw [cellsP_large rfl hb] at hsub ⊢
            dsimp only at hsub ⊢
            have hr : roomA ps (16 * ((m : Int) + 1)) = 16 * b := room_mem (hsub (16 * ((m : Int) + 1), 16 * b) (by simp))
            simp only [List.map_cons, List.map_nil, walkOn, e16, bne_self_eq_false, cond_false, hr]
            have g5 : decide (16 * ((m : Int) + 1) + 16 * b ≥ 32 + 16 * (m : Int)) = true := decide_eq_true (by omega)
            simp only [decide_true, Bool.and_self, cond_true, optE]
            rw [g5]
            rfl
end Go.Ab
